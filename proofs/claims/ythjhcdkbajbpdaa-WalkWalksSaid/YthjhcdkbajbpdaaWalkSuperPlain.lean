/- Plain lemmas on great pages: where a leaf above the lowest level leads. -/
import Derived.Test.YthjhcdkbajbpdaaWalkPlain
namespace Go.Proofs.Ythjhcdkbajbpdaa
open Go.RowKit
set_option linter.unusedVariables false
set_option linter.unusedSimpArgs false
namespace Wd
theorem of_ones (n : Nat) (N : Int) (hN : N = ((2 ^ n - 1 : Nat) : Int)) : BitVec.ofInt 64 N = ones n := by
  rw [hN, BitVec.ofInt_natCast]
  rfl
theorem get_low (v : BitVec 64) (n : Nat) (N : Int) (hN : N = ((2 ^ n - 1 : Nat) : Int)) (i : Nat) (hi : i < 64) : (andL v N).getLsbD i = (v.getLsbD i && decide (i < n)) := by
  rw [get_and, of_ones n N hN, ones_get, decide_eq_true hi, Bool.true_and]
theorem get_high (v : BitVec 64) (n : Nat) (N : Int) (hN : N = ((2 ^ n - 1 : Nat) : Int)) (i : Nat) (hi : i < 64) : (clrL v N).getLsbD i = (v.getLsbD i && !decide (i < n)) := by
  rw [get_clr _ _ _ hi, of_ones n N hN, ones_get, decide_eq_true hi, Bool.true_and]
theorem zext_nat (v : BitVec 64) (n : Nat) (hn : n ≤ 64) : (zext v (n : Int)).toNat = v.toNat % 2 ^ n := by
  unfold zext zextN
  rw [show ((n : Int)).toNat = n from by omega, BitVec.toNat_and, ones_toNat n hn, Nat.and_two_pow_sub_one_eq_mod]
theorem field_nat (v : BitVec 64) (hi lo : Nat) (h : lo ≤ hi) (h2 : hi < 64) : (field v (hi : Int) (lo : Int)).toNat = v.toNat / 2 ^ lo % 2 ^ (hi - lo + 1) := by
  unfold field
  rw [if_pos ((may_iff _ _).2 (by omega)), show ((lo : Int)).toNat = lo from by omega, show ((hi : Int) - (lo : Int) + 1).toNat = hi - lo + 1 from by omega, fld_toNat _ _ _ (by omega)]
theorem at_nat (t va : BitVec 64) (l : Nat) (ht : t.toNat ≤ 2) (hl : l ≤ 2) : (atW t va l).toNat = t.toNat * 4096 + 8 * (va.toNat / 2 ^ (9 * l + 12) % 512) := by
  have hf : (field va (9 * (l : Int) + 20) (9 * (l : Int) + 12)).toNat = va.toNat / 2 ^ (9 * l + 12) % 512 := by
    have := field_nat va (9 * l + 20) (9 * l + 12) (by omega) (by omega)
    rw [show 9 * l + 20 - (9 * l + 12) + 1 = 9 from by omega] at this
    rw [← this]
    congr 2
  have hm : (mul8 (field va (9 * (l : Int) + 20) (9 * (l : Int) + 12))).toNat = 8 * (va.toNat / 2 ^ (9 * l + 12) % 512) := by
    unfold mul8
    rw [BitVec.toNat_mul, hf, show (8#64 : BitVec 64).toNat = 8 from rfl]
    omega
  have hs : (shlW t 12).toNat = t.toNat * 4096 := by
    unfold shlW
    rw [BitVec.toNat_shiftLeft, Nat.shiftLeft_eq]
    omega
  unfold atW
  have hz := zext_nat (addW (shlW t 12) (mul8 (field va (9 * (l : Int) + 20) (9 * (l : Int) + 12)))) 56 (by omega)
  rw [show ((56 : Nat) : Int) = 56 from rfl] at hz
  rw [hz]
  unfold addW
  rw [BitVec.toNat_add, hs, hm]
  omega
/-- A leaf of a page number. -/
def leafS (q : BitVec 64) : BitVec 64 := orL (shlW q 10) 207
def short (q : BitVec 64) (n : Nat) : Prop := ∀ i, i < 64 → n ≤ i → q.getLsbD i = false
theorem short_and (v : BitVec 64) (n : Nat) (N : Int) (hN : N = ((2 ^ n - 1 : Nat) : Int)) : short (andL v N) n := fun i hi h => by
  rw [get_low v n N hN i hi, decide_eq_false (by omega), Bool.and_false]
theorem leafS_get (q : BitVec 64) (i : Nat) (hi : i < 64) : (leafS q).getLsbD i = ((!decide (i < 10) && q.getLsbD (i - 10)) || (BitVec.ofInt 64 207).getLsbD i) := by
  unfold leafS shlW
  rw [get_or, BitVec.getLsbD_shiftLeft, decide_eq_true hi, Bool.true_and]
theorem at_207 : ∀ i, i < 64 → 10 ≤ i → (BitVec.ofInt 64 207).getLsbD i = false := by decide +kernel
theorem leafS_field (q : BitVec 64) (h : short q 44) : field (leafS q) 53 10 = q := by
  apply BitVec.eq_of_getLsbD_eq
  intro i hi
  unfold field
  rw [if_pos ((may_iff _ _).2 (by omega)), show ((10 : Int)).toNat = 10 from rfl, show ((53 : Int) - 10 + 1).toNat = 44 from rfl, fld_get]
  by_cases c : i < 44
  · rw [decide_eq_true c, Bool.true_and, leafS_get q _ (by omega), decide_eq_false (by omega), at_207 _ (by omega) (by omega), show 10 + i - 10 = i from by omega]
    simp
  · rw [decide_eq_false c, Bool.false_and, h i hi (by omega)]
theorem leafS_may (q : BitVec 64) (h : short q 44) : mayW (leafS q) = true := by
  unfold mayW
  rw [andL_ne _ 0 (by omega) 1 (by decide), andL_eq _ 2 (by omega) 4 (by decide), andL_ne _ 1 (by omega) 2 (by decide), leafS_get _ 0 (by omega), leafS_get _ 1 (by omega),
    show (BitVec.ofInt 64 207).getLsbD 0 = true from by decide, show (BitVec.ofInt 64 207).getLsbD 1 = true from by decide]
  have e : (leafS q) >>> 54 = 0#64 := by
    apply BitVec.eq_of_getLsbD_eq
    intro i hi
    rw [BitVec.getLsbD_ushiftRight]
    by_cases c : 54 + i < 64
    · rw [leafS_get _ _ c, at_207 _ c (by omega), h (54 + i - 10) (by omega) (by omega)]
      simp
    · rw [BitVec.getLsbD_of_ge _ _ (by omega)]
      simp
  have e2 : ((leafS q).toNat : Int) / 18014398509481984 = 0 := by
    rw [show (18014398509481984 : Int) = 2 ^ 54 from by decide, shr64, e]
    rfl
  rw [e2]
  simp
theorem leafS_leaf (q : BitVec 64) : leafW (leafS q) = true := by
  unfold leafW
  have : andL (leafS q) 10 ≠ 0#64 := by
    intro hz
    have := congrArg (fun x => x.getLsbD 1) hz
    simp only [get_and, leafS_get q 1 (by omega), show (BitVec.ofInt 64 207).getLsbD 1 = true from by decide, show (BitVec.ofInt 64 10).getLsbD 1 = true from by decide] at this
    simp at this
  rw [bne_iff_ne]
  intro hc
  exact this (BitVec.eq_of_toNat_eq (by simpa using hc))
theorem leafS_bad (q : BitVec 64) (h : short q 44) (l : Nat) : badE (leafS q) l = (((zext q (9 * (l : Int))).toNat : Int) != 0) := by
  unfold badE
  rw [leafS_may q h, leafS_leaf, leafS_field q h]
  simp
theorem table_bad : badE 2049#64 2 = false := by decide +kernel
theorem table_leaf : leafW 2049#64 = false := by decide +kernel
theorem table_next : field 2049#64 53 10 = 2#64 := by decide +kernel
/-- What the law's reader answers. -/
def lookS (k : Int) (q : BitVec 64) (pa : BitVec 64) : BitVec 64 × Bool := (if k = 1 ∧ pa.toNat < 8192 then 2049#64 else leafS q, true)
theorem satpS : zext 9223372036854775809#64 44 = 1#64 := by decide +kernel
theorem sext_low (va : BitVec 64) : sext (andL va 274877906943) 39 = andL va 274877906943 := by
  apply BitVec.eq_of_getLsbD_eq
  intro i hi
  unfold sext
  rw [if_neg (by omega), if_neg (by omega), show ((39 : Int)).toNat = 39 from rfl, sextN_get _ _ _ (by omega) (by omega) hi]
  have hs := short_and va 38 274877906943 (by decide)
  by_cases c : i < 39
  · rw [if_pos c]
  · rw [if_neg c, hs (39 - 1) (by omega) (by omega), hs i hi (by omega)]
theorem walk_2 (va q : BitVec 64) (hq : short q 44) (hs : sext va 39 = va) :
    ∃ path, walkR 9223372036854775809#64 va (lookS 2 q) = if (((zext q 18).toNat : Int) != 0) = true then (none, 7, path) else (some (2, leafS q), 0, path) := by
  refine ⟨[] ++ [atW 1#64 va 2], ?_⟩
  have hw : walkR 9223372036854775809#64 va (lookS 2 q) = goW (lookS 2 q) va 2 1#64 [] := by
    unfold walkR
    rw [if_pos hs, satpS]
  have hL : lookS 2 q (atW 1#64 va 2) = (leafS q, true) := by unfold lookS; simp
  have hb := leafS_bad q hq 2
  rw [show (9 * ((2 : Nat) : Int)) = 18 from rfl] at hb
  rw [hw]
  cases hz : (((zext q 18).toNat : Int) != 0) with
  | true => rw [if_pos rfl]; exact go_bad _ _ _ _ _ (by rw [hL]) (by rw [hL, hb, hz])
  | false =>
    rw [if_neg (by simp), go_leaf _ _ _ _ _ (by rw [hL]) (by rw [hL, hb, hz]) (by rw [hL]; exact leafS_leaf q), hL]
theorem walk_1 (va q : BitVec 64) (hq : short q 44) (hs : sext va 39 = va) :
    ∃ path, walkR 9223372036854775809#64 va (lookS 1 q) = if (((zext q 9).toNat : Int) != 0) = true then (none, 7, path) else (some (1, leafS q), 0, path) := by
  refine ⟨([] ++ [atW 1#64 va 2]) ++ [atW 2#64 va 1], ?_⟩
  have hw : walkR 9223372036854775809#64 va (lookS 1 q) = goW (lookS 1 q) va 2 1#64 [] := by
    unfold walkR
    rw [if_pos hs, satpS]
  have hL2 : lookS 1 q (atW 1#64 va 2) = (2049#64, true) := by
    unfold lookS
    have := at_nat 1#64 va 2 (by decide) (by omega)
    rw [if_pos ⟨rfl, by rw [this, show (1#64 : BitVec 64).toNat = 1 from rfl]; omega⟩]
  have hL1 : lookS 1 q (atW 2#64 va 1) = (leafS q, true) := by
    unfold lookS
    have := at_nat 2#64 va 1 (by decide) (by omega)
    rw [if_neg (by rw [this, show (2#64 : BitVec 64).toNat = 2 from rfl]; omega)]
  have hb := leafS_bad q hq 1
  rw [show (9 * ((1 : Nat) : Int)) = 9 from rfl] at hb
  rw [hw, go_down _ _ _ 1 _ (by rw [hL2]) (by rw [hL2]; exact table_bad) (by rw [hL2]; exact table_leaf), hL2, table_next]
  cases hz : (((zext q 9).toNat : Int) != 0) with
  | true => rw [if_pos rfl]; exact go_bad _ _ _ _ _ (by rw [hL1]) (by rw [hL1, hb, hz])
  | false =>
    rw [if_neg (by simp), go_leaf _ _ _ _ _ (by rw [hL1]) (by rw [hL1, hb, hz]) (by rw [hL1]; exact leafS_leaf q), hL1]
/-- Where an aligned leaf leads. -/
theorem zext_zero (q : BitVec 64) (n : Nat) (hn : n ≤ 64) (h : (((zext q (n : Int)).toNat : Int) != 0) = false) : ∀ i, i < n → q.getLsbD i = false := by
  intro i hi
  have hz : zext q (n : Int) = 0#64 := BitVec.eq_of_toNat_eq (by simpa using h)
  have := congrArg (fun x => x.getLsbD i) hz
  unfold zext at this
  simp only [zextN_get, show ((n : Int)).toNat = n from by omega, decide_eq_true hi, Bool.true_and] at this
  simpa using this
theorem addr_leaf (q va : BitVec 64) (hq : short q 44) (m : Nat) (hm : m ≤ 18) (hz : ∀ i, i < m → q.getLsbD i = false) (N : Int) (hN : N = ((2 ^ (12 + m) - 1 : Nat) : Int)) : addrW (leafS q) va (12 + m) = orL (shlW q 12) ((andL va N).toNat : Int) := by
  apply BitVec.eq_of_getLsbD_eq
  intro i hi
  unfold addrW
  rw [leafS_field q hq, get_or, of64, get_low _ _ _ hN i hi]
  unfold zext
  rw [show ((56 : Int)).toNat = 56 from rfl, zextN_get, get_or, of64]
  have hz2 : (zextN va ((12 + m : Nat) : Int).toNat).getLsbD i = (decide (i < 12 + m) && va.getLsbD i) := by
    rw [show ((12 + m : Nat) : Int).toNat = 12 + m from by omega, zextN_get]
  rw [hz2]
  unfold shlW shrW
  rw [BitVec.getLsbD_shiftLeft, BitVec.getLsbD_shiftLeft, BitVec.getLsbD_ushiftRight, BitVec.getLsbD_shiftLeft, decide_eq_true hi]
  by_cases c : i < 12 + m
  · have h0 : (!decide (i < 12) && q.getLsbD (i - 12)) = false := by
      by_cases d : i < 12
      · simp [d]
      · rw [hz (i - 12) (by omega), Bool.and_false]
    rw [decide_eq_true c]
    simp only [Bool.not_true, Bool.false_and, Bool.false_or, Bool.true_and, Bool.and_true]
    rw [h0, decide_eq_true (show i < 56 by omega)]
    simp
  · rw [decide_eq_false c, show 12 + m + (i - (12 + m)) = i from by omega, decide_eq_true hi]
    by_cases d : i < 56
    · simp [d]
    · rw [hq (i - 12) (by omega) (by omega)]
      simp [d]
theorem or_add (a b : BitVec 64) (h : ∀ i, i < 64 → a.getLsbD i = true → b.getLsbD i = false) : a ||| b = a + b := by
  refine (BitVec.add_eq_or_of_and_eq_zero a b ?_).symm
  apply BitVec.eq_of_getLsbD_eq
  intro i hi
  rw [BitVec.getLsbD_and]
  cases ha : a.getLsbD i with
  | false => simp
  | true => rw [h i hi ha]; simp
theorem apart_same (q va other : BitVec 64) (m : Nat) (hz : ∀ i, i < m → q.getLsbD i = false) (N : Int) (hN : N = ((2 ^ (12 + m) - 1 : Nat) : Int)) :
    orL (shlW q 12) ((andL (orL (clrL va N) ((andL other N).toNat : Int)) N).toNat : Int) - orL (shlW q 12) ((andL va N).toNat : Int) = orL (clrL va N) ((andL other N).toNat : Int) - va := by
  have hlow : andL (orL (clrL va N) ((andL other N).toNat : Int)) N = andL other N := by
    apply BitVec.eq_of_getLsbD_eq
    intro i hi
    rw [get_low _ _ _ hN i hi, get_or, of64, get_high _ _ _ hN i hi, get_low _ _ _ hN i hi]
    by_cases c : i < 12 + m <;> simp [c]
  have hq : ∀ x : BitVec 64, orL (shlW q 12) ((andL x N).toNat : Int) = shlW q 12 + andL x N := fun x => by
    unfold orL
    rw [of64]
    refine or_add _ _ fun i hi ha => ?_
    rw [get_low _ _ _ hN i hi]
    by_cases c : i < 12 + m
    · unfold shlW at ha
      rw [BitVec.getLsbD_shiftLeft] at ha
      by_cases d : i < 12
      · simp [d] at ha
      · rw [hz (i - 12) (by omega)] at ha
        simp at ha
    · rw [decide_eq_false c, Bool.and_false]
  have hv : ∀ x : BitVec 64, orL (clrL va N) ((andL x N).toNat : Int) = clrL va N + andL x N := fun x => by
    unfold orL
    rw [of64]
    refine or_add _ _ fun i hi ha => ?_
    rw [get_high _ _ _ hN i hi] at ha
    rw [get_low _ _ _ hN i hi]
    by_cases c : i < 12 + m
    · simp [c] at ha
    · rw [decide_eq_false c, Bool.and_false]
  have hva : va = clrL va N + andL va N := by
    rw [← hv va]
    apply BitVec.eq_of_getLsbD_eq
    intro i hi
    rw [get_or, of64, get_high _ _ _ hN i hi, get_low _ _ _ hN i hi]
    by_cases c : i < 12 + m <;> simp [c]
  rw [hlow, hq, hq, hv]
  generalize hA : clrL va N = A at hva ⊢
  generalize andL other N = B
  generalize hC : andL va N = C at hva ⊢
  rw [hva]
  generalize shlW q 12 = D
  apply BitVec.eq_of_toNat_eq
  simp only [BitVec.toNat_sub, BitVec.toNat_add]
  omega
def subW (a b : BitVec 64) : BitVec 64 := a - b
theorem sub_L (a b : BitVec 64) : IntKind.u64.wrap ((a.toNat : Int) - (b.toNat : Int)) = ((subW a b).toNat : Int) := by
  rw [w64]
  congr 2
  apply BitVec.eq_of_toNat_eq
  unfold subW
  rw [BitVec.toNat_sub, BitVec.toNat_ofInt]
  have := a.isLt
  have := b.isLt
  omega
end Wd
end Go.Proofs.Ythjhcdkbajbpdaa
