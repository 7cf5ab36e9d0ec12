/- Plain: addresses of one page come to one leaf, and lie as far apart as they are. -/
import Derived.Test.YthjhcdkbajbpdaaWalkSuperPlain
import Derived.Test.YthjhcdkbajbpdaaWalkEnds
namespace Go.Proofs.Ythjhcdkbajbpdaa
open Go.RowKit
set_option linter.unusedVariables false
set_option linter.unusedSimpArgs false
namespace Wd
def nearW (va other : BitVec 64) (N : Int) : BitVec 64 := orL (clrL va N) ((andL other N).toNat : Int)
theorem near_get (va other : BitVec 64) (n : Nat) (N : Int) (hN : N = ((2 ^ n - 1 : Nat) : Int)) (i : Nat) (hi : i < 64) : (nearW va other N).getLsbD i = if i < n then other.getLsbD i else va.getLsbD i := by
  unfold nearW
  rw [get_or, of64, get_high _ _ _ hN i hi, get_low _ _ _ hN i hi]
  by_cases c : i < n <;> simp [c]
theorem near_field (va other : BitVec 64) (n : Nat) (N : Int) (hN : N = ((2 ^ n - 1 : Nat) : Int)) (l : Nat) (hl : n ≤ 9 * l + 12) (h2 : l ≤ 2) : field (nearW va other N) (9 * (l : Int) + 20) (9 * (l : Int) + 12) = field va (9 * (l : Int) + 20) (9 * (l : Int) + 12) := by
  unfold field
  rw [if_pos ((may_iff _ _).2 (by omega)), if_pos ((may_iff _ _).2 (by omega)), show (9 * (l : Int) + 12).toNat = 9 * l + 12 from by omega, show (9 * (l : Int) + 20 - (9 * (l : Int) + 12) + 1).toNat = 9 from by omega]
  apply BitVec.eq_of_getLsbD_eq
  intro i hi
  rw [fld_get, fld_get]
  by_cases c : i < 9
  · rw [near_get _ _ n N hN _ (by omega), if_neg (by omega)]
  · simp [c]
theorem near_at (t va other : BitVec 64) (n : Nat) (N : Int) (hN : N = ((2 ^ n - 1 : Nat) : Int)) (l : Nat) (hl : n ≤ 9 * l + 12) (h2 : l ≤ 2) : atW t (nearW va other N) l = atW t va l := by
  unfold atW
  rw [near_field va other n N hN l hl h2]
theorem near_sext (va other : BitVec 64) (n : Nat) (N : Int) (hN : N = ((2 ^ n - 1 : Nat) : Int)) (hn : n ≤ 38) (h : sext va 39 = va) : sext (nearW va other N) 39 = nearW va other N := by
  have hv : ∀ i, i < 64 → va.getLsbD i = if i < 39 then va.getLsbD i else va.getLsbD 38 := fun i hi => by
    have h' := congrArg (fun x => x.getLsbD i) h
    unfold sext at h'
    rw [if_neg (by omega), if_neg (by omega), show ((39 : Int)).toNat = 39 from rfl] at h'
    rw [sextN_get _ _ _ (by omega) (by omega) hi] at h'
    by_cases c : i < 39
    · rw [if_pos c]
    · rw [if_neg c] at h' ⊢
      exact h'.symm
  apply BitVec.eq_of_getLsbD_eq
  intro i hi
  unfold sext
  rw [if_neg (by omega), if_neg (by omega), show ((39 : Int)).toNat = 39 from rfl, sextN_get _ _ _ (by omega) (by omega) hi]
  by_cases c : i < 39
  · rw [if_pos c]
  · rw [if_neg c, near_get _ _ n N hN _ (by omega), near_get _ _ n N hN _ hi, if_neg (by omega), if_neg (by omega), hv i hi, if_neg c]
/-- The same way from a level down to the leaf. -/
theorem go_near (L : Look) (va near : BitVec 64) (l' : Nat) (e : BitVec 64) (h2 : ∀ t k, l' ≤ k → k ≤ 2 → atW t near k = atW t va k) : ∀ (l : Nat), l ≤ 2 → ∀ (table : BitVec 64) (xs ys : List (BitVec 64)),
    goW L va l table xs = (some (l', e), 0, ys) → goW L near l table xs = (some (l', e), 0, ys)
  | l, hl2, table, xs, ys => fun hg => by
    have hl : l' ≤ l := by
      rcases go_ends L va l table xs with ⟨a, b, c, h3, h4, _⟩ | ⟨c, d, h3, _⟩
      · rw [h3] at hg
        simp only [Prod.mk.injEq, Option.some.injEq] at hg
        omega
      · rw [h3] at hg
        simp at hg
    have ha := h2 table l hl hl2
    by_cases h : (L (atW table va l)).2 = false
    · rw [go_hole L va table l xs h] at hg
      simp at hg
    · have h1 : (L (atW table va l)).2 = true := by simpa using h
      by_cases hb : badE (L (atW table va l)).1 l = true
      · rw [go_bad L va table l xs h1 hb] at hg
        simp at hg
      · have hb1 : badE (L (atW table va l)).1 l = false := by simpa using hb
        by_cases hlf : leafW (L (atW table va l)).1 = true
        · rw [go_leaf L va table l xs h1 hb1 hlf] at hg
          rw [go_leaf L near table l xs (by rw [ha]; exact h1) (by rw [ha]; exact hb1) (by rw [ha]; exact hlf), ha]
          exact hg
        · have hl1 : leafW (L (atW table va l)).1 = false := by simpa using hlf
          match l, hl2, ha, h1, hb1, hl1, hg with
          | 0, _, ha, h1, hb1, hl1, hg => exact absurd (leaf_0 _ hb1) (by rw [hl1]; simp)
          | l + 1, hl2, ha, h1, hb1, hl1, hg =>
            rw [go_down L va table l xs h1 hb1 hl1] at hg
            rw [go_down L near table l xs (by rw [ha]; exact h1) (by rw [ha]; exact hb1) (by rw [ha]; exact hl1), ha]
            exact go_near L va near l' e h2 l (by omega) _ _ _ hg
theorem walk_near (satp va other : BitVec 64) (L : Look) (l : Nat) (e : BitVec 64) (xs : List (BitVec 64)) (hl : l ≤ 2) (N : Int) (hN : N = ((2 ^ (12 + 9 * l) - 1 : Nat) : Int)) (h : walkR satp va L = (some (l, e), 0, xs)) : walkR satp (nearW va other N) L = (some (l, e), 0, xs) := by
  unfold walkR at h ⊢
  by_cases hs : sext va 39 = va
  · rw [if_pos hs] at h
    rw [if_pos (near_sext va other _ N hN (by omega) hs)]
    exact go_near L va _ l e (fun t k h1 h2 => near_at t va other _ N hN k (by omega) h2) 2 (Nat.le_refl _) _ _ _ h
  · rw [if_neg hs] at h
    simp at h
theorem addr_high (e va : BitVec 64) (n : Nat) (N : Int) (hN : N = ((2 ^ n - 1 : Nat) : Int)) (hn : n ≤ 30) : ∃ H : BitVec 64, (∀ i, i < n → H.getLsbD i = false) ∧ ∀ x, addrW e x n = H + andL x N := by
  refine ⟨zext (shlW (shrW (shlW (field e 53 10) 12) n) n) 56, fun i hi => ?_, fun x => ?_⟩
  · unfold zext
    rw [show ((56 : Int)).toNat = 56 from rfl, zextN_get]
    unfold shlW
    rw [BitVec.getLsbD_shiftLeft, decide_eq_true hi]
    simp
  · have e1 : addrW e x n = zext (shlW (shrW (shlW (field e 53 10) 12) n) n) 56 ||| andL x N := by
      apply BitVec.eq_of_getLsbD_eq
      intro i hi
      unfold addrW
      rw [BitVec.getLsbD_or, get_low _ _ _ hN i hi]
      unfold zext
      rw [show ((56 : Int)).toNat = 56 from rfl, zextN_get, get_or, of64, zextN_get, zextN_get, show ((n : Int)).toNat = n from by omega]
      by_cases c : i < n
      · simp [c, show i < 56 by omega]
      · simp [c]
    rw [e1]
    refine or_add _ _ fun i hi ha => ?_
    rw [get_low _ _ _ hN i hi]
    by_cases c : i < n
    · exfalso
      unfold zext at ha
      rw [show ((56 : Int)).toNat = 56 from rfl, zextN_get] at ha
      unfold shlW at ha
      rw [BitVec.getLsbD_shiftLeft, decide_eq_true c] at ha
      simp at ha
    · rw [decide_eq_false c, Bool.and_false]
theorem addr_apart (e va other : BitVec 64) (n : Nat) (N : Int) (hN : N = ((2 ^ n - 1 : Nat) : Int)) (hn : n ≤ 30) :
    subW (addrW e (nearW va other N) n) (addrW e va n) = subW (nearW va other N) va := by
  obtain ⟨H, _, hH⟩ := addr_high e va n N hN hn
  rw [hH, hH]
  have hlow : andL (nearW va other N) N = andL other N := by
    apply BitVec.eq_of_getLsbD_eq
    intro i hi
    rw [get_low _ _ _ hN i hi, near_get _ _ n N hN i hi, get_low _ _ _ hN i hi]
    by_cases c : i < n <;> simp [c]
  have hv : ∀ x : BitVec 64, orL (clrL va N) ((andL x N).toNat : Int) = clrL va N + andL x N := fun x => by
    unfold orL
    rw [of64]
    refine or_add _ _ fun i hi ha => ?_
    rw [get_high _ _ _ hN i hi] at ha
    rw [get_low _ _ _ hN i hi]
    by_cases c : i < n
    · simp [c] at ha
    · rw [decide_eq_false c, Bool.and_false]
  have hva : va = clrL va N + andL va N := by
    rw [← hv va]
    apply BitVec.eq_of_getLsbD_eq
    intro i hi
    rw [get_or, of64, get_high _ _ _ hN i hi, get_low _ _ _ hN i hi]
    by_cases c : i < n <;> simp [c]
  rw [hlow]
  unfold nearW subW
  rw [hv]
  generalize hA : clrL va N = A at hva ⊢
  generalize andL other N = B
  generalize hC : andL va N = C at hva ⊢
  rw [hva]
  apply BitVec.eq_of_toNat_eq
  simp only [BitVec.toNat_sub, BitVec.toNat_add]
  omega
end Wd
end Go.Proofs.Ythjhcdkbajbpdaa
