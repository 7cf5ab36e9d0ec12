/- The law BitsBytes, walked: each call answers true. -/
import Derived.Test.YtnhbekgmameeaaaWords
import Derived.Test.YtnhbekgmameeaaaOwnKept
import Derived.Test.YtnhbekgmameeaaaCounts
import Derived.Test.YtnhbekgmameeaaaBits
namespace Go.Proofs.Ytnhbekgmameeaaa
open Go.RowKit Wd
set_option linter.unusedVariables false
set_option linter.unusedSimpArgs false
namespace Wd
def bs (v : BitVec 64) (m : Nat) : List Int := (List.range m).map (byteAt v)
theorem bs_get (v : BitVec 64) (m k : Nat) : (bs v m).getD k 0 = if k < m then byteAt v k else 0 := by
  unfold bs
  by_cases h : k < m
  · rw [if_pos h]; simp [List.getD, h]
  · rw [if_neg h]; simp [List.getD, h]
theorem byteAt_nat (v : BitVec 64) (k : Nat) : byteAt v k = ((v.toNat / 256 ^ k % 256 : Nat) : Int) := by
  unfold byteAt
  rw [BitVec.toNat_ushiftRight, Nat.shiftRight_eq_div_pow, pow256]
theorem bs_small (v : BitVec 64) (m : Nat) : Small (bs v m) := fun i => by
  rw [bs_get]
  split
  · rw [byteAt_nat]; omega
  · omega
theorem word_bs (v : BitVec 64) (m : Nat) : ∀ k, k ≤ m → wordN (bs v m) 0 k = v.toNat % 256 ^ k
  | 0, _ => by simp [wordN, Nat.mod_one]
  | k + 1, h => by
    rw [wordN_last, word_bs v m k (by omega), Nat.zero_add, Nat.mod_pow_succ]
    have e : xn (bs v m) k = v.toNat / 256 ^ k % 256 := by
      unfold xn
      rw [bs_get, if_pos (by omega), byteAt_nat, Int.toNat_natCast]
    rw [e, Nat.mul_comm]
theorem word_zext (v : BitVec 64) (m : Nat) (h : m ≤ 8) : ((zext v (8 * (m : Int))).toNat : Int) = ((wordN (bs v m) 0 m : Nat) : Int) := by
  rw [word_bs v m m (Nat.le_refl _), pow256]
  unfold zext zextN
  rw [BitVec.toNat_and, show (8 * (m : Int)).toNat = 8 * m by omega, ones_toNat _ (by omega), Nat.and_two_pow_sub_one_eq_mod]
end Wd
theorem awake_any : Qt Try.prog 14 #[] (.bool true) := by
  intro w
  have h1 : Qt Try.prog 50 #[.int .u64 43981, .int .i64 11, .int .i64 4] (.int .u64 188) := field_any 43981#64 11 4
  have h2 : Qt Try.prog 51 #[.int .u64 7] (.int .i64 3) := pones_any 7#64
  have H1 := Lib.hid h1
  have H2 := Lib.hid h2
  clear h1 h2
  go_enter Try.func14, Try.ntmps14
  go_wp2_with (first
    | (go_at_call 50; refine (H1.out _).mono ?_; rintro e w1 ⟨rfl, hq1⟩)
    | (go_at_call 51; refine (H2.out _).mono ?_; rintro e w2 ⟨rfl, hq2⟩))
  go_ret
  exact ⟨rfl, hq1.trans hq2⟩
theorem Octets.take {w : World} {b n : Nat} {xs : List Int} (ha : Octets w (some ⟨b, 0, none⟩) (n + 3) (xs ++ [71, 71, 71])) (hl : xs.length = n) : Octets w (some ⟨b, 0, none⟩) n xs :=
  ⟨hl, fun h0 => by
    obtain ⟨b', off, e, hlt, hc⟩ := ha.2 (by omega)
    refine ⟨b', off, e, hlt, fun i hi => ?_⟩
    rw [hc i (by omega), getD_l _ _ _ (by omega)]⟩
structure Sb (w0 w : World) (A X : Option Addr) (n m g : Nat) (xs ys : List Int) : Prop where
  a : Octets w A n xs
  i : Octets w (some ⟨g, 0, none⟩) (n + 3) (xs ++ [71, 71, 71])
  x : Octets w X m ys
  b : Below w0.heap.size w0 w
theorem Sb.step {w0 w w' : World} {A X : Option Addr} {n m g : Nat} {xs ys : List Int} (h : Sb w0 w A X n m g xs ys) (hb : Below w.heap.size w w') : Sb w0 w' A X n m g xs ys :=
  ⟨h.a.below hb, h.i.below hb, h.x.below hb, h.b.trans (hb.mono h.b.size)⟩
theorem bitsBytes_any (v : BitVec 64) (n : Int) (m : Nat) (hm : (m : Int) = min (max n 0) 8) (A : Option Addr) (len cap : Nat) (xs : List Int) (hA : A = none → len = 0 ∧ cap = 0) (hn : len ≤ 140737488351232) (hs : Small xs) (w : World) (ho : Octets w A len xs) :
    Calls Try.prog 3 #[.int .u64 (v.toNat : Int), .int .i64 n, .slice A len cap] w fun e w' => e = .returned (.bool true) ∧ Below w.heap.size w w' := by
  have hl : xs.length = len := ho.1
  have m8 : m ≤ 8 := by omega
  have HS := Lib.hid hs
  have HM := Lib.hid hm
  have c1 := own_any A len cap xs hA hn w ho
  have HO := Lib.hid ho
  clear ho hs hm
  go_enter Try.func3, Try.ntmps3
  go_wp2_with fail
  refine c1.mono ?_
  rintro e w1 ⟨rfl, oi, hb⟩
  have oa := HO.out.below hb
  have B1 := Lib.hid hb
  have OI := Lib.hid oi
  have OA := Lib.hid oa
  clear c1 hb oi oa HO
  go_wp2_with fail
  refine (pbytes_any v n m HM.out w1).mono ?_
  rintro e w2 ⟨sv, rfl, own2, hb2⟩
  rw [bytesOf_map] at own2
  obtain ⟨X, c, rfl, ox⟩ := octets_of_own own2
  have S := Lib.hid (Sb.mk (w0 := w) (OA.out.below hb2) (OI.out.below hb2) ox (B1.out.trans (hb2.mono B1.out.size)))
  clear own2 hb2 ox B1 OI OA
  go_wp2_with fail
  refine (awake_any _).mono ?_
  rintro e w3 ⟨rfl, hq⟩
  replace S := Lib.hid (S.out.step (hq.below _))
  clear hq
  go_wp2_with fail
  refine (rbytes_any v n m HM.out w3).mono ?_
  rintro e w4 ⟨sv, rfl, own4, hb4⟩
  rw [bytesOf_map] at own4
  obtain ⟨Y, d, rfl, oy⟩ := octets_of_own own4
  replace S := Lib.hid (S.out.step hb4)
  clear own4 hb4
  have cS := sameBytes_true X Y m m c d _ w4 S.out.x oy
  clear oy
  go_wp2_with fail
  refine cS.mono ?_
  rintro e w5 ⟨rfl, hq⟩
  replace S := Lib.hid (S.out.step (hq.below _))
  clear hq cS
  go_wp2_with fail
  refine (pword_any _ len (len + 3) (min len 8) xs rfl HS.out w5 (S.out.i.take hl)).mono ?_
  rintro e w6 ⟨rfl, hb⟩
  replace S := Lib.hid (S.out.step hb)
  clear hb
  go_wp2_with fail
  refine (rword_any A len cap (min len 8) xs rfl HS.out w6 S.out.a).mono ?_
  rintro e w7 ⟨rfl, hb⟩
  replace S := Lib.hid (S.out.step hb)
  clear hb
  generalize wordN xs 0 (min len 8) = W
  go_wp2_with fail
  refine (kept_true _ A len cap xs hn w7 S.out.i S.out.a).mono ?_
  rintro e w8 ⟨rfl, hq⟩
  replace S := Lib.hid (S.out.step (hq.below _))
  clear hq
  go_wp2_with fail
  refine (pword_any X m c m (bs v m) (by omega) (bs_small v m) w8 S.out.x).mono ?_
  rintro e w9 ⟨rfl, hb⟩
  replace S := Lib.hid (S.out.step hb)
  clear hb
  rw [← word_zext v m m8]
  by_cases hlo : n ≤ 0
  · have h8 : n ≤ 8 := by omega
    rw [show 8 * (m : Int) = 0 by have := HM.out; omega]
    go_wp2_with fail
    refine (zext_any v _ w9).mono ?_
    rintro e w10 ⟨rfl, hq⟩
    go_wp2
    go_ret
    exact ⟨by simp, S.out.b.trans ((hq.below _).mono S.out.b.size)⟩
  by_cases h8 : n ≤ 8
  · have hp : 0 < n := by omega
    rw [show (m : Int) = n by have := HM.out; omega]
    go_wp2_with fail
    refine (zext_any v _ w9).mono ?_
    rintro e w10 ⟨rfl, hq⟩
    go_wp2
    go_ret
    exact ⟨by simp, S.out.b.trans ((hq.below _).mono S.out.b.size)⟩
  · rw [show 8 * (m : Int) = 64 by have := HM.out; omega]
    go_wp2_with fail
    refine (zext_any v _ w9).mono ?_
    rintro e w10 ⟨rfl, hq⟩
    go_wp2
    go_ret
    exact ⟨by simp, S.out.b.trans ((hq.below _).mono S.out.b.size)⟩
theorem octets_row {w : World} {a : Option Addr} {len cap : Nat} {zs : List Int}
    (h : (a = none ∧ len = 0 ∧ cap = 0 ∧ zs = []) ∨ ∃ x, a = some x ∧ len ≤ cap ∧ cap ≤ maxLen ∧ zs.length = cap ∧ (∀ i, i < zs.length → w.cell? (x.add i) = some (.int .u8 (zs.getD i 0))) ∧ ∀ n ∈ zs, (Lit.int .u8 n).wf = true) :
    Octets w a len (zs.take len) ∧ Small (zs.take len) ∧ (a = none → len = 0 ∧ cap = 0) := by
  rcases h with ⟨rfl, rfl, rfl, rfl⟩ | ⟨x, rfl, hl, _, hz, hc, hw⟩
  · exact ⟨⟨rfl, fun h => by omega⟩, fun i => by simp, fun _ => ⟨rfl, rfl⟩⟩
  · refine ⟨⟨by simp [hz]; omega, fun h0 => ?_⟩, fun i => ?_, fun h => by cases h⟩
    · obtain ⟨b, off, sp⟩ := x
      have hx := hc 0 (by omega)
      have hs : sp = none ∧ b < w.heap.size := by
        unfold World.cell? at hx
        simp only [Addr.add] at hx
        simp only [if_true] at hx
        split at hx
        · rename_i cs t fr hh
          constructor
          · cases sp with
            | none => rfl
            | some q => simp at hx
          · by_cases g : b < w.heap.size
            · exact g
            · rw [Array.getElem?_eq_none (by omega)] at hh; simp at hh
        · simp at hx
      obtain ⟨rfl, hb⟩ := hs
      refine ⟨b, off, rfl, hb, fun i hi => ?_⟩
      have h1 := hc i (by omega)
      have e : (zs.take len).getD i 0 = zs.getD i 0 := by simp [List.getD, List.getElem?_take_of_lt hi]
      rw [e, ← h1]
      by_cases h0 : i = 0
      · subst h0; simp [Addr.add]
      · simp [Addr.add, h0]
    · by_cases hi : i < (zs.take len).length
      · have hm : (zs.take len).getD i 0 ∈ zs := by
          simp only [List.getD, List.getElem?_eq_getElem hi, Option.getD_some]
          exact List.mem_of_mem_take (List.getElem_mem hi)
        have := hw _ hm
        have e1 : IntKind.u8.min = 0 := by decide
        have e2 : IntKind.u8.max = 255 := by decide
        simp [Lit.wf, e1, e2] at this
        simp
        omega
      · simp only [List.getD, List.getElem?_eq_none (Nat.le_of_not_lt hi), Option.getD_none]
        omega
theorem bitsBytes_walk (a0 a1 : Int) (a2 : Option Addr) (len2 cap2 : Nat) (z2 : List Int) (w : World) (w0 : (Lit.int .u64 a0).wf = true) (hn : len2 ≤ 140737488351232)
    (w2 : (a2 = none ∧ len2 = 0 ∧ cap2 = 0 ∧ z2 = []) ∨ ∃ x, a2 = some x ∧ len2 ≤ cap2 ∧ cap2 ≤ maxLen ∧ z2.length = cap2 ∧ (∀ i, i < z2.length → w.cell? (x.add i) = some (.int .u8 (z2.getD i 0))) ∧ ∀ n ∈ z2, (Lit.int .u8 n).wf = true) :
    Calls Try.prog 3 #[.int .u64 a0, .int .i64 a1, .slice a2 len2 cap2] w fun e w' => e = .returned (.bool true) ∧ Below w.heap.size w w' := by
  obtain ⟨v, rfl⟩ := u64_bv w0
  obtain ⟨ho, hs, hA⟩ := octets_row w2
  exact bitsBytes_any v a1 (min (max a1 0) 8).toNat (by omega) a2 len2 cap2 _ hA hn hs w ho
end Go.Proofs.Ytnhbekgmameeaaa
