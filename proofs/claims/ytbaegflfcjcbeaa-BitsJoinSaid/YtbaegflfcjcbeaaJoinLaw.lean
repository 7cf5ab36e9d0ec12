/- The law BitsJoin, walked: two fields side by side are the field of both; the bytes of two halves are the word's. -/
import Derived.Test.YtbaegflfcjcbeaaSame
import Derived.Test.YtbaegflfcjcbeaaBitsLaws
namespace Go.Proofs.Ytbaegflfcjcbeaa
open Go.RowKit Wd

namespace Wd
theorem join_fields (v : BitVec 64) (hi mid lo : Int) (h1 : 0 ≤ lo) (h2 : lo ≤ mid) (h3 : mid < hi) (h4 : hi < 64) :
    bits .or .u64 (IntKind.u64.wrap (((field v hi (mid + 1)).toNat : Int) * 2 ^ (mid + 1 - lo).toNat)) ((field v mid lo).toNat : Int) = ((field v hi lo).toNat : Int) := by
  rw [w64, shl64, or64, of64, of64]
  congr 2
  have m1 := (may_iff hi (mid + 1)).2 (by omega)
  have m2 := (may_iff mid lo).2 (by omega)
  have m3 := (may_iff hi lo).2 (by omega)
  apply BitVec.eq_of_getLsbD_eq
  intro i hi'
  rw [BitVec.getLsbD_or, BitVec.getLsbD_shiftLeft, field_get _ _ _ m1, field_get _ _ _ m2, field_get _ _ _ m3]
  by_cases a : i < (mid - lo + 1).toNat
  · have e1 : decide (i < (mid + 1 - lo).toNat) = true := by simp; omega
    have e2 : decide (i < (hi - lo + 1).toNat) = true := by simp; omega
    simp only [decide_eq_true a, e1, e2, Bool.not_true, Bool.and_false, Bool.true_and, Bool.false_and, Bool.false_or]
  · have e1 : decide (i < (mid + 1 - lo).toNat) = false := by simp; omega
    have e3 : (mid + 1).toNat + (i - (mid + 1 - lo).toNat) = lo.toNat + i := by omega
    by_cases b : i < (hi - lo + 1).toNat
    · have e2 : decide (i - (mid + 1 - lo).toNat < (hi - (mid + 1) + 1).toNat) = true := by simp; omega
      simp only [decide_eq_false a, decide_eq_true b, e1, e2, e3, decide_eq_true hi', Bool.not_false, Bool.true_and, Bool.false_and, Bool.or_false]
    · have e2 : decide (i - (mid + 1 - lo).toNat < (hi - (mid + 1) + 1).toNat) = false := by simp; omega
      simp only [decide_eq_false a, decide_eq_false b, e1, e2, Bool.and_false, Bool.false_and, Bool.or_false]
theorem bytes_halves (v : BitVec 64) : bytesOf v 4 ++ bytesOf (v >>> 32) 4 = bytesOf v 8 := by
  have e : ∀ k, byteAt (v >>> 32) k = byteAt v (4 + k) := fun k => by
    unfold byteAt
    rw [← BitVec.shiftRight_add, show 32 + 8 * k = 8 * (4 + k) from by omega]
  unfold bytesOf
  simp only [List.range_succ, List.range_zero, List.nil_append, List.cons_append, List.map_cons, List.map_nil, e]
theorem bytes_one (v : BitVec 64) (k : Nat) : ∀ u ∈ bytesOf v k, u.oneCell' = true := by
  intro u hu
  unfold bytesOf at hu
  simp at hu
  obtain ⟨_, _, rfl⟩ := hu
  rfl
end Wd

theorem bitsJoin_yes (v : BitVec 64) (hi mid lo : Int) (h1 : 0 ≤ lo) (h2 : lo ≤ mid) (h3 : mid < hi) (h4 : hi < 64) (w : World) :
    Calls Try.prog 4 #[.int .u64 (v.toNat : Int), .int .i64 hi, .int .i64 mid, .int .i64 lo] w fun e w' => e = .returned (.bool true) ∧ Quiet w w' := by
  have hq := Quiet.refl w
  have H := Lib.hid (join_fields v hi mid lo h1 h2 h3 h4)
  go_enter Try.func4, Try.ntmps4
  go_wp2_with (first
    | (go_at_call 11; refine (awake_any.at hq).mono ?_; clear hq; rintro e w1 ⟨rfl, hq⟩)
    | (go_at_call 12; refine ((field_any _ _ _).at hq).mono ?_; clear hq; rintro e w1 ⟨rfl, hq⟩))
  go_ret
  exact ⟨ret_bool (by rw [H.out]; exact beq_self_eq_true _), hq⟩

theorem pbytes_at (x n : Int) (v : BitVec 64) (hx : x = (v.toNat : Int)) (m : Nat) (hn : (m : Int) = min (max n 0) 8) (w : World) :
    Calls Try.prog 17 #[.int .u64 x, .int .i64 n] w (Makes 5 m (bytesOf v m) w) := by
  subst hx
  exact pbytes_any v n m hn w

theorem bitsJoin_no1 (v : BitVec 64) (hi mid lo : Int) (h1 : lo < 0) (w : World) :
    Calls Try.prog 4 #[.int .u64 (v.toNat : Int), .int .i64 hi, .int .i64 mid, .int .i64 lo] w fun e w' => e = .returned (.bool true) ∧ Below w.heap.size w w' := by
  have hq := Quiet.refl w
  obtain ⟨i0, hi0, hz0, hz1, hz2⟩ := info_parts info_byte
  go_enter Try.func4, Try.ntmps4
  go_wp2_with (first
    | (go_at_call 11; refine (awake_any.at hq).mono ?_; clear hq; rintro e w1 ⟨rfl, hq⟩))
  have b1 := hq.below w.heap.size
  clear hq
  refine (pbytes_at _ _ v rfl 4 (by decide) _).mono ?_
  rintro e wA ⟨svA, rfl, hA, bA⟩
  go_wp2_with fail
  refine (pbytes_at _ _ (v >>> 32) (shr64 v 32) 4 (by decide) _).mono ?_
  rintro e wB ⟨svB, rfl, hB, bB⟩
  obtain ⟨g, cap, hsv, _, _⟩ := hB.form (by omega)
  subst hsv
  have hA2 := owns_below hA bB
  have hc := Lib.hid (hB.cells (g := g) rfl)
  have b3 := (b1.trans (bA.mono b1.size)).trans (bB.mono (Nat.le_trans b1.size bA.size))
  have hs1 := b1.size
  have hs3 := Nat.le_trans bA.size bB.size
  clear hA hB bA bB b1
  go_wp2_with (first
    | (at_builtin; refine append_want _ rfl _ _ 28 rfl w1.heap.size 5 i0 (.int .u8 0) 1 1 Try.underlying28 hi0 hz0 hz1 hz2 rfl (by decide) svA 4 (bytesOf v 4) rfl hA2 ⟨g, 0, none⟩ 4 cap (bytesOf (v >>> 32) 4) rfl (bytesOf_length _ _) hc.out (bytes_one _ _) (by decide) (by decide) hs3 ?_))
  intro svC wC hC hgC
  have b4 := b3.grown hgC b3.size (fun k hk => by have := (hA2.lt k hk).1; omega)
  rw [bytes_halves] at hC
  clear hc hA2 hgC b3
  go_wp2_with fail
  refine (pbytes_at _ _ v rfl 8 (by decide) _).mono ?_
  rintro e wD ⟨svD, rfl, hD, bD⟩
  have hC2 := owns_below hC bD
  have b5 := b4.trans (bD.mono b4.size)
  rw [bytesOf_map] at hC2 hD
  obtain ⟨A1, c1, hv1, o1⟩ := octets_of_own hC2
  obtain ⟨A2, c2, hv2, o2⟩ := octets_of_own hD
  subst hv1 hv2
  clear hC hC2 hD b4 bD
  go_wp2_with fail
  refine (sameBytes_true _ _ _ _ _ _ _ _ o1 o2).mono ?_
  rintro e wE ⟨rfl, hqE⟩
  have b6 := b5.trans (hqE.below _)
  clear o1 o2 b5 hqE
  go_wp2
  go_ret
  exact ⟨rfl, b6⟩

theorem bitsJoin_no2 (v : BitVec 64) (hi mid lo : Int) (h1 : 0 ≤ lo) (h2 : mid < lo) (w : World) :
    Calls Try.prog 4 #[.int .u64 (v.toNat : Int), .int .i64 hi, .int .i64 mid, .int .i64 lo] w fun e w' => e = .returned (.bool true) ∧ Below w.heap.size w w' := by
  have hq := Quiet.refl w
  obtain ⟨i0, hi0, hz0, hz1, hz2⟩ := info_parts info_byte
  go_enter Try.func4, Try.ntmps4
  go_wp2_with (first
    | (go_at_call 11; refine (awake_any.at hq).mono ?_; clear hq; rintro e w1 ⟨rfl, hq⟩))
  have b1 := hq.below w.heap.size
  clear hq
  refine (pbytes_at _ _ v rfl 4 (by decide) _).mono ?_
  rintro e wA ⟨svA, rfl, hA, bA⟩
  go_wp2_with fail
  refine (pbytes_at _ _ (v >>> 32) (shr64 v 32) 4 (by decide) _).mono ?_
  rintro e wB ⟨svB, rfl, hB, bB⟩
  obtain ⟨g, cap, hsv, _, _⟩ := hB.form (by omega)
  subst hsv
  have hA2 := owns_below hA bB
  have hc := Lib.hid (hB.cells (g := g) rfl)
  have b3 := (b1.trans (bA.mono b1.size)).trans (bB.mono (Nat.le_trans b1.size bA.size))
  have hs1 := b1.size
  have hs3 := Nat.le_trans bA.size bB.size
  clear hA hB bA bB b1
  go_wp2_with (first
    | (at_builtin; refine append_want _ rfl _ _ 28 rfl w1.heap.size 5 i0 (.int .u8 0) 1 1 Try.underlying28 hi0 hz0 hz1 hz2 rfl (by decide) svA 4 (bytesOf v 4) rfl hA2 ⟨g, 0, none⟩ 4 cap (bytesOf (v >>> 32) 4) rfl (bytesOf_length _ _) hc.out (bytes_one _ _) (by decide) (by decide) hs3 ?_))
  intro svC wC hC hgC
  have b4 := b3.grown hgC b3.size (fun k hk => by have := (hA2.lt k hk).1; omega)
  rw [bytes_halves] at hC
  clear hc hA2 hgC b3
  go_wp2_with fail
  refine (pbytes_at _ _ v rfl 8 (by decide) _).mono ?_
  rintro e wD ⟨svD, rfl, hD, bD⟩
  have hC2 := owns_below hC bD
  have b5 := b4.trans (bD.mono b4.size)
  rw [bytesOf_map] at hC2 hD
  obtain ⟨A1, c1, hv1, o1⟩ := octets_of_own hC2
  obtain ⟨A2, c2, hv2, o2⟩ := octets_of_own hD
  subst hv1 hv2
  clear hC hC2 hD b4 bD
  go_wp2_with fail
  refine (sameBytes_true _ _ _ _ _ _ _ _ o1 o2).mono ?_
  rintro e wE ⟨rfl, hqE⟩
  have b6 := b5.trans (hqE.below _)
  clear o1 o2 b5 hqE
  go_wp2
  go_ret
  exact ⟨rfl, b6⟩

theorem bitsJoin_no3 (v : BitVec 64) (hi mid lo : Int) (h1 : 0 ≤ lo) (h2 : lo ≤ mid) (h3 : hi ≤ mid) (w : World) :
    Calls Try.prog 4 #[.int .u64 (v.toNat : Int), .int .i64 hi, .int .i64 mid, .int .i64 lo] w fun e w' => e = .returned (.bool true) ∧ Below w.heap.size w w' := by
  have hq := Quiet.refl w
  obtain ⟨i0, hi0, hz0, hz1, hz2⟩ := info_parts info_byte
  go_enter Try.func4, Try.ntmps4
  go_wp2_with (first
    | (go_at_call 11; refine (awake_any.at hq).mono ?_; clear hq; rintro e w1 ⟨rfl, hq⟩))
  have b1 := hq.below w.heap.size
  clear hq
  refine (pbytes_at _ _ v rfl 4 (by decide) _).mono ?_
  rintro e wA ⟨svA, rfl, hA, bA⟩
  go_wp2_with fail
  refine (pbytes_at _ _ (v >>> 32) (shr64 v 32) 4 (by decide) _).mono ?_
  rintro e wB ⟨svB, rfl, hB, bB⟩
  obtain ⟨g, cap, hsv, _, _⟩ := hB.form (by omega)
  subst hsv
  have hA2 := owns_below hA bB
  have hc := Lib.hid (hB.cells (g := g) rfl)
  have b3 := (b1.trans (bA.mono b1.size)).trans (bB.mono (Nat.le_trans b1.size bA.size))
  have hs1 := b1.size
  have hs3 := Nat.le_trans bA.size bB.size
  clear hA hB bA bB b1
  go_wp2_with (first
    | (at_builtin; refine append_want _ rfl _ _ 28 rfl w1.heap.size 5 i0 (.int .u8 0) 1 1 Try.underlying28 hi0 hz0 hz1 hz2 rfl (by decide) svA 4 (bytesOf v 4) rfl hA2 ⟨g, 0, none⟩ 4 cap (bytesOf (v >>> 32) 4) rfl (bytesOf_length _ _) hc.out (bytes_one _ _) (by decide) (by decide) hs3 ?_))
  intro svC wC hC hgC
  have b4 := b3.grown hgC b3.size (fun k hk => by have := (hA2.lt k hk).1; omega)
  rw [bytes_halves] at hC
  clear hc hA2 hgC b3
  go_wp2_with fail
  refine (pbytes_at _ _ v rfl 8 (by decide) _).mono ?_
  rintro e wD ⟨svD, rfl, hD, bD⟩
  have hC2 := owns_below hC bD
  have b5 := b4.trans (bD.mono b4.size)
  rw [bytesOf_map] at hC2 hD
  obtain ⟨A1, c1, hv1, o1⟩ := octets_of_own hC2
  obtain ⟨A2, c2, hv2, o2⟩ := octets_of_own hD
  subst hv1 hv2
  clear hC hC2 hD b4 bD
  go_wp2_with fail
  refine (sameBytes_true _ _ _ _ _ _ _ _ o1 o2).mono ?_
  rintro e wE ⟨rfl, hqE⟩
  have b6 := b5.trans (hqE.below _)
  clear o1 o2 b5 hqE
  go_wp2
  go_ret
  exact ⟨rfl, b6⟩

theorem bitsJoin_no4 (v : BitVec 64) (hi mid lo : Int) (h1 : 0 ≤ lo) (h2 : lo ≤ mid) (h3 : mid < hi) (h4 : 63 < hi) (w : World) :
    Calls Try.prog 4 #[.int .u64 (v.toNat : Int), .int .i64 hi, .int .i64 mid, .int .i64 lo] w fun e w' => e = .returned (.bool true) ∧ Below w.heap.size w w' := by
  have hq := Quiet.refl w
  obtain ⟨i0, hi0, hz0, hz1, hz2⟩ := info_parts info_byte
  go_enter Try.func4, Try.ntmps4
  go_wp2_with (first
    | (go_at_call 11; refine (awake_any.at hq).mono ?_; clear hq; rintro e w1 ⟨rfl, hq⟩))
  have b1 := hq.below w.heap.size
  clear hq
  refine (pbytes_at _ _ v rfl 4 (by decide) _).mono ?_
  rintro e wA ⟨svA, rfl, hA, bA⟩
  go_wp2_with fail
  refine (pbytes_at _ _ (v >>> 32) (shr64 v 32) 4 (by decide) _).mono ?_
  rintro e wB ⟨svB, rfl, hB, bB⟩
  obtain ⟨g, cap, hsv, _, _⟩ := hB.form (by omega)
  subst hsv
  have hA2 := owns_below hA bB
  have hc := Lib.hid (hB.cells (g := g) rfl)
  have b3 := (b1.trans (bA.mono b1.size)).trans (bB.mono (Nat.le_trans b1.size bA.size))
  have hs1 := b1.size
  have hs3 := Nat.le_trans bA.size bB.size
  clear hA hB bA bB b1
  go_wp2_with (first
    | (at_builtin; refine append_want _ rfl _ _ 28 rfl w1.heap.size 5 i0 (.int .u8 0) 1 1 Try.underlying28 hi0 hz0 hz1 hz2 rfl (by decide) svA 4 (bytesOf v 4) rfl hA2 ⟨g, 0, none⟩ 4 cap (bytesOf (v >>> 32) 4) rfl (bytesOf_length _ _) hc.out (bytes_one _ _) (by decide) (by decide) hs3 ?_))
  intro svC wC hC hgC
  have b4 := b3.grown hgC b3.size (fun k hk => by have := (hA2.lt k hk).1; omega)
  rw [bytes_halves] at hC
  clear hc hA2 hgC b3
  go_wp2_with fail
  refine (pbytes_at _ _ v rfl 8 (by decide) _).mono ?_
  rintro e wD ⟨svD, rfl, hD, bD⟩
  have hC2 := owns_below hC bD
  have b5 := b4.trans (bD.mono b4.size)
  rw [bytesOf_map] at hC2 hD
  obtain ⟨A1, c1, hv1, o1⟩ := octets_of_own hC2
  obtain ⟨A2, c2, hv2, o2⟩ := octets_of_own hD
  subst hv1 hv2
  clear hC hC2 hD b4 bD
  go_wp2_with fail
  refine (sameBytes_true _ _ _ _ _ _ _ _ o1 o2).mono ?_
  rintro e wE ⟨rfl, hqE⟩
  have b6 := b5.trans (hqE.below _)
  clear o1 o2 b5 hqE
  go_wp2
  go_ret
  exact ⟨rfl, b6⟩

theorem bitsJoin_all (v : BitVec 64) (hi mid lo : Int) (w : World) :
    Calls Try.prog 4 #[.int .u64 (v.toNat : Int), .int .i64 hi, .int .i64 mid, .int .i64 lo] w fun e w' => e = .returned (.bool true) ∧ Below w.heap.size w w' := by
  by_cases h1 : 0 ≤ lo
  · by_cases h2 : lo ≤ mid
    · by_cases h3 : mid < hi
      · by_cases h4 : hi < 64
        · exact (bitsJoin_yes v hi mid lo h1 h2 h3 h4 w).mono fun _ _ ⟨e, q⟩ => ⟨e, q.below _⟩
        · exact bitsJoin_no4 v hi mid lo h1 h2 h3 (by omega) w
      · exact bitsJoin_no3 v hi mid lo h1 h2 (by omega) w
    · exact bitsJoin_no2 v hi mid lo h1 (by omega) w
  · exact bitsJoin_no1 v hi mid lo (by omega) w
theorem bitsJoin_walk (a0 a1 a2 a3 : Int) (w0 : (Lit.int .u64 a0).wf = true) (_ : (Lit.int .i64 a1).wf = true) (_ : (Lit.int .i64 a2).wf = true) (_ : (Lit.int .i64 a3).wf = true) (w : World) :
    Calls Try.prog 4 #[.int .u64 a0, .int .i64 a1, .int .i64 a2, .int .i64 a3] w fun e w' => e = .returned (.bool true) ∧ Below w.heap.size w w' := by
  obtain ⟨v, rfl⟩ := u64_bv w0
  exact bitsJoin_all v a1 a2 a3 w
end Go.Proofs.Ytbaegflfcjcbeaa
