/- The laws AmoMakes, AmoExtends, AmoLoads and AmoOrders, walked: each call answers true. -/
import Derived.Test.YtnkmcjnjlbddfaaAmo
namespace Go.Proofs.Ytnkmcjnjlbddfaa
open Go.RowKit Wd

namespace Wd
def ext (v : BitVec 64) (size : Int) (s : Bool) : BitVec 64 :=
  if size = 1 ∨ size = 2 ∨ size = 4 ∨ size = 8 then (if s then sext v (8 * size) else zext v (8 * size)) else 0#64
theorem ext_s (v : BitVec 64) (size : Int) (h : size = 1 ∨ size = 2 ∨ size = 4 ∨ size = 8) : ext v size true = sext v (8 * size) := by unfold ext; rw [if_pos h]; rfl
theorem ext_z (v : BitVec 64) (size : Int) (h : size = 1 ∨ size = 2 ∨ size = 4 ∨ size = 8) : ext v size false = zext v (8 * size) := by unfold ext; rw [if_pos h]; rfl
theorem ext_no (v : BitVec 64) (size : Int) (s : Bool) (h1 : ¬ size = 1) (h2 : ¬ size = 2) (h4 : ¬ size = 4) (h8 : ¬ size = 8) : ext v size s = 0#64 := by unfold ext; rw [if_neg (by omega)]
theorem and3 (x : Int) : bits .and .i64 x 3 = 0 ∨ bits .and .i64 x 3 = 1 ∨ bits .and .i64 x 3 = 2 ∨ bits .and .i64 x 3 = 3 := by
  have h : bits .and .i64 x 3 = (((BitVec.ofInt 64 x).toNat % 4 : Nat) : Int) := by
    show IntKind.i64.wrap ((BitVec.ofInt 64 x &&& BitVec.ofInt 64 3).toNat : Int) = _
    have e : (BitVec.ofInt 64 3).toNat = 3 := by decide
    rw [BitVec.toNat_and, e, Nat.and_two_pow_sub_one_eq_mod (BitVec.ofInt 64 x).toNat 2]
    exact IntWalk.i64_in _ (by omega)
  rw [h]
  omega
theorem zext_div (v : BitVec 64) (n : Nat) (hn : n ≤ 64) : ((zext v (n : Int)).toNat : Int) / 2 ^ n = 0 := by
  have h : (zext v (n : Int)).toNat < 2 ^ n := by
    unfold zext zextN
    rw [show ((n : Int)).toNat = n from by omega, BitVec.toNat_and, ones_toNat n hn, Nat.and_two_pow_sub_one_eq_mod]
    exact Nat.mod_lt _ (Nat.two_pow_pos n)
  rw [shr64, BitVec.toNat_ushiftRight, Nat.shiftRight_eq_div_pow, Nat.div_eq_of_lt h]
  rfl
end Wd

theorem pext_any (v : BitVec 64) (size : Int) (s : Bool) : Qt Try.prog 20 #[.int .u64 (v.toNat : Int), .int .i64 size, .bool s] (.int .u64 ((ext v size s).toNat : Int)) := by
  intro w
  have hq := Quiet.refl w
  by_cases s1 : size = 1
  · subst s1
    cases s with
    | true =>
      have hf := Lib.hid (ext_s v 1 (by omega))
      go_enter Try.func20, Try.ntmps20
      go_wp2_with (first
      | (go_at_call 24; refine ((sext_any _ _).at hq).mono ?_; clear hq; rintro e w1 ⟨rfl, hq⟩)
      | (go_at_call 25; refine ((zext_any _ _).at hq).mono ?_; clear hq; rintro e w1 ⟨rfl, hq⟩))
      go_ret
      exact ⟨ret_int (by rw [hf.out]; rfl), hq⟩
    | false =>
      have hf := Lib.hid (ext_z v 1 (by omega))
      go_enter Try.func20, Try.ntmps20
      go_wp2_with (first
      | (go_at_call 24; refine ((sext_any _ _).at hq).mono ?_; clear hq; rintro e w1 ⟨rfl, hq⟩)
      | (go_at_call 25; refine ((zext_any _ _).at hq).mono ?_; clear hq; rintro e w1 ⟨rfl, hq⟩))
      go_ret
      exact ⟨ret_int (by rw [hf.out]; rfl), hq⟩
  by_cases s2 : size = 2
  · subst s2
    cases s with
    | true =>
      have hf := Lib.hid (ext_s v 2 (by omega))
      go_enter Try.func20, Try.ntmps20
      go_wp2_with (first
      | (go_at_call 24; refine ((sext_any _ _).at hq).mono ?_; clear hq; rintro e w1 ⟨rfl, hq⟩)
      | (go_at_call 25; refine ((zext_any _ _).at hq).mono ?_; clear hq; rintro e w1 ⟨rfl, hq⟩))
      go_ret
      exact ⟨ret_int (by rw [hf.out]; rfl), hq⟩
    | false =>
      have hf := Lib.hid (ext_z v 2 (by omega))
      go_enter Try.func20, Try.ntmps20
      go_wp2_with (first
      | (go_at_call 24; refine ((sext_any _ _).at hq).mono ?_; clear hq; rintro e w1 ⟨rfl, hq⟩)
      | (go_at_call 25; refine ((zext_any _ _).at hq).mono ?_; clear hq; rintro e w1 ⟨rfl, hq⟩))
      go_ret
      exact ⟨ret_int (by rw [hf.out]; rfl), hq⟩
  by_cases s4 : size = 4
  · subst s4
    cases s with
    | true =>
      have hf := Lib.hid (ext_s v 4 (by omega))
      go_enter Try.func20, Try.ntmps20
      go_wp2_with (first
      | (go_at_call 24; refine ((sext_any _ _).at hq).mono ?_; clear hq; rintro e w1 ⟨rfl, hq⟩)
      | (go_at_call 25; refine ((zext_any _ _).at hq).mono ?_; clear hq; rintro e w1 ⟨rfl, hq⟩))
      go_ret
      exact ⟨ret_int (by rw [hf.out]; rfl), hq⟩
    | false =>
      have hf := Lib.hid (ext_z v 4 (by omega))
      go_enter Try.func20, Try.ntmps20
      go_wp2_with (first
      | (go_at_call 24; refine ((sext_any _ _).at hq).mono ?_; clear hq; rintro e w1 ⟨rfl, hq⟩)
      | (go_at_call 25; refine ((zext_any _ _).at hq).mono ?_; clear hq; rintro e w1 ⟨rfl, hq⟩))
      go_ret
      exact ⟨ret_int (by rw [hf.out]; rfl), hq⟩
  by_cases s8 : size = 8
  · subst s8
    cases s with
    | true =>
      have hf := Lib.hid (ext_s v 8 (by omega))
      go_enter Try.func20, Try.ntmps20
      go_wp2_with (first
      | (go_at_call 24; refine ((sext_any _ _).at hq).mono ?_; clear hq; rintro e w1 ⟨rfl, hq⟩)
      | (go_at_call 25; refine ((zext_any _ _).at hq).mono ?_; clear hq; rintro e w1 ⟨rfl, hq⟩))
      go_ret
      exact ⟨ret_int (by rw [hf.out]; rfl), hq⟩
    | false =>
      have hf := Lib.hid (ext_z v 8 (by omega))
      go_enter Try.func20, Try.ntmps20
      go_wp2_with (first
      | (go_at_call 24; refine ((sext_any _ _).at hq).mono ?_; clear hq; rintro e w1 ⟨rfl, hq⟩)
      | (go_at_call 25; refine ((zext_any _ _).at hq).mono ?_; clear hq; rintro e w1 ⟨rfl, hq⟩))
      go_ret
      exact ⟨ret_int (by rw [hf.out]; rfl), hq⟩
  have hf := Lib.hid (ext_no v size s s1 s2 s4 s8)
  have e1 : (size == 1) = false := by simpa using s1
  have f1 : (size != 1) = true := by simpa using s1
  have e2 : (size == 2) = false := by simpa using s2
  have f2 : (size != 2) = true := by simpa using s2
  have e4 : (size == 4) = false := by simpa using s4
  have f4 : (size != 4) = true := by simpa using s4
  have e8 : (size == 8) = false := by simpa using s8
  have f8 : (size != 8) = true := by simpa using s8
  go_enter Try.func20, Try.ntmps20
  go_wp2_with (first
      | (go_at_call 24; refine ((sext_any _ _).at hq).mono ?_; clear hq; rintro e w1 ⟨rfl, hq⟩)
      | (go_at_call 25; refine ((zext_any _ _).at hq).mono ?_; clear hq; rintro e w1 ⟨rfl, hq⟩))
  go_ret
  exact ⟨ret_int (by rw [hf.out]; rfl), hq⟩

theorem rext_any (v : BitVec 64) (size : Int) (s : Bool) : Qt Try.prog 21 #[.int .u64 (v.toNat : Int), .int .i64 size, .bool s] (.int .u64 ((ext v size s).toNat : Int)) := by
  intro w
  have hq := Quiet.refl w
  by_cases s1 : size = 1
  · subst s1
    cases s with
    | true =>
      have hf := Lib.hid (ext_s v 1 (by omega))
      go_enter Try.func21, Try.ntmps21
      go_wp2_with (first
      | (go_at_call 28; refine ((rsext_any _ _).at hq).mono ?_; clear hq; rintro e w1 ⟨rfl, hq⟩)
      | (go_at_call 27; refine ((rzext_any _ _).at hq).mono ?_; clear hq; rintro e w1 ⟨rfl, hq⟩))
      go_ret
      exact ⟨ret_int (by rw [hf.out]; rfl), hq⟩
    | false =>
      have hf := Lib.hid (ext_z v 1 (by omega))
      go_enter Try.func21, Try.ntmps21
      go_wp2_with (first
      | (go_at_call 28; refine ((rsext_any _ _).at hq).mono ?_; clear hq; rintro e w1 ⟨rfl, hq⟩)
      | (go_at_call 27; refine ((rzext_any _ _).at hq).mono ?_; clear hq; rintro e w1 ⟨rfl, hq⟩))
      go_ret
      exact ⟨ret_int (by rw [hf.out]; rfl), hq⟩
  by_cases s2 : size = 2
  · subst s2
    cases s with
    | true =>
      have hf := Lib.hid (ext_s v 2 (by omega))
      go_enter Try.func21, Try.ntmps21
      go_wp2_with (first
      | (go_at_call 28; refine ((rsext_any _ _).at hq).mono ?_; clear hq; rintro e w1 ⟨rfl, hq⟩)
      | (go_at_call 27; refine ((rzext_any _ _).at hq).mono ?_; clear hq; rintro e w1 ⟨rfl, hq⟩))
      go_ret
      exact ⟨ret_int (by rw [hf.out]; rfl), hq⟩
    | false =>
      have hf := Lib.hid (ext_z v 2 (by omega))
      go_enter Try.func21, Try.ntmps21
      go_wp2_with (first
      | (go_at_call 28; refine ((rsext_any _ _).at hq).mono ?_; clear hq; rintro e w1 ⟨rfl, hq⟩)
      | (go_at_call 27; refine ((rzext_any _ _).at hq).mono ?_; clear hq; rintro e w1 ⟨rfl, hq⟩))
      go_ret
      exact ⟨ret_int (by rw [hf.out]; rfl), hq⟩
  by_cases s4 : size = 4
  · subst s4
    cases s with
    | true =>
      have hf := Lib.hid (ext_s v 4 (by omega))
      go_enter Try.func21, Try.ntmps21
      go_wp2_with (first
      | (go_at_call 28; refine ((rsext_any _ _).at hq).mono ?_; clear hq; rintro e w1 ⟨rfl, hq⟩)
      | (go_at_call 27; refine ((rzext_any _ _).at hq).mono ?_; clear hq; rintro e w1 ⟨rfl, hq⟩))
      go_ret
      exact ⟨ret_int (by rw [hf.out]; rfl), hq⟩
    | false =>
      have hf := Lib.hid (ext_z v 4 (by omega))
      go_enter Try.func21, Try.ntmps21
      go_wp2_with (first
      | (go_at_call 28; refine ((rsext_any _ _).at hq).mono ?_; clear hq; rintro e w1 ⟨rfl, hq⟩)
      | (go_at_call 27; refine ((rzext_any _ _).at hq).mono ?_; clear hq; rintro e w1 ⟨rfl, hq⟩))
      go_ret
      exact ⟨ret_int (by rw [hf.out]; rfl), hq⟩
  by_cases s8 : size = 8
  · subst s8
    cases s with
    | true =>
      have hf := Lib.hid (ext_s v 8 (by omega))
      go_enter Try.func21, Try.ntmps21
      go_wp2_with (first
      | (go_at_call 28; refine ((rsext_any _ _).at hq).mono ?_; clear hq; rintro e w1 ⟨rfl, hq⟩)
      | (go_at_call 27; refine ((rzext_any _ _).at hq).mono ?_; clear hq; rintro e w1 ⟨rfl, hq⟩))
      go_ret
      exact ⟨ret_int (by rw [hf.out]; rfl), hq⟩
    | false =>
      have hf := Lib.hid (ext_z v 8 (by omega))
      go_enter Try.func21, Try.ntmps21
      go_wp2_with (first
      | (go_at_call 28; refine ((rsext_any _ _).at hq).mono ?_; clear hq; rintro e w1 ⟨rfl, hq⟩)
      | (go_at_call 27; refine ((rzext_any _ _).at hq).mono ?_; clear hq; rintro e w1 ⟨rfl, hq⟩))
      go_ret
      exact ⟨ret_int (by rw [hf.out]; rfl), hq⟩
  have hf := Lib.hid (ext_no v size s s1 s2 s4 s8)
  have e1 : (size == 1) = false := by simpa using s1
  have f1 : (size != 1) = true := by simpa using s1
  have e2 : (size == 2) = false := by simpa using s2
  have f2 : (size != 2) = true := by simpa using s2
  have e4 : (size == 4) = false := by simpa using s4
  have f4 : (size != 4) = true := by simpa using s4
  have e8 : (size == 8) = false := by simpa using s8
  have f8 : (size != 8) = true := by simpa using s8
  go_enter Try.func21, Try.ntmps21
  go_wp2_with (first
      | (go_at_call 28; refine ((rsext_any _ _).at hq).mono ?_; clear hq; rintro e w1 ⟨rfl, hq⟩)
      | (go_at_call 27; refine ((rzext_any _ _).at hq).mono ?_; clear hq; rintro e w1 ⟨rfl, hq⟩))
  go_ret
  exact ⟨ret_int (by rw [hf.out]; rfl), hq⟩

theorem granule_lit : Qt Try.prog 14 #[.int .u64 15] (.int .u64 8) := by
  intro w
  go_enter Try.func14, Try.ntmps14
  go_wp2
  go_ret
  exact ⟨ret_int (by decide), Quiet.refl _⟩

theorem awake_any : Qt Try.prog 11 #[] (.bool true) := by
  intro w
  have hq := Quiet.refl w
  have h1 : Qt Try.prog 9 #[.int .i64 0, .int .i64 8, .int .u64 2, .int .u64 3] (.tuple #[.int .u64 5, .int .i64 0]) := pnew_any 0 8 2#64 3#64 (by omega)
  have H1 := Lib.hid h1
  clear h1
  go_enter Try.func11, Try.ntmps11
  go_wp2_with (first
    | (go_at_call 9; refine (H1.out.at hq).mono ?_; clear hq; rintro e w1 ⟨rfl, hq⟩)
    | (go_at_call 14; refine (granule_lit.at hq).mono ?_; clear hq; rintro e w1 ⟨rfl, hq⟩))
  go_ret
  exact ⟨rfl, hq⟩

theorem amoMakes_walk (a0 a1 a2 a3 : Int) (_ : (Lit.int .i64 a0).wf = true) (w1 : (Lit.int .i64 a1).wf = true) (w2 : (Lit.int .u64 a2).wf = true) (w3 : (Lit.int .u64 a3).wf = true) (w : World) :
    Calls Try.prog 3 #[.int .i64 a0, .int .i64 a1, .int .u64 a2, .int .u64 a3] w fun e w' => e = .returned (.bool true) ∧ Grown w w' := by
  obtain ⟨old, rfl⟩ := u64_bv w2
  obtain ⟨x, rfl⟩ := u64_bv w3
  have hb := i64_bd w1
  have hq := Quiet.refl w
  clear w1 w2 w3
  go_enter Try.func3, Try.ntmps3
  go_wp2_with (first
    | (go_at_call 11; refine (awake_any.at hq).mono ?_; clear hq; rintro e w1 ⟨rfl, hq⟩)
    | (go_at_call 9; refine ((pnew_any _ _ _ _ hb).at hq).mono ?_; clear hq; rintro e w1 ⟨rfl, hq⟩; unfold amoVal)
    | (go_at_call 10; refine ((rnew_any _ _ _ _ hb).at hq).mono ?_; clear hq; rintro e w1 ⟨rfl, hq⟩; unfold amoVal))
  all_goals
    go_ret
    exact ⟨ret_bool (by simp), hq.grown⟩

theorem amoExtends_walk (a0 a1 : Int) (a2 : Bool) (w0 : (Lit.int .u64 a0).wf = true) (_ : (Lit.int .i64 a1).wf = true) (w : World) :
    Calls Try.prog 5 #[.int .u64 a0, .int .i64 a1, .bool a2] w fun e w' => e = .returned (.bool true) ∧ Grown w w' := by
  obtain ⟨v, rfl⟩ := u64_bv w0
  have hq := Quiet.refl w
  clear w0
  go_enter Try.func5, Try.ntmps5
  go_wp2_with (first
    | (go_at_call 11; refine (awake_any.at hq).mono ?_; clear hq; rintro e w1 ⟨rfl, hq⟩)
    | (go_at_call 20; refine ((pext_any _ _ _).at hq).mono ?_; clear hq; rintro e w1 ⟨rfl, hq⟩)
    | (go_at_call 21; refine ((rext_any _ _ _).at hq).mono ?_; clear hq; rintro e w1 ⟨rfl, hq⟩))
  go_ret
  exact ⟨ret_bool (by simp), hq.grown⟩

theorem amoLoads_0 (v : BitVec 64) (k : Int) (h : bits .and .i64 k 3 = 0) (w : World) :
    Calls Try.prog 8 #[.int .u64 (v.toNat : Int), .int .i64 k] w fun e w' => e = .returned (.bool true) ∧ Quiet w w' := by
  have hq := Quiet.refl w
  have e1 : ext v 1 true = sext v 8 := ext_s v 1 (by omega)
  have e2 : ext v 1 false = zext v 8 := ext_z v 1 (by omega)
  have e3 : ext (sext v 8) 1 true = sext v 8 := (ext_s _ 1 (by omega)).trans (sext_sext v 8 8 (by omega) (by omega) (by omega))
  have e4 : ext (sext v 8) 1 false = zext v 8 := (ext_z _ 1 (by omega)).trans (zext_sext v 8 (by omega) (by omega))
  have e5 : ext (zext v 8) 1 true = sext v 8 := (ext_s _ 1 (by omega)).trans (sext_zext v 8 (by omega) (by omega))
  have e6 : ((zext v 8).toNat : Int) / 256 = 0 := zext_div v 8 (by omega)
  go_enter Try.func8, Try.ntmps8
  go_wp2_with (first
    | (go_at_call 11; refine (awake_any.at hq).mono ?_; clear hq; rintro e w1 ⟨rfl, hq⟩)
    | (go_at_call 20; refine ((pext_any _ _ _).at hq).mono ?_; clear hq; rintro e w1 ⟨rfl, hq⟩))
  go_ret
  exact ⟨rfl, hq⟩

theorem amoLoads_1 (v : BitVec 64) (k : Int) (h : bits .and .i64 k 3 = 1) (w : World) :
    Calls Try.prog 8 #[.int .u64 (v.toNat : Int), .int .i64 k] w fun e w' => e = .returned (.bool true) ∧ Quiet w w' := by
  have hq := Quiet.refl w
  have e1 : ext v 2 true = sext v 16 := ext_s v 2 (by omega)
  have e2 : ext v 2 false = zext v 16 := ext_z v 2 (by omega)
  have e3 : ext (sext v 16) 2 true = sext v 16 := (ext_s _ 2 (by omega)).trans (sext_sext v 16 16 (by omega) (by omega) (by omega))
  have e4 : ext (sext v 16) 2 false = zext v 16 := (ext_z _ 2 (by omega)).trans (zext_sext v 16 (by omega) (by omega))
  have e5 : ext (zext v 16) 2 true = sext v 16 := (ext_s _ 2 (by omega)).trans (sext_zext v 16 (by omega) (by omega))
  have e6 : ((zext v 16).toNat : Int) / 65536 = 0 := zext_div v 16 (by omega)
  go_enter Try.func8, Try.ntmps8
  go_wp2_with (first
    | (go_at_call 11; refine (awake_any.at hq).mono ?_; clear hq; rintro e w1 ⟨rfl, hq⟩)
    | (go_at_call 20; refine ((pext_any _ _ _).at hq).mono ?_; clear hq; rintro e w1 ⟨rfl, hq⟩))
  go_ret
  exact ⟨rfl, hq⟩

theorem amoLoads_2 (v : BitVec 64) (k : Int) (h : bits .and .i64 k 3 = 2) (w : World) :
    Calls Try.prog 8 #[.int .u64 (v.toNat : Int), .int .i64 k] w fun e w' => e = .returned (.bool true) ∧ Quiet w w' := by
  have hq := Quiet.refl w
  have e1 : ext v 4 true = sext v 32 := ext_s v 4 (by omega)
  have e2 : ext v 4 false = zext v 32 := ext_z v 4 (by omega)
  have e3 : ext (sext v 32) 4 true = sext v 32 := (ext_s _ 4 (by omega)).trans (sext_sext v 32 32 (by omega) (by omega) (by omega))
  have e4 : ext (sext v 32) 4 false = zext v 32 := (ext_z _ 4 (by omega)).trans (zext_sext v 32 (by omega) (by omega))
  have e5 : ext (zext v 32) 4 true = sext v 32 := (ext_s _ 4 (by omega)).trans (sext_zext v 32 (by omega) (by omega))
  have e6 : ((zext v 32).toNat : Int) / 4294967296 = 0 := zext_div v 32 (by omega)
  go_enter Try.func8, Try.ntmps8
  go_wp2_with (first
    | (go_at_call 11; refine (awake_any.at hq).mono ?_; clear hq; rintro e w1 ⟨rfl, hq⟩)
    | (go_at_call 20; refine ((pext_any _ _ _).at hq).mono ?_; clear hq; rintro e w1 ⟨rfl, hq⟩))
  go_ret
  exact ⟨rfl, hq⟩

theorem amoLoads_3 (v : BitVec 64) (k : Int) (h : bits .and .i64 k 3 = 3) (w : World) :
    Calls Try.prog 8 #[.int .u64 (v.toNat : Int), .int .i64 k] w fun e w' => e = .returned (.bool true) ∧ Quiet w w' := by
  have hq := Quiet.refl w
  have e1 : ext v 8 true = sext v 64 := ext_s v 8 (by omega)
  have e2 : ext v 8 false = zext v 64 := ext_z v 8 (by omega)
  have e3 : ext (sext v 64) 8 true = sext v 64 := (ext_s _ 8 (by omega)).trans (sext_sext v 64 64 (by omega) (by omega) (by omega))
  have e4 : ext (sext v 64) 8 false = zext v 64 := (ext_z _ 8 (by omega)).trans (zext_sext v 64 (by omega) (by omega))
  have e5 : ext (zext v 64) 8 true = sext v 64 := (ext_s _ 8 (by omega)).trans (sext_zext v 64 (by omega) (by omega))
  have e7 : sext v 64 = v := sext_all v 64 (by omega)
  have e8 : zext v 64 = v := zext_all v 64 (by omega)
  rw [e7] at e1 e3 e4 e5
  rw [e8] at e2 e4 e5
  clear e3 e4 e5 e7 e8
  go_enter Try.func8, Try.ntmps8
  go_wp2_with (first
    | (go_at_call 11; refine (awake_any.at hq).mono ?_; clear hq; rintro e w1 ⟨rfl, hq⟩)
    | (go_at_call 20; refine ((pext_any _ _ _).at hq).mono ?_; clear hq; rintro e w1 ⟨rfl, hq⟩))
  go_ret
  exact ⟨rfl, hq⟩

theorem amoLoads_walk (a0 a1 : Int) (w0 : (Lit.int .u64 a0).wf = true) (_ : (Lit.int .i64 a1).wf = true) (w : World) :
    Calls Try.prog 8 #[.int .u64 a0, .int .i64 a1] w fun e w' => e = .returned (.bool true) ∧ Grown w w' := by
  obtain ⟨v, rfl⟩ := u64_bv w0
  rcases and3 a1 with h | h | h | h
  · exact (amoLoads_0 v a1 h w).mono fun _ _ ⟨e, q⟩ => ⟨e, q.grown⟩
  · exact (amoLoads_1 v a1 h w).mono fun _ _ ⟨e, q⟩ => ⟨e, q.grown⟩
  · exact (amoLoads_2 v a1 h w).mono fun _ _ ⟨e, q⟩ => ⟨e, q.grown⟩
  · exact (amoLoads_3 v a1 h w).mono fun _ _ ⟨e, q⟩ => ⟨e, q.grown⟩
end Go.Proofs.Ytnkmcjnjlbddfaa
