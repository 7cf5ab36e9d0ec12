/- Contracts of the document's way: a trap. -/
import Derived.Test.YthijheijognhmaaTrap
namespace Go.Proofs.Ythijheijognhmaa
open Go.RowKit Wd
set_option linter.unusedVariables false
set_option linter.unusedSimpArgs false

attribute [local go_sem] zeroH_run hart_size hart_set_pc hart_get_pc hart_set_priv hart_get_priv hart_set_status hart_get_status hart_set_edeleg hart_get_edeleg hart_set_ideleg hart_get_ideleg hart_set_ie hart_get_ie hart_set_ip hart_get_ip hart_set_tvec hart_get_tvec hart_set_epc hart_get_epc hart_set_cause hart_get_cause hart_set_tval hart_get_tval hart_set_stvec hart_get_stvec hart_set_sepc hart_get_sepc hart_set_scause hart_get_scause hart_set_stval hart_get_stval hart_set_res hart_get_res hart_set_resAt hart_get_resAt hart_set_resAt0 loadR_hart storeR_hart rowAt_alloc rowAt_drew setRow_alloc_if and_L or_L clr_L addK_walk addK_walk2
attribute [local go_sem ↓] load_row store_row
set_option maxRecDepth 4000

theorem put_any (s : BitVec 64) (y : Int) (on : Bool) : Pu Try.prog 41 #[.int .u64 (s.toNat : Int), .int .u64 y, .bool on] (.int .u64 ((putW s y on).toNat : Int)) := by
  intro w
  cases on with
  | false =>
    go_enter Try.func41, Try.ntmps41
    go_wp2_with fail
    go_ret
    exact ⟨rfl, rfl⟩
  | true =>
    go_enter Try.func41, Try.ntmps41
    go_wp2_with fail
    go_ret
    exact ⟨rfl, rfl⟩

theorem kept_top (c : BitVec 64) : (andL c 9223372036854775871).getLsbD 63 = c.getLsbD 63 := by
  unfold andL
  rw [BitVec.getLsbD_and, show (BitVec.ofInt 64 9223372036854775871).getLsbD 63 = true from by decide, Bool.and_true]

set_option maxHeartbeats 4000000 in
theorem renter_int_s0_v (h : Hart) (c t : BitVec 64) (w : World) (p : h.priv = 0) (d : bits .and .u64 ((h.ideleg.toNat : Int) / 2 ^ numC c) 1 = 1) (h3 : ((andL c 63).toNat : Int) = (numC c : Int)) (hn : numC c < 64) (c1 : (c.toNat : Int) / 9223372036854775808 = 1) (c2 : ((andL c 9223372036854775871).toNat : Int) / 9223372036854775808 = 1)
    (v : ((andL h.stvec 1).toNat : Int) = 1) (he : Hid (enterH h c t = { h with res := false, resAt := 0#64, scause := andL c 9223372036854775871, sepc := clrL h.pc 3, stval := t, status := putW (clrL (putW h.status 32 (((andL h.status 2).toNat : Int) != 0)) 2) 256 false, priv := 1, pc := addK (clrL h.stvec 3) (numC c) })) :
    Calls Try.prog 14 #[.agg (hartC h), .int .u64 (c.toNat : Int), .int .u64 (t.toNat : Int)] w fun e w' => e = .returned (.agg (hartC (enterH h c t))) ∧ Below w.heap.size w w' := by
  go_enter Try.func14, Try.ntmps14
  go_wp2_with (go_at_call 41; refine (put_any _ _ _ _).mono ?_; rintro e w1 ⟨rfl, rfl⟩)
  exact ret_hart (b := w.heap.size + 1) rfl rfl (by simp [rowAt_alloc]; rfl) rfl ⟨by rw [he.out], by (repeat (refine Below.alloc ?_ (by simp <;> omega) _)); exact Below.refl _ _⟩

set_option maxHeartbeats 4000000 in
theorem renter_int_s0_d (h : Hart) (c t : BitVec 64) (w : World) (p : h.priv = 0) (d : bits .and .u64 ((h.ideleg.toNat : Int) / 2 ^ numC c) 1 = 1) (h3 : ((andL c 63).toNat : Int) = (numC c : Int)) (hn : numC c < 64) (c1 : (c.toNat : Int) / 9223372036854775808 = 1) (c2 : ((andL c 9223372036854775871).toNat : Int) / 9223372036854775808 = 1)
    (v : ((andL h.stvec 1).toNat : Int) = 0) (he : Hid (enterH h c t = { h with res := false, resAt := 0#64, scause := andL c 9223372036854775871, sepc := clrL h.pc 3, stval := t, status := putW (clrL (putW h.status 32 (((andL h.status 2).toNat : Int) != 0)) 2) 256 false, priv := 1, pc := clrL h.stvec 3 })) :
    Calls Try.prog 14 #[.agg (hartC h), .int .u64 (c.toNat : Int), .int .u64 (t.toNat : Int)] w fun e w' => e = .returned (.agg (hartC (enterH h c t))) ∧ Below w.heap.size w w' := by
  go_enter Try.func14, Try.ntmps14
  go_wp2_with (go_at_call 41; refine (put_any _ _ _ _).mono ?_; rintro e w1 ⟨rfl, rfl⟩)
  exact ret_hart (b := w.heap.size + 1) rfl rfl (by simp [rowAt_alloc]; rfl) rfl ⟨by rw [he.out], by (repeat (refine Below.alloc ?_ (by simp <;> omega) _)); exact Below.refl _ _⟩

set_option maxHeartbeats 4000000 in
theorem renter_int_s1_v (h : Hart) (c t : BitVec 64) (w : World) (p : h.priv = 1) (d : bits .and .u64 ((h.ideleg.toNat : Int) / 2 ^ numC c) 1 = 1) (h3 : ((andL c 63).toNat : Int) = (numC c : Int)) (hn : numC c < 64) (c1 : (c.toNat : Int) / 9223372036854775808 = 1) (c2 : ((andL c 9223372036854775871).toNat : Int) / 9223372036854775808 = 1)
    (v : ((andL h.stvec 1).toNat : Int) = 1) (he : Hid (enterH h c t = { h with res := false, resAt := 0#64, scause := andL c 9223372036854775871, sepc := clrL h.pc 3, stval := t, status := putW (clrL (putW h.status 32 (((andL h.status 2).toNat : Int) != 0)) 2) 256 true, priv := 1, pc := addK (clrL h.stvec 3) (numC c) })) :
    Calls Try.prog 14 #[.agg (hartC h), .int .u64 (c.toNat : Int), .int .u64 (t.toNat : Int)] w fun e w' => e = .returned (.agg (hartC (enterH h c t))) ∧ Below w.heap.size w w' := by
  go_enter Try.func14, Try.ntmps14
  go_wp2_with (go_at_call 41; refine (put_any _ _ _ _).mono ?_; rintro e w1 ⟨rfl, rfl⟩)
  exact ret_hart (b := w.heap.size + 1) rfl rfl (by simp [rowAt_alloc]; rfl) rfl ⟨by rw [he.out], by (repeat (refine Below.alloc ?_ (by simp <;> omega) _)); exact Below.refl _ _⟩

set_option maxHeartbeats 4000000 in
theorem renter_int_s1_d (h : Hart) (c t : BitVec 64) (w : World) (p : h.priv = 1) (d : bits .and .u64 ((h.ideleg.toNat : Int) / 2 ^ numC c) 1 = 1) (h3 : ((andL c 63).toNat : Int) = (numC c : Int)) (hn : numC c < 64) (c1 : (c.toNat : Int) / 9223372036854775808 = 1) (c2 : ((andL c 9223372036854775871).toNat : Int) / 9223372036854775808 = 1)
    (v : ((andL h.stvec 1).toNat : Int) = 0) (he : Hid (enterH h c t = { h with res := false, resAt := 0#64, scause := andL c 9223372036854775871, sepc := clrL h.pc 3, stval := t, status := putW (clrL (putW h.status 32 (((andL h.status 2).toNat : Int) != 0)) 2) 256 true, priv := 1, pc := clrL h.stvec 3 })) :
    Calls Try.prog 14 #[.agg (hartC h), .int .u64 (c.toNat : Int), .int .u64 (t.toNat : Int)] w fun e w' => e = .returned (.agg (hartC (enterH h c t))) ∧ Below w.heap.size w w' := by
  go_enter Try.func14, Try.ntmps14
  go_wp2_with (go_at_call 41; refine (put_any _ _ _ _).mono ?_; rintro e w1 ⟨rfl, rfl⟩)
  exact ret_hart (b := w.heap.size + 1) rfl rfl (by simp [rowAt_alloc]; rfl) rfl ⟨by rw [he.out], by (repeat (refine Below.alloc ?_ (by simp <;> omega) _)); exact Below.refl _ _⟩

set_option maxHeartbeats 4000000 in
theorem renter_int_m0_v (h : Hart) (c t : BitVec 64) (w : World) (p : h.priv = 0) (d : bits .and .u64 ((h.ideleg.toNat : Int) / 2 ^ numC c) 1 = 0) (h3 : ((andL c 63).toNat : Int) = (numC c : Int)) (hn : numC c < 64) (c1 : (c.toNat : Int) / 9223372036854775808 = 1) (c2 : ((andL c 9223372036854775871).toNat : Int) / 9223372036854775808 = 1)
    (v : ((andL h.tvec 1).toNat : Int) = 1) (he : Hid (enterH h c t = { h with res := false, resAt := 0#64, cause := andL c 9223372036854775871, epc := clrL h.pc 3, tval := t, status := orL (clrL (clrL (putW h.status 128 (((andL h.status 8).toNat : Int) != 0)) 8) 6144) (IntKind.u64.wrap (IntKind.u64.wrap (bits .and .i64 h.priv 3) * 2048)), priv := 3, pc := addK (clrL h.tvec 3) (numC c) })) :
    Calls Try.prog 14 #[.agg (hartC h), .int .u64 (c.toNat : Int), .int .u64 (t.toNat : Int)] w fun e w' => e = .returned (.agg (hartC (enterH h c t))) ∧ Below w.heap.size w w' := by
  go_enter Try.func14, Try.ntmps14
  go_wp2_with (go_at_call 41; refine (put_any _ _ _ _).mono ?_; rintro e w1 ⟨rfl, rfl⟩)
  exact ret_hart (b := w.heap.size + 1) rfl rfl (by simp [rowAt_alloc]; rfl) rfl ⟨by rw [he.out, p], by (repeat (refine Below.alloc ?_ (by simp <;> omega) _)); exact Below.refl _ _⟩

set_option maxHeartbeats 4000000 in
theorem renter_int_m0_d (h : Hart) (c t : BitVec 64) (w : World) (p : h.priv = 0) (d : bits .and .u64 ((h.ideleg.toNat : Int) / 2 ^ numC c) 1 = 0) (h3 : ((andL c 63).toNat : Int) = (numC c : Int)) (hn : numC c < 64) (c1 : (c.toNat : Int) / 9223372036854775808 = 1) (c2 : ((andL c 9223372036854775871).toNat : Int) / 9223372036854775808 = 1)
    (v : ((andL h.tvec 1).toNat : Int) = 0) (he : Hid (enterH h c t = { h with res := false, resAt := 0#64, cause := andL c 9223372036854775871, epc := clrL h.pc 3, tval := t, status := orL (clrL (clrL (putW h.status 128 (((andL h.status 8).toNat : Int) != 0)) 8) 6144) (IntKind.u64.wrap (IntKind.u64.wrap (bits .and .i64 h.priv 3) * 2048)), priv := 3, pc := clrL h.tvec 3 })) :
    Calls Try.prog 14 #[.agg (hartC h), .int .u64 (c.toNat : Int), .int .u64 (t.toNat : Int)] w fun e w' => e = .returned (.agg (hartC (enterH h c t))) ∧ Below w.heap.size w w' := by
  go_enter Try.func14, Try.ntmps14
  go_wp2_with (go_at_call 41; refine (put_any _ _ _ _).mono ?_; rintro e w1 ⟨rfl, rfl⟩)
  exact ret_hart (b := w.heap.size + 1) rfl rfl (by simp [rowAt_alloc]; rfl) rfl ⟨by rw [he.out, p], by (repeat (refine Below.alloc ?_ (by simp <;> omega) _)); exact Below.refl _ _⟩

set_option maxHeartbeats 4000000 in
theorem renter_int_m1_v (h : Hart) (c t : BitVec 64) (w : World) (p : h.priv = 1) (d : bits .and .u64 ((h.ideleg.toNat : Int) / 2 ^ numC c) 1 = 0) (h3 : ((andL c 63).toNat : Int) = (numC c : Int)) (hn : numC c < 64) (c1 : (c.toNat : Int) / 9223372036854775808 = 1) (c2 : ((andL c 9223372036854775871).toNat : Int) / 9223372036854775808 = 1)
    (v : ((andL h.tvec 1).toNat : Int) = 1) (he : Hid (enterH h c t = { h with res := false, resAt := 0#64, cause := andL c 9223372036854775871, epc := clrL h.pc 3, tval := t, status := orL (clrL (clrL (putW h.status 128 (((andL h.status 8).toNat : Int) != 0)) 8) 6144) (IntKind.u64.wrap (IntKind.u64.wrap (bits .and .i64 h.priv 3) * 2048)), priv := 3, pc := addK (clrL h.tvec 3) (numC c) })) :
    Calls Try.prog 14 #[.agg (hartC h), .int .u64 (c.toNat : Int), .int .u64 (t.toNat : Int)] w fun e w' => e = .returned (.agg (hartC (enterH h c t))) ∧ Below w.heap.size w w' := by
  go_enter Try.func14, Try.ntmps14
  go_wp2_with (go_at_call 41; refine (put_any _ _ _ _).mono ?_; rintro e w1 ⟨rfl, rfl⟩)
  exact ret_hart (b := w.heap.size + 1) rfl rfl (by simp [rowAt_alloc]; rfl) rfl ⟨by rw [he.out, p], by (repeat (refine Below.alloc ?_ (by simp <;> omega) _)); exact Below.refl _ _⟩

set_option maxHeartbeats 4000000 in
theorem renter_int_m1_d (h : Hart) (c t : BitVec 64) (w : World) (p : h.priv = 1) (d : bits .and .u64 ((h.ideleg.toNat : Int) / 2 ^ numC c) 1 = 0) (h3 : ((andL c 63).toNat : Int) = (numC c : Int)) (hn : numC c < 64) (c1 : (c.toNat : Int) / 9223372036854775808 = 1) (c2 : ((andL c 9223372036854775871).toNat : Int) / 9223372036854775808 = 1)
    (v : ((andL h.tvec 1).toNat : Int) = 0) (he : Hid (enterH h c t = { h with res := false, resAt := 0#64, cause := andL c 9223372036854775871, epc := clrL h.pc 3, tval := t, status := orL (clrL (clrL (putW h.status 128 (((andL h.status 8).toNat : Int) != 0)) 8) 6144) (IntKind.u64.wrap (IntKind.u64.wrap (bits .and .i64 h.priv 3) * 2048)), priv := 3, pc := clrL h.tvec 3 })) :
    Calls Try.prog 14 #[.agg (hartC h), .int .u64 (c.toNat : Int), .int .u64 (t.toNat : Int)] w fun e w' => e = .returned (.agg (hartC (enterH h c t))) ∧ Below w.heap.size w w' := by
  go_enter Try.func14, Try.ntmps14
  go_wp2_with (go_at_call 41; refine (put_any _ _ _ _).mono ?_; rintro e w1 ⟨rfl, rfl⟩)
  exact ret_hart (b := w.heap.size + 1) rfl rfl (by simp [rowAt_alloc]; rfl) rfl ⟨by rw [he.out, p], by (repeat (refine Below.alloc ?_ (by simp <;> omega) _)); exact Below.refl _ _⟩

set_option maxHeartbeats 4000000 in
theorem renter_int_mx_v (h : Hart) (c t : BitVec 64) (w : World) (p0 : ¬ h.priv = 0) (p1 : ¬ h.priv = 1) (h3 : ((andL c 63).toNat : Int) = (numC c : Int)) (hn : numC c < 64) (c1 : (c.toNat : Int) / 9223372036854775808 = 1) (c2 : ((andL c 9223372036854775871).toNat : Int) / 9223372036854775808 = 1)
    (v : ((andL h.tvec 1).toNat : Int) = 1) (he : Hid (enterH h c t = { h with res := false, resAt := 0#64, cause := andL c 9223372036854775871, epc := clrL h.pc 3, tval := t, status := orL (clrL (clrL (putW h.status 128 (((andL h.status 8).toNat : Int) != 0)) 8) 6144) (IntKind.u64.wrap (IntKind.u64.wrap (bits .and .i64 h.priv 3) * 2048)), priv := 3, pc := addK (clrL h.tvec 3) (numC c) })) :
    Calls Try.prog 14 #[.agg (hartC h), .int .u64 (c.toNat : Int), .int .u64 (t.toNat : Int)] w fun e w' => e = .returned (.agg (hartC (enterH h c t))) ∧ Below w.heap.size w w' := by
  go_enter Try.func14, Try.ntmps14
  go_wp2_with (go_at_call 41; refine (put_any _ _ _ _).mono ?_; rintro e w1 ⟨rfl, rfl⟩)
  exact ret_hart (b := w.heap.size + 1) rfl rfl (by simp [rowAt_alloc]; rfl) rfl ⟨by rw [he.out], by (repeat (refine Below.alloc ?_ (by simp <;> omega) _)); exact Below.refl _ _⟩

set_option maxHeartbeats 4000000 in
theorem renter_int_mx_d (h : Hart) (c t : BitVec 64) (w : World) (p0 : ¬ h.priv = 0) (p1 : ¬ h.priv = 1) (h3 : ((andL c 63).toNat : Int) = (numC c : Int)) (hn : numC c < 64) (c1 : (c.toNat : Int) / 9223372036854775808 = 1) (c2 : ((andL c 9223372036854775871).toNat : Int) / 9223372036854775808 = 1)
    (v : ((andL h.tvec 1).toNat : Int) = 0) (he : Hid (enterH h c t = { h with res := false, resAt := 0#64, cause := andL c 9223372036854775871, epc := clrL h.pc 3, tval := t, status := orL (clrL (clrL (putW h.status 128 (((andL h.status 8).toNat : Int) != 0)) 8) 6144) (IntKind.u64.wrap (IntKind.u64.wrap (bits .and .i64 h.priv 3) * 2048)), priv := 3, pc := clrL h.tvec 3 })) :
    Calls Try.prog 14 #[.agg (hartC h), .int .u64 (c.toNat : Int), .int .u64 (t.toNat : Int)] w fun e w' => e = .returned (.agg (hartC (enterH h c t))) ∧ Below w.heap.size w w' := by
  go_enter Try.func14, Try.ntmps14
  go_wp2_with (go_at_call 41; refine (put_any _ _ _ _).mono ?_; rintro e w1 ⟨rfl, rfl⟩)
  exact ret_hart (b := w.heap.size + 1) rfl rfl (by simp [rowAt_alloc]; rfl) rfl ⟨by rw [he.out], by (repeat (refine Below.alloc ?_ (by simp <;> omega) _)); exact Below.refl _ _⟩
end Go.Proofs.Ythijheijognhmaa
