/- Contracts of the document's way: a trap that is none of an interrupt; all put together. -/
import Derived.Test.YthijheijognhmaaTrapRef
namespace Go.Proofs.Ythijheijognhmaa
open Go.RowKit Wd
set_option linter.unusedVariables false
set_option linter.unusedSimpArgs false

attribute [local go_sem] zeroH_run hart_size hart_set_pc hart_get_pc hart_set_priv hart_get_priv hart_set_status hart_get_status hart_set_edeleg hart_get_edeleg hart_set_ideleg hart_get_ideleg hart_set_ie hart_get_ie hart_set_ip hart_get_ip hart_set_tvec hart_get_tvec hart_set_epc hart_get_epc hart_set_cause hart_get_cause hart_set_tval hart_get_tval hart_set_stvec hart_get_stvec hart_set_sepc hart_get_sepc hart_set_scause hart_get_scause hart_set_stval hart_get_stval hart_set_res hart_get_res hart_set_resAt hart_get_resAt hart_set_resAt0 loadR_hart storeR_hart rowAt_alloc rowAt_drew setRow_alloc_if and_L or_L clr_L addK_walk addK_walk2
attribute [local go_sem ↓] load_row store_row
set_option maxRecDepth 4000

set_option maxHeartbeats 4000000 in
theorem renter_exc_s0_v (h : Hart) (c t : BitVec 64) (w : World) (p : h.priv = 0) (d : bits .and .u64 ((h.edeleg.toNat : Int) / 2 ^ numC c) 1 = 1) (h3 : ((andL c 63).toNat : Int) = (numC c : Int)) (hn : numC c < 64) (c1 : (c.toNat : Int) / 9223372036854775808 = 0) (c2 : ((andL c 9223372036854775871).toNat : Int) / 9223372036854775808 = 0)
    (v : ((andL h.stvec 1).toNat : Int) = 1) (he : Hid (enterH h c t = { h with res := false, resAt := 0#64, scause := andL c 9223372036854775871, sepc := clrL h.pc 3, stval := t, status := putW (clrL (putW h.status 32 (((andL h.status 2).toNat : Int) != 0)) 2) 256 false, priv := 1, pc := clrL h.stvec 3 })) :
    Calls Try.prog 14 #[.agg (hartC h), .int .u64 (c.toNat : Int), .int .u64 (t.toNat : Int)] w fun e w' => e = .returned (.agg (hartC (enterH h c t))) ∧ Below w.heap.size w w' := by
  go_enter Try.func14, Try.ntmps14
  go_wp2_with (go_at_call 41; refine (put_any _ _ _ _).mono ?_; rintro e w1 ⟨rfl, rfl⟩)
  exact ret_hart (b := w.heap.size + 1) rfl rfl (by simp [rowAt_alloc]; rfl) rfl ⟨by rw [he.out], by (repeat (refine Below.alloc ?_ (by simp <;> omega) _)); exact Below.refl _ _⟩

set_option maxHeartbeats 4000000 in
theorem renter_exc_s0_d (h : Hart) (c t : BitVec 64) (w : World) (p : h.priv = 0) (d : bits .and .u64 ((h.edeleg.toNat : Int) / 2 ^ numC c) 1 = 1) (h3 : ((andL c 63).toNat : Int) = (numC c : Int)) (hn : numC c < 64) (c1 : (c.toNat : Int) / 9223372036854775808 = 0) (c2 : ((andL c 9223372036854775871).toNat : Int) / 9223372036854775808 = 0)
    (v : ((andL h.stvec 1).toNat : Int) = 0) (he : Hid (enterH h c t = { h with res := false, resAt := 0#64, scause := andL c 9223372036854775871, sepc := clrL h.pc 3, stval := t, status := putW (clrL (putW h.status 32 (((andL h.status 2).toNat : Int) != 0)) 2) 256 false, priv := 1, pc := clrL h.stvec 3 })) :
    Calls Try.prog 14 #[.agg (hartC h), .int .u64 (c.toNat : Int), .int .u64 (t.toNat : Int)] w fun e w' => e = .returned (.agg (hartC (enterH h c t))) ∧ Below w.heap.size w w' := by
  go_enter Try.func14, Try.ntmps14
  go_wp2_with (go_at_call 41; refine (put_any _ _ _ _).mono ?_; rintro e w1 ⟨rfl, rfl⟩)
  exact ret_hart (b := w.heap.size + 1) rfl rfl (by simp [rowAt_alloc]; rfl) rfl ⟨by rw [he.out], by (repeat (refine Below.alloc ?_ (by simp <;> omega) _)); exact Below.refl _ _⟩

set_option maxHeartbeats 4000000 in
theorem renter_exc_s1_v (h : Hart) (c t : BitVec 64) (w : World) (p : h.priv = 1) (d : bits .and .u64 ((h.edeleg.toNat : Int) / 2 ^ numC c) 1 = 1) (h3 : ((andL c 63).toNat : Int) = (numC c : Int)) (hn : numC c < 64) (c1 : (c.toNat : Int) / 9223372036854775808 = 0) (c2 : ((andL c 9223372036854775871).toNat : Int) / 9223372036854775808 = 0)
    (v : ((andL h.stvec 1).toNat : Int) = 1) (he : Hid (enterH h c t = { h with res := false, resAt := 0#64, scause := andL c 9223372036854775871, sepc := clrL h.pc 3, stval := t, status := putW (clrL (putW h.status 32 (((andL h.status 2).toNat : Int) != 0)) 2) 256 true, priv := 1, pc := clrL h.stvec 3 })) :
    Calls Try.prog 14 #[.agg (hartC h), .int .u64 (c.toNat : Int), .int .u64 (t.toNat : Int)] w fun e w' => e = .returned (.agg (hartC (enterH h c t))) ∧ Below w.heap.size w w' := by
  go_enter Try.func14, Try.ntmps14
  go_wp2_with (go_at_call 41; refine (put_any _ _ _ _).mono ?_; rintro e w1 ⟨rfl, rfl⟩)
  exact ret_hart (b := w.heap.size + 1) rfl rfl (by simp [rowAt_alloc]; rfl) rfl ⟨by rw [he.out], by (repeat (refine Below.alloc ?_ (by simp <;> omega) _)); exact Below.refl _ _⟩

set_option maxHeartbeats 4000000 in
theorem renter_exc_s1_d (h : Hart) (c t : BitVec 64) (w : World) (p : h.priv = 1) (d : bits .and .u64 ((h.edeleg.toNat : Int) / 2 ^ numC c) 1 = 1) (h3 : ((andL c 63).toNat : Int) = (numC c : Int)) (hn : numC c < 64) (c1 : (c.toNat : Int) / 9223372036854775808 = 0) (c2 : ((andL c 9223372036854775871).toNat : Int) / 9223372036854775808 = 0)
    (v : ((andL h.stvec 1).toNat : Int) = 0) (he : Hid (enterH h c t = { h with res := false, resAt := 0#64, scause := andL c 9223372036854775871, sepc := clrL h.pc 3, stval := t, status := putW (clrL (putW h.status 32 (((andL h.status 2).toNat : Int) != 0)) 2) 256 true, priv := 1, pc := clrL h.stvec 3 })) :
    Calls Try.prog 14 #[.agg (hartC h), .int .u64 (c.toNat : Int), .int .u64 (t.toNat : Int)] w fun e w' => e = .returned (.agg (hartC (enterH h c t))) ∧ Below w.heap.size w w' := by
  go_enter Try.func14, Try.ntmps14
  go_wp2_with (go_at_call 41; refine (put_any _ _ _ _).mono ?_; rintro e w1 ⟨rfl, rfl⟩)
  exact ret_hart (b := w.heap.size + 1) rfl rfl (by simp [rowAt_alloc]; rfl) rfl ⟨by rw [he.out], by (repeat (refine Below.alloc ?_ (by simp <;> omega) _)); exact Below.refl _ _⟩

set_option maxHeartbeats 4000000 in
theorem renter_exc_m0_v (h : Hart) (c t : BitVec 64) (w : World) (p : h.priv = 0) (d : bits .and .u64 ((h.edeleg.toNat : Int) / 2 ^ numC c) 1 = 0) (h3 : ((andL c 63).toNat : Int) = (numC c : Int)) (hn : numC c < 64) (c1 : (c.toNat : Int) / 9223372036854775808 = 0) (c2 : ((andL c 9223372036854775871).toNat : Int) / 9223372036854775808 = 0)
    (v : ((andL h.tvec 1).toNat : Int) = 1) (he : Hid (enterH h c t = { h with res := false, resAt := 0#64, cause := andL c 9223372036854775871, epc := clrL h.pc 3, tval := t, status := orL (clrL (clrL (putW h.status 128 (((andL h.status 8).toNat : Int) != 0)) 8) 6144) (IntKind.u64.wrap (IntKind.u64.wrap (bits .and .i64 h.priv 3) * 2048)), priv := 3, pc := clrL h.tvec 3 })) :
    Calls Try.prog 14 #[.agg (hartC h), .int .u64 (c.toNat : Int), .int .u64 (t.toNat : Int)] w fun e w' => e = .returned (.agg (hartC (enterH h c t))) ∧ Below w.heap.size w w' := by
  go_enter Try.func14, Try.ntmps14
  go_wp2_with (go_at_call 41; refine (put_any _ _ _ _).mono ?_; rintro e w1 ⟨rfl, rfl⟩)
  exact ret_hart (b := w.heap.size + 1) rfl rfl (by simp [rowAt_alloc]; rfl) rfl ⟨by rw [he.out, p], by (repeat (refine Below.alloc ?_ (by simp <;> omega) _)); exact Below.refl _ _⟩

set_option maxHeartbeats 4000000 in
theorem renter_exc_m0_d (h : Hart) (c t : BitVec 64) (w : World) (p : h.priv = 0) (d : bits .and .u64 ((h.edeleg.toNat : Int) / 2 ^ numC c) 1 = 0) (h3 : ((andL c 63).toNat : Int) = (numC c : Int)) (hn : numC c < 64) (c1 : (c.toNat : Int) / 9223372036854775808 = 0) (c2 : ((andL c 9223372036854775871).toNat : Int) / 9223372036854775808 = 0)
    (v : ((andL h.tvec 1).toNat : Int) = 0) (he : Hid (enterH h c t = { h with res := false, resAt := 0#64, cause := andL c 9223372036854775871, epc := clrL h.pc 3, tval := t, status := orL (clrL (clrL (putW h.status 128 (((andL h.status 8).toNat : Int) != 0)) 8) 6144) (IntKind.u64.wrap (IntKind.u64.wrap (bits .and .i64 h.priv 3) * 2048)), priv := 3, pc := clrL h.tvec 3 })) :
    Calls Try.prog 14 #[.agg (hartC h), .int .u64 (c.toNat : Int), .int .u64 (t.toNat : Int)] w fun e w' => e = .returned (.agg (hartC (enterH h c t))) ∧ Below w.heap.size w w' := by
  go_enter Try.func14, Try.ntmps14
  go_wp2_with (go_at_call 41; refine (put_any _ _ _ _).mono ?_; rintro e w1 ⟨rfl, rfl⟩)
  exact ret_hart (b := w.heap.size + 1) rfl rfl (by simp [rowAt_alloc]; rfl) rfl ⟨by rw [he.out, p], by (repeat (refine Below.alloc ?_ (by simp <;> omega) _)); exact Below.refl _ _⟩

set_option maxHeartbeats 4000000 in
theorem renter_exc_m1_v (h : Hart) (c t : BitVec 64) (w : World) (p : h.priv = 1) (d : bits .and .u64 ((h.edeleg.toNat : Int) / 2 ^ numC c) 1 = 0) (h3 : ((andL c 63).toNat : Int) = (numC c : Int)) (hn : numC c < 64) (c1 : (c.toNat : Int) / 9223372036854775808 = 0) (c2 : ((andL c 9223372036854775871).toNat : Int) / 9223372036854775808 = 0)
    (v : ((andL h.tvec 1).toNat : Int) = 1) (he : Hid (enterH h c t = { h with res := false, resAt := 0#64, cause := andL c 9223372036854775871, epc := clrL h.pc 3, tval := t, status := orL (clrL (clrL (putW h.status 128 (((andL h.status 8).toNat : Int) != 0)) 8) 6144) (IntKind.u64.wrap (IntKind.u64.wrap (bits .and .i64 h.priv 3) * 2048)), priv := 3, pc := clrL h.tvec 3 })) :
    Calls Try.prog 14 #[.agg (hartC h), .int .u64 (c.toNat : Int), .int .u64 (t.toNat : Int)] w fun e w' => e = .returned (.agg (hartC (enterH h c t))) ∧ Below w.heap.size w w' := by
  go_enter Try.func14, Try.ntmps14
  go_wp2_with (go_at_call 41; refine (put_any _ _ _ _).mono ?_; rintro e w1 ⟨rfl, rfl⟩)
  exact ret_hart (b := w.heap.size + 1) rfl rfl (by simp [rowAt_alloc]; rfl) rfl ⟨by rw [he.out, p], by (repeat (refine Below.alloc ?_ (by simp <;> omega) _)); exact Below.refl _ _⟩

set_option maxHeartbeats 4000000 in
theorem renter_exc_m1_d (h : Hart) (c t : BitVec 64) (w : World) (p : h.priv = 1) (d : bits .and .u64 ((h.edeleg.toNat : Int) / 2 ^ numC c) 1 = 0) (h3 : ((andL c 63).toNat : Int) = (numC c : Int)) (hn : numC c < 64) (c1 : (c.toNat : Int) / 9223372036854775808 = 0) (c2 : ((andL c 9223372036854775871).toNat : Int) / 9223372036854775808 = 0)
    (v : ((andL h.tvec 1).toNat : Int) = 0) (he : Hid (enterH h c t = { h with res := false, resAt := 0#64, cause := andL c 9223372036854775871, epc := clrL h.pc 3, tval := t, status := orL (clrL (clrL (putW h.status 128 (((andL h.status 8).toNat : Int) != 0)) 8) 6144) (IntKind.u64.wrap (IntKind.u64.wrap (bits .and .i64 h.priv 3) * 2048)), priv := 3, pc := clrL h.tvec 3 })) :
    Calls Try.prog 14 #[.agg (hartC h), .int .u64 (c.toNat : Int), .int .u64 (t.toNat : Int)] w fun e w' => e = .returned (.agg (hartC (enterH h c t))) ∧ Below w.heap.size w w' := by
  go_enter Try.func14, Try.ntmps14
  go_wp2_with (go_at_call 41; refine (put_any _ _ _ _).mono ?_; rintro e w1 ⟨rfl, rfl⟩)
  exact ret_hart (b := w.heap.size + 1) rfl rfl (by simp [rowAt_alloc]; rfl) rfl ⟨by rw [he.out, p], by (repeat (refine Below.alloc ?_ (by simp <;> omega) _)); exact Below.refl _ _⟩

set_option maxHeartbeats 4000000 in
theorem renter_exc_mx_v (h : Hart) (c t : BitVec 64) (w : World) (p0 : ¬ h.priv = 0) (p1 : ¬ h.priv = 1) (h3 : ((andL c 63).toNat : Int) = (numC c : Int)) (hn : numC c < 64) (c1 : (c.toNat : Int) / 9223372036854775808 = 0) (c2 : ((andL c 9223372036854775871).toNat : Int) / 9223372036854775808 = 0)
    (v : ((andL h.tvec 1).toNat : Int) = 1) (he : Hid (enterH h c t = { h with res := false, resAt := 0#64, cause := andL c 9223372036854775871, epc := clrL h.pc 3, tval := t, status := orL (clrL (clrL (putW h.status 128 (((andL h.status 8).toNat : Int) != 0)) 8) 6144) (IntKind.u64.wrap (IntKind.u64.wrap (bits .and .i64 h.priv 3) * 2048)), priv := 3, pc := clrL h.tvec 3 })) :
    Calls Try.prog 14 #[.agg (hartC h), .int .u64 (c.toNat : Int), .int .u64 (t.toNat : Int)] w fun e w' => e = .returned (.agg (hartC (enterH h c t))) ∧ Below w.heap.size w w' := by
  go_enter Try.func14, Try.ntmps14
  go_wp2_with (go_at_call 41; refine (put_any _ _ _ _).mono ?_; rintro e w1 ⟨rfl, rfl⟩)
  exact ret_hart (b := w.heap.size + 1) rfl rfl (by simp [rowAt_alloc]; rfl) rfl ⟨by rw [he.out], by (repeat (refine Below.alloc ?_ (by simp <;> omega) _)); exact Below.refl _ _⟩

set_option maxHeartbeats 4000000 in
theorem renter_exc_mx_d (h : Hart) (c t : BitVec 64) (w : World) (p0 : ¬ h.priv = 0) (p1 : ¬ h.priv = 1) (h3 : ((andL c 63).toNat : Int) = (numC c : Int)) (hn : numC c < 64) (c1 : (c.toNat : Int) / 9223372036854775808 = 0) (c2 : ((andL c 9223372036854775871).toNat : Int) / 9223372036854775808 = 0)
    (v : ((andL h.tvec 1).toNat : Int) = 0) (he : Hid (enterH h c t = { h with res := false, resAt := 0#64, cause := andL c 9223372036854775871, epc := clrL h.pc 3, tval := t, status := orL (clrL (clrL (putW h.status 128 (((andL h.status 8).toNat : Int) != 0)) 8) 6144) (IntKind.u64.wrap (IntKind.u64.wrap (bits .and .i64 h.priv 3) * 2048)), priv := 3, pc := clrL h.tvec 3 })) :
    Calls Try.prog 14 #[.agg (hartC h), .int .u64 (c.toNat : Int), .int .u64 (t.toNat : Int)] w fun e w' => e = .returned (.agg (hartC (enterH h c t))) ∧ Below w.heap.size w w' := by
  go_enter Try.func14, Try.ntmps14
  go_wp2_with (go_at_call 41; refine (put_any _ _ _ _).mono ?_; rintro e w1 ⟨rfl, rfl⟩)
  exact ret_hart (b := w.heap.size + 1) rfl rfl (by simp [rowAt_alloc]; rfl) rfl ⟨by rw [he.out], by (repeat (refine Below.alloc ?_ (by simp <;> omega) _)); exact Below.refl _ _⟩

namespace Wd
theorem st_S0 (h : Hart) (p : ¬ h.priv = 1) : (if h.priv = 1 then orL (clrL (moveW h.status 2 32) 258) 256 else clrL (moveW h.status 2 32) 258) = putW (clrL (putW h.status 32 (((andL h.status 2).toNat : Int) != 0)) 2) 256 false := by
  rw [if_neg p, putW_move, clr_two _ 2 256 258 (by decide)]
  rfl
theorem st_S1 (h : Hart) (p : h.priv = 1) : (if h.priv = 1 then orL (clrL (moveW h.status 2 32) 258) 256 else clrL (moveW h.status 2 32) 258) = putW (clrL (putW h.status 32 (((andL h.status 2).toNat : Int) != 0)) 2) 256 true := by
  rw [if_pos p, putW_move, clr_two _ 2 256 258 (by decide), clr_or]
  rfl
theorem st_M (h : Hart) : orL (clrL (moveW h.status 8 128) 6152) (mppI h.priv) = orL (clrL (clrL (putW h.status 128 (((andL h.status 8).toNat : Int) != 0)) 8) 6144) (IntKind.u64.wrap (IntKind.u64.wrap (bits .and .i64 h.priv 3) * 2048)) := by
  rw [putW_move, clr_two _ 8 6144 6152 (by decide), mpp_same]
theorem plc_on (vec c : BitVec 64) (h1 : vec.getLsbD 0 = true) (h2 : c.getLsbD 63 = true) : placeW vec c = addK (clrL vec 3) (numC c) := by unfold placeW; rw [h1, h2]; rfl
theorem plc_v (vec c : BitVec 64) (h1 : vec.getLsbD 0 = false) : placeW vec c = clrL vec 3 := by unfold placeW; rw [h1]; rfl
theorem plc_c (vec c : BitVec 64) (h2 : c.getLsbD 63 = false) : placeW vec c = clrL vec 3 := by unfold placeW; rw [h2, Bool.and_false]; rfl
end Wd

theorem renter_any (h : Hart) (c t : BitVec 64) : Mk Try.prog 14 #[.agg (hartC h), .int .u64 (c.toNat : Int), .int .u64 (t.toNat : Int)] (.agg (hartC (enterH h c t))) := by
  intro w
  have h3 := andL_63 c
  have hn := numC_lt c
  have c1 := top64 c
  have c2 := top64 (andL c 9223372036854775871)
  rw [kept_top] at c2
  have vS := andL_pow h.stvec 0 (by omega) 1 (by decide)
  have vM := andL_pow h.tvec 0 (by omega) 1 (by decide)
  have dI := and1_walk h.ideleg (numC c)
  have dE := and1_walk h.edeleg (numC c)
  cases hi : c.getLsbD 63 with
  | true =>
    rw [hi] at c1 c2
    simp only [if_true] at c1 c2
    have hd : degW h c = h.ideleg := by unfold degW; rw [hi]; rfl
    cases hb : bit h.ideleg (numC c) with
    | true =>
      rw [hb] at dI
      simp only [if_true] at dI
      by_cases p : h.priv = 0
      · have hg : enterH h c t = enterS h c t := if_pos (by unfold goesB; rw [hd, hb, show decide (h.priv = 0) = true from decide_eq_true p]; rfl)
        cases hv : h.stvec.getLsbD 0 with
        | true =>
          rw [hv] at vS
          simp only [if_true] at vS
          exact renter_int_s0_v h c t w p dI h3 hn c1 c2 vS (by show _ = _; rw [hg]; unfold enterS; rw [st_S0 h (by omega), plc_on _ _ hv hi])
        | false =>
          rw [hv] at vS
          simp only [Bool.false_eq_true, if_false] at vS
          exact renter_int_s0_d h c t w p dI h3 hn c1 c2 vS (by show _ = _; rw [hg]; unfold enterS; rw [st_S0 h (by omega), plc_v _ _ hv])
      · by_cases p1 : h.priv = 1
        · have p := p1
          have hg : enterH h c t = enterS h c t := if_pos (by unfold goesB; rw [hd, hb, show decide (h.priv = 1) = true from decide_eq_true p, Bool.or_true]; rfl)
          cases hv : h.stvec.getLsbD 0 with
          | true =>
            rw [hv] at vS
            simp only [if_true] at vS
            exact renter_int_s1_v h c t w p dI h3 hn c1 c2 vS (by show _ = _; rw [hg]; unfold enterS; rw [st_S1 h p, plc_on _ _ hv hi])
          | false =>
            rw [hv] at vS
            simp only [Bool.false_eq_true, if_false] at vS
            exact renter_int_s1_d h c t w p dI h3 hn c1 c2 vS (by show _ = _; rw [hg]; unfold enterS; rw [st_S1 h p, plc_v _ _ hv])
        · have p0 := p
          have hg : enterH h c t = enterM h c t := if_neg (by unfold goesB; rw [decide_eq_false p0, decide_eq_false p1]; simp)
          cases hv : h.tvec.getLsbD 0 with
          | true =>
            rw [hv] at vM
            simp only [if_true] at vM
            exact renter_int_mx_v h c t w p0 p1 h3 hn c1 c2 vM (by show _ = _; rw [hg]; unfold enterM; rw [st_M h, plc_on _ _ hv hi])
          | false =>
            rw [hv] at vM
            simp only [Bool.false_eq_true, if_false] at vM
            exact renter_int_mx_d h c t w p0 p1 h3 hn c1 c2 vM (by show _ = _; rw [hg]; unfold enterM; rw [st_M h, plc_v _ _ hv])
    | false =>
      rw [hb] at dI
      simp only [Bool.false_eq_true, if_false] at dI
      by_cases p : h.priv = 0
      · have hg : enterH h c t = enterM h c t := if_neg (by unfold goesB; rw [hd, hb, Bool.and_false]; simp)
        cases hv : h.tvec.getLsbD 0 with
        | true =>
          rw [hv] at vM
          simp only [if_true] at vM
          exact renter_int_m0_v h c t w p dI h3 hn c1 c2 vM (by show _ = _; rw [hg]; unfold enterM; rw [st_M h, plc_on _ _ hv hi])
        | false =>
          rw [hv] at vM
          simp only [Bool.false_eq_true, if_false] at vM
          exact renter_int_m0_d h c t w p dI h3 hn c1 c2 vM (by show _ = _; rw [hg]; unfold enterM; rw [st_M h, plc_v _ _ hv])
      · by_cases p1 : h.priv = 1
        · have p := p1
          have hg : enterH h c t = enterM h c t := if_neg (by unfold goesB; rw [hd, hb, Bool.and_false]; simp)
          cases hv : h.tvec.getLsbD 0 with
          | true =>
            rw [hv] at vM
            simp only [if_true] at vM
            exact renter_int_m1_v h c t w p dI h3 hn c1 c2 vM (by show _ = _; rw [hg]; unfold enterM; rw [st_M h, plc_on _ _ hv hi])
          | false =>
            rw [hv] at vM
            simp only [Bool.false_eq_true, if_false] at vM
            exact renter_int_m1_d h c t w p dI h3 hn c1 c2 vM (by show _ = _; rw [hg]; unfold enterM; rw [st_M h, plc_v _ _ hv])
        · have p0 := p
          have hg : enterH h c t = enterM h c t := if_neg (by unfold goesB; rw [decide_eq_false p0, decide_eq_false p1]; simp)
          cases hv : h.tvec.getLsbD 0 with
          | true =>
            rw [hv] at vM
            simp only [if_true] at vM
            exact renter_int_mx_v h c t w p0 p1 h3 hn c1 c2 vM (by show _ = _; rw [hg]; unfold enterM; rw [st_M h, plc_on _ _ hv hi])
          | false =>
            rw [hv] at vM
            simp only [Bool.false_eq_true, if_false] at vM
            exact renter_int_mx_d h c t w p0 p1 h3 hn c1 c2 vM (by show _ = _; rw [hg]; unfold enterM; rw [st_M h, plc_v _ _ hv])
  | false =>
    rw [hi] at c1 c2
    simp only [Bool.false_eq_true, if_false] at c1 c2
    have hd : degW h c = h.edeleg := by unfold degW; rw [hi]; rfl
    cases hb : bit h.edeleg (numC c) with
    | true =>
      rw [hb] at dE
      simp only [if_true] at dE
      by_cases p : h.priv = 0
      · have hg : enterH h c t = enterS h c t := if_pos (by unfold goesB; rw [hd, hb, show decide (h.priv = 0) = true from decide_eq_true p]; rfl)
        cases hv : h.stvec.getLsbD 0 with
        | true =>
          rw [hv] at vS
          simp only [if_true] at vS
          exact renter_exc_s0_v h c t w p dE h3 hn c1 c2 vS (by show _ = _; rw [hg]; unfold enterS; rw [st_S0 h (by omega), plc_c _ _ hi])
        | false =>
          rw [hv] at vS
          simp only [Bool.false_eq_true, if_false] at vS
          exact renter_exc_s0_d h c t w p dE h3 hn c1 c2 vS (by show _ = _; rw [hg]; unfold enterS; rw [st_S0 h (by omega), plc_c _ _ hi])
      · by_cases p1 : h.priv = 1
        · have p := p1
          have hg : enterH h c t = enterS h c t := if_pos (by unfold goesB; rw [hd, hb, show decide (h.priv = 1) = true from decide_eq_true p, Bool.or_true]; rfl)
          cases hv : h.stvec.getLsbD 0 with
          | true =>
            rw [hv] at vS
            simp only [if_true] at vS
            exact renter_exc_s1_v h c t w p dE h3 hn c1 c2 vS (by show _ = _; rw [hg]; unfold enterS; rw [st_S1 h p, plc_c _ _ hi])
          | false =>
            rw [hv] at vS
            simp only [Bool.false_eq_true, if_false] at vS
            exact renter_exc_s1_d h c t w p dE h3 hn c1 c2 vS (by show _ = _; rw [hg]; unfold enterS; rw [st_S1 h p, plc_c _ _ hi])
        · have p0 := p
          have hg : enterH h c t = enterM h c t := if_neg (by unfold goesB; rw [decide_eq_false p0, decide_eq_false p1]; simp)
          cases hv : h.tvec.getLsbD 0 with
          | true =>
            rw [hv] at vM
            simp only [if_true] at vM
            exact renter_exc_mx_v h c t w p0 p1 h3 hn c1 c2 vM (by show _ = _; rw [hg]; unfold enterM; rw [st_M h, plc_c _ _ hi])
          | false =>
            rw [hv] at vM
            simp only [Bool.false_eq_true, if_false] at vM
            exact renter_exc_mx_d h c t w p0 p1 h3 hn c1 c2 vM (by show _ = _; rw [hg]; unfold enterM; rw [st_M h, plc_c _ _ hi])
    | false =>
      rw [hb] at dE
      simp only [Bool.false_eq_true, if_false] at dE
      by_cases p : h.priv = 0
      · have hg : enterH h c t = enterM h c t := if_neg (by unfold goesB; rw [hd, hb, Bool.and_false]; simp)
        cases hv : h.tvec.getLsbD 0 with
        | true =>
          rw [hv] at vM
          simp only [if_true] at vM
          exact renter_exc_m0_v h c t w p dE h3 hn c1 c2 vM (by show _ = _; rw [hg]; unfold enterM; rw [st_M h, plc_c _ _ hi])
        | false =>
          rw [hv] at vM
          simp only [Bool.false_eq_true, if_false] at vM
          exact renter_exc_m0_d h c t w p dE h3 hn c1 c2 vM (by show _ = _; rw [hg]; unfold enterM; rw [st_M h, plc_c _ _ hi])
      · by_cases p1 : h.priv = 1
        · have p := p1
          have hg : enterH h c t = enterM h c t := if_neg (by unfold goesB; rw [hd, hb, Bool.and_false]; simp)
          cases hv : h.tvec.getLsbD 0 with
          | true =>
            rw [hv] at vM
            simp only [if_true] at vM
            exact renter_exc_m1_v h c t w p dE h3 hn c1 c2 vM (by show _ = _; rw [hg]; unfold enterM; rw [st_M h, plc_c _ _ hi])
          | false =>
            rw [hv] at vM
            simp only [Bool.false_eq_true, if_false] at vM
            exact renter_exc_m1_d h c t w p dE h3 hn c1 c2 vM (by show _ = _; rw [hg]; unfold enterM; rw [st_M h, plc_c _ _ hi])
        · have p0 := p
          have hg : enterH h c t = enterM h c t := if_neg (by unfold goesB; rw [decide_eq_false p0, decide_eq_false p1]; simp)
          cases hv : h.tvec.getLsbD 0 with
          | true =>
            rw [hv] at vM
            simp only [if_true] at vM
            exact renter_exc_mx_v h c t w p0 p1 h3 hn c1 c2 vM (by show _ = _; rw [hg]; unfold enterM; rw [st_M h, plc_c _ _ hi])
          | false =>
            rw [hv] at vM
            simp only [Bool.false_eq_true, if_false] at vM
            exact renter_exc_mx_d h c t w p0 p1 h3 hn c1 c2 vM (by show _ = _; rw [hg]; unfold enterM; rw [st_M h, plc_c _ _ hi])
end Go.Proofs.Ythijheijognhmaa
