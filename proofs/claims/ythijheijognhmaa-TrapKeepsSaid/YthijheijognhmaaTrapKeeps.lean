/- The law TrapKeeps, walked: each call answers true. -/
import Derived.Test.YthijheijognhmaaTrapLaws
import Derived.Test.YthijheijognhmaaTrapKeepsPlain
import Derived.Test.YthijheijognhmaaTrapMay
import Derived.Test.YthijheijognhmaaRow
namespace Go.Proofs.Ythijheijognhmaa
open Go.RowKit Wd
set_option linter.unusedVariables false
set_option linter.unusedSimpArgs false
theorem rowAt_alloc_lt (w : World) (o : Obj) (b : Nat) (h : b < w.heap.size) : rowAt (w.alloc o) b = rowAt w b := by
  unfold rowAt
  rw [heap_alloc_old w o h]
attribute [local go_sem] zeroH_run hart_size hart_set_pc hart_get_pc hart_set_priv hart_get_priv hart_set_status hart_get_status hart_set_edeleg hart_get_edeleg hart_set_ideleg hart_get_ideleg hart_set_ie hart_get_ie hart_set_ip hart_get_ip hart_set_tvec hart_get_tvec hart_set_epc hart_get_epc hart_set_cause hart_get_cause hart_set_tval hart_get_tval hart_set_stvec hart_get_stvec hart_set_sepc hart_get_sepc hart_set_scause hart_get_scause hart_set_stval hart_get_stval hart_set_res hart_get_res hart_set_resAt hart_get_resAt loadR_hart storeR_hart rowAt_alloc rowAt_drew setRow_alloc_if and_L or_L clr_L xor_L rowAt_alloc_lt loadCR_hart csrs_size csrs_of
attribute [local go_sem ↓] load_row store_row loadC_row
set_option maxRecDepth 4000
theorem field_H (k : Hart) (w : World) : (Instr.field 28 (.agg (hartC k)) 3).run Try.prog w = .ok (.agg (csrsC k)) w := by kernel_rfl
attribute [local go_sem ↓] field_H
theorem back_row {w w0 w' : World} {h : Hart} (h0 : w0 = w.alloc (.cells (hartC h) 28)) (hb : Below w0.heap.size w0 w') : (∀ o, w'.cell? ⟨w.heap.size, o, none⟩ = (hartC h)[o]?) ∧ w.heap.size < w'.heap.size ∧ rowAt w' w.heap.size = some (hartC h) := by
  subst h0
  have hr : rowAt w' w.heap.size = some (hartC h) := rowAt_below (by rw [rowAt_alloc, if_pos rfl]) hb
  refine ⟨fun o => cell_of_row w' _ o _ _ (0, 0) (rowAt_heap hr), ?_, hr⟩
  have := hb.size
  simp at this
  omega
theorem row_next {w w' : World} {b : Nat} {h : Hart} (hr : rowAt w b = some (hartC h)) (hb : Below w.heap.size w w') : (∀ o, w'.cell? ⟨b, o, none⟩ = (hartC h)[o]?) ∧ rowAt w' b = some (hartC h) := by
  have h2 := rowAt_below hr hb
  exact ⟨fun o => cell_of_row w' _ o _ _ (0, 0) (rowAt_heap h2), h2⟩

set_option maxHeartbeats 4000000 in
theorem keeps_no (h : Hart) (c t : BitVec 64) (w : World) (hm : Hid (mayC h = false))  :
    Calls Try.prog 9 #[.agg (hartC h), .int .u64 (c.toNat : Int), .int .u64 (t.toNat : Int)] w fun e w' => e = .returned (.bool true) ∧ Below w.heap.size w w' := by
  have hb := Below.refl (w.alloc (.cells (hartC h) 28)).heap.size (w.alloc (.cells (hartC h) 28))
  go_enter Try.func9, Try.ntmps9
  go_wp2_with fail
  refine ((awake_any).at hb).mono ?_
  clear hb
  rintro e w1 ⟨rfl, hb⟩
  obtain ⟨hcell, hz, hrow⟩ := back_row rfl hb
  go_wp2_with fail
  refine ((may_any h).at hb).mono ?_
  clear hb hcell hz hrow
  rintro e w2 ⟨rfl, hb⟩
  rw [hm.out]
  obtain ⟨hcell, hz, hrow⟩ := back_row rfl hb
  go_wp2_with fail
  refine ((awake_any).at hb).mono ?_
  rintro e w3 ⟨rfl, hb3⟩
  go_wp2_with fail
  go_ret
  exact ⟨rfl, below_alloc hb3⟩

set_option maxHeartbeats 4000000 in
theorem keeps_pc (h : Hart) (c t : BitVec 64) (w : World) (hm : Hid (mayC h = true)) (q : ¬ ((andL h.pc 3).toNat : Int) = 0) :
    Calls Try.prog 9 #[.agg (hartC h), .int .u64 (c.toNat : Int), .int .u64 (t.toNat : Int)] w fun e w' => e = .returned (.bool true) ∧ Below w.heap.size w w' := by
  have hb := Below.refl (w.alloc (.cells (hartC h) 28)).heap.size (w.alloc (.cells (hartC h) 28))
  go_enter Try.func9, Try.ntmps9
  go_wp2_with fail
  refine ((awake_any).at hb).mono ?_
  clear hb
  rintro e w1 ⟨rfl, hb⟩
  obtain ⟨hcell, hz, hrow⟩ := back_row rfl hb
  go_wp2_with fail
  refine ((may_any h).at hb).mono ?_
  clear hb hcell hz hrow
  rintro e w2 ⟨rfl, hb⟩
  rw [hm.out]
  obtain ⟨hcell, hz, hrow⟩ := back_row rfl hb
  go_wp2_with fail
  refine ((awake_any).at hb).mono ?_
  rintro e w3 ⟨rfl, hb3⟩
  go_wp2_with fail
  go_ret
  exact ⟨rfl, below_alloc hb3⟩

set_option maxHeartbeats 4000000 in
theorem keeps_lo (h : Hart) (c t : BitVec 64) (w : World) (hm : Hid (mayC h = true)) (q : ((andL h.pc 3).toNat : Int) = 0) (p : h.priv < 0) :
    Calls Try.prog 9 #[.agg (hartC h), .int .u64 (c.toNat : Int), .int .u64 (t.toNat : Int)] w fun e w' => e = .returned (.bool true) ∧ Below w.heap.size w w' := by
  have hb := Below.refl (w.alloc (.cells (hartC h) 28)).heap.size (w.alloc (.cells (hartC h) 28))
  go_enter Try.func9, Try.ntmps9
  go_wp2_with fail
  refine ((awake_any).at hb).mono ?_
  clear hb
  rintro e w1 ⟨rfl, hb⟩
  obtain ⟨hcell, hz, hrow⟩ := back_row rfl hb
  go_wp2_with fail
  refine ((may_any h).at hb).mono ?_
  clear hb hcell hz hrow
  rintro e w2 ⟨rfl, hb⟩
  rw [hm.out]
  obtain ⟨hcell, hz, hrow⟩ := back_row rfl hb
  go_wp2_with fail
  refine ((awake_any).at hb).mono ?_
  rintro e w3 ⟨rfl, hb3⟩
  go_wp2_with fail
  go_ret
  exact ⟨rfl, below_alloc hb3⟩

set_option maxHeartbeats 4000000 in
theorem keeps_hi (h : Hart) (c t : BitVec 64) (w : World) (hm : Hid (mayC h = true)) (q : ((andL h.pc 3).toNat : Int) = 0) (p : 3 < h.priv) :
    Calls Try.prog 9 #[.agg (hartC h), .int .u64 (c.toNat : Int), .int .u64 (t.toNat : Int)] w fun e w' => e = .returned (.bool true) ∧ Below w.heap.size w w' := by
  have hb := Below.refl (w.alloc (.cells (hartC h) 28)).heap.size (w.alloc (.cells (hartC h) 28))
  go_enter Try.func9, Try.ntmps9
  go_wp2_with fail
  refine ((awake_any).at hb).mono ?_
  clear hb
  rintro e w1 ⟨rfl, hb⟩
  obtain ⟨hcell, hz, hrow⟩ := back_row rfl hb
  go_wp2_with fail
  refine ((may_any h).at hb).mono ?_
  clear hb hcell hz hrow
  rintro e w2 ⟨rfl, hb⟩
  rw [hm.out]
  obtain ⟨hcell, hz, hrow⟩ := back_row rfl hb
  go_wp2_with fail
  refine ((awake_any).at hb).mono ?_
  rintro e w3 ⟨rfl, hb3⟩
  go_wp2_with fail
  go_ret
  exact ⟨rfl, below_alloc hb3⟩

set_option maxHeartbeats 4000000 in
theorem keeps_two (h : Hart) (c t : BitVec 64) (w : World) (hm : Hid (mayC h = true)) (q : ((andL h.pc 3).toNat : Int) = 0) (p : h.priv = 2) :
    Calls Try.prog 9 #[.agg (hartC h), .int .u64 (c.toNat : Int), .int .u64 (t.toNat : Int)] w fun e w' => e = .returned (.bool true) ∧ Below w.heap.size w w' := by
  have hb := Below.refl (w.alloc (.cells (hartC h) 28)).heap.size (w.alloc (.cells (hartC h) 28))
  go_enter Try.func9, Try.ntmps9
  go_wp2_with fail
  refine ((awake_any).at hb).mono ?_
  clear hb
  rintro e w1 ⟨rfl, hb⟩
  obtain ⟨hcell, hz, hrow⟩ := back_row rfl hb
  go_wp2_with fail
  refine ((may_any h).at hb).mono ?_
  clear hb hcell hz hrow
  rintro e w2 ⟨rfl, hb⟩
  rw [hm.out]
  obtain ⟨hcell, hz, hrow⟩ := back_row rfl hb
  go_wp2_with fail
  refine ((awake_any).at hb).mono ?_
  rintro e w3 ⟨rfl, hb3⟩
  go_wp2_with fail
  go_ret
  exact ⟨rfl, below_alloc hb3⟩

set_option maxHeartbeats 4000000 in
theorem keeps_S0 (h x : Hart) (c t : BitVec 64) (w : World) (hm : Hid (mayC h = true)) (q : ((andL h.pc 3).toNat : Int) = 0) (p : h.priv = 0) (hx : Hid (enterH h c t = x)) (mx : Hid (mayC x = true)) (my : Hid (mayC (mretH h) = true)) (mz : Hid (mayC (sretH h) = true)) (px : x.priv = 1) (xp : ((andL x.pc 3).toNat : Int) = 0) (x0 : x.epc = h.epc) (x1 : x.cause = h.cause) (x2 : x.tval = h.tval) (xs : ((andL (xorL x.status (h.status.toNat : Int)) 6280).toNat : Int) = 0) :
    Calls Try.prog 9 #[.agg (hartC h), .int .u64 (c.toNat : Int), .int .u64 (t.toNat : Int)] w fun e w' => e = .returned (.bool true) ∧ Below w.heap.size w w' := by
  have hb := Below.refl (w.alloc (.cells (hartC h) 28)).heap.size (w.alloc (.cells (hartC h) 28))
  go_enter Try.func9, Try.ntmps9
  go_wp2_with fail
  refine ((awake_any).at hb).mono ?_
  clear hb
  rintro e w1 ⟨rfl, hb⟩
  obtain ⟨hcell, hz, hrow⟩ := back_row rfl hb
  go_wp2_with fail
  refine ((may_any h).at hb).mono ?_
  clear hb hcell hz hrow
  rintro e w2 ⟨rfl, hb⟩
  rw [hm.out]
  obtain ⟨hcell, hz, hrow⟩ := back_row rfl hb
  go_wp2_with fail
  refine ((enter_any _ _ _).at hb).mono ?_
  rintro e w3 ⟨rfl, hb3⟩
  rw [hx.out]
  obtain ⟨hcell3, hz3, hrow3⟩ := back_row rfl hb3
  clear hcell hz hrow
  have hE := Lib.hid (below_alloc hb3)
  go_wp2_with fail
  refine (may_any x _).mono ?_
  rintro e w4 ⟨rfl, hb4⟩
  rw [mx.out]
  obtain ⟨xc4, xz4, xr4⟩ := back_row rfl hb4
  obtain ⟨hc4, hr4⟩ := row_next hrow3 (below_alloc hb4)
  have hE4 := Lib.hid (hE.out.trans ((below_alloc hb4).mono hE.out.size))
  have hz4 : w.heap.size < w4.heap.size := by omega
  clear hcell3 hrow3 hb4
  go_wp2_with fail
  refine (mret_any h _).mono ?_
  rintro e w5 ⟨rfl, hb5⟩
  obtain ⟨xc5, xr5⟩ := row_next xr4 hb5
  obtain ⟨hc5, hr5⟩ := row_next hr4 hb5
  have hE5 := Lib.hid (hE4.out.trans (hb5.mono hE4.out.size))
  have hz5 := hb5.size
  clear xc4 xr4 hc4 hr4 hb5
  go_wp2_with fail
  refine (may_any (mretH h) _).mono ?_
  rintro e w6 ⟨rfl, hb6⟩
  rw [my.out]
  obtain ⟨xc6, xr6⟩ := row_next xr5 hb6
  obtain ⟨hc6, hr6⟩ := row_next hr5 hb6
  have hE6 := Lib.hid (hE5.out.trans (hb6.mono hE5.out.size))
  have hz6 := hb6.size
  clear xc5 xr5 hc5 hr5 hb6
  go_wp2_with fail
  refine (sret_any h _).mono ?_
  rintro e w7 ⟨rfl, hb7⟩
  obtain ⟨xc7, xr7⟩ := row_next xr6 hb7
  obtain ⟨hc7, hr7⟩ := row_next hr6 hb7
  have hE7 := Lib.hid (hE6.out.trans (hb7.mono hE6.out.size))
  have hz7 := hb7.size
  clear xc6 xr6 hc6 hr6 hb7
  go_wp2_with fail
  refine (may_any (sretH h) _).mono ?_
  rintro e w8 ⟨rfl, hb8⟩
  rw [mz.out]
  obtain ⟨xc8, xr8⟩ := row_next xr7 hb8
  obtain ⟨hc8, hr8⟩ := row_next hr7 hb8
  have hE8 := Lib.hid (hE7.out.trans (hb8.mono hE7.out.size))
  have hz8 := hb8.size
  clear xc7 xr7 hc7 hr7 hb8
  go_wp2_with fail
  go_ret
  exact ⟨rfl, hE8.out⟩

set_option maxHeartbeats 4000000 in
theorem keeps_S1 (h x : Hart) (c t : BitVec 64) (w : World) (hm : Hid (mayC h = true)) (q : ((andL h.pc 3).toNat : Int) = 0) (p : h.priv = 1) (hx : Hid (enterH h c t = x)) (mx : Hid (mayC x = true)) (my : Hid (mayC (mretH h) = true)) (mz : Hid (mayC (sretH h) = true)) (px : x.priv = 1) (xp : ((andL x.pc 3).toNat : Int) = 0) (x0 : x.epc = h.epc) (x1 : x.cause = h.cause) (x2 : x.tval = h.tval) (xs : ((andL (xorL x.status (h.status.toNat : Int)) 6280).toNat : Int) = 0) :
    Calls Try.prog 9 #[.agg (hartC h), .int .u64 (c.toNat : Int), .int .u64 (t.toNat : Int)] w fun e w' => e = .returned (.bool true) ∧ Below w.heap.size w w' := by
  have hb := Below.refl (w.alloc (.cells (hartC h) 28)).heap.size (w.alloc (.cells (hartC h) 28))
  go_enter Try.func9, Try.ntmps9
  go_wp2_with fail
  refine ((awake_any).at hb).mono ?_
  clear hb
  rintro e w1 ⟨rfl, hb⟩
  obtain ⟨hcell, hz, hrow⟩ := back_row rfl hb
  go_wp2_with fail
  refine ((may_any h).at hb).mono ?_
  clear hb hcell hz hrow
  rintro e w2 ⟨rfl, hb⟩
  rw [hm.out]
  obtain ⟨hcell, hz, hrow⟩ := back_row rfl hb
  go_wp2_with fail
  refine ((enter_any _ _ _).at hb).mono ?_
  rintro e w3 ⟨rfl, hb3⟩
  rw [hx.out]
  obtain ⟨hcell3, hz3, hrow3⟩ := back_row rfl hb3
  clear hcell hz hrow
  have hE := Lib.hid (below_alloc hb3)
  go_wp2_with fail
  refine (may_any x _).mono ?_
  rintro e w4 ⟨rfl, hb4⟩
  rw [mx.out]
  obtain ⟨xc4, xz4, xr4⟩ := back_row rfl hb4
  obtain ⟨hc4, hr4⟩ := row_next hrow3 (below_alloc hb4)
  have hE4 := Lib.hid (hE.out.trans ((below_alloc hb4).mono hE.out.size))
  have hz4 : w.heap.size < w4.heap.size := by omega
  clear hcell3 hrow3 hb4
  go_wp2_with fail
  refine (mret_any h _).mono ?_
  rintro e w5 ⟨rfl, hb5⟩
  obtain ⟨xc5, xr5⟩ := row_next xr4 hb5
  obtain ⟨hc5, hr5⟩ := row_next hr4 hb5
  have hE5 := Lib.hid (hE4.out.trans (hb5.mono hE4.out.size))
  have hz5 := hb5.size
  clear xc4 xr4 hc4 hr4 hb5
  go_wp2_with fail
  refine (may_any (mretH h) _).mono ?_
  rintro e w6 ⟨rfl, hb6⟩
  rw [my.out]
  obtain ⟨xc6, xr6⟩ := row_next xr5 hb6
  obtain ⟨hc6, hr6⟩ := row_next hr5 hb6
  have hE6 := Lib.hid (hE5.out.trans (hb6.mono hE5.out.size))
  have hz6 := hb6.size
  clear xc5 xr5 hc5 hr5 hb6
  go_wp2_with fail
  refine (sret_any h _).mono ?_
  rintro e w7 ⟨rfl, hb7⟩
  obtain ⟨xc7, xr7⟩ := row_next xr6 hb7
  obtain ⟨hc7, hr7⟩ := row_next hr6 hb7
  have hE7 := Lib.hid (hE6.out.trans (hb7.mono hE6.out.size))
  have hz7 := hb7.size
  clear xc6 xr6 hc6 hr6 hb7
  go_wp2_with fail
  refine (may_any (sretH h) _).mono ?_
  rintro e w8 ⟨rfl, hb8⟩
  rw [mz.out]
  obtain ⟨xc8, xr8⟩ := row_next xr7 hb8
  obtain ⟨hc8, hr8⟩ := row_next hr7 hb8
  have hE8 := Lib.hid (hE7.out.trans (hb8.mono hE7.out.size))
  have hz8 := hb8.size
  clear xc7 xr7 hc7 hr7 hb8
  go_wp2_with fail
  go_ret
  exact ⟨rfl, hE8.out⟩

set_option maxHeartbeats 4000000 in
theorem keeps_M0 (h x : Hart) (c t : BitVec 64) (w : World) (hm : Hid (mayC h = true)) (q : ((andL h.pc 3).toNat : Int) = 0) (p : h.priv = 0) (hx : Hid (enterH h c t = x)) (mx : Hid (mayC x = true)) (my : Hid (mayC (mretH h) = true)) (mz : Hid (mayC (sretH h) = true)) (px : x.priv = 3) (xp : ((andL x.pc 3).toNat : Int) = 0) (x0 : x.sepc = h.sepc) (x1 : x.scause = h.scause) (x2 : x.stval = h.stval) (xs : ((andL (xorL x.status (h.status.toNat : Int)) 290).toNat : Int) = 0) :
    Calls Try.prog 9 #[.agg (hartC h), .int .u64 (c.toNat : Int), .int .u64 (t.toNat : Int)] w fun e w' => e = .returned (.bool true) ∧ Below w.heap.size w w' := by
  have hb := Below.refl (w.alloc (.cells (hartC h) 28)).heap.size (w.alloc (.cells (hartC h) 28))
  go_enter Try.func9, Try.ntmps9
  go_wp2_with fail
  refine ((awake_any).at hb).mono ?_
  clear hb
  rintro e w1 ⟨rfl, hb⟩
  obtain ⟨hcell, hz, hrow⟩ := back_row rfl hb
  go_wp2_with fail
  refine ((may_any h).at hb).mono ?_
  clear hb hcell hz hrow
  rintro e w2 ⟨rfl, hb⟩
  rw [hm.out]
  obtain ⟨hcell, hz, hrow⟩ := back_row rfl hb
  go_wp2_with fail
  refine ((enter_any _ _ _).at hb).mono ?_
  rintro e w3 ⟨rfl, hb3⟩
  rw [hx.out]
  obtain ⟨hcell3, hz3, hrow3⟩ := back_row rfl hb3
  clear hcell hz hrow
  have hE := Lib.hid (below_alloc hb3)
  go_wp2_with fail
  refine (may_any x _).mono ?_
  rintro e w4 ⟨rfl, hb4⟩
  rw [mx.out]
  obtain ⟨xc4, xz4, xr4⟩ := back_row rfl hb4
  obtain ⟨hc4, hr4⟩ := row_next hrow3 (below_alloc hb4)
  have hE4 := Lib.hid (hE.out.trans ((below_alloc hb4).mono hE.out.size))
  have hz4 : w.heap.size < w4.heap.size := by omega
  clear hcell3 hrow3 hb4
  go_wp2_with fail
  refine (mret_any h _).mono ?_
  rintro e w5 ⟨rfl, hb5⟩
  obtain ⟨xc5, xr5⟩ := row_next xr4 hb5
  obtain ⟨hc5, hr5⟩ := row_next hr4 hb5
  have hE5 := Lib.hid (hE4.out.trans (hb5.mono hE4.out.size))
  have hz5 := hb5.size
  clear xc4 xr4 hc4 hr4 hb5
  go_wp2_with fail
  refine (may_any (mretH h) _).mono ?_
  rintro e w6 ⟨rfl, hb6⟩
  rw [my.out]
  obtain ⟨xc6, xr6⟩ := row_next xr5 hb6
  obtain ⟨hc6, hr6⟩ := row_next hr5 hb6
  have hE6 := Lib.hid (hE5.out.trans (hb6.mono hE5.out.size))
  have hz6 := hb6.size
  clear xc5 xr5 hc5 hr5 hb6
  go_wp2_with fail
  refine (sret_any h _).mono ?_
  rintro e w7 ⟨rfl, hb7⟩
  obtain ⟨xc7, xr7⟩ := row_next xr6 hb7
  obtain ⟨hc7, hr7⟩ := row_next hr6 hb7
  have hE7 := Lib.hid (hE6.out.trans (hb7.mono hE6.out.size))
  have hz7 := hb7.size
  clear xc6 xr6 hc6 hr6 hb7
  go_wp2_with fail
  refine (may_any (sretH h) _).mono ?_
  rintro e w8 ⟨rfl, hb8⟩
  rw [mz.out]
  obtain ⟨xc8, xr8⟩ := row_next xr7 hb8
  obtain ⟨hc8, hr8⟩ := row_next hr7 hb8
  have hE8 := Lib.hid (hE7.out.trans (hb8.mono hE7.out.size))
  have hz8 := hb8.size
  clear xc7 xr7 hc7 hr7 hb8
  go_wp2_with fail
  go_ret
  exact ⟨rfl, hE8.out⟩

set_option maxHeartbeats 4000000 in
theorem keeps_M1 (h x : Hart) (c t : BitVec 64) (w : World) (hm : Hid (mayC h = true)) (q : ((andL h.pc 3).toNat : Int) = 0) (p : h.priv = 1) (hx : Hid (enterH h c t = x)) (mx : Hid (mayC x = true)) (my : Hid (mayC (mretH h) = true)) (mz : Hid (mayC (sretH h) = true)) (px : x.priv = 3) (xp : ((andL x.pc 3).toNat : Int) = 0) (x0 : x.sepc = h.sepc) (x1 : x.scause = h.scause) (x2 : x.stval = h.stval) (xs : ((andL (xorL x.status (h.status.toNat : Int)) 290).toNat : Int) = 0) :
    Calls Try.prog 9 #[.agg (hartC h), .int .u64 (c.toNat : Int), .int .u64 (t.toNat : Int)] w fun e w' => e = .returned (.bool true) ∧ Below w.heap.size w w' := by
  have hb := Below.refl (w.alloc (.cells (hartC h) 28)).heap.size (w.alloc (.cells (hartC h) 28))
  go_enter Try.func9, Try.ntmps9
  go_wp2_with fail
  refine ((awake_any).at hb).mono ?_
  clear hb
  rintro e w1 ⟨rfl, hb⟩
  obtain ⟨hcell, hz, hrow⟩ := back_row rfl hb
  go_wp2_with fail
  refine ((may_any h).at hb).mono ?_
  clear hb hcell hz hrow
  rintro e w2 ⟨rfl, hb⟩
  rw [hm.out]
  obtain ⟨hcell, hz, hrow⟩ := back_row rfl hb
  go_wp2_with fail
  refine ((enter_any _ _ _).at hb).mono ?_
  rintro e w3 ⟨rfl, hb3⟩
  rw [hx.out]
  obtain ⟨hcell3, hz3, hrow3⟩ := back_row rfl hb3
  clear hcell hz hrow
  have hE := Lib.hid (below_alloc hb3)
  go_wp2_with fail
  refine (may_any x _).mono ?_
  rintro e w4 ⟨rfl, hb4⟩
  rw [mx.out]
  obtain ⟨xc4, xz4, xr4⟩ := back_row rfl hb4
  obtain ⟨hc4, hr4⟩ := row_next hrow3 (below_alloc hb4)
  have hE4 := Lib.hid (hE.out.trans ((below_alloc hb4).mono hE.out.size))
  have hz4 : w.heap.size < w4.heap.size := by omega
  clear hcell3 hrow3 hb4
  go_wp2_with fail
  refine (mret_any h _).mono ?_
  rintro e w5 ⟨rfl, hb5⟩
  obtain ⟨xc5, xr5⟩ := row_next xr4 hb5
  obtain ⟨hc5, hr5⟩ := row_next hr4 hb5
  have hE5 := Lib.hid (hE4.out.trans (hb5.mono hE4.out.size))
  have hz5 := hb5.size
  clear xc4 xr4 hc4 hr4 hb5
  go_wp2_with fail
  refine (may_any (mretH h) _).mono ?_
  rintro e w6 ⟨rfl, hb6⟩
  rw [my.out]
  obtain ⟨xc6, xr6⟩ := row_next xr5 hb6
  obtain ⟨hc6, hr6⟩ := row_next hr5 hb6
  have hE6 := Lib.hid (hE5.out.trans (hb6.mono hE5.out.size))
  have hz6 := hb6.size
  clear xc5 xr5 hc5 hr5 hb6
  go_wp2_with fail
  refine (sret_any h _).mono ?_
  rintro e w7 ⟨rfl, hb7⟩
  obtain ⟨xc7, xr7⟩ := row_next xr6 hb7
  obtain ⟨hc7, hr7⟩ := row_next hr6 hb7
  have hE7 := Lib.hid (hE6.out.trans (hb7.mono hE6.out.size))
  have hz7 := hb7.size
  clear xc6 xr6 hc6 hr6 hb7
  go_wp2_with fail
  refine (may_any (sretH h) _).mono ?_
  rintro e w8 ⟨rfl, hb8⟩
  rw [mz.out]
  obtain ⟨xc8, xr8⟩ := row_next xr7 hb8
  obtain ⟨hc8, hr8⟩ := row_next hr7 hb8
  have hE8 := Lib.hid (hE7.out.trans (hb8.mono hE7.out.size))
  have hz8 := hb8.size
  clear xc7 xr7 hc7 hr7 hb8
  go_wp2_with fail
  go_ret
  exact ⟨rfl, hE8.out⟩

set_option maxHeartbeats 4000000 in
theorem keeps_M3 (h x : Hart) (c t : BitVec 64) (w : World) (hm : Hid (mayC h = true)) (q : ((andL h.pc 3).toNat : Int) = 0) (p : h.priv = 3) (hx : Hid (enterH h c t = x)) (mx : Hid (mayC x = true)) (my : Hid (mayC (mretH h) = true)) (mz : Hid (mayC (sretH h) = true)) (px : x.priv = 3) (xp : ((andL x.pc 3).toNat : Int) = 0) (x0 : x.sepc = h.sepc) (x1 : x.scause = h.scause) (x2 : x.stval = h.stval) (xs : ((andL (xorL x.status (h.status.toNat : Int)) 290).toNat : Int) = 0) :
    Calls Try.prog 9 #[.agg (hartC h), .int .u64 (c.toNat : Int), .int .u64 (t.toNat : Int)] w fun e w' => e = .returned (.bool true) ∧ Below w.heap.size w w' := by
  have hb := Below.refl (w.alloc (.cells (hartC h) 28)).heap.size (w.alloc (.cells (hartC h) 28))
  go_enter Try.func9, Try.ntmps9
  go_wp2_with fail
  refine ((awake_any).at hb).mono ?_
  clear hb
  rintro e w1 ⟨rfl, hb⟩
  obtain ⟨hcell, hz, hrow⟩ := back_row rfl hb
  go_wp2_with fail
  refine ((may_any h).at hb).mono ?_
  clear hb hcell hz hrow
  rintro e w2 ⟨rfl, hb⟩
  rw [hm.out]
  obtain ⟨hcell, hz, hrow⟩ := back_row rfl hb
  go_wp2_with fail
  refine ((enter_any _ _ _).at hb).mono ?_
  rintro e w3 ⟨rfl, hb3⟩
  rw [hx.out]
  obtain ⟨hcell3, hz3, hrow3⟩ := back_row rfl hb3
  clear hcell hz hrow
  have hE := Lib.hid (below_alloc hb3)
  go_wp2_with fail
  refine (may_any x _).mono ?_
  rintro e w4 ⟨rfl, hb4⟩
  rw [mx.out]
  obtain ⟨xc4, xz4, xr4⟩ := back_row rfl hb4
  obtain ⟨hc4, hr4⟩ := row_next hrow3 (below_alloc hb4)
  have hE4 := Lib.hid (hE.out.trans ((below_alloc hb4).mono hE.out.size))
  have hz4 : w.heap.size < w4.heap.size := by omega
  clear hcell3 hrow3 hb4
  go_wp2_with fail
  refine (mret_any h _).mono ?_
  rintro e w5 ⟨rfl, hb5⟩
  obtain ⟨xc5, xr5⟩ := row_next xr4 hb5
  obtain ⟨hc5, hr5⟩ := row_next hr4 hb5
  have hE5 := Lib.hid (hE4.out.trans (hb5.mono hE4.out.size))
  have hz5 := hb5.size
  clear xc4 xr4 hc4 hr4 hb5
  go_wp2_with fail
  refine (may_any (mretH h) _).mono ?_
  rintro e w6 ⟨rfl, hb6⟩
  rw [my.out]
  obtain ⟨xc6, xr6⟩ := row_next xr5 hb6
  obtain ⟨hc6, hr6⟩ := row_next hr5 hb6
  have hE6 := Lib.hid (hE5.out.trans (hb6.mono hE5.out.size))
  have hz6 := hb6.size
  clear xc5 xr5 hc5 hr5 hb6
  go_wp2_with fail
  refine (sret_any h _).mono ?_
  rintro e w7 ⟨rfl, hb7⟩
  obtain ⟨xc7, xr7⟩ := row_next xr6 hb7
  obtain ⟨hc7, hr7⟩ := row_next hr6 hb7
  have hE7 := Lib.hid (hE6.out.trans (hb7.mono hE6.out.size))
  have hz7 := hb7.size
  clear xc6 xr6 hc6 hr6 hb7
  go_wp2_with fail
  refine (may_any (sretH h) _).mono ?_
  rintro e w8 ⟨rfl, hb8⟩
  rw [mz.out]
  obtain ⟨xc8, xr8⟩ := row_next xr7 hb8
  obtain ⟨hc8, hr8⟩ := row_next hr7 hb8
  have hE8 := Lib.hid (hE7.out.trans (hb8.mono hE7.out.size))
  have hz8 := hb8.size
  clear xc7 xr7 hc7 hr7 hb8
  go_wp2_with fail
  go_ret
  exact ⟨rfl, hE8.out⟩

theorem trapKeeps_walk (h : Hart) (c t : BitVec 64) (w : World) :
    Calls Try.prog 9 #[.agg (hartC h), .int .u64 (c.toNat : Int), .int .u64 (t.toNat : Int)] w fun e w' => e = .returned (.bool true) ∧ Below w.heap.size w w' := by
  cases m : mayC h with
  | false => exact keeps_no h c t w m
  | true =>
    by_cases q : ((andL h.pc 3).toNat : Int) = 0
    · have my := may_mret h m
      have mz := may_sret h m
      by_cases pp : h.priv = 0 ∨ h.priv = 1 ∨ h.priv = 3
      · cases g : goesB h c with
        | true =>
          have e : enterH h c t = enterS h c t := if_pos g
          have mx := may_S h c t m
          have xs := same_S h c t
          have xp : ((andL (enterS h c t).pc 3).toNat : Int) = 0 := place_3 h.stvec c
          rcases goes_priv h c g with p | p
          · exact keeps_S0 h _ c t w m q p e mx my mz rfl xp rfl rfl rfl xs
          · exact keeps_S1 h _ c t w m q p e mx my mz rfl xp rfl rfl rfl xs
        | false =>
          have e : enterH h c t = enterM h c t := if_neg (by rw [g]; simp)
          have mx := may_M h c t m pp
          have xs := same_M h c t pp
          have xp : ((andL (enterM h c t).pc 3).toNat : Int) = 0 := place_3 h.tvec c
          rcases pp with p | p | p
          · exact keeps_M0 h _ c t w m q p e mx my mz rfl xp rfl rfl rfl xs
          · exact keeps_M1 h _ c t w m q p e mx my mz rfl xp rfl rfl rfl xs
          · exact keeps_M3 h _ c t w m q p e mx my mz rfl xp rfl rfl rfl xs
      · by_cases lo : h.priv < 0
        · exact keeps_lo h c t w m q lo
        · by_cases hi : 3 < h.priv
          · exact keeps_hi h c t w m q hi
          · exact keeps_two h c t w m q (by omega)
    · exact keeps_pc h c t w m q
theorem trapKeeps_cells (cs : Array Value) (hc : Flat.All2 leafH cs.toList) (c : Int) (wc : (Lit.int .u64 c).wf = true) (t : Int) (wt : (Lit.int .u64 t).wf = true) (w : World) :
    Calls Try.prog 9 #[.agg cs, .int .u64 c, .int .u64 t] w fun e w' => e = .returned (.bool true) ∧ Below w.heap.size w w' := by
  obtain ⟨k, rfl, _⟩ := hart_of hc
  obtain ⟨c, rfl⟩ := u64_bv wc
  obtain ⟨t, rfl⟩ := u64_bv wt
  exact trapKeeps_walk k c t w
end Go.Proofs.Ythijheijognhmaa
