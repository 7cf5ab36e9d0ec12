/- The law TrapBack, walked: each call answers true. -/
import Derived.Test.YthijheijognhmaaTrapLaws
import Derived.Test.YthijheijognhmaaTrapBackPlain
import Derived.Test.YthijheijognhmaaRow
namespace Go.Proofs.Ythijheijognhmaa
open Go.RowKit Wd
set_option linter.unusedVariables false
set_option linter.unusedSimpArgs false
namespace Wd
def xL (h : Hart) : List Value := [.int .u64 ((h.x 0).toNat : Int), .int .u64 ((h.x 1).toNat : Int), .int .u64 ((h.x 2).toNat : Int), .int .u64 ((h.x 3).toNat : Int), .int .u64 ((h.x 4).toNat : Int), .int .u64 ((h.x 5).toNat : Int), .int .u64 ((h.x 6).toNat : Int), .int .u64 ((h.x 7).toNat : Int), .int .u64 ((h.x 8).toNat : Int), .int .u64 ((h.x 9).toNat : Int), .int .u64 ((h.x 10).toNat : Int), .int .u64 ((h.x 11).toNat : Int), .int .u64 ((h.x 12).toNat : Int), .int .u64 ((h.x 13).toNat : Int), .int .u64 ((h.x 14).toNat : Int), .int .u64 ((h.x 15).toNat : Int), .int .u64 ((h.x 16).toNat : Int), .int .u64 ((h.x 17).toNat : Int), .int .u64 ((h.x 18).toNat : Int), .int .u64 ((h.x 19).toNat : Int), .int .u64 ((h.x 20).toNat : Int), .int .u64 ((h.x 21).toNat : Int), .int .u64 ((h.x 22).toNat : Int), .int .u64 ((h.x 23).toNat : Int), .int .u64 ((h.x 24).toNat : Int), .int .u64 ((h.x 25).toNat : Int), .int .u64 ((h.x 26).toNat : Int), .int .u64 ((h.x 27).toNat : Int), .int .u64 ((h.x 28).toNat : Int), .int .u64 ((h.x 29).toNat : Int), .int .u64 ((h.x 30).toNat : Int), .int .u64 ((h.x 31).toNat : Int)]
def xC (h : Hart) : Array Value := (xL h).toArray
end Wd
theorem x_of (h : Hart) : (hartC h).extract 2 34 = xC h := by
  unfold hartC xC
  rw [List.extract_toArray]
  exact congrArg List.toArray rfl
theorem load_x (w : World) (b : Nat) : (loadCellsFrom ⟨b, 2, none⟩ 0 32 #[]).run Try.prog w = loadN w b 2 32 (rowC w b) := loadN_run w b 2 32
theorem loadN_x (w : World) (b : Nat) (h : Hart) : loadN w b 2 32 (some (hartC h)) = .ok (xC h) w := by
  rw [loadN_some w b 2 32 (hartC h) (by rw [hart_size]; omega)]
  show Result.ok ((hartC h).extract 2 34) w = _
  rw [x_of]
theorem keyX : Try.prog.keyTypeAt 6 23 = true := by kernel_rfl
def xlits (h : Hart) : List Lit := [.int .u64 ((h.x 0).toNat : Int), .int .u64 ((h.x 1).toNat : Int), .int .u64 ((h.x 2).toNat : Int), .int .u64 ((h.x 3).toNat : Int), .int .u64 ((h.x 4).toNat : Int), .int .u64 ((h.x 5).toNat : Int), .int .u64 ((h.x 6).toNat : Int), .int .u64 ((h.x 7).toNat : Int), .int .u64 ((h.x 8).toNat : Int), .int .u64 ((h.x 9).toNat : Int), .int .u64 ((h.x 10).toNat : Int), .int .u64 ((h.x 11).toNat : Int), .int .u64 ((h.x 12).toNat : Int), .int .u64 ((h.x 13).toNat : Int), .int .u64 ((h.x 14).toNat : Int), .int .u64 ((h.x 15).toNat : Int), .int .u64 ((h.x 16).toNat : Int), .int .u64 ((h.x 17).toNat : Int), .int .u64 ((h.x 18).toNat : Int), .int .u64 ((h.x 19).toNat : Int), .int .u64 ((h.x 20).toNat : Int), .int .u64 ((h.x 21).toNat : Int), .int .u64 ((h.x 22).toNat : Int), .int .u64 ((h.x 23).toNat : Int), .int .u64 ((h.x 24).toNat : Int), .int .u64 ((h.x 25).toNat : Int), .int .u64 ((h.x 26).toNat : Int), .int .u64 ((h.x 27).toNat : Int), .int .u64 ((h.x 28).toNat : Int), .int .u64 ((h.x 29).toNat : Int), .int .u64 ((h.x 30).toNat : Int), .int .u64 ((h.x 31).toNat : Int)]
theorem xlits_of (h : Hart) : Try.prog.keyLits 6 23 (xL h) = some (xlits h) := kl_32 4 (h.x 0) (h.x 1) (h.x 2) (h.x 3) (h.x 4) (h.x 5) (h.x 6) (h.x 7) (h.x 8) (h.x 9) (h.x 10) (h.x 11) (h.x 12) (h.x 13) (h.x 14) (h.x 15) (h.x 16) (h.x 17) (h.x 18) (h.x 19) (h.x 20) (h.x 21) (h.x 22) (h.x 23) (h.x 24) (h.x 25) (h.x 26) (h.x 27) (h.x 28) (h.x 29) (h.x 30) (h.x 31)
theorem formedX (h : Hart) : (Value.agg (xC h)).formed Try.prog 23 = true := by
  have c : Try.prog.cellsOf 23 = 32 := by kernel_rfl
  unfold Value.formed
  rw [Try.underlying23]
  simp only [c]
  rfl
theorem eq_x (h : Hart) (w : World) : (Op.equalIn 10000 23 (.agg (xC h)) (.agg (xC h))).run Try.prog w = .ok true w := by
  have hl := xlits_of h
  obtain ⟨r, hr, hi⟩ := run_equalIn_deep 9994 6 23 keyX w 6 6 (.agg (xC h)) (.agg (xC h)) _ _ (formedX h) (formedX h) hl hl
  rw [hr, hi.2 rfl]
theorem rowAt_drewN (w : World) (b n : Nat) : rowAt (w.drewN n) b = rowAt w b := by
  unfold rowAt
  rfl
theorem rowAt_alloc_lt (w : World) (o : Obj) (b : Nat) (h : b < w.heap.size) : rowAt (w.alloc o) b = rowAt w b := by
  unfold rowAt
  rw [heap_alloc_old w o h]
attribute [local go_sem] zeroH_run hart_size hart_set_pc hart_get_pc hart_set_priv hart_get_priv hart_set_status hart_get_status hart_set_edeleg hart_get_edeleg hart_set_ideleg hart_get_ideleg hart_set_ie hart_get_ie hart_set_ip hart_get_ip hart_set_tvec hart_get_tvec hart_set_epc hart_get_epc hart_set_cause hart_get_cause hart_set_tval hart_get_tval hart_set_stvec hart_get_stvec hart_set_sepc hart_get_sepc hart_set_scause hart_get_scause hart_set_stval hart_get_stval hart_set_res hart_get_res hart_set_resAt hart_get_resAt loadR_hart storeR_hart rowAt_alloc rowAt_drew setRow_alloc_if and_L or_L clr_L rowAt_alloc_lt loadN_x rowC_alloc rowC_drew
attribute [local go_sem ↓] load_row store_row load_x
set_option maxRecDepth 4000
theorem back_row {w w0 w' : World} {h : Hart} (h0 : w0 = w.alloc (.cells (hartC h) 28)) (hb : Below w0.heap.size w0 w') : (∀ o, w'.cell? ⟨w.heap.size, o, none⟩ = (hartC h)[o]?) ∧ w.heap.size < w'.heap.size ∧ rowAt w' w.heap.size = some (hartC h) ∧ rowC w' w.heap.size = some (hartC h) := by
  subst h0
  have hr : rowAt w' w.heap.size = some (hartC h) := rowAt_below (by rw [rowAt_alloc, if_pos rfl]) hb
  refine ⟨fun o => cell_of_row w' _ o _ _ (0, 0) (rowAt_heap hr), ?_, hr, rowC_of (rowAt_heap hr)⟩
  have := hb.size
  simp at this
  omega
theorem row_next {w w' : World} {b : Nat} {h : Hart} (hr : rowAt w b = some (hartC h)) (hb : Below w.heap.size w w') : (∀ o, w'.cell? ⟨b, o, none⟩ = (hartC h)[o]?) ∧ rowAt w' b = some (hartC h) ∧ rowC w' b = some (hartC h) := by
  have h2 := rowAt_below hr hb
  exact ⟨fun o => cell_of_row w' _ o _ _ (0, 0) (rowAt_heap h2), h2, rowC_of (rowAt_heap h2)⟩

set_option maxHeartbeats 4000000 in
theorem back_pc (h : Hart) (c t : BitVec 64) (w : World) (q : ¬ ((andL h.pc 3).toNat : Int) = 0) :
    Calls Try.prog 7 #[.agg (hartC h), .int .u64 (c.toNat : Int), .int .u64 (t.toNat : Int)] w fun e w' => e = .returned (.bool true) ∧ Below w.heap.size w w' := by
  have hb := Below.refl (w.alloc (.cells (hartC h) 28)).heap.size (w.alloc (.cells (hartC h) 28))
  go_enter Try.func7, Try.ntmps7
  go_wp2_with fail
  refine ((awake_any).at hb).mono ?_
  clear hb
  rintro e w1 ⟨rfl, hb⟩
  obtain ⟨hcell, hz, hrow, hrowc⟩ := back_row rfl hb
  go_wp2_with fail
  refine ((awake_any).at hb).mono ?_
  rintro e w2 ⟨rfl, hb2⟩
  go_wp2_with fail
  go_ret
  exact ⟨rfl, below_alloc hb2⟩

set_option maxHeartbeats 4000000 in
theorem back_priv (h : Hart) (c t : BitVec 64) (w : World) (q : ((andL h.pc 3).toNat : Int) = 0) (p0 : (h.priv != 0) = true) (p1 : (h.priv != 1) = true) (p3 : (h.priv != 3) = true) :
    Calls Try.prog 7 #[.agg (hartC h), .int .u64 (c.toNat : Int), .int .u64 (t.toNat : Int)] w fun e w' => e = .returned (.bool true) ∧ Below w.heap.size w w' := by
  have hb := Below.refl (w.alloc (.cells (hartC h) 28)).heap.size (w.alloc (.cells (hartC h) 28))
  go_enter Try.func7, Try.ntmps7
  go_wp2_with fail
  refine ((awake_any).at hb).mono ?_
  clear hb
  rintro e w1 ⟨rfl, hb⟩
  obtain ⟨hcell, hz, hrow, hrowc⟩ := back_row rfl hb
  go_wp2_with fail
  refine ((awake_any).at hb).mono ?_
  rintro e w2 ⟨rfl, hb2⟩
  go_wp2_with fail
  go_ret
  exact ⟨rfl, below_alloc hb2⟩

set_option maxHeartbeats 4000000 in
theorem back_S0 (h x y : Hart) (c t : BitVec 64) (w : World) (q : ((andL h.pc 3).toNat : Int) = 0) (p : h.priv = 0) (hx : Hid (enterH h c t = x)) (hy : Hid (sretH x = y)) (ex : xC x = xC h) (px : x.priv = 1) (rx : x.res = false) (yp : y.pc = h.pc) (yv : y.priv = 0) (ys : ((andL y.status 2).toNat : Int) = ((andL h.status 2).toNat : Int)) (ye : y.sepc = h.pc) (xs : ((andL x.status 2).toNat : Int) = 0) :
    Calls Try.prog 7 #[.agg (hartC h), .int .u64 (c.toNat : Int), .int .u64 (t.toNat : Int)] w fun e w' => e = .returned (.bool true) ∧ Below w.heap.size w w' := by
  have hb := Below.refl (w.alloc (.cells (hartC h) 28)).heap.size (w.alloc (.cells (hartC h) 28))
  go_enter Try.func7, Try.ntmps7
  go_wp2_with fail
  refine ((awake_any).at hb).mono ?_
  clear hb
  rintro e w1 ⟨rfl, hb⟩
  obtain ⟨hcell, hz, hrow, hrowc⟩ := back_row rfl hb
  have hq := eq_x h
  go_wp2_with fail
  refine ((enter_any _ _ _).at hb).mono ?_
  rintro e w2 ⟨rfl, hb2⟩
  rw [hx.out]
  obtain ⟨hcell2, hz2, hrow2, hrowc2⟩ := back_row rfl hb2
  go_wp2_with fail
  refine (sret_any x _).mono ?_
  rintro e w3 ⟨rfl, hb3⟩
  rw [hy.out]
  have hz3 : w2.heap.size < w3.heap.size := by have := hb3.size; simp at this; omega
  have hz4 : w.heap.size < w3.heap.size := by omega
  obtain ⟨hcell3, hrow3, hrowc3⟩ := row_next hrow2 (below_alloc hb3)
  obtain ⟨hcell4, hz5, hrow4, hrowc4⟩ := back_row rfl hb3
  go_wp2_with fail
  go_ret
  exact ⟨rfl, (below_alloc hb2).trans ((below_alloc hb3).alloc (below_alloc hb3).size _ |>.mono (by omega))⟩

set_option maxHeartbeats 4000000 in
theorem back_S1 (h x y : Hart) (c t : BitVec 64) (w : World) (q : ((andL h.pc 3).toNat : Int) = 0) (p : h.priv = 1) (hx : Hid (enterH h c t = x)) (hy : Hid (sretH x = y)) (ex : xC x = xC h) (px : x.priv = 1) (rx : x.res = false) (yp : y.pc = h.pc) (yv : y.priv = 1) (ys : ((andL y.status 2).toNat : Int) = ((andL h.status 2).toNat : Int)) (ye : y.sepc = h.pc) (xs : ((andL x.status 2).toNat : Int) = 0) :
    Calls Try.prog 7 #[.agg (hartC h), .int .u64 (c.toNat : Int), .int .u64 (t.toNat : Int)] w fun e w' => e = .returned (.bool true) ∧ Below w.heap.size w w' := by
  have hb := Below.refl (w.alloc (.cells (hartC h) 28)).heap.size (w.alloc (.cells (hartC h) 28))
  go_enter Try.func7, Try.ntmps7
  go_wp2_with fail
  refine ((awake_any).at hb).mono ?_
  clear hb
  rintro e w1 ⟨rfl, hb⟩
  obtain ⟨hcell, hz, hrow, hrowc⟩ := back_row rfl hb
  have hq := eq_x h
  go_wp2_with fail
  refine ((enter_any _ _ _).at hb).mono ?_
  rintro e w2 ⟨rfl, hb2⟩
  rw [hx.out]
  obtain ⟨hcell2, hz2, hrow2, hrowc2⟩ := back_row rfl hb2
  go_wp2_with fail
  refine (sret_any x _).mono ?_
  rintro e w3 ⟨rfl, hb3⟩
  rw [hy.out]
  have hz3 : w2.heap.size < w3.heap.size := by have := hb3.size; simp at this; omega
  have hz4 : w.heap.size < w3.heap.size := by omega
  obtain ⟨hcell3, hrow3, hrowc3⟩ := row_next hrow2 (below_alloc hb3)
  obtain ⟨hcell4, hz5, hrow4, hrowc4⟩ := back_row rfl hb3
  go_wp2_with fail
  go_ret
  exact ⟨rfl, (below_alloc hb2).trans ((below_alloc hb3).alloc (below_alloc hb3).size _ |>.mono (by omega))⟩

set_option maxHeartbeats 4000000 in
theorem back_M0 (h x y : Hart) (c t : BitVec 64) (w : World) (q : ((andL h.pc 3).toNat : Int) = 0) (p : h.priv = 0) (hx : Hid (enterH h c t = x)) (hy : Hid (mretH x = y)) (ex : xC x = xC h) (px : x.priv = 3) (rx : x.res = false) (yp : y.pc = h.pc) (yv : y.priv = 0) (ys : ((andL y.status 8).toNat : Int) = ((andL h.status 8).toNat : Int)) (ye : y.epc = h.pc) (xs : ((andL x.status 8).toNat : Int) = 0) :
    Calls Try.prog 7 #[.agg (hartC h), .int .u64 (c.toNat : Int), .int .u64 (t.toNat : Int)] w fun e w' => e = .returned (.bool true) ∧ Below w.heap.size w w' := by
  have hb := Below.refl (w.alloc (.cells (hartC h) 28)).heap.size (w.alloc (.cells (hartC h) 28))
  go_enter Try.func7, Try.ntmps7
  go_wp2_with fail
  refine ((awake_any).at hb).mono ?_
  clear hb
  rintro e w1 ⟨rfl, hb⟩
  obtain ⟨hcell, hz, hrow, hrowc⟩ := back_row rfl hb
  have hq := eq_x h
  go_wp2_with fail
  refine ((enter_any _ _ _).at hb).mono ?_
  rintro e w2 ⟨rfl, hb2⟩
  rw [hx.out]
  obtain ⟨hcell2, hz2, hrow2, hrowc2⟩ := back_row rfl hb2
  go_wp2_with fail
  refine (mret_any x _).mono ?_
  rintro e w3 ⟨rfl, hb3⟩
  rw [hy.out]
  have hz3 : w2.heap.size < w3.heap.size := by have := hb3.size; simp at this; omega
  have hz4 : w.heap.size < w3.heap.size := by omega
  obtain ⟨hcell3, hrow3, hrowc3⟩ := row_next hrow2 (below_alloc hb3)
  obtain ⟨hcell4, hz5, hrow4, hrowc4⟩ := back_row rfl hb3
  go_wp2_with fail
  go_ret
  exact ⟨rfl, (below_alloc hb2).trans ((below_alloc hb3).alloc (below_alloc hb3).size _ |>.mono (by omega))⟩

set_option maxHeartbeats 4000000 in
theorem back_M1 (h x y : Hart) (c t : BitVec 64) (w : World) (q : ((andL h.pc 3).toNat : Int) = 0) (p : h.priv = 1) (hx : Hid (enterH h c t = x)) (hy : Hid (mretH x = y)) (ex : xC x = xC h) (px : x.priv = 3) (rx : x.res = false) (yp : y.pc = h.pc) (yv : y.priv = 1) (ys : ((andL y.status 8).toNat : Int) = ((andL h.status 8).toNat : Int)) (ye : y.epc = h.pc) (xs : ((andL x.status 8).toNat : Int) = 0) :
    Calls Try.prog 7 #[.agg (hartC h), .int .u64 (c.toNat : Int), .int .u64 (t.toNat : Int)] w fun e w' => e = .returned (.bool true) ∧ Below w.heap.size w w' := by
  have hb := Below.refl (w.alloc (.cells (hartC h) 28)).heap.size (w.alloc (.cells (hartC h) 28))
  go_enter Try.func7, Try.ntmps7
  go_wp2_with fail
  refine ((awake_any).at hb).mono ?_
  clear hb
  rintro e w1 ⟨rfl, hb⟩
  obtain ⟨hcell, hz, hrow, hrowc⟩ := back_row rfl hb
  have hq := eq_x h
  go_wp2_with fail
  refine ((enter_any _ _ _).at hb).mono ?_
  rintro e w2 ⟨rfl, hb2⟩
  rw [hx.out]
  obtain ⟨hcell2, hz2, hrow2, hrowc2⟩ := back_row rfl hb2
  go_wp2_with fail
  refine (mret_any x _).mono ?_
  rintro e w3 ⟨rfl, hb3⟩
  rw [hy.out]
  have hz3 : w2.heap.size < w3.heap.size := by have := hb3.size; simp at this; omega
  have hz4 : w.heap.size < w3.heap.size := by omega
  obtain ⟨hcell3, hrow3, hrowc3⟩ := row_next hrow2 (below_alloc hb3)
  obtain ⟨hcell4, hz5, hrow4, hrowc4⟩ := back_row rfl hb3
  go_wp2_with fail
  go_ret
  exact ⟨rfl, (below_alloc hb2).trans ((below_alloc hb3).alloc (below_alloc hb3).size _ |>.mono (by omega))⟩

set_option maxHeartbeats 4000000 in
theorem back_M3 (h x y : Hart) (c t : BitVec 64) (w : World) (q : ((andL h.pc 3).toNat : Int) = 0) (p : h.priv = 3) (hx : Hid (enterH h c t = x)) (hy : Hid (mretH x = y)) (ex : xC x = xC h) (px : x.priv = 3) (rx : x.res = false) (yp : y.pc = h.pc) (yv : y.priv = 3) (ys : ((andL y.status 8).toNat : Int) = ((andL h.status 8).toNat : Int)) (ye : y.epc = h.pc) (xs : ((andL x.status 8).toNat : Int) = 0) :
    Calls Try.prog 7 #[.agg (hartC h), .int .u64 (c.toNat : Int), .int .u64 (t.toNat : Int)] w fun e w' => e = .returned (.bool true) ∧ Below w.heap.size w w' := by
  have hb := Below.refl (w.alloc (.cells (hartC h) 28)).heap.size (w.alloc (.cells (hartC h) 28))
  go_enter Try.func7, Try.ntmps7
  go_wp2_with fail
  refine ((awake_any).at hb).mono ?_
  clear hb
  rintro e w1 ⟨rfl, hb⟩
  obtain ⟨hcell, hz, hrow, hrowc⟩ := back_row rfl hb
  have hq := eq_x h
  go_wp2_with fail
  refine ((enter_any _ _ _).at hb).mono ?_
  rintro e w2 ⟨rfl, hb2⟩
  rw [hx.out]
  obtain ⟨hcell2, hz2, hrow2, hrowc2⟩ := back_row rfl hb2
  go_wp2_with fail
  refine (mret_any x _).mono ?_
  rintro e w3 ⟨rfl, hb3⟩
  rw [hy.out]
  have hz3 : w2.heap.size < w3.heap.size := by have := hb3.size; simp at this; omega
  have hz4 : w.heap.size < w3.heap.size := by omega
  obtain ⟨hcell3, hrow3, hrowc3⟩ := row_next hrow2 (below_alloc hb3)
  obtain ⟨hcell4, hz5, hrow4, hrowc4⟩ := back_row rfl hb3
  go_wp2_with fail
  go_ret
  exact ⟨rfl, (below_alloc hb2).trans ((below_alloc hb3).alloc (below_alloc hb3).size _ |>.mono (by omega))⟩

theorem x_enter (h : Hart) (c t : BitVec 64) : xC (enterH h c t) = xC h := by
  unfold enterH
  split <;> rfl
theorem trapBack_walk (h : Hart) (c t : BitVec 64) (w : World) :
    Calls Try.prog 7 #[.agg (hartC h), .int .u64 (c.toNat : Int), .int .u64 (t.toNat : Int)] w fun e w' => e = .returned (.bool true) ∧ Below w.heap.size w w' := by
  by_cases q : ((andL h.pc 3).toNat : Int) = 0
  · have hp := clr_none h.pc q
    by_cases pp : h.priv = 0 ∨ h.priv = 1 ∨ h.priv = 3
    · cases g : goesB h c with
      | true =>
        have e : enterH h c t = enterS h c t := if_pos g
        have rx : (enterS h c t).res = false := rfl
        have yp : (sretH (enterS h c t)).pc = h.pc := hp
        have ye : (sretH (enterS h c t)).sepc = h.pc := hp
        have ys := and_same (sretH (enterS h c t)).status h.status 1 (by omega) 2 (by decide) (by rw [S_back, S_five])
        have xs : ((andL (enterS h c t).status 2).toNat : Int) = 0 := by rw [andL_pow _ 1 (by omega) 2 (by decide), S_low]; rfl
        have yv : (sretH (enterS h c t)).priv = h.priv := by
          show (if (enterS h c t).status.getLsbD 8 then (1 : Int) else 0) = h.priv
          rw [S_eight]
          rcases goes_priv h c g with p | p <;> rw [p] <;> rfl
        rcases goes_priv h c g with p | p
        · exact back_S0 h _ _ c t w q p e rfl (by rw [← e]; exact x_enter h c t) rfl rx yp (yv.trans p) ys ye xs
        · exact back_S1 h _ _ c t w q p e rfl (by rw [← e]; exact x_enter h c t) rfl rx yp (yv.trans p) ys ye xs
      | false =>
        have e : enterH h c t = enterM h c t := if_neg (by rw [g]; simp)
        have rx : (enterM h c t).res = false := rfl
        have yp : (mretH (enterM h c t)).pc = h.pc := hp
        have ye : (mretH (enterM h c t)).epc = h.pc := hp
        have ys := and_same (mretH (enterM h c t)).status h.status 3 (by omega) 8 (by decide) (by rw [M_back, M_seven h c t pp])
        have xs : ((andL (enterM h c t).status 8).toNat : Int) = 0 := by rw [andL_pow _ 3 (by omega) 8 (by decide), M_low h c t pp]; rfl
        have yv : (mretH (enterM h c t)).priv = h.priv := back_M _ _ pp
        rcases pp with p | p | p
        · exact back_M0 h _ _ c t w q p e rfl (by rw [← e]; exact x_enter h c t) rfl rx yp (yv.trans p) ys ye xs
        · exact back_M1 h _ _ c t w q p e rfl (by rw [← e]; exact x_enter h c t) rfl rx yp (yv.trans p) ys ye xs
        · exact back_M3 h _ _ c t w q p e rfl (by rw [← e]; exact x_enter h c t) rfl rx yp (yv.trans p) ys ye xs
    · exact back_priv h c t w q (bne_iff_ne.2 fun e => pp (.inl e)) (bne_iff_ne.2 fun e => pp (.inr (.inl e))) (bne_iff_ne.2 fun e => pp (.inr (.inr e)))
  · exact back_pc h c t w q
theorem trapBack_cells (cs : Array Value) (hc : Flat.All2 leafH cs.toList) (c : Int) (wc : (Lit.int .u64 c).wf = true) (t : Int) (wt : (Lit.int .u64 t).wf = true) (w : World) :
    Calls Try.prog 7 #[.agg cs, .int .u64 c, .int .u64 t] w fun e w' => e = .returned (.bool true) ∧ Below w.heap.size w w' := by
  obtain ⟨k, rfl, _⟩ := hart_of hc
  obtain ⟨c, rfl⟩ := u64_bv wc
  obtain ⟨t, rfl⟩ := u64_bv wt
  exact trapBack_walk k c t w
end Go.Proofs.Ythijheijognhmaa
