/- Contracts, by operations: RdOneA, RdOneB, RdOneC, RdOneD. -/
import Derived.Test.YtnhbekgmameeaaaIns4
import Derived.Test.YtnhbekgmameeaaaShapeRef
import Derived.Test.YtnhbekgmameeaaaShapeSame
import Derived.Test.YtnhbekgmameeaaaDecBackPlain
import Derived.Test.YtnhbekgmameeaaaAndL
namespace Go.Proofs.Ytnhbekgmameeaaa
section
open Go.RowKit Wd
set_option linter.unusedVariables false
set_option linter.unusedSimpArgs false
attribute [local go_sem] loadI_lit loadI_ins storeI_lit rowI_alloc rowI_drew rowI_drewN rowI_setRow rowI_setCell setRow_allocJ and_L
attribute [local go_sem ↓] loadI_run storeK_eq
attribute [local go_sem] storeK_run storeK_one storeF_int
set_option maxRecDepth 8000
set_option maxHeartbeats 40000000 in
theorem one_55 (v : BitVec 32) (x gO g3 g7 : Int) (h : fieldI v 6 0 = 55) (eO : Hid (gO = (fieldI v 6 0 : Nat))) (e3 : Hid (g3 = (fieldI v 14 12 : Nat))) (e7 : Hid (g7 = (fieldI v 31 25 : Nat))) (l3 : fieldI v 14 12 < 8)
    (cO : Hid (Mk Try.prog 86 #[.int .u32 x] (.int .i64 gO))) (c3 : Hid (Mk Try.prog 84 #[.int .u32 x] (.int .i64 g3))) (cd : Hid (Mk Try.prog 81 #[.int .u32 x] (.int .i64 (fieldI v 11 7 : Nat)))) (ca : Hid (Mk Try.prog 82 #[.int .u32 x] (.int .i64 (fieldI v 19 15 : Nat)))) (cb : Hid (Mk Try.prog 83 #[.int .u32 x] (.int .i64 (fieldI v 24 20 : Nat)))) (c7 : Hid (Mk Try.prog 85 #[.int .u32 x] (.int .i64 g7)))
    (ciU : Hid (Mk Try.prog 87 #[.int .u32 x, .int .u8 85] (.int .u64 ((immP v psU 32).toNat : Int)))) (w : World) :
    Calls Try.prog 71 #[.int .u32 x] w (InsB (decW v) w) := by
  have b7 : 0 ≤ g7 := by rw [e7.out]; omega
  replace l3 := Lib.hid l3
  replace h := Lib.hid h
  go_enter Try.func71, Try.ntmps71
  go_wp2_with fail
  refine (cd.out _).mono ?_
  rintro e w1 ⟨rfl, hb1⟩
  go_wp2_with fail
  refine (ca.out _).mono ?_
  rintro e w2 ⟨rfl, hb2⟩
  go_wp2_with fail
  refine (cb.out _).mono ?_
  rintro e w3 ⟨rfl, hb3⟩
  go_wp2_with fail
  refine (c3.out _).mono ?_
  rintro e w4 ⟨rfl, hb4⟩
  go_wp2_with fail
  refine (c7.out _).mono ?_
  rintro e w5 ⟨rfl, hb5⟩
  go_wp2_with fail
  refine (cO.out _).mono ?_
  rintro e w6 ⟨rfl, hb6⟩
  have B2 := hb1.trans (hb2.mono hb1.size)
  have B3 := B2.trans (hb3.mono B2.size)
  have B4 := B3.trans (hb4.mono B3.size)
  have B5 := B4.trans (hb5.mono B4.size)
  have B6 := B5.trans (hb6.mono B5.size)
  clear hb1 hb2 hb3 hb4 hb5 B2 B3 B4 B5 c3 cd ca cb cO c7
  obtain ⟨r0, BB⟩ := one_block B6
  clear B6 hb6
  replace r0 := Lib.hid r0
  replace BB := Lib.hid BB
  replace h := h.out
  replace l3 := l3.out
  have e := eO.out
  rw [h] at e
  simp at e
  subst e
  clear e3 l3 e7
  have hr := Lib.hid (show ⟨1, 0, (fieldI v 11 7 : Nat), 0, 0, immP v psU 32, 0, false, false, false, 0⟩ = decW v from by unfold decW; rw [if_pos h]; try rfl)
  go_wp2_with fail
  refine (ciU.out _).mono ?_
  rintro e w7 ⟨rfl, hb7⟩
  have q0 := rowI_below r0.out hb7
  have B7 := Lib.hid (BB.out.trans (hb7.mono BB.out.size))
  clear hb7
  go_wp2_with fail
  refine ret_insb (b := w.heap.size) (cs := insC ⟨1, 0, (fieldI v 11 7 : Nat), 0, 0, immP v psU 32, 0, false, false, false, 0⟩) (v := .bool true) rfl rfl rfl (by simp only [rowI_setRow, if_true, q0, Option.map_some]; rfl) rfl rfl (insB_eq (insB_yes rfl (below_row B7.out _ (Nat.le_refl _) _)) hr.out)
set_option maxHeartbeats 40000000 in
theorem one_23 (v : BitVec 32) (x gO g3 g7 : Int) (h : fieldI v 6 0 = 23) (eO : Hid (gO = (fieldI v 6 0 : Nat))) (e3 : Hid (g3 = (fieldI v 14 12 : Nat))) (e7 : Hid (g7 = (fieldI v 31 25 : Nat))) (l3 : fieldI v 14 12 < 8)
    (cO : Hid (Mk Try.prog 86 #[.int .u32 x] (.int .i64 gO))) (c3 : Hid (Mk Try.prog 84 #[.int .u32 x] (.int .i64 g3))) (cd : Hid (Mk Try.prog 81 #[.int .u32 x] (.int .i64 (fieldI v 11 7 : Nat)))) (ca : Hid (Mk Try.prog 82 #[.int .u32 x] (.int .i64 (fieldI v 19 15 : Nat)))) (cb : Hid (Mk Try.prog 83 #[.int .u32 x] (.int .i64 (fieldI v 24 20 : Nat)))) (c7 : Hid (Mk Try.prog 85 #[.int .u32 x] (.int .i64 g7)))
    (ciU : Hid (Mk Try.prog 87 #[.int .u32 x, .int .u8 85] (.int .u64 ((immP v psU 32).toNat : Int)))) (w : World) :
    Calls Try.prog 71 #[.int .u32 x] w (InsB (decW v) w) := by
  have b7 : 0 ≤ g7 := by rw [e7.out]; omega
  replace l3 := Lib.hid l3
  replace h := Lib.hid h
  go_enter Try.func71, Try.ntmps71
  go_wp2_with fail
  refine (cd.out _).mono ?_
  rintro e w1 ⟨rfl, hb1⟩
  go_wp2_with fail
  refine (ca.out _).mono ?_
  rintro e w2 ⟨rfl, hb2⟩
  go_wp2_with fail
  refine (cb.out _).mono ?_
  rintro e w3 ⟨rfl, hb3⟩
  go_wp2_with fail
  refine (c3.out _).mono ?_
  rintro e w4 ⟨rfl, hb4⟩
  go_wp2_with fail
  refine (c7.out _).mono ?_
  rintro e w5 ⟨rfl, hb5⟩
  go_wp2_with fail
  refine (cO.out _).mono ?_
  rintro e w6 ⟨rfl, hb6⟩
  have B2 := hb1.trans (hb2.mono hb1.size)
  have B3 := B2.trans (hb3.mono B2.size)
  have B4 := B3.trans (hb4.mono B3.size)
  have B5 := B4.trans (hb5.mono B4.size)
  have B6 := B5.trans (hb6.mono B5.size)
  clear hb1 hb2 hb3 hb4 hb5 B2 B3 B4 B5 c3 cd ca cb cO c7
  obtain ⟨r0, BB⟩ := one_block B6
  clear B6 hb6
  replace r0 := Lib.hid r0
  replace BB := Lib.hid BB
  replace h := h.out
  replace l3 := l3.out
  have e := eO.out
  rw [h] at e
  simp at e
  subst e
  clear e3 l3 e7
  have hr := Lib.hid (show ⟨2, 0, (fieldI v 11 7 : Nat), 0, 0, immP v psU 32, 0, false, false, false, 0⟩ = decW v from by unfold decW; rw [if_neg (by omega), if_pos h]; try rfl)
  go_wp2_with fail
  refine (ciU.out _).mono ?_
  rintro e w7 ⟨rfl, hb7⟩
  have q0 := rowI_below r0.out hb7
  have B7 := Lib.hid (BB.out.trans (hb7.mono BB.out.size))
  clear hb7
  go_wp2_with fail
  refine ret_insb (b := w.heap.size) (cs := insC ⟨2, 0, (fieldI v 11 7 : Nat), 0, 0, immP v psU 32, 0, false, false, false, 0⟩) (v := .bool true) rfl rfl rfl (by simp only [rowI_setRow, if_true, q0, Option.map_some]; rfl) rfl rfl (insB_eq (insB_yes rfl (below_row B7.out _ (Nat.le_refl _) _)) hr.out)
set_option maxHeartbeats 40000000 in
theorem one_111 (v : BitVec 32) (x gO g3 g7 : Int) (h : fieldI v 6 0 = 111) (eO : Hid (gO = (fieldI v 6 0 : Nat))) (e3 : Hid (g3 = (fieldI v 14 12 : Nat))) (e7 : Hid (g7 = (fieldI v 31 25 : Nat))) (l3 : fieldI v 14 12 < 8)
    (cO : Hid (Mk Try.prog 86 #[.int .u32 x] (.int .i64 gO))) (c3 : Hid (Mk Try.prog 84 #[.int .u32 x] (.int .i64 g3))) (cd : Hid (Mk Try.prog 81 #[.int .u32 x] (.int .i64 (fieldI v 11 7 : Nat)))) (ca : Hid (Mk Try.prog 82 #[.int .u32 x] (.int .i64 (fieldI v 19 15 : Nat)))) (cb : Hid (Mk Try.prog 83 #[.int .u32 x] (.int .i64 (fieldI v 24 20 : Nat)))) (c7 : Hid (Mk Try.prog 85 #[.int .u32 x] (.int .i64 g7)))
    (ciJ : Hid (Mk Try.prog 87 #[.int .u32 x, .int .u8 74] (.int .u64 ((immP v psJ 21).toNat : Int)))) (w : World) :
    Calls Try.prog 71 #[.int .u32 x] w (InsB (decW v) w) := by
  have b7 : 0 ≤ g7 := by rw [e7.out]; omega
  replace l3 := Lib.hid l3
  replace h := Lib.hid h
  go_enter Try.func71, Try.ntmps71
  go_wp2_with fail
  refine (cd.out _).mono ?_
  rintro e w1 ⟨rfl, hb1⟩
  go_wp2_with fail
  refine (ca.out _).mono ?_
  rintro e w2 ⟨rfl, hb2⟩
  go_wp2_with fail
  refine (cb.out _).mono ?_
  rintro e w3 ⟨rfl, hb3⟩
  go_wp2_with fail
  refine (c3.out _).mono ?_
  rintro e w4 ⟨rfl, hb4⟩
  go_wp2_with fail
  refine (c7.out _).mono ?_
  rintro e w5 ⟨rfl, hb5⟩
  go_wp2_with fail
  refine (cO.out _).mono ?_
  rintro e w6 ⟨rfl, hb6⟩
  have B2 := hb1.trans (hb2.mono hb1.size)
  have B3 := B2.trans (hb3.mono B2.size)
  have B4 := B3.trans (hb4.mono B3.size)
  have B5 := B4.trans (hb5.mono B4.size)
  have B6 := B5.trans (hb6.mono B5.size)
  clear hb1 hb2 hb3 hb4 hb5 B2 B3 B4 B5 c3 cd ca cb cO c7
  obtain ⟨r0, BB⟩ := one_block B6
  clear B6 hb6
  replace r0 := Lib.hid r0
  replace BB := Lib.hid BB
  replace h := h.out
  replace l3 := l3.out
  have e := eO.out
  rw [h] at e
  simp at e
  subst e
  clear e3 l3 e7
  have hr := Lib.hid (show ⟨3, 0, (fieldI v 11 7 : Nat), 0, 0, immP v psJ 21, 0, false, false, false, 0⟩ = decW v from by unfold decW; rw [if_neg (by omega), if_neg (by omega), if_pos h]; try rfl)
  go_wp2_with fail
  refine (ciJ.out _).mono ?_
  rintro e w7 ⟨rfl, hb7⟩
  have q0 := rowI_below r0.out hb7
  have B7 := Lib.hid (BB.out.trans (hb7.mono BB.out.size))
  clear hb7
  go_wp2_with fail
  refine ret_insb (b := w.heap.size) (cs := insC ⟨3, 0, (fieldI v 11 7 : Nat), 0, 0, immP v psJ 21, 0, false, false, false, 0⟩) (v := .bool true) rfl rfl rfl (by simp only [rowI_setRow, if_true, q0, Option.map_some]; rfl) rfl rfl (insB_eq (insB_yes rfl (below_row B7.out _ (Nat.le_refl _) _)) hr.out)
set_option maxHeartbeats 40000000 in
theorem one_103 (v : BitVec 32) (x gO g3 g7 : Int) (h : fieldI v 6 0 = 103) (eO : Hid (gO = (fieldI v 6 0 : Nat))) (e3 : Hid (g3 = (fieldI v 14 12 : Nat))) (e7 : Hid (g7 = (fieldI v 31 25 : Nat))) (l3 : fieldI v 14 12 < 8)
    (cO : Hid (Mk Try.prog 86 #[.int .u32 x] (.int .i64 gO))) (c3 : Hid (Mk Try.prog 84 #[.int .u32 x] (.int .i64 g3))) (cd : Hid (Mk Try.prog 81 #[.int .u32 x] (.int .i64 (fieldI v 11 7 : Nat)))) (ca : Hid (Mk Try.prog 82 #[.int .u32 x] (.int .i64 (fieldI v 19 15 : Nat)))) (cb : Hid (Mk Try.prog 83 #[.int .u32 x] (.int .i64 (fieldI v 24 20 : Nat)))) (c7 : Hid (Mk Try.prog 85 #[.int .u32 x] (.int .i64 g7)))
    (ciI : Hid (Mk Try.prog 87 #[.int .u32 x, .int .u8 73] (.int .u64 ((immP v psI 12).toNat : Int)))) (w : World) :
    Calls Try.prog 71 #[.int .u32 x] w (InsB (decW v) w) := by
  have b7 : 0 ≤ g7 := by rw [e7.out]; omega
  replace l3 := Lib.hid l3
  replace h := Lib.hid h
  go_enter Try.func71, Try.ntmps71
  go_wp2_with fail
  refine (cd.out _).mono ?_
  rintro e w1 ⟨rfl, hb1⟩
  go_wp2_with fail
  refine (ca.out _).mono ?_
  rintro e w2 ⟨rfl, hb2⟩
  go_wp2_with fail
  refine (cb.out _).mono ?_
  rintro e w3 ⟨rfl, hb3⟩
  go_wp2_with fail
  refine (c3.out _).mono ?_
  rintro e w4 ⟨rfl, hb4⟩
  go_wp2_with fail
  refine (c7.out _).mono ?_
  rintro e w5 ⟨rfl, hb5⟩
  go_wp2_with fail
  refine (cO.out _).mono ?_
  rintro e w6 ⟨rfl, hb6⟩
  have B2 := hb1.trans (hb2.mono hb1.size)
  have B3 := B2.trans (hb3.mono B2.size)
  have B4 := B3.trans (hb4.mono B3.size)
  have B5 := B4.trans (hb5.mono B4.size)
  have B6 := B5.trans (hb6.mono B5.size)
  clear hb1 hb2 hb3 hb4 hb5 B2 B3 B4 B5 c3 cd ca cb cO c7
  obtain ⟨r0, BB⟩ := one_block B6
  clear B6 hb6
  replace r0 := Lib.hid r0
  replace BB := Lib.hid BB
  replace h := h.out
  replace l3 := l3.out
  have e := eO.out
  rw [h] at e
  simp at e
  subst e
  clear l3
  by_cases k : fieldI v 14 12 = 0
  · have e := e3.out
    rw [k] at e
    simp at e
    subst e
    have hr := Lib.hid (show ⟨4, 0, (fieldI v 11 7 : Nat), (fieldI v 19 15 : Nat), 0, immP v psI 12, 0, false, false, false, 0⟩ = decW v from by unfold decW; rw [if_neg (by omega), if_neg (by omega), if_neg (by omega), if_pos h, if_pos k]; try rfl)
    go_wp2_with fail
    refine (ciI.out _).mono ?_
    rintro e w7 ⟨rfl, hb7⟩
    have q0 := rowI_below r0.out hb7
    have B7 := Lib.hid (BB.out.trans (hb7.mono BB.out.size))
    clear hb7
    go_wp2_with fail
    refine ret_insb (b := w.heap.size) (cs := insC ⟨4, 0, (fieldI v 11 7 : Nat), (fieldI v 19 15 : Nat), 0, immP v psI 12, 0, false, false, false, 0⟩) (v := .bool true) rfl rfl rfl (by simp only [rowI_setRow, if_true, q0, Option.map_some]; rfl) rfl rfl (insB_eq (insB_yes rfl (below_row B7.out _ (Nat.le_refl _) _)) hr.out)
  · have n3 : (g3 == 0) = false := by have := e3.out; simp; omega
    have hr := Lib.hid (show noI = decW v from by unfold decW; rw [if_neg (by omega), if_neg (by omega), if_neg (by omega), if_pos h, if_neg k]; try rfl)
    go_wp2_with fail
    refine (ciI.out _).mono ?_
    rintro e w7 ⟨rfl, hb7⟩
    have q0 := rowI_below r0.out hb7
    have B7 := Lib.hid (BB.out.trans (hb7.mono BB.out.size))
    clear hb7
    go_wp2_with fail
    refine ret_insb (b := w.heap.size) (cs := insC ⟨4, 0, (fieldI v 11 7 : Nat), (fieldI v 19 15 : Nat), 0, immP v psI 12, 0, false, false, false, 0⟩) (v := .bool false) rfl rfl rfl (by simp only [rowI_setRow, if_true, q0, Option.map_some]; rfl) rfl rfl (insB_eq (insB_no ⟨4, 0, (fieldI v 11 7 : Nat), (fieldI v 19 15 : Nat), 0, immP v psI 12, 0, false, false, false, 0⟩ rfl (below_row B7.out _ (Nat.le_refl _) _)) hr.out)
set_option maxHeartbeats 40000000 in
theorem one_99 (v : BitVec 32) (x gO g3 g7 : Int) (h : fieldI v 6 0 = 99) (eO : Hid (gO = (fieldI v 6 0 : Nat))) (e3 : Hid (g3 = (fieldI v 14 12 : Nat))) (e7 : Hid (g7 = (fieldI v 31 25 : Nat))) (l3 : fieldI v 14 12 < 8)
    (cO : Hid (Mk Try.prog 86 #[.int .u32 x] (.int .i64 gO))) (c3 : Hid (Mk Try.prog 84 #[.int .u32 x] (.int .i64 g3))) (cd : Hid (Mk Try.prog 81 #[.int .u32 x] (.int .i64 (fieldI v 11 7 : Nat)))) (ca : Hid (Mk Try.prog 82 #[.int .u32 x] (.int .i64 (fieldI v 19 15 : Nat)))) (cb : Hid (Mk Try.prog 83 #[.int .u32 x] (.int .i64 (fieldI v 24 20 : Nat)))) (c7 : Hid (Mk Try.prog 85 #[.int .u32 x] (.int .i64 g7)))
    (ciB : Hid (Mk Try.prog 87 #[.int .u32 x, .int .u8 66] (.int .u64 ((immP v psB 13).toNat : Int)))) (w : World) :
    Calls Try.prog 71 #[.int .u32 x] w (InsB (decW v) w) := by
  have b7 : 0 ≤ g7 := by rw [e7.out]; omega
  replace l3 := Lib.hid l3
  replace h := Lib.hid h
  go_enter Try.func71, Try.ntmps71
  go_wp2_with fail
  refine (cd.out _).mono ?_
  rintro e w1 ⟨rfl, hb1⟩
  go_wp2_with fail
  refine (ca.out _).mono ?_
  rintro e w2 ⟨rfl, hb2⟩
  go_wp2_with fail
  refine (cb.out _).mono ?_
  rintro e w3 ⟨rfl, hb3⟩
  go_wp2_with fail
  refine (c3.out _).mono ?_
  rintro e w4 ⟨rfl, hb4⟩
  go_wp2_with fail
  refine (c7.out _).mono ?_
  rintro e w5 ⟨rfl, hb5⟩
  go_wp2_with fail
  refine (cO.out _).mono ?_
  rintro e w6 ⟨rfl, hb6⟩
  have B2 := hb1.trans (hb2.mono hb1.size)
  have B3 := B2.trans (hb3.mono B2.size)
  have B4 := B3.trans (hb4.mono B3.size)
  have B5 := B4.trans (hb5.mono B4.size)
  have B6 := B5.trans (hb6.mono B5.size)
  clear hb1 hb2 hb3 hb4 hb5 B2 B3 B4 B5 c3 cd ca cb cO c7
  obtain ⟨r0, BB⟩ := one_block B6
  clear B6 hb6
  replace r0 := Lib.hid r0
  replace BB := Lib.hid BB
  replace h := h.out
  replace l3 := l3.out
  have e := eO.out
  rw [h] at e
  simp at e
  subst e
  clear l3
  by_cases k : fieldI v 14 12 = 2
  · have e := e3.out
    rw [k] at e
    simp at e
    subst e
    have hr := Lib.hid (show noI = decW v from by unfold decW; rw [if_neg (by omega), if_neg (by omega), if_neg (by omega), if_neg (by omega), if_pos h, if_pos (by omega)]; try rfl)
    go_wp2_with fail
    refine (ciB.out _).mono ?_
    rintro e w7 ⟨rfl, hb7⟩
    have q0 := rowI_below r0.out hb7
    have B7 := Lib.hid (BB.out.trans (hb7.mono BB.out.size))
    clear hb7
    go_wp2_with fail
    refine ret_insb (b := w.heap.size) (cs := insC ⟨5, (2 : Nat), 0, (fieldI v 19 15 : Nat), (fieldI v 24 20 : Nat), immP v psB 13, 0, false, false, false, 0⟩) (v := .bool false) rfl rfl rfl (by simp only [rowI_setRow, if_true, q0, Option.map_some]; rfl) rfl rfl (insB_eq (insB_no ⟨5, (2 : Nat), 0, (fieldI v 19 15 : Nat), (fieldI v 24 20 : Nat), immP v psB 13, 0, false, false, false, 0⟩ rfl (below_row B7.out _ (Nat.le_refl _) _)) hr.out)
  by_cases k' : fieldI v 14 12 = 3
  · have e := e3.out
    rw [k'] at e
    simp at e
    subst e
    have hr := Lib.hid (show noI = decW v from by unfold decW; rw [if_neg (by omega), if_neg (by omega), if_neg (by omega), if_neg (by omega), if_pos h, if_pos (by omega)]; try rfl)
    go_wp2_with fail
    refine (ciB.out _).mono ?_
    rintro e w7 ⟨rfl, hb7⟩
    have q0 := rowI_below r0.out hb7
    have B7 := Lib.hid (BB.out.trans (hb7.mono BB.out.size))
    clear hb7
    go_wp2_with fail
    refine ret_insb (b := w.heap.size) (cs := insC ⟨5, (3 : Nat), 0, (fieldI v 19 15 : Nat), (fieldI v 24 20 : Nat), immP v psB 13, 0, false, false, false, 0⟩) (v := .bool false) rfl rfl rfl (by simp only [rowI_setRow, if_true, q0, Option.map_some]; rfl) rfl rfl (insB_eq (insB_no ⟨5, (3 : Nat), 0, (fieldI v 19 15 : Nat), (fieldI v 24 20 : Nat), immP v psB 13, 0, false, false, false, 0⟩ rfl (below_row B7.out _ (Nat.le_refl _) _)) hr.out)
  have n2 : (g3 != 2) = true := by have := e3.out; simp; omega
  have n3 : (g3 != 3) = true := by have := e3.out; simp; omega
  have hr := Lib.hid (show ⟨5, g3, 0, (fieldI v 19 15 : Nat), (fieldI v 24 20 : Nat), immP v psB 13, 0, false, false, false, 0⟩ = decW v from by rw [e3.out]; unfold decW; rw [if_neg (by omega), if_neg (by omega), if_neg (by omega), if_neg (by omega), if_pos h, if_neg (by omega)]; try rfl)
  go_wp2_with fail
  refine (ciB.out _).mono ?_
  rintro e w7 ⟨rfl, hb7⟩
  have q0 := rowI_below r0.out hb7
  have B7 := Lib.hid (BB.out.trans (hb7.mono BB.out.size))
  clear hb7
  go_wp2_with fail
  refine ret_insb (b := w.heap.size) (cs := insC ⟨5, g3, 0, (fieldI v 19 15 : Nat), (fieldI v 24 20 : Nat), immP v psB 13, 0, false, false, false, 0⟩) (v := .bool true) rfl rfl rfl (by simp only [rowI_setRow, if_true, q0, Option.map_some]; rfl) rfl rfl (insB_eq (insB_yes rfl (below_row B7.out _ (Nat.le_refl _) _)) hr.out)
end
section
open Go.RowKit Wd
set_option linter.unusedVariables false
set_option linter.unusedSimpArgs false
attribute [local go_sem] loadI_lit loadI_ins storeI_lit rowI_alloc rowI_drew rowI_drewN rowI_setRow rowI_setCell setRow_allocJ and_L
attribute [local go_sem ↓] loadI_run storeK_eq
attribute [local go_sem] storeK_run storeK_one storeF_int
set_option maxRecDepth 8000
set_option maxHeartbeats 40000000 in
theorem one_3 (v : BitVec 32) (x gO g3 g7 : Int) (h : fieldI v 6 0 = 3) (eO : Hid (gO = (fieldI v 6 0 : Nat))) (e3 : Hid (g3 = (fieldI v 14 12 : Nat))) (e7 : Hid (g7 = (fieldI v 31 25 : Nat))) (l3 : fieldI v 14 12 < 8)
    (cO : Hid (Mk Try.prog 86 #[.int .u32 x] (.int .i64 gO))) (c3 : Hid (Mk Try.prog 84 #[.int .u32 x] (.int .i64 g3))) (cd : Hid (Mk Try.prog 81 #[.int .u32 x] (.int .i64 (fieldI v 11 7 : Nat)))) (ca : Hid (Mk Try.prog 82 #[.int .u32 x] (.int .i64 (fieldI v 19 15 : Nat)))) (cb : Hid (Mk Try.prog 83 #[.int .u32 x] (.int .i64 (fieldI v 24 20 : Nat)))) (c7 : Hid (Mk Try.prog 85 #[.int .u32 x] (.int .i64 g7)))
    (ciI : Hid (Mk Try.prog 87 #[.int .u32 x, .int .u8 73] (.int .u64 ((immP v psI 12).toNat : Int)))) (w : World) :
    Calls Try.prog 71 #[.int .u32 x] w (InsB (decW v) w) := by
  have b7 : 0 ≤ g7 := by rw [e7.out]; omega
  replace l3 := Lib.hid l3
  replace h := Lib.hid h
  go_enter Try.func71, Try.ntmps71
  go_wp2_with fail
  refine (cd.out _).mono ?_
  rintro e w1 ⟨rfl, hb1⟩
  go_wp2_with fail
  refine (ca.out _).mono ?_
  rintro e w2 ⟨rfl, hb2⟩
  go_wp2_with fail
  refine (cb.out _).mono ?_
  rintro e w3 ⟨rfl, hb3⟩
  go_wp2_with fail
  refine (c3.out _).mono ?_
  rintro e w4 ⟨rfl, hb4⟩
  go_wp2_with fail
  refine (c7.out _).mono ?_
  rintro e w5 ⟨rfl, hb5⟩
  go_wp2_with fail
  refine (cO.out _).mono ?_
  rintro e w6 ⟨rfl, hb6⟩
  have B2 := hb1.trans (hb2.mono hb1.size)
  have B3 := B2.trans (hb3.mono B2.size)
  have B4 := B3.trans (hb4.mono B3.size)
  have B5 := B4.trans (hb5.mono B4.size)
  have B6 := B5.trans (hb6.mono B5.size)
  clear hb1 hb2 hb3 hb4 hb5 B2 B3 B4 B5 c3 cd ca cb cO c7
  obtain ⟨r0, BB⟩ := one_block B6
  clear B6 hb6
  replace r0 := Lib.hid r0
  replace BB := Lib.hid BB
  replace h := h.out
  replace l3 := l3.out
  have e := eO.out
  rw [h] at e
  simp at e
  subst e
  have hf : fieldI v 14 12 = 0 ∨ fieldI v 14 12 = 1 ∨ fieldI v 14 12 = 2 ∨ fieldI v 14 12 = 3 ∨ fieldI v 14 12 = 4 ∨ fieldI v 14 12 = 5 ∨ fieldI v 14 12 = 6 ∨ fieldI v 14 12 = 7 := by omega
  clear l3
  rcases hf with k | k | k | k | k | k | k | k
  · have e := e3.out
    rw [k] at e
    simp at e
    subst e
    have hr := Lib.hid (show ⟨6, 0, (fieldI v 11 7 : Nat), (fieldI v 19 15 : Nat), 0, immP v psI 12, sz (0 % 4), true, false, false, 0⟩ = decW v from by unfold decW; rw [if_neg (by omega), if_neg (by omega), if_neg (by omega), if_neg (by omega), if_neg (by omega), if_pos h, if_pos (by omega), k]; try rfl)
    go_wp2_with fail
    refine (ciI.out _).mono ?_
    rintro e w7 ⟨rfl, hb7⟩
    have q0 := rowI_below r0.out hb7
    have B7 := Lib.hid (BB.out.trans (hb7.mono BB.out.size))
    clear hb7
    go_wp2_with fail
    refine ret_insb (b := w.heap.size) (cs := insC ⟨6, 0, (fieldI v 11 7 : Nat), (fieldI v 19 15 : Nat), 0, immP v psI 12, sz (0 % 4), true, false, false, 0⟩) (v := .bool true) rfl rfl rfl (by simp only [rowI_setRow, if_true, q0, Option.map_some]; rfl) rfl rfl (insB_eq (insB_yes rfl (below_row B7.out _ (Nat.le_refl _) _)) hr.out)
  · have e := e3.out
    rw [k] at e
    simp at e
    subst e
    have hr := Lib.hid (show ⟨6, 0, (fieldI v 11 7 : Nat), (fieldI v 19 15 : Nat), 0, immP v psI 12, sz (1 % 4), true, false, false, 0⟩ = decW v from by unfold decW; rw [if_neg (by omega), if_neg (by omega), if_neg (by omega), if_neg (by omega), if_neg (by omega), if_pos h, if_pos (by omega), k]; try rfl)
    go_wp2_with fail
    refine (ciI.out _).mono ?_
    rintro e w7 ⟨rfl, hb7⟩
    have q0 := rowI_below r0.out hb7
    have B7 := Lib.hid (BB.out.trans (hb7.mono BB.out.size))
    clear hb7
    go_wp2_with fail
    refine ret_insb (b := w.heap.size) (cs := insC ⟨6, 0, (fieldI v 11 7 : Nat), (fieldI v 19 15 : Nat), 0, immP v psI 12, sz (1 % 4), true, false, false, 0⟩) (v := .bool true) rfl rfl rfl (by simp only [rowI_setRow, if_true, q0, Option.map_some]; rfl) rfl rfl (insB_eq (insB_yes rfl (below_row B7.out _ (Nat.le_refl _) _)) hr.out)
  · have e := e3.out
    rw [k] at e
    simp at e
    subst e
    have hr := Lib.hid (show ⟨6, 0, (fieldI v 11 7 : Nat), (fieldI v 19 15 : Nat), 0, immP v psI 12, sz (2 % 4), true, false, false, 0⟩ = decW v from by unfold decW; rw [if_neg (by omega), if_neg (by omega), if_neg (by omega), if_neg (by omega), if_neg (by omega), if_pos h, if_pos (by omega), k]; try rfl)
    go_wp2_with fail
    refine (ciI.out _).mono ?_
    rintro e w7 ⟨rfl, hb7⟩
    have q0 := rowI_below r0.out hb7
    have B7 := Lib.hid (BB.out.trans (hb7.mono BB.out.size))
    clear hb7
    go_wp2_with fail
    refine ret_insb (b := w.heap.size) (cs := insC ⟨6, 0, (fieldI v 11 7 : Nat), (fieldI v 19 15 : Nat), 0, immP v psI 12, sz (2 % 4), true, false, false, 0⟩) (v := .bool true) rfl rfl rfl (by simp only [rowI_setRow, if_true, q0, Option.map_some]; rfl) rfl rfl (insB_eq (insB_yes rfl (below_row B7.out _ (Nat.le_refl _) _)) hr.out)
  · have e := e3.out
    rw [k] at e
    simp at e
    subst e
    have hr := Lib.hid (show ⟨6, 0, (fieldI v 11 7 : Nat), (fieldI v 19 15 : Nat), 0, immP v psI 12, sz (3 % 4), true, false, false, 0⟩ = decW v from by unfold decW; rw [if_neg (by omega), if_neg (by omega), if_neg (by omega), if_neg (by omega), if_neg (by omega), if_pos h, if_pos (by omega), k]; try rfl)
    go_wp2_with fail
    refine (ciI.out _).mono ?_
    rintro e w7 ⟨rfl, hb7⟩
    have q0 := rowI_below r0.out hb7
    have B7 := Lib.hid (BB.out.trans (hb7.mono BB.out.size))
    clear hb7
    go_wp2_with fail
    refine ret_insb (b := w.heap.size) (cs := insC ⟨6, 0, (fieldI v 11 7 : Nat), (fieldI v 19 15 : Nat), 0, immP v psI 12, sz (3 % 4), true, false, false, 0⟩) (v := .bool true) rfl rfl rfl (by simp only [rowI_setRow, if_true, q0, Option.map_some]; rfl) rfl rfl (insB_eq (insB_yes rfl (below_row B7.out _ (Nat.le_refl _) _)) hr.out)
  · have e := e3.out
    rw [k] at e
    simp at e
    subst e
    have hr := Lib.hid (show ⟨6, 0, (fieldI v 11 7 : Nat), (fieldI v 19 15 : Nat), 0, immP v psI 12, sz (4 % 4), false, false, false, 0⟩ = decW v from by unfold decW; rw [if_neg (by omega), if_neg (by omega), if_neg (by omega), if_neg (by omega), if_neg (by omega), if_pos h, if_pos (by omega), k]; try rfl)
    go_wp2_with fail
    refine (ciI.out _).mono ?_
    rintro e w7 ⟨rfl, hb7⟩
    have q0 := rowI_below r0.out hb7
    have B7 := Lib.hid (BB.out.trans (hb7.mono BB.out.size))
    clear hb7
    go_wp2_with fail
    refine ret_insb (b := w.heap.size) (cs := insC ⟨6, 0, (fieldI v 11 7 : Nat), (fieldI v 19 15 : Nat), 0, immP v psI 12, sz (4 % 4), false, false, false, 0⟩) (v := .bool true) rfl rfl rfl (by simp only [rowI_setRow, if_true, q0, Option.map_some]; rfl) rfl rfl (insB_eq (insB_yes rfl (below_row B7.out _ (Nat.le_refl _) _)) hr.out)
  · have e := e3.out
    rw [k] at e
    simp at e
    subst e
    have hr := Lib.hid (show ⟨6, 0, (fieldI v 11 7 : Nat), (fieldI v 19 15 : Nat), 0, immP v psI 12, sz (5 % 4), false, false, false, 0⟩ = decW v from by unfold decW; rw [if_neg (by omega), if_neg (by omega), if_neg (by omega), if_neg (by omega), if_neg (by omega), if_pos h, if_pos (by omega), k]; try rfl)
    go_wp2_with fail
    refine (ciI.out _).mono ?_
    rintro e w7 ⟨rfl, hb7⟩
    have q0 := rowI_below r0.out hb7
    have B7 := Lib.hid (BB.out.trans (hb7.mono BB.out.size))
    clear hb7
    go_wp2_with fail
    refine ret_insb (b := w.heap.size) (cs := insC ⟨6, 0, (fieldI v 11 7 : Nat), (fieldI v 19 15 : Nat), 0, immP v psI 12, sz (5 % 4), false, false, false, 0⟩) (v := .bool true) rfl rfl rfl (by simp only [rowI_setRow, if_true, q0, Option.map_some]; rfl) rfl rfl (insB_eq (insB_yes rfl (below_row B7.out _ (Nat.le_refl _) _)) hr.out)
  · have e := e3.out
    rw [k] at e
    simp at e
    subst e
    have hr := Lib.hid (show ⟨6, 0, (fieldI v 11 7 : Nat), (fieldI v 19 15 : Nat), 0, immP v psI 12, sz (6 % 4), false, false, false, 0⟩ = decW v from by unfold decW; rw [if_neg (by omega), if_neg (by omega), if_neg (by omega), if_neg (by omega), if_neg (by omega), if_pos h, if_pos (by omega), k]; try rfl)
    go_wp2_with fail
    refine (ciI.out _).mono ?_
    rintro e w7 ⟨rfl, hb7⟩
    have q0 := rowI_below r0.out hb7
    have B7 := Lib.hid (BB.out.trans (hb7.mono BB.out.size))
    clear hb7
    go_wp2_with fail
    refine ret_insb (b := w.heap.size) (cs := insC ⟨6, 0, (fieldI v 11 7 : Nat), (fieldI v 19 15 : Nat), 0, immP v psI 12, sz (6 % 4), false, false, false, 0⟩) (v := .bool true) rfl rfl rfl (by simp only [rowI_setRow, if_true, q0, Option.map_some]; rfl) rfl rfl (insB_eq (insB_yes rfl (below_row B7.out _ (Nat.le_refl _) _)) hr.out)
  · have e := e3.out
    rw [k] at e
    simp at e
    subst e
    have hr := Lib.hid (show noI = decW v from by unfold decW; rw [if_neg (by omega), if_neg (by omega), if_neg (by omega), if_neg (by omega), if_neg (by omega), if_pos h, if_neg (by omega)]; try rfl)
    go_wp2_with fail
    refine (ciI.out _).mono ?_
    rintro e w7 ⟨rfl, hb7⟩
    have q0 := rowI_below r0.out hb7
    have B7 := Lib.hid (BB.out.trans (hb7.mono BB.out.size))
    clear hb7
    go_wp2_with fail
    refine ret_insb (b := w.heap.size) (cs := insC ⟨6, 0, (fieldI v 11 7 : Nat), (fieldI v 19 15 : Nat), 0, immP v psI 12, sz (7 % 4), false, false, false, 0⟩) (v := .bool false) rfl rfl rfl (by simp only [rowI_setRow, if_true, q0, Option.map_some]; rfl) rfl rfl (insB_eq (insB_no ⟨6, 0, (fieldI v 11 7 : Nat), (fieldI v 19 15 : Nat), 0, immP v psI 12, sz (7 % 4), false, false, false, 0⟩ rfl (below_row B7.out _ (Nat.le_refl _) _)) hr.out)
end
section
open Go.RowKit Wd
set_option linter.unusedVariables false
set_option linter.unusedSimpArgs false
attribute [local go_sem] loadI_lit loadI_ins storeI_lit rowI_alloc rowI_drew rowI_drewN rowI_setRow rowI_setCell setRow_allocJ and_L
attribute [local go_sem ↓] loadI_run storeK_eq
attribute [local go_sem] storeK_run storeK_one storeF_int
set_option maxRecDepth 8000
set_option maxHeartbeats 40000000 in
theorem one_35 (v : BitVec 32) (x gO g3 g7 : Int) (h : fieldI v 6 0 = 35) (eO : Hid (gO = (fieldI v 6 0 : Nat))) (e3 : Hid (g3 = (fieldI v 14 12 : Nat))) (e7 : Hid (g7 = (fieldI v 31 25 : Nat))) (l3 : fieldI v 14 12 < 8)
    (cO : Hid (Mk Try.prog 86 #[.int .u32 x] (.int .i64 gO))) (c3 : Hid (Mk Try.prog 84 #[.int .u32 x] (.int .i64 g3))) (cd : Hid (Mk Try.prog 81 #[.int .u32 x] (.int .i64 (fieldI v 11 7 : Nat)))) (ca : Hid (Mk Try.prog 82 #[.int .u32 x] (.int .i64 (fieldI v 19 15 : Nat)))) (cb : Hid (Mk Try.prog 83 #[.int .u32 x] (.int .i64 (fieldI v 24 20 : Nat)))) (c7 : Hid (Mk Try.prog 85 #[.int .u32 x] (.int .i64 g7)))
    (ciS : Hid (Mk Try.prog 87 #[.int .u32 x, .int .u8 83] (.int .u64 ((immP v psS 12).toNat : Int)))) (w : World) :
    Calls Try.prog 71 #[.int .u32 x] w (InsB (decW v) w) := by
  have b7 : 0 ≤ g7 := by rw [e7.out]; omega
  replace l3 := Lib.hid l3
  replace h := Lib.hid h
  go_enter Try.func71, Try.ntmps71
  go_wp2_with fail
  refine (cd.out _).mono ?_
  rintro e w1 ⟨rfl, hb1⟩
  go_wp2_with fail
  refine (ca.out _).mono ?_
  rintro e w2 ⟨rfl, hb2⟩
  go_wp2_with fail
  refine (cb.out _).mono ?_
  rintro e w3 ⟨rfl, hb3⟩
  go_wp2_with fail
  refine (c3.out _).mono ?_
  rintro e w4 ⟨rfl, hb4⟩
  go_wp2_with fail
  refine (c7.out _).mono ?_
  rintro e w5 ⟨rfl, hb5⟩
  go_wp2_with fail
  refine (cO.out _).mono ?_
  rintro e w6 ⟨rfl, hb6⟩
  have B2 := hb1.trans (hb2.mono hb1.size)
  have B3 := B2.trans (hb3.mono B2.size)
  have B4 := B3.trans (hb4.mono B3.size)
  have B5 := B4.trans (hb5.mono B4.size)
  have B6 := B5.trans (hb6.mono B5.size)
  clear hb1 hb2 hb3 hb4 hb5 B2 B3 B4 B5 c3 cd ca cb cO c7
  obtain ⟨r0, BB⟩ := one_block B6
  clear B6 hb6
  replace r0 := Lib.hid r0
  replace BB := Lib.hid BB
  replace h := h.out
  replace l3 := l3.out
  have e := eO.out
  rw [h] at e
  simp at e
  subst e
  have hf : fieldI v 14 12 = 0 ∨ fieldI v 14 12 = 1 ∨ fieldI v 14 12 = 2 ∨ fieldI v 14 12 = 3 ∨ fieldI v 14 12 = 4 ∨ fieldI v 14 12 = 5 ∨ fieldI v 14 12 = 6 ∨ fieldI v 14 12 = 7 := by omega
  clear l3
  rcases hf with k | k | k | k | k | k | k | k
  · have e := e3.out
    rw [k] at e
    simp at e
    subst e
    have hr := Lib.hid (show ⟨7, 0, 0, (fieldI v 19 15 : Nat), (fieldI v 24 20 : Nat), immP v psS 12, sz (0 % 4), false, false, false, 0⟩ = decW v from by unfold decW; rw [if_neg (by omega), if_neg (by omega), if_neg (by omega), if_neg (by omega), if_neg (by omega), if_neg (by omega), if_pos h, if_pos (by omega), k]; try rfl)
    go_wp2_with fail
    refine (ciS.out _).mono ?_
    rintro e w7 ⟨rfl, hb7⟩
    have q0 := rowI_below r0.out hb7
    have B7 := Lib.hid (BB.out.trans (hb7.mono BB.out.size))
    clear hb7
    go_wp2_with fail
    refine ret_insb (b := w.heap.size) (cs := insC ⟨7, 0, 0, (fieldI v 19 15 : Nat), (fieldI v 24 20 : Nat), immP v psS 12, sz (0 % 4), false, false, false, 0⟩) (v := .bool true) rfl rfl rfl (by simp only [rowI_setRow, if_true, q0, Option.map_some]; rfl) rfl rfl (insB_eq (insB_yes rfl (below_row B7.out _ (Nat.le_refl _) _)) hr.out)
  · have e := e3.out
    rw [k] at e
    simp at e
    subst e
    have hr := Lib.hid (show ⟨7, 0, 0, (fieldI v 19 15 : Nat), (fieldI v 24 20 : Nat), immP v psS 12, sz (1 % 4), false, false, false, 0⟩ = decW v from by unfold decW; rw [if_neg (by omega), if_neg (by omega), if_neg (by omega), if_neg (by omega), if_neg (by omega), if_neg (by omega), if_pos h, if_pos (by omega), k]; try rfl)
    go_wp2_with fail
    refine (ciS.out _).mono ?_
    rintro e w7 ⟨rfl, hb7⟩
    have q0 := rowI_below r0.out hb7
    have B7 := Lib.hid (BB.out.trans (hb7.mono BB.out.size))
    clear hb7
    go_wp2_with fail
    refine ret_insb (b := w.heap.size) (cs := insC ⟨7, 0, 0, (fieldI v 19 15 : Nat), (fieldI v 24 20 : Nat), immP v psS 12, sz (1 % 4), false, false, false, 0⟩) (v := .bool true) rfl rfl rfl (by simp only [rowI_setRow, if_true, q0, Option.map_some]; rfl) rfl rfl (insB_eq (insB_yes rfl (below_row B7.out _ (Nat.le_refl _) _)) hr.out)
  · have e := e3.out
    rw [k] at e
    simp at e
    subst e
    have hr := Lib.hid (show ⟨7, 0, 0, (fieldI v 19 15 : Nat), (fieldI v 24 20 : Nat), immP v psS 12, sz (2 % 4), false, false, false, 0⟩ = decW v from by unfold decW; rw [if_neg (by omega), if_neg (by omega), if_neg (by omega), if_neg (by omega), if_neg (by omega), if_neg (by omega), if_pos h, if_pos (by omega), k]; try rfl)
    go_wp2_with fail
    refine (ciS.out _).mono ?_
    rintro e w7 ⟨rfl, hb7⟩
    have q0 := rowI_below r0.out hb7
    have B7 := Lib.hid (BB.out.trans (hb7.mono BB.out.size))
    clear hb7
    go_wp2_with fail
    refine ret_insb (b := w.heap.size) (cs := insC ⟨7, 0, 0, (fieldI v 19 15 : Nat), (fieldI v 24 20 : Nat), immP v psS 12, sz (2 % 4), false, false, false, 0⟩) (v := .bool true) rfl rfl rfl (by simp only [rowI_setRow, if_true, q0, Option.map_some]; rfl) rfl rfl (insB_eq (insB_yes rfl (below_row B7.out _ (Nat.le_refl _) _)) hr.out)
  · have e := e3.out
    rw [k] at e
    simp at e
    subst e
    have hr := Lib.hid (show ⟨7, 0, 0, (fieldI v 19 15 : Nat), (fieldI v 24 20 : Nat), immP v psS 12, sz (3 % 4), false, false, false, 0⟩ = decW v from by unfold decW; rw [if_neg (by omega), if_neg (by omega), if_neg (by omega), if_neg (by omega), if_neg (by omega), if_neg (by omega), if_pos h, if_pos (by omega), k]; try rfl)
    go_wp2_with fail
    refine (ciS.out _).mono ?_
    rintro e w7 ⟨rfl, hb7⟩
    have q0 := rowI_below r0.out hb7
    have B7 := Lib.hid (BB.out.trans (hb7.mono BB.out.size))
    clear hb7
    go_wp2_with fail
    refine ret_insb (b := w.heap.size) (cs := insC ⟨7, 0, 0, (fieldI v 19 15 : Nat), (fieldI v 24 20 : Nat), immP v psS 12, sz (3 % 4), false, false, false, 0⟩) (v := .bool true) rfl rfl rfl (by simp only [rowI_setRow, if_true, q0, Option.map_some]; rfl) rfl rfl (insB_eq (insB_yes rfl (below_row B7.out _ (Nat.le_refl _) _)) hr.out)
  · have e := e3.out
    rw [k] at e
    simp at e
    subst e
    have hr := Lib.hid (show noI = decW v from by unfold decW; rw [if_neg (by omega), if_neg (by omega), if_neg (by omega), if_neg (by omega), if_neg (by omega), if_neg (by omega), if_pos h, if_neg (by omega)]; try rfl)
    go_wp2_with fail
    refine (ciS.out _).mono ?_
    rintro e w7 ⟨rfl, hb7⟩
    have q0 := rowI_below r0.out hb7
    have B7 := Lib.hid (BB.out.trans (hb7.mono BB.out.size))
    clear hb7
    go_wp2_with fail
    refine ret_insb (b := w.heap.size) (cs := insC ⟨7, 0, 0, (fieldI v 19 15 : Nat), (fieldI v 24 20 : Nat), immP v psS 12, sz (4 % 4), false, false, false, 0⟩) (v := .bool false) rfl rfl rfl (by simp only [rowI_setRow, if_true, q0, Option.map_some]; rfl) rfl rfl (insB_eq (insB_no ⟨7, 0, 0, (fieldI v 19 15 : Nat), (fieldI v 24 20 : Nat), immP v psS 12, sz (4 % 4), false, false, false, 0⟩ rfl (below_row B7.out _ (Nat.le_refl _) _)) hr.out)
  · have e := e3.out
    rw [k] at e
    simp at e
    subst e
    have hr := Lib.hid (show noI = decW v from by unfold decW; rw [if_neg (by omega), if_neg (by omega), if_neg (by omega), if_neg (by omega), if_neg (by omega), if_neg (by omega), if_pos h, if_neg (by omega)]; try rfl)
    go_wp2_with fail
    refine (ciS.out _).mono ?_
    rintro e w7 ⟨rfl, hb7⟩
    have q0 := rowI_below r0.out hb7
    have B7 := Lib.hid (BB.out.trans (hb7.mono BB.out.size))
    clear hb7
    go_wp2_with fail
    refine ret_insb (b := w.heap.size) (cs := insC ⟨7, 0, 0, (fieldI v 19 15 : Nat), (fieldI v 24 20 : Nat), immP v psS 12, sz (5 % 4), false, false, false, 0⟩) (v := .bool false) rfl rfl rfl (by simp only [rowI_setRow, if_true, q0, Option.map_some]; rfl) rfl rfl (insB_eq (insB_no ⟨7, 0, 0, (fieldI v 19 15 : Nat), (fieldI v 24 20 : Nat), immP v psS 12, sz (5 % 4), false, false, false, 0⟩ rfl (below_row B7.out _ (Nat.le_refl _) _)) hr.out)
  · have e := e3.out
    rw [k] at e
    simp at e
    subst e
    have hr := Lib.hid (show noI = decW v from by unfold decW; rw [if_neg (by omega), if_neg (by omega), if_neg (by omega), if_neg (by omega), if_neg (by omega), if_neg (by omega), if_pos h, if_neg (by omega)]; try rfl)
    go_wp2_with fail
    refine (ciS.out _).mono ?_
    rintro e w7 ⟨rfl, hb7⟩
    have q0 := rowI_below r0.out hb7
    have B7 := Lib.hid (BB.out.trans (hb7.mono BB.out.size))
    clear hb7
    go_wp2_with fail
    refine ret_insb (b := w.heap.size) (cs := insC ⟨7, 0, 0, (fieldI v 19 15 : Nat), (fieldI v 24 20 : Nat), immP v psS 12, sz (6 % 4), false, false, false, 0⟩) (v := .bool false) rfl rfl rfl (by simp only [rowI_setRow, if_true, q0, Option.map_some]; rfl) rfl rfl (insB_eq (insB_no ⟨7, 0, 0, (fieldI v 19 15 : Nat), (fieldI v 24 20 : Nat), immP v psS 12, sz (6 % 4), false, false, false, 0⟩ rfl (below_row B7.out _ (Nat.le_refl _) _)) hr.out)
  · have e := e3.out
    rw [k] at e
    simp at e
    subst e
    have hr := Lib.hid (show noI = decW v from by unfold decW; rw [if_neg (by omega), if_neg (by omega), if_neg (by omega), if_neg (by omega), if_neg (by omega), if_neg (by omega), if_pos h, if_neg (by omega)]; try rfl)
    go_wp2_with fail
    refine (ciS.out _).mono ?_
    rintro e w7 ⟨rfl, hb7⟩
    have q0 := rowI_below r0.out hb7
    have B7 := Lib.hid (BB.out.trans (hb7.mono BB.out.size))
    clear hb7
    go_wp2_with fail
    refine ret_insb (b := w.heap.size) (cs := insC ⟨7, 0, 0, (fieldI v 19 15 : Nat), (fieldI v 24 20 : Nat), immP v psS 12, sz (7 % 4), false, false, false, 0⟩) (v := .bool false) rfl rfl rfl (by simp only [rowI_setRow, if_true, q0, Option.map_some]; rfl) rfl rfl (insB_eq (insB_no ⟨7, 0, 0, (fieldI v 19 15 : Nat), (fieldI v 24 20 : Nat), immP v psS 12, sz (7 % 4), false, false, false, 0⟩ rfl (below_row B7.out _ (Nat.le_refl _) _)) hr.out)
set_option maxHeartbeats 40000000 in
theorem one_15 (v : BitVec 32) (x gO g3 g7 : Int) (h : fieldI v 6 0 = 15) (eO : Hid (gO = (fieldI v 6 0 : Nat))) (e3 : Hid (g3 = (fieldI v 14 12 : Nat))) (e7 : Hid (g7 = (fieldI v 31 25 : Nat))) (l3 : fieldI v 14 12 < 8)
    (cO : Hid (Mk Try.prog 86 #[.int .u32 x] (.int .i64 gO))) (c3 : Hid (Mk Try.prog 84 #[.int .u32 x] (.int .i64 g3))) (cd : Hid (Mk Try.prog 81 #[.int .u32 x] (.int .i64 (fieldI v 11 7 : Nat)))) (ca : Hid (Mk Try.prog 82 #[.int .u32 x] (.int .i64 (fieldI v 19 15 : Nat)))) (cb : Hid (Mk Try.prog 83 #[.int .u32 x] (.int .i64 (fieldI v 24 20 : Nat)))) (c7 : Hid (Mk Try.prog 85 #[.int .u32 x] (.int .i64 g7))) (w : World) :
    Calls Try.prog 71 #[.int .u32 x] w (InsB (decW v) w) := by
  have b7 : 0 ≤ g7 := by rw [e7.out]; omega
  replace l3 := Lib.hid l3
  replace h := Lib.hid h
  go_enter Try.func71, Try.ntmps71
  go_wp2_with fail
  refine (cd.out _).mono ?_
  rintro e w1 ⟨rfl, hb1⟩
  go_wp2_with fail
  refine (ca.out _).mono ?_
  rintro e w2 ⟨rfl, hb2⟩
  go_wp2_with fail
  refine (cb.out _).mono ?_
  rintro e w3 ⟨rfl, hb3⟩
  go_wp2_with fail
  refine (c3.out _).mono ?_
  rintro e w4 ⟨rfl, hb4⟩
  go_wp2_with fail
  refine (c7.out _).mono ?_
  rintro e w5 ⟨rfl, hb5⟩
  go_wp2_with fail
  refine (cO.out _).mono ?_
  rintro e w6 ⟨rfl, hb6⟩
  have B2 := hb1.trans (hb2.mono hb1.size)
  have B3 := B2.trans (hb3.mono B2.size)
  have B4 := B3.trans (hb4.mono B3.size)
  have B5 := B4.trans (hb5.mono B4.size)
  have B6 := B5.trans (hb6.mono B5.size)
  clear hb1 hb2 hb3 hb4 hb5 B2 B3 B4 B5 c3 cd ca cb cO c7
  obtain ⟨r0, BB⟩ := one_block B6
  clear B6 hb6
  replace r0 := Lib.hid r0
  replace BB := Lib.hid BB
  replace h := h.out
  replace l3 := l3.out
  have e := eO.out
  rw [h] at e
  simp at e
  subst e
  have hf : fieldI v 14 12 = 0 ∨ fieldI v 14 12 = 1 ∨ fieldI v 14 12 = 2 ∨ fieldI v 14 12 = 3 ∨ fieldI v 14 12 = 4 ∨ fieldI v 14 12 = 5 ∨ fieldI v 14 12 = 6 ∨ fieldI v 14 12 = 7 := by omega
  clear l3
  rcases hf with k | k | k | k | k | k | k | k
  · have e := e3.out
    rw [k] at e
    simp at e
    subst e
    have hr := Lib.hid (show (opOnly (11 + 0)) = decW v from by unfold decW; rw [if_neg (by omega), if_neg (by omega), if_neg (by omega), if_neg (by omega), if_neg (by omega), if_neg (by omega), if_neg (by omega), if_neg (by omega), if_neg (by omega), if_pos h, if_pos k]; try rfl)
    have q0 := r0.out
    go_wp2_with fail
    refine ret_insb (b := w.heap.size) (cs := insC (opOnly (11 + 0))) (v := .bool true) rfl rfl rfl (by simp only [rowI_setRow, if_true, q0, Option.map_some]; rfl) rfl rfl (insB_eq (insB_yes rfl (below_row BB.out _ (Nat.le_refl _) _)) hr.out)
  · have e := e3.out
    rw [k] at e
    simp at e
    subst e
    have hr := Lib.hid (show (opOnly (11 + 1)) = decW v from by unfold decW; rw [if_neg (by omega), if_neg (by omega), if_neg (by omega), if_neg (by omega), if_neg (by omega), if_neg (by omega), if_neg (by omega), if_neg (by omega), if_neg (by omega), if_pos h, if_neg (by omega), if_pos k]; try rfl)
    have q0 := r0.out
    go_wp2_with fail
    refine ret_insb (b := w.heap.size) (cs := insC (opOnly (11 + 1))) (v := .bool true) rfl rfl rfl (by simp only [rowI_setRow, if_true, q0, Option.map_some]; rfl) rfl rfl (insB_eq (insB_yes rfl (below_row BB.out _ (Nat.le_refl _) _)) hr.out)
  · have e := e3.out
    rw [k] at e
    simp at e
    subst e
    have hr := Lib.hid (show noI = decW v from by unfold decW; rw [if_neg (by omega), if_neg (by omega), if_neg (by omega), if_neg (by omega), if_neg (by omega), if_neg (by omega), if_neg (by omega), if_neg (by omega), if_neg (by omega), if_pos h, if_neg (by omega), if_neg (by omega)]; try rfl)
    have q0 := r0.out
    go_wp2_with fail
    refine ret_insb (b := w.heap.size) (cs := insC (opOnly (11 + 0))) (v := .bool false) rfl rfl rfl (by simp only [rowI_setRow, if_true, q0, Option.map_some]; rfl) rfl rfl (insB_eq (insB_no (opOnly (11 + 0)) rfl (below_row BB.out _ (Nat.le_refl _) _)) hr.out)
  · have e := e3.out
    rw [k] at e
    simp at e
    subst e
    have hr := Lib.hid (show noI = decW v from by unfold decW; rw [if_neg (by omega), if_neg (by omega), if_neg (by omega), if_neg (by omega), if_neg (by omega), if_neg (by omega), if_neg (by omega), if_neg (by omega), if_neg (by omega), if_pos h, if_neg (by omega), if_neg (by omega)]; try rfl)
    have q0 := r0.out
    go_wp2_with fail
    refine ret_insb (b := w.heap.size) (cs := insC (opOnly (11 + 1))) (v := .bool false) rfl rfl rfl (by simp only [rowI_setRow, if_true, q0, Option.map_some]; rfl) rfl rfl (insB_eq (insB_no (opOnly (11 + 1)) rfl (below_row BB.out _ (Nat.le_refl _) _)) hr.out)
  · have e := e3.out
    rw [k] at e
    simp at e
    subst e
    have hr := Lib.hid (show noI = decW v from by unfold decW; rw [if_neg (by omega), if_neg (by omega), if_neg (by omega), if_neg (by omega), if_neg (by omega), if_neg (by omega), if_neg (by omega), if_neg (by omega), if_neg (by omega), if_pos h, if_neg (by omega), if_neg (by omega)]; try rfl)
    have q0 := r0.out
    go_wp2_with fail
    refine ret_insb (b := w.heap.size) (cs := insC (opOnly (11 + 0))) (v := .bool false) rfl rfl rfl (by simp only [rowI_setRow, if_true, q0, Option.map_some]; rfl) rfl rfl (insB_eq (insB_no (opOnly (11 + 0)) rfl (below_row BB.out _ (Nat.le_refl _) _)) hr.out)
  · have e := e3.out
    rw [k] at e
    simp at e
    subst e
    have hr := Lib.hid (show noI = decW v from by unfold decW; rw [if_neg (by omega), if_neg (by omega), if_neg (by omega), if_neg (by omega), if_neg (by omega), if_neg (by omega), if_neg (by omega), if_neg (by omega), if_neg (by omega), if_pos h, if_neg (by omega), if_neg (by omega)]; try rfl)
    have q0 := r0.out
    go_wp2_with fail
    refine ret_insb (b := w.heap.size) (cs := insC (opOnly (11 + 1))) (v := .bool false) rfl rfl rfl (by simp only [rowI_setRow, if_true, q0, Option.map_some]; rfl) rfl rfl (insB_eq (insB_no (opOnly (11 + 1)) rfl (below_row BB.out _ (Nat.le_refl _) _)) hr.out)
  · have e := e3.out
    rw [k] at e
    simp at e
    subst e
    have hr := Lib.hid (show noI = decW v from by unfold decW; rw [if_neg (by omega), if_neg (by omega), if_neg (by omega), if_neg (by omega), if_neg (by omega), if_neg (by omega), if_neg (by omega), if_neg (by omega), if_neg (by omega), if_pos h, if_neg (by omega), if_neg (by omega)]; try rfl)
    have q0 := r0.out
    go_wp2_with fail
    refine ret_insb (b := w.heap.size) (cs := insC (opOnly (11 + 0))) (v := .bool false) rfl rfl rfl (by simp only [rowI_setRow, if_true, q0, Option.map_some]; rfl) rfl rfl (insB_eq (insB_no (opOnly (11 + 0)) rfl (below_row BB.out _ (Nat.le_refl _) _)) hr.out)
  · have e := e3.out
    rw [k] at e
    simp at e
    subst e
    have hr := Lib.hid (show noI = decW v from by unfold decW; rw [if_neg (by omega), if_neg (by omega), if_neg (by omega), if_neg (by omega), if_neg (by omega), if_neg (by omega), if_neg (by omega), if_neg (by omega), if_neg (by omega), if_pos h, if_neg (by omega), if_neg (by omega)]; try rfl)
    have q0 := r0.out
    go_wp2_with fail
    refine ret_insb (b := w.heap.size) (cs := insC (opOnly (11 + 1))) (v := .bool false) rfl rfl rfl (by simp only [rowI_setRow, if_true, q0, Option.map_some]; rfl) rfl rfl (insB_eq (insB_no (opOnly (11 + 1)) rfl (below_row BB.out _ (Nat.le_refl _) _)) hr.out)
end
section
open Go.RowKit Wd
set_option linter.unusedVariables false
set_option linter.unusedSimpArgs false
attribute [local go_sem] loadI_lit loadI_ins storeI_lit rowI_alloc rowI_drew rowI_drewN rowI_setRow rowI_setCell setRow_allocJ and_L
attribute [local go_sem ↓] loadI_run storeK_eq
attribute [local go_sem] storeK_run storeK_one storeF_int
set_option maxRecDepth 8000
theorem storeI_insR (w : World) (b : Nat) (i : Ins) (y0 y1 y2 y3 y4 y5 y6 y7 y8 y9 y10 : Value) : storeI w b (insC i) (some #[y0, y1, y2, y3, y4, y5, y6, y7, y8, y9, y10]) = .ok () (w.setRow b (insC i)) := if_pos ⟨rfl, by simp [insC, Value.oneCell']⟩
attribute [local go_sem] storeI_insR
theorem storeK_storeI_insR (w : World) (b : Nat) (i : Ins) : (storeK ⟨b, 0, none⟩ (insC i).toList 0).run Try.prog w = storeI w b (insC i) (rowI w b) := by
  show (storeCells ⟨b, 0, none⟩ (insC i).toList 0).run Try.prog w = _
  have := storeI_run' w b (insC i).toList
  rwa [Array.toArray_toList] at this
theorem insB_pass {T T' : Ins} {w w' : World} {e : Ending} (i : Ins) (b : Bool) (he : e = .returned (.tuple #[.agg (insC i), .bool b])) (hP : (if b = true then i else noI) = T) (ht : T = T') (hb : Below w.heap.size w w') : InsB T' w e w' := ⟨i, b, he, hP.trans ht, hb⟩
attribute [local go_sem] storeK_storeI_insR
set_option maxHeartbeats 40000000 in
theorem one_19 (v : BitVec 32) (x gO g3 g7 : Int) (h : fieldI v 6 0 = 19) (eO : Hid (gO = (fieldI v 6 0 : Nat))) (e3 : Hid (g3 = (fieldI v 14 12 : Nat))) (e7 : Hid (g7 = (fieldI v 31 25 : Nat))) (l3 : fieldI v 14 12 < 8)
    (cO : Hid (Mk Try.prog 86 #[.int .u32 x] (.int .i64 gO))) (c3 : Hid (Mk Try.prog 84 #[.int .u32 x] (.int .i64 g3))) (cd : Hid (Mk Try.prog 81 #[.int .u32 x] (.int .i64 (fieldI v 11 7 : Nat)))) (ca : Hid (Mk Try.prog 82 #[.int .u32 x] (.int .i64 (fieldI v 19 15 : Nat)))) (cb : Hid (Mk Try.prog 83 #[.int .u32 x] (.int .i64 (fieldI v 24 20 : Nat)))) (c7 : Hid (Mk Try.prog 85 #[.int .u32 x] (.int .i64 g7)))
    (cI : Hid (∀ w, Calls Try.prog 88 #[.int .u32 x, .bool false, .int .i64 63] w (InsB (immD v) w))) (w : World) :
    Calls Try.prog 71 #[.int .u32 x] w (InsB (decW v) w) := by
  have b7 : 0 ≤ g7 := by rw [e7.out]; omega
  replace l3 := Lib.hid l3
  replace h := Lib.hid h
  go_enter Try.func71, Try.ntmps71
  go_wp2_with fail
  refine (cd.out _).mono ?_
  rintro e w1 ⟨rfl, hb1⟩
  go_wp2_with fail
  refine (ca.out _).mono ?_
  rintro e w2 ⟨rfl, hb2⟩
  go_wp2_with fail
  refine (cb.out _).mono ?_
  rintro e w3 ⟨rfl, hb3⟩
  go_wp2_with fail
  refine (c3.out _).mono ?_
  rintro e w4 ⟨rfl, hb4⟩
  go_wp2_with fail
  refine (c7.out _).mono ?_
  rintro e w5 ⟨rfl, hb5⟩
  go_wp2_with fail
  refine (cO.out _).mono ?_
  rintro e w6 ⟨rfl, hb6⟩
  have B2 := hb1.trans (hb2.mono hb1.size)
  have B3 := B2.trans (hb3.mono B2.size)
  have B4 := B3.trans (hb4.mono B3.size)
  have B5 := B4.trans (hb5.mono B4.size)
  have B6 := B5.trans (hb6.mono B5.size)
  clear hb1 hb2 hb3 hb4 hb5 B2 B3 B4 B5 c3 cd ca cb cO c7
  obtain ⟨r0, BB⟩ := one_block B6
  clear B6 hb6
  replace r0 := Lib.hid r0
  replace BB := Lib.hid BB
  replace h := h.out
  replace l3 := l3.out
  have e := eO.out
  rw [h] at e
  simp at e
  subst e
  clear e3 l3 e7
  have hr := Lib.hid (show immD v = decW v from by unfold decW; rw [if_neg (by omega), if_neg (by omega), if_neg (by omega), if_neg (by omega), if_neg (by omega), if_neg (by omega), if_neg (by omega), if_pos (.inl h)])
  go_wp2_with fail
  refine (cI.out _).mono ?_
  rintro e w7 ⟨i, b, rfl, hP, hb7⟩
  have q0 := rowI_below r0.out hb7
  have B7 := Lib.hid (BB.out.trans (hb7.mono BB.out.size))
  replace hP := Lib.hid hP
  clear hb7
  go_wp2_with fail
  refine ret_insb (b := w.heap.size) (cs := insC i) (v := .bool b) rfl rfl rfl (by rw [rowI_setRow, if_pos rfl, q0]; rfl) rfl rfl ?_
  exact insB_pass i b rfl hP.out hr.out (below_row B7.out _ (Nat.le_refl _) _)
set_option maxHeartbeats 40000000 in
theorem one_27 (v : BitVec 32) (x gO g3 g7 : Int) (h : fieldI v 6 0 = 27) (eO : Hid (gO = (fieldI v 6 0 : Nat))) (e3 : Hid (g3 = (fieldI v 14 12 : Nat))) (e7 : Hid (g7 = (fieldI v 31 25 : Nat))) (l3 : fieldI v 14 12 < 8)
    (cO : Hid (Mk Try.prog 86 #[.int .u32 x] (.int .i64 gO))) (c3 : Hid (Mk Try.prog 84 #[.int .u32 x] (.int .i64 g3))) (cd : Hid (Mk Try.prog 81 #[.int .u32 x] (.int .i64 (fieldI v 11 7 : Nat)))) (ca : Hid (Mk Try.prog 82 #[.int .u32 x] (.int .i64 (fieldI v 19 15 : Nat)))) (cb : Hid (Mk Try.prog 83 #[.int .u32 x] (.int .i64 (fieldI v 24 20 : Nat)))) (c7 : Hid (Mk Try.prog 85 #[.int .u32 x] (.int .i64 g7)))
    (cI : Hid (∀ w, Calls Try.prog 88 #[.int .u32 x, .bool true, .int .i64 31] w (InsB (immD v) w))) (w : World) :
    Calls Try.prog 71 #[.int .u32 x] w (InsB (decW v) w) := by
  have b7 : 0 ≤ g7 := by rw [e7.out]; omega
  replace l3 := Lib.hid l3
  replace h := Lib.hid h
  go_enter Try.func71, Try.ntmps71
  go_wp2_with fail
  refine (cd.out _).mono ?_
  rintro e w1 ⟨rfl, hb1⟩
  go_wp2_with fail
  refine (ca.out _).mono ?_
  rintro e w2 ⟨rfl, hb2⟩
  go_wp2_with fail
  refine (cb.out _).mono ?_
  rintro e w3 ⟨rfl, hb3⟩
  go_wp2_with fail
  refine (c3.out _).mono ?_
  rintro e w4 ⟨rfl, hb4⟩
  go_wp2_with fail
  refine (c7.out _).mono ?_
  rintro e w5 ⟨rfl, hb5⟩
  go_wp2_with fail
  refine (cO.out _).mono ?_
  rintro e w6 ⟨rfl, hb6⟩
  have B2 := hb1.trans (hb2.mono hb1.size)
  have B3 := B2.trans (hb3.mono B2.size)
  have B4 := B3.trans (hb4.mono B3.size)
  have B5 := B4.trans (hb5.mono B4.size)
  have B6 := B5.trans (hb6.mono B5.size)
  clear hb1 hb2 hb3 hb4 hb5 B2 B3 B4 B5 c3 cd ca cb cO c7
  obtain ⟨r0, BB⟩ := one_block B6
  clear B6 hb6
  replace r0 := Lib.hid r0
  replace BB := Lib.hid BB
  replace h := h.out
  replace l3 := l3.out
  have e := eO.out
  rw [h] at e
  simp at e
  subst e
  clear e3 l3 e7
  have hr := Lib.hid (show immD v = decW v from by unfold decW; rw [if_neg (by omega), if_neg (by omega), if_neg (by omega), if_neg (by omega), if_neg (by omega), if_neg (by omega), if_neg (by omega), if_pos (.inr h)])
  go_wp2_with fail
  refine (cI.out _).mono ?_
  rintro e w7 ⟨i, b, rfl, hP, hb7⟩
  have q0 := rowI_below r0.out hb7
  have B7 := Lib.hid (BB.out.trans (hb7.mono BB.out.size))
  replace hP := Lib.hid hP
  clear hb7
  go_wp2_with fail
  refine ret_insb (b := w.heap.size) (cs := insC i) (v := .bool b) rfl rfl rfl (by rw [rowI_setRow, if_pos rfl, q0]; rfl) rfl rfl ?_
  exact insB_pass i b rfl hP.out hr.out (below_row B7.out _ (Nat.le_refl _) _)
set_option maxHeartbeats 40000000 in
theorem one_51 (v : BitVec 32) (x gO g3 g7 : Int) (h : fieldI v 6 0 = 51) (eO : Hid (gO = (fieldI v 6 0 : Nat))) (e3 : Hid (g3 = (fieldI v 14 12 : Nat))) (e7 : Hid (g7 = (fieldI v 31 25 : Nat))) (l3 : fieldI v 14 12 < 8)
    (cO : Hid (Mk Try.prog 86 #[.int .u32 x] (.int .i64 gO))) (c3 : Hid (Mk Try.prog 84 #[.int .u32 x] (.int .i64 g3))) (cd : Hid (Mk Try.prog 81 #[.int .u32 x] (.int .i64 (fieldI v 11 7 : Nat)))) (ca : Hid (Mk Try.prog 82 #[.int .u32 x] (.int .i64 (fieldI v 19 15 : Nat)))) (cb : Hid (Mk Try.prog 83 #[.int .u32 x] (.int .i64 (fieldI v 24 20 : Nat)))) (c7 : Hid (Mk Try.prog 85 #[.int .u32 x] (.int .i64 g7)))
    (cI : Hid (∀ w, Calls Try.prog 89 #[.int .i64 g3, .int .i64 g7, .bool false, .int .i64 (fieldI v 11 7 : Nat), .int .i64 (fieldI v 19 15 : Nat), .int .i64 (fieldI v 24 20 : Nat)] w (InsB (regD v) w))) (w : World) :
    Calls Try.prog 71 #[.int .u32 x] w (InsB (decW v) w) := by
  have b7 : 0 ≤ g7 := by rw [e7.out]; omega
  replace l3 := Lib.hid l3
  replace h := Lib.hid h
  go_enter Try.func71, Try.ntmps71
  go_wp2_with fail
  refine (cd.out _).mono ?_
  rintro e w1 ⟨rfl, hb1⟩
  go_wp2_with fail
  refine (ca.out _).mono ?_
  rintro e w2 ⟨rfl, hb2⟩
  go_wp2_with fail
  refine (cb.out _).mono ?_
  rintro e w3 ⟨rfl, hb3⟩
  go_wp2_with fail
  refine (c3.out _).mono ?_
  rintro e w4 ⟨rfl, hb4⟩
  go_wp2_with fail
  refine (c7.out _).mono ?_
  rintro e w5 ⟨rfl, hb5⟩
  go_wp2_with fail
  refine (cO.out _).mono ?_
  rintro e w6 ⟨rfl, hb6⟩
  have B2 := hb1.trans (hb2.mono hb1.size)
  have B3 := B2.trans (hb3.mono B2.size)
  have B4 := B3.trans (hb4.mono B3.size)
  have B5 := B4.trans (hb5.mono B4.size)
  have B6 := B5.trans (hb6.mono B5.size)
  clear hb1 hb2 hb3 hb4 hb5 B2 B3 B4 B5 c3 cd ca cb cO c7
  obtain ⟨r0, BB⟩ := one_block B6
  clear B6 hb6
  replace r0 := Lib.hid r0
  replace BB := Lib.hid BB
  replace h := h.out
  replace l3 := l3.out
  have e := eO.out
  rw [h] at e
  simp at e
  subst e
  clear e3 l3 e7
  have hr := Lib.hid (show regD v = decW v from by unfold decW; rw [if_neg (by omega), if_neg (by omega), if_neg (by omega), if_neg (by omega), if_neg (by omega), if_neg (by omega), if_neg (by omega), if_neg (by omega), if_pos (.inl h)])
  go_wp2_with fail
  refine (cI.out _).mono ?_
  rintro e w7 ⟨i, b, rfl, hP, hb7⟩
  have q0 := rowI_below r0.out hb7
  have B7 := Lib.hid (BB.out.trans (hb7.mono BB.out.size))
  replace hP := Lib.hid hP
  clear hb7
  go_wp2_with fail
  refine ret_insb (b := w.heap.size) (cs := insC i) (v := .bool b) rfl rfl rfl (by rw [rowI_setRow, if_pos rfl, q0]; rfl) rfl rfl ?_
  exact insB_pass i b rfl hP.out hr.out (below_row B7.out _ (Nat.le_refl _) _)
set_option maxHeartbeats 40000000 in
theorem one_59 (v : BitVec 32) (x gO g3 g7 : Int) (h : fieldI v 6 0 = 59) (eO : Hid (gO = (fieldI v 6 0 : Nat))) (e3 : Hid (g3 = (fieldI v 14 12 : Nat))) (e7 : Hid (g7 = (fieldI v 31 25 : Nat))) (l3 : fieldI v 14 12 < 8)
    (cO : Hid (Mk Try.prog 86 #[.int .u32 x] (.int .i64 gO))) (c3 : Hid (Mk Try.prog 84 #[.int .u32 x] (.int .i64 g3))) (cd : Hid (Mk Try.prog 81 #[.int .u32 x] (.int .i64 (fieldI v 11 7 : Nat)))) (ca : Hid (Mk Try.prog 82 #[.int .u32 x] (.int .i64 (fieldI v 19 15 : Nat)))) (cb : Hid (Mk Try.prog 83 #[.int .u32 x] (.int .i64 (fieldI v 24 20 : Nat)))) (c7 : Hid (Mk Try.prog 85 #[.int .u32 x] (.int .i64 g7)))
    (cI : Hid (∀ w, Calls Try.prog 89 #[.int .i64 g3, .int .i64 g7, .bool true, .int .i64 (fieldI v 11 7 : Nat), .int .i64 (fieldI v 19 15 : Nat), .int .i64 (fieldI v 24 20 : Nat)] w (InsB (regD v) w))) (w : World) :
    Calls Try.prog 71 #[.int .u32 x] w (InsB (decW v) w) := by
  have b7 : 0 ≤ g7 := by rw [e7.out]; omega
  replace l3 := Lib.hid l3
  replace h := Lib.hid h
  go_enter Try.func71, Try.ntmps71
  go_wp2_with fail
  refine (cd.out _).mono ?_
  rintro e w1 ⟨rfl, hb1⟩
  go_wp2_with fail
  refine (ca.out _).mono ?_
  rintro e w2 ⟨rfl, hb2⟩
  go_wp2_with fail
  refine (cb.out _).mono ?_
  rintro e w3 ⟨rfl, hb3⟩
  go_wp2_with fail
  refine (c3.out _).mono ?_
  rintro e w4 ⟨rfl, hb4⟩
  go_wp2_with fail
  refine (c7.out _).mono ?_
  rintro e w5 ⟨rfl, hb5⟩
  go_wp2_with fail
  refine (cO.out _).mono ?_
  rintro e w6 ⟨rfl, hb6⟩
  have B2 := hb1.trans (hb2.mono hb1.size)
  have B3 := B2.trans (hb3.mono B2.size)
  have B4 := B3.trans (hb4.mono B3.size)
  have B5 := B4.trans (hb5.mono B4.size)
  have B6 := B5.trans (hb6.mono B5.size)
  clear hb1 hb2 hb3 hb4 hb5 B2 B3 B4 B5 c3 cd ca cb cO c7
  obtain ⟨r0, BB⟩ := one_block B6
  clear B6 hb6
  replace r0 := Lib.hid r0
  replace BB := Lib.hid BB
  replace h := h.out
  replace l3 := l3.out
  have e := eO.out
  rw [h] at e
  simp at e
  subst e
  clear e3 l3 e7
  have hr := Lib.hid (show regD v = decW v from by unfold decW; rw [if_neg (by omega), if_neg (by omega), if_neg (by omega), if_neg (by omega), if_neg (by omega), if_neg (by omega), if_neg (by omega), if_neg (by omega), if_pos (.inr h)])
  go_wp2_with fail
  refine (cI.out _).mono ?_
  rintro e w7 ⟨i, b, rfl, hP, hb7⟩
  have q0 := rowI_below r0.out hb7
  have B7 := Lib.hid (BB.out.trans (hb7.mono BB.out.size))
  replace hP := Lib.hid hP
  clear hb7
  go_wp2_with fail
  refine ret_insb (b := w.heap.size) (cs := insC i) (v := .bool b) rfl rfl rfl (by rw [rowI_setRow, if_pos rfl, q0]; rfl) rfl rfl ?_
  exact insB_pass i b rfl hP.out hr.out (below_row B7.out _ (Nat.le_refl _) _)
set_option maxHeartbeats 40000000 in
theorem one_47 (v : BitVec 32) (x gO g3 g7 : Int) (h : fieldI v 6 0 = 47) (eO : Hid (gO = (fieldI v 6 0 : Nat))) (e3 : Hid (g3 = (fieldI v 14 12 : Nat))) (e7 : Hid (g7 = (fieldI v 31 25 : Nat))) (l3 : fieldI v 14 12 < 8)
    (cO : Hid (Mk Try.prog 86 #[.int .u32 x] (.int .i64 gO))) (c3 : Hid (Mk Try.prog 84 #[.int .u32 x] (.int .i64 g3))) (cd : Hid (Mk Try.prog 81 #[.int .u32 x] (.int .i64 (fieldI v 11 7 : Nat)))) (ca : Hid (Mk Try.prog 82 #[.int .u32 x] (.int .i64 (fieldI v 19 15 : Nat)))) (cb : Hid (Mk Try.prog 83 #[.int .u32 x] (.int .i64 (fieldI v 24 20 : Nat)))) (c7 : Hid (Mk Try.prog 85 #[.int .u32 x] (.int .i64 g7)))
    (cI : Hid (∀ w, Calls Try.prog 90 #[.int .i64 g3, .int .i64 (wrap64 (g7.tdiv 4)), .int .i64 (fieldI v 11 7 : Nat), .int .i64 (fieldI v 19 15 : Nat), .int .i64 (fieldI v 24 20 : Nat)] w (InsB (amoD v) w))) (w : World) :
    Calls Try.prog 71 #[.int .u32 x] w (InsB (decW v) w) := by
  have b7 : 0 ≤ g7 := by rw [e7.out]; omega
  replace l3 := Lib.hid l3
  replace h := Lib.hid h
  go_enter Try.func71, Try.ntmps71
  go_wp2_with fail
  refine (cd.out _).mono ?_
  rintro e w1 ⟨rfl, hb1⟩
  go_wp2_with fail
  refine (ca.out _).mono ?_
  rintro e w2 ⟨rfl, hb2⟩
  go_wp2_with fail
  refine (cb.out _).mono ?_
  rintro e w3 ⟨rfl, hb3⟩
  go_wp2_with fail
  refine (c3.out _).mono ?_
  rintro e w4 ⟨rfl, hb4⟩
  go_wp2_with fail
  refine (c7.out _).mono ?_
  rintro e w5 ⟨rfl, hb5⟩
  go_wp2_with fail
  refine (cO.out _).mono ?_
  rintro e w6 ⟨rfl, hb6⟩
  have B2 := hb1.trans (hb2.mono hb1.size)
  have B3 := B2.trans (hb3.mono B2.size)
  have B4 := B3.trans (hb4.mono B3.size)
  have B5 := B4.trans (hb5.mono B4.size)
  have B6 := B5.trans (hb6.mono B5.size)
  clear hb1 hb2 hb3 hb4 hb5 B2 B3 B4 B5 c3 cd ca cb cO c7
  obtain ⟨r0, BB⟩ := one_block B6
  clear B6 hb6
  replace r0 := Lib.hid r0
  replace BB := Lib.hid BB
  replace h := h.out
  replace l3 := l3.out
  have e := eO.out
  rw [h] at e
  simp at e
  subst e
  clear e3 l3 e7
  have hr := Lib.hid (show amoD v = decW v from by unfold decW; rw [if_neg (by omega), if_neg (by omega), if_neg (by omega), if_neg (by omega), if_neg (by omega), if_neg (by omega), if_neg (by omega), if_neg (by omega), if_neg (by omega), if_neg (by omega), if_pos h])
  go_wp2_with fail
  refine (cI.out _).mono ?_
  rintro e w7 ⟨i, b, rfl, hP, hb7⟩
  have q0 := rowI_below r0.out hb7
  have B7 := Lib.hid (BB.out.trans (hb7.mono BB.out.size))
  replace hP := Lib.hid hP
  clear hb7
  go_wp2_with fail
  refine ret_insb (b := w.heap.size) (cs := insC i) (v := .bool b) rfl rfl rfl (by rw [rowI_setRow, if_pos rfl, q0]; rfl) rfl rfl ?_
  exact insB_pass i b rfl hP.out hr.out (below_row B7.out _ (Nat.le_refl _) _)
set_option maxHeartbeats 40000000 in
theorem one_115 (v : BitVec 32) (x gO g3 g7 : Int) (h : fieldI v 6 0 = 115) (eO : Hid (gO = (fieldI v 6 0 : Nat))) (e3 : Hid (g3 = (fieldI v 14 12 : Nat))) (e7 : Hid (g7 = (fieldI v 31 25 : Nat))) (l3 : fieldI v 14 12 < 8)
    (cO : Hid (Mk Try.prog 86 #[.int .u32 x] (.int .i64 gO))) (c3 : Hid (Mk Try.prog 84 #[.int .u32 x] (.int .i64 g3))) (cd : Hid (Mk Try.prog 81 #[.int .u32 x] (.int .i64 (fieldI v 11 7 : Nat)))) (ca : Hid (Mk Try.prog 82 #[.int .u32 x] (.int .i64 (fieldI v 19 15 : Nat)))) (cb : Hid (Mk Try.prog 83 #[.int .u32 x] (.int .i64 (fieldI v 24 20 : Nat)))) (c7 : Hid (Mk Try.prog 85 #[.int .u32 x] (.int .i64 g7)))
    (cI : Hid (∀ w, Calls Try.prog 91 #[.int .u32 x, .int .i64 (fieldI v 11 7 : Nat), .int .i64 (fieldI v 19 15 : Nat), .int .i64 (fieldI v 24 20 : Nat), .int .i64 g3, .int .i64 g7] w (InsB (sysD v) w))) (w : World) :
    Calls Try.prog 71 #[.int .u32 x] w (InsB (decW v) w) := by
  have b7 : 0 ≤ g7 := by rw [e7.out]; omega
  replace l3 := Lib.hid l3
  replace h := Lib.hid h
  go_enter Try.func71, Try.ntmps71
  go_wp2_with fail
  refine (cd.out _).mono ?_
  rintro e w1 ⟨rfl, hb1⟩
  go_wp2_with fail
  refine (ca.out _).mono ?_
  rintro e w2 ⟨rfl, hb2⟩
  go_wp2_with fail
  refine (cb.out _).mono ?_
  rintro e w3 ⟨rfl, hb3⟩
  go_wp2_with fail
  refine (c3.out _).mono ?_
  rintro e w4 ⟨rfl, hb4⟩
  go_wp2_with fail
  refine (c7.out _).mono ?_
  rintro e w5 ⟨rfl, hb5⟩
  go_wp2_with fail
  refine (cO.out _).mono ?_
  rintro e w6 ⟨rfl, hb6⟩
  have B2 := hb1.trans (hb2.mono hb1.size)
  have B3 := B2.trans (hb3.mono B2.size)
  have B4 := B3.trans (hb4.mono B3.size)
  have B5 := B4.trans (hb5.mono B4.size)
  have B6 := B5.trans (hb6.mono B5.size)
  clear hb1 hb2 hb3 hb4 hb5 B2 B3 B4 B5 c3 cd ca cb cO c7
  obtain ⟨r0, BB⟩ := one_block B6
  clear B6 hb6
  replace r0 := Lib.hid r0
  replace BB := Lib.hid BB
  replace h := h.out
  replace l3 := l3.out
  have e := eO.out
  rw [h] at e
  simp at e
  subst e
  clear e3 l3 e7
  have hr := Lib.hid (show sysD v = decW v from by unfold decW; rw [if_neg (by omega), if_neg (by omega), if_neg (by omega), if_neg (by omega), if_neg (by omega), if_neg (by omega), if_neg (by omega), if_neg (by omega), if_neg (by omega), if_neg (by omega), if_neg (by omega), if_pos h])
  go_wp2_with fail
  refine (cI.out _).mono ?_
  rintro e w7 ⟨i, b, rfl, hP, hb7⟩
  have q0 := rowI_below r0.out hb7
  have B7 := Lib.hid (BB.out.trans (hb7.mono BB.out.size))
  replace hP := Lib.hid hP
  clear hb7
  go_wp2_with fail
  refine ret_insb (b := w.heap.size) (cs := insC i) (v := .bool b) rfl rfl rfl (by rw [rowI_setRow, if_pos rfl, q0]; rfl) rfl rfl ?_
  exact insB_pass i b rfl hP.out hr.out (below_row B7.out _ (Nat.le_refl _) _)
set_option maxHeartbeats 40000000 in
theorem one_no (v : BitVec 32) (x gO g3 g7 : Int) (h : ¬ (fieldI v 6 0 = 55 ∨ fieldI v 6 0 = 23 ∨ fieldI v 6 0 = 111 ∨ fieldI v 6 0 = 103 ∨ fieldI v 6 0 = 99 ∨ fieldI v 6 0 = 3 ∨ fieldI v 6 0 = 35 ∨ fieldI v 6 0 = 19 ∨ fieldI v 6 0 = 27 ∨ fieldI v 6 0 = 51 ∨ fieldI v 6 0 = 59 ∨ fieldI v 6 0 = 15 ∨ fieldI v 6 0 = 47 ∨ fieldI v 6 0 = 115)) (eO : Hid (gO = (fieldI v 6 0 : Nat))) (e3 : Hid (g3 = (fieldI v 14 12 : Nat))) (e7 : Hid (g7 = (fieldI v 31 25 : Nat))) (l3 : fieldI v 14 12 < 8)
    (cO : Hid (Mk Try.prog 86 #[.int .u32 x] (.int .i64 gO))) (c3 : Hid (Mk Try.prog 84 #[.int .u32 x] (.int .i64 g3))) (cd : Hid (Mk Try.prog 81 #[.int .u32 x] (.int .i64 (fieldI v 11 7 : Nat)))) (ca : Hid (Mk Try.prog 82 #[.int .u32 x] (.int .i64 (fieldI v 19 15 : Nat)))) (cb : Hid (Mk Try.prog 83 #[.int .u32 x] (.int .i64 (fieldI v 24 20 : Nat)))) (c7 : Hid (Mk Try.prog 85 #[.int .u32 x] (.int .i64 g7))) (w : World) :
    Calls Try.prog 71 #[.int .u32 x] w (InsB (decW v) w) := by
  have b7 : 0 ≤ g7 := by rw [e7.out]; omega
  replace l3 := Lib.hid l3
  replace h := Lib.hid h
  go_enter Try.func71, Try.ntmps71
  go_wp2_with fail
  refine (cd.out _).mono ?_
  rintro e w1 ⟨rfl, hb1⟩
  go_wp2_with fail
  refine (ca.out _).mono ?_
  rintro e w2 ⟨rfl, hb2⟩
  go_wp2_with fail
  refine (cb.out _).mono ?_
  rintro e w3 ⟨rfl, hb3⟩
  go_wp2_with fail
  refine (c3.out _).mono ?_
  rintro e w4 ⟨rfl, hb4⟩
  go_wp2_with fail
  refine (c7.out _).mono ?_
  rintro e w5 ⟨rfl, hb5⟩
  go_wp2_with fail
  refine (cO.out _).mono ?_
  rintro e w6 ⟨rfl, hb6⟩
  have B2 := hb1.trans (hb2.mono hb1.size)
  have B3 := B2.trans (hb3.mono B2.size)
  have B4 := B3.trans (hb4.mono B3.size)
  have B5 := B4.trans (hb5.mono B4.size)
  have B6 := B5.trans (hb6.mono B5.size)
  clear hb1 hb2 hb3 hb4 hb5 B2 B3 B4 B5 c3 cd ca cb cO c7
  obtain ⟨r0, BB⟩ := one_block B6
  clear B6 hb6
  replace r0 := Lib.hid r0
  replace BB := Lib.hid BB
  replace h := h.out
  replace l3 := l3.out
  have n55 : (gO == 55) = false := by have := eO.out; simp; omega
  have n23 : (gO == 23) = false := by have := eO.out; simp; omega
  have n111 : (gO == 111) = false := by have := eO.out; simp; omega
  have n103 : (gO == 103) = false := by have := eO.out; simp; omega
  have n99 : (gO == 99) = false := by have := eO.out; simp; omega
  have n3 : (gO == 3) = false := by have := eO.out; simp; omega
  have n35 : (gO == 35) = false := by have := eO.out; simp; omega
  have n19 : (gO == 19) = false := by have := eO.out; simp; omega
  have n27 : (gO == 27) = false := by have := eO.out; simp; omega
  have n51 : (gO == 51) = false := by have := eO.out; simp; omega
  have n59 : (gO == 59) = false := by have := eO.out; simp; omega
  have n15 : (gO == 15) = false := by have := eO.out; simp; omega
  have n47 : (gO == 47) = false := by have := eO.out; simp; omega
  have n115 : (gO == 115) = false := by have := eO.out; simp; omega
  have hr := Lib.hid (show noI = decW v from by unfold decW; rw [if_neg (by omega), if_neg (by omega), if_neg (by omega), if_neg (by omega), if_neg (by omega), if_neg (by omega), if_neg (by omega), if_neg (by omega), if_neg (by omega), if_neg (by omega), if_neg (by omega), if_neg (by omega)])
  clear h e3 l3 e7
  have q0 := r0.out
  go_wp2_with fail
  refine ret_insb (b := w.heap.size) (cs := insC noI) (v := .bool false) rfl rfl rfl (by simp only [rowI_setRow, if_true, q0, Option.map_some]; rfl) rfl rfl (insB_eq (insB_no noI rfl (below_row BB.out _ (Nat.le_refl _) _)) hr.out)
end
end Go.Proofs.Ytnhbekgmameeaaa
