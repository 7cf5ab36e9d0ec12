/- Contract: the document's one, by opcodes. -/
import Derived.Test.YtnhbekgmameeaaaIns4
import Derived.Test.YtnhbekgmameeaaaShapeRef
import Derived.Test.YtnhbekgmameeaaaShapeSame
import Derived.Test.YtnhbekgmameeaaaDecBackPlain
import Derived.Test.YtnhbekgmameeaaaAndL
namespace Go.Proofs.Ytnhbekgmameeaaa
open Go.RowKit Wd
set_option linter.unusedVariables false
set_option linter.unusedSimpArgs false
attribute [local go_sem] loadI_lit loadI_ins storeI_lit rowI_alloc rowI_drew rowI_drewN rowI_setRow rowI_setCell setRow_allocJ and_L
attribute [local go_sem ↓] loadI_run storeK_eq
attribute [local go_sem] storeK_run storeK_one storeF_int
set_option maxRecDepth 8000
set_option maxHeartbeats 40000000 in
theorem one_55 (v : BitVec 32) (x gO g3 g7 : Int) (h : fieldI v 6 0 = 55) (eO : Hid (gO = (fieldI v 6 0 : Nat))) (e3 : Hid (g3 = (fieldI v 14 12 : Nat))) (e7 : Hid (g7 = (fieldI v 31 25 : Nat))) (l3 : fieldI v 14 12 < 8)
    (cO : Hid (Mk Try.prog 86 #[.int .u32 x] (.int .i64 gO))) (c3 : Hid (Mk Try.prog 84 #[.int .u32 x] (.int .i64 g3))) (cd : Hid (Mk Try.prog 81 #[.int .u32 x] (.int .i64 (fieldI v 11 7 : Nat)))) (ca : Hid (Mk Try.prog 82 #[.int .u32 x] (.int .i64 (fieldI v 19 15 : Nat)))) (cb : Hid (Mk Try.prog 83 #[.int .u32 x] (.int .i64 (fieldI v 24 20 : Nat)))) (c7 : Hid (Mk Try.prog 85 #[.int .u32 x] (.int .i64 g7)))
    (ciU : Hid (Mk Try.prog 87 #[.int .u32 x, .int .u8 85] (.int .u64 ((immP v psU 32).toNat : Int)))) (w : World) :
    Calls Try.prog 71 #[.int .u32 x] w (InsB (decW v) w) := by
  have b7 : 0 ≤ g7 := by rw [e7.out]; omega
  replace l3 := Lib.hid l3
  replace h := Lib.hid h
  go_enter Try.func71, Try.ntmps71
  go_wp2_with fail
  refine (cd.out _).mono ?_
  rintro e w1 ⟨rfl, hb1⟩
  go_wp2_with fail
  refine (ca.out _).mono ?_
  rintro e w2 ⟨rfl, hb2⟩
  go_wp2_with fail
  refine (cb.out _).mono ?_
  rintro e w3 ⟨rfl, hb3⟩
  go_wp2_with fail
  refine (c3.out _).mono ?_
  rintro e w4 ⟨rfl, hb4⟩
  go_wp2_with fail
  refine (c7.out _).mono ?_
  rintro e w5 ⟨rfl, hb5⟩
  go_wp2_with fail
  refine (cO.out _).mono ?_
  rintro e w6 ⟨rfl, hb6⟩
  have B2 := hb1.trans (hb2.mono hb1.size)
  have B3 := B2.trans (hb3.mono B2.size)
  have B4 := B3.trans (hb4.mono B3.size)
  have B5 := B4.trans (hb5.mono B4.size)
  have B6 := B5.trans (hb6.mono B5.size)
  clear hb1 hb2 hb3 hb4 hb5 B2 B3 B4 B5 c3 cd ca cb cO c7
  obtain ⟨r0, BB⟩ := one_block B6
  clear B6 hb6
  replace r0 := Lib.hid r0
  replace BB := Lib.hid BB
  replace h := h.out
  replace l3 := l3.out
  have e := eO.out
  rw [h] at e
  simp at e
  subst e
  clear e3 l3 e7
  have hr := Lib.hid (show ⟨1, 0, (fieldI v 11 7 : Nat), 0, 0, immP v psU 32, 0, false, false, false, 0⟩ = decW v from by unfold decW; rw [if_pos h]; try rfl)
  go_wp2_with fail
  refine (ciU.out _).mono ?_
  rintro e w7 ⟨rfl, hb7⟩
  have q0 := rowI_below r0.out hb7
  have B7 := Lib.hid (BB.out.trans (hb7.mono BB.out.size))
  clear hb7
  go_wp2_with fail
  refine ret_insb (b := w.heap.size) (cs := insC ⟨1, 0, (fieldI v 11 7 : Nat), 0, 0, immP v psU 32, 0, false, false, false, 0⟩) (v := .bool true) rfl rfl rfl (by simp only [rowI_setRow, if_true, q0, Option.map_some]; rfl) rfl rfl (insB_eq (insB_yes rfl (below_row B7.out _ (Nat.le_refl _) _)) hr.out)
set_option maxHeartbeats 40000000 in
theorem one_23 (v : BitVec 32) (x gO g3 g7 : Int) (h : fieldI v 6 0 = 23) (eO : Hid (gO = (fieldI v 6 0 : Nat))) (e3 : Hid (g3 = (fieldI v 14 12 : Nat))) (e7 : Hid (g7 = (fieldI v 31 25 : Nat))) (l3 : fieldI v 14 12 < 8)
    (cO : Hid (Mk Try.prog 86 #[.int .u32 x] (.int .i64 gO))) (c3 : Hid (Mk Try.prog 84 #[.int .u32 x] (.int .i64 g3))) (cd : Hid (Mk Try.prog 81 #[.int .u32 x] (.int .i64 (fieldI v 11 7 : Nat)))) (ca : Hid (Mk Try.prog 82 #[.int .u32 x] (.int .i64 (fieldI v 19 15 : Nat)))) (cb : Hid (Mk Try.prog 83 #[.int .u32 x] (.int .i64 (fieldI v 24 20 : Nat)))) (c7 : Hid (Mk Try.prog 85 #[.int .u32 x] (.int .i64 g7)))
    (ciU : Hid (Mk Try.prog 87 #[.int .u32 x, .int .u8 85] (.int .u64 ((immP v psU 32).toNat : Int)))) (w : World) :
    Calls Try.prog 71 #[.int .u32 x] w (InsB (decW v) w) := by
  have b7 : 0 ≤ g7 := by rw [e7.out]; omega
  replace l3 := Lib.hid l3
  replace h := Lib.hid h
  go_enter Try.func71, Try.ntmps71
  go_wp2_with fail
  refine (cd.out _).mono ?_
  rintro e w1 ⟨rfl, hb1⟩
  go_wp2_with fail
  refine (ca.out _).mono ?_
  rintro e w2 ⟨rfl, hb2⟩
  go_wp2_with fail
  refine (cb.out _).mono ?_
  rintro e w3 ⟨rfl, hb3⟩
  go_wp2_with fail
  refine (c3.out _).mono ?_
  rintro e w4 ⟨rfl, hb4⟩
  go_wp2_with fail
  refine (c7.out _).mono ?_
  rintro e w5 ⟨rfl, hb5⟩
  go_wp2_with fail
  refine (cO.out _).mono ?_
  rintro e w6 ⟨rfl, hb6⟩
  have B2 := hb1.trans (hb2.mono hb1.size)
  have B3 := B2.trans (hb3.mono B2.size)
  have B4 := B3.trans (hb4.mono B3.size)
  have B5 := B4.trans (hb5.mono B4.size)
  have B6 := B5.trans (hb6.mono B5.size)
  clear hb1 hb2 hb3 hb4 hb5 B2 B3 B4 B5 c3 cd ca cb cO c7
  obtain ⟨r0, BB⟩ := one_block B6
  clear B6 hb6
  replace r0 := Lib.hid r0
  replace BB := Lib.hid BB
  replace h := h.out
  replace l3 := l3.out
  have e := eO.out
  rw [h] at e
  simp at e
  subst e
  clear e3 l3 e7
  have hr := Lib.hid (show ⟨2, 0, (fieldI v 11 7 : Nat), 0, 0, immP v psU 32, 0, false, false, false, 0⟩ = decW v from by unfold decW; rw [if_neg (by omega), if_pos h]; try rfl)
  go_wp2_with fail
  refine (ciU.out _).mono ?_
  rintro e w7 ⟨rfl, hb7⟩
  have q0 := rowI_below r0.out hb7
  have B7 := Lib.hid (BB.out.trans (hb7.mono BB.out.size))
  clear hb7
  go_wp2_with fail
  refine ret_insb (b := w.heap.size) (cs := insC ⟨2, 0, (fieldI v 11 7 : Nat), 0, 0, immP v psU 32, 0, false, false, false, 0⟩) (v := .bool true) rfl rfl rfl (by simp only [rowI_setRow, if_true, q0, Option.map_some]; rfl) rfl rfl (insB_eq (insB_yes rfl (below_row B7.out _ (Nat.le_refl _) _)) hr.out)
set_option maxHeartbeats 40000000 in
theorem one_111 (v : BitVec 32) (x gO g3 g7 : Int) (h : fieldI v 6 0 = 111) (eO : Hid (gO = (fieldI v 6 0 : Nat))) (e3 : Hid (g3 = (fieldI v 14 12 : Nat))) (e7 : Hid (g7 = (fieldI v 31 25 : Nat))) (l3 : fieldI v 14 12 < 8)
    (cO : Hid (Mk Try.prog 86 #[.int .u32 x] (.int .i64 gO))) (c3 : Hid (Mk Try.prog 84 #[.int .u32 x] (.int .i64 g3))) (cd : Hid (Mk Try.prog 81 #[.int .u32 x] (.int .i64 (fieldI v 11 7 : Nat)))) (ca : Hid (Mk Try.prog 82 #[.int .u32 x] (.int .i64 (fieldI v 19 15 : Nat)))) (cb : Hid (Mk Try.prog 83 #[.int .u32 x] (.int .i64 (fieldI v 24 20 : Nat)))) (c7 : Hid (Mk Try.prog 85 #[.int .u32 x] (.int .i64 g7)))
    (ciJ : Hid (Mk Try.prog 87 #[.int .u32 x, .int .u8 74] (.int .u64 ((immP v psJ 21).toNat : Int)))) (w : World) :
    Calls Try.prog 71 #[.int .u32 x] w (InsB (decW v) w) := by
  have b7 : 0 ≤ g7 := by rw [e7.out]; omega
  replace l3 := Lib.hid l3
  replace h := Lib.hid h
  go_enter Try.func71, Try.ntmps71
  go_wp2_with fail
  refine (cd.out _).mono ?_
  rintro e w1 ⟨rfl, hb1⟩
  go_wp2_with fail
  refine (ca.out _).mono ?_
  rintro e w2 ⟨rfl, hb2⟩
  go_wp2_with fail
  refine (cb.out _).mono ?_
  rintro e w3 ⟨rfl, hb3⟩
  go_wp2_with fail
  refine (c3.out _).mono ?_
  rintro e w4 ⟨rfl, hb4⟩
  go_wp2_with fail
  refine (c7.out _).mono ?_
  rintro e w5 ⟨rfl, hb5⟩
  go_wp2_with fail
  refine (cO.out _).mono ?_
  rintro e w6 ⟨rfl, hb6⟩
  have B2 := hb1.trans (hb2.mono hb1.size)
  have B3 := B2.trans (hb3.mono B2.size)
  have B4 := B3.trans (hb4.mono B3.size)
  have B5 := B4.trans (hb5.mono B4.size)
  have B6 := B5.trans (hb6.mono B5.size)
  clear hb1 hb2 hb3 hb4 hb5 B2 B3 B4 B5 c3 cd ca cb cO c7
  obtain ⟨r0, BB⟩ := one_block B6
  clear B6 hb6
  replace r0 := Lib.hid r0
  replace BB := Lib.hid BB
  replace h := h.out
  replace l3 := l3.out
  have e := eO.out
  rw [h] at e
  simp at e
  subst e
  clear e3 l3 e7
  have hr := Lib.hid (show ⟨3, 0, (fieldI v 11 7 : Nat), 0, 0, immP v psJ 21, 0, false, false, false, 0⟩ = decW v from by unfold decW; rw [if_neg (by omega), if_neg (by omega), if_pos h]; try rfl)
  go_wp2_with fail
  refine (ciJ.out _).mono ?_
  rintro e w7 ⟨rfl, hb7⟩
  have q0 := rowI_below r0.out hb7
  have B7 := Lib.hid (BB.out.trans (hb7.mono BB.out.size))
  clear hb7
  go_wp2_with fail
  refine ret_insb (b := w.heap.size) (cs := insC ⟨3, 0, (fieldI v 11 7 : Nat), 0, 0, immP v psJ 21, 0, false, false, false, 0⟩) (v := .bool true) rfl rfl rfl (by simp only [rowI_setRow, if_true, q0, Option.map_some]; rfl) rfl rfl (insB_eq (insB_yes rfl (below_row B7.out _ (Nat.le_refl _) _)) hr.out)
set_option maxHeartbeats 40000000 in
theorem one_103 (v : BitVec 32) (x gO g3 g7 : Int) (h : fieldI v 6 0 = 103) (eO : Hid (gO = (fieldI v 6 0 : Nat))) (e3 : Hid (g3 = (fieldI v 14 12 : Nat))) (e7 : Hid (g7 = (fieldI v 31 25 : Nat))) (l3 : fieldI v 14 12 < 8)
    (cO : Hid (Mk Try.prog 86 #[.int .u32 x] (.int .i64 gO))) (c3 : Hid (Mk Try.prog 84 #[.int .u32 x] (.int .i64 g3))) (cd : Hid (Mk Try.prog 81 #[.int .u32 x] (.int .i64 (fieldI v 11 7 : Nat)))) (ca : Hid (Mk Try.prog 82 #[.int .u32 x] (.int .i64 (fieldI v 19 15 : Nat)))) (cb : Hid (Mk Try.prog 83 #[.int .u32 x] (.int .i64 (fieldI v 24 20 : Nat)))) (c7 : Hid (Mk Try.prog 85 #[.int .u32 x] (.int .i64 g7)))
    (ciI : Hid (Mk Try.prog 87 #[.int .u32 x, .int .u8 73] (.int .u64 ((immP v psI 12).toNat : Int)))) (w : World) :
    Calls Try.prog 71 #[.int .u32 x] w (InsB (decW v) w) := by
  have b7 : 0 ≤ g7 := by rw [e7.out]; omega
  replace l3 := Lib.hid l3
  replace h := Lib.hid h
  go_enter Try.func71, Try.ntmps71
  go_wp2_with fail
  refine (cd.out _).mono ?_
  rintro e w1 ⟨rfl, hb1⟩
  go_wp2_with fail
  refine (ca.out _).mono ?_
  rintro e w2 ⟨rfl, hb2⟩
  go_wp2_with fail
  refine (cb.out _).mono ?_
  rintro e w3 ⟨rfl, hb3⟩
  go_wp2_with fail
  refine (c3.out _).mono ?_
  rintro e w4 ⟨rfl, hb4⟩
  go_wp2_with fail
  refine (c7.out _).mono ?_
  rintro e w5 ⟨rfl, hb5⟩
  go_wp2_with fail
  refine (cO.out _).mono ?_
  rintro e w6 ⟨rfl, hb6⟩
  have B2 := hb1.trans (hb2.mono hb1.size)
  have B3 := B2.trans (hb3.mono B2.size)
  have B4 := B3.trans (hb4.mono B3.size)
  have B5 := B4.trans (hb5.mono B4.size)
  have B6 := B5.trans (hb6.mono B5.size)
  clear hb1 hb2 hb3 hb4 hb5 B2 B3 B4 B5 c3 cd ca cb cO c7
  obtain ⟨r0, BB⟩ := one_block B6
  clear B6 hb6
  replace r0 := Lib.hid r0
  replace BB := Lib.hid BB
  replace h := h.out
  replace l3 := l3.out
  have e := eO.out
  rw [h] at e
  simp at e
  subst e
  clear l3
  by_cases k : fieldI v 14 12 = 0
  · have e := e3.out
    rw [k] at e
    simp at e
    subst e
    have hr := Lib.hid (show ⟨4, 0, (fieldI v 11 7 : Nat), (fieldI v 19 15 : Nat), 0, immP v psI 12, 0, false, false, false, 0⟩ = decW v from by unfold decW; rw [if_neg (by omega), if_neg (by omega), if_neg (by omega), if_pos h, if_pos k]; try rfl)
    go_wp2_with fail
    refine (ciI.out _).mono ?_
    rintro e w7 ⟨rfl, hb7⟩
    have q0 := rowI_below r0.out hb7
    have B7 := Lib.hid (BB.out.trans (hb7.mono BB.out.size))
    clear hb7
    go_wp2_with fail
    refine ret_insb (b := w.heap.size) (cs := insC ⟨4, 0, (fieldI v 11 7 : Nat), (fieldI v 19 15 : Nat), 0, immP v psI 12, 0, false, false, false, 0⟩) (v := .bool true) rfl rfl rfl (by simp only [rowI_setRow, if_true, q0, Option.map_some]; rfl) rfl rfl (insB_eq (insB_yes rfl (below_row B7.out _ (Nat.le_refl _) _)) hr.out)
  · have n3 : (g3 == 0) = false := by have := e3.out; simp; omega
    have hr := Lib.hid (show noI = decW v from by unfold decW; rw [if_neg (by omega), if_neg (by omega), if_neg (by omega), if_pos h, if_neg k]; try rfl)
    go_wp2_with fail
    refine (ciI.out _).mono ?_
    rintro e w7 ⟨rfl, hb7⟩
    have q0 := rowI_below r0.out hb7
    have B7 := Lib.hid (BB.out.trans (hb7.mono BB.out.size))
    clear hb7
    go_wp2_with fail
    refine ret_insb (b := w.heap.size) (cs := insC ⟨4, 0, (fieldI v 11 7 : Nat), (fieldI v 19 15 : Nat), 0, immP v psI 12, 0, false, false, false, 0⟩) (v := .bool false) rfl rfl rfl (by simp only [rowI_setRow, if_true, q0, Option.map_some]; rfl) rfl rfl (insB_eq (insB_no ⟨4, 0, (fieldI v 11 7 : Nat), (fieldI v 19 15 : Nat), 0, immP v psI 12, 0, false, false, false, 0⟩ rfl (below_row B7.out _ (Nat.le_refl _) _)) hr.out)
set_option maxHeartbeats 40000000 in
theorem one_99 (v : BitVec 32) (x gO g3 g7 : Int) (h : fieldI v 6 0 = 99) (eO : Hid (gO = (fieldI v 6 0 : Nat))) (e3 : Hid (g3 = (fieldI v 14 12 : Nat))) (e7 : Hid (g7 = (fieldI v 31 25 : Nat))) (l3 : fieldI v 14 12 < 8)
    (cO : Hid (Mk Try.prog 86 #[.int .u32 x] (.int .i64 gO))) (c3 : Hid (Mk Try.prog 84 #[.int .u32 x] (.int .i64 g3))) (cd : Hid (Mk Try.prog 81 #[.int .u32 x] (.int .i64 (fieldI v 11 7 : Nat)))) (ca : Hid (Mk Try.prog 82 #[.int .u32 x] (.int .i64 (fieldI v 19 15 : Nat)))) (cb : Hid (Mk Try.prog 83 #[.int .u32 x] (.int .i64 (fieldI v 24 20 : Nat)))) (c7 : Hid (Mk Try.prog 85 #[.int .u32 x] (.int .i64 g7)))
    (ciB : Hid (Mk Try.prog 87 #[.int .u32 x, .int .u8 66] (.int .u64 ((immP v psB 13).toNat : Int)))) (w : World) :
    Calls Try.prog 71 #[.int .u32 x] w (InsB (decW v) w) := by
  have b7 : 0 ≤ g7 := by rw [e7.out]; omega
  replace l3 := Lib.hid l3
  replace h := Lib.hid h
  go_enter Try.func71, Try.ntmps71
  go_wp2_with fail
  refine (cd.out _).mono ?_
  rintro e w1 ⟨rfl, hb1⟩
  go_wp2_with fail
  refine (ca.out _).mono ?_
  rintro e w2 ⟨rfl, hb2⟩
  go_wp2_with fail
  refine (cb.out _).mono ?_
  rintro e w3 ⟨rfl, hb3⟩
  go_wp2_with fail
  refine (c3.out _).mono ?_
  rintro e w4 ⟨rfl, hb4⟩
  go_wp2_with fail
  refine (c7.out _).mono ?_
  rintro e w5 ⟨rfl, hb5⟩
  go_wp2_with fail
  refine (cO.out _).mono ?_
  rintro e w6 ⟨rfl, hb6⟩
  have B2 := hb1.trans (hb2.mono hb1.size)
  have B3 := B2.trans (hb3.mono B2.size)
  have B4 := B3.trans (hb4.mono B3.size)
  have B5 := B4.trans (hb5.mono B4.size)
  have B6 := B5.trans (hb6.mono B5.size)
  clear hb1 hb2 hb3 hb4 hb5 B2 B3 B4 B5 c3 cd ca cb cO c7
  obtain ⟨r0, BB⟩ := one_block B6
  clear B6 hb6
  replace r0 := Lib.hid r0
  replace BB := Lib.hid BB
  replace h := h.out
  replace l3 := l3.out
  have e := eO.out
  rw [h] at e
  simp at e
  subst e
  clear l3
  by_cases k : fieldI v 14 12 = 2
  · have e := e3.out
    rw [k] at e
    simp at e
    subst e
    have hr := Lib.hid (show noI = decW v from by unfold decW; rw [if_neg (by omega), if_neg (by omega), if_neg (by omega), if_neg (by omega), if_pos h, if_pos (by omega)]; try rfl)
    go_wp2_with fail
    refine (ciB.out _).mono ?_
    rintro e w7 ⟨rfl, hb7⟩
    have q0 := rowI_below r0.out hb7
    have B7 := Lib.hid (BB.out.trans (hb7.mono BB.out.size))
    clear hb7
    go_wp2_with fail
    refine ret_insb (b := w.heap.size) (cs := insC ⟨5, (2 : Nat), 0, (fieldI v 19 15 : Nat), (fieldI v 24 20 : Nat), immP v psB 13, 0, false, false, false, 0⟩) (v := .bool false) rfl rfl rfl (by simp only [rowI_setRow, if_true, q0, Option.map_some]; rfl) rfl rfl (insB_eq (insB_no ⟨5, (2 : Nat), 0, (fieldI v 19 15 : Nat), (fieldI v 24 20 : Nat), immP v psB 13, 0, false, false, false, 0⟩ rfl (below_row B7.out _ (Nat.le_refl _) _)) hr.out)
  by_cases k' : fieldI v 14 12 = 3
  · have e := e3.out
    rw [k'] at e
    simp at e
    subst e
    have hr := Lib.hid (show noI = decW v from by unfold decW; rw [if_neg (by omega), if_neg (by omega), if_neg (by omega), if_neg (by omega), if_pos h, if_pos (by omega)]; try rfl)
    go_wp2_with fail
    refine (ciB.out _).mono ?_
    rintro e w7 ⟨rfl, hb7⟩
    have q0 := rowI_below r0.out hb7
    have B7 := Lib.hid (BB.out.trans (hb7.mono BB.out.size))
    clear hb7
    go_wp2_with fail
    refine ret_insb (b := w.heap.size) (cs := insC ⟨5, (3 : Nat), 0, (fieldI v 19 15 : Nat), (fieldI v 24 20 : Nat), immP v psB 13, 0, false, false, false, 0⟩) (v := .bool false) rfl rfl rfl (by simp only [rowI_setRow, if_true, q0, Option.map_some]; rfl) rfl rfl (insB_eq (insB_no ⟨5, (3 : Nat), 0, (fieldI v 19 15 : Nat), (fieldI v 24 20 : Nat), immP v psB 13, 0, false, false, false, 0⟩ rfl (below_row B7.out _ (Nat.le_refl _) _)) hr.out)
  have n2 : (g3 != 2) = true := by have := e3.out; simp; omega
  have n3 : (g3 != 3) = true := by have := e3.out; simp; omega
  have hr := Lib.hid (show ⟨5, g3, 0, (fieldI v 19 15 : Nat), (fieldI v 24 20 : Nat), immP v psB 13, 0, false, false, false, 0⟩ = decW v from by rw [e3.out]; unfold decW; rw [if_neg (by omega), if_neg (by omega), if_neg (by omega), if_neg (by omega), if_pos h, if_neg (by omega)]; try rfl)
  go_wp2_with fail
  refine (ciB.out _).mono ?_
  rintro e w7 ⟨rfl, hb7⟩
  have q0 := rowI_below r0.out hb7
  have B7 := Lib.hid (BB.out.trans (hb7.mono BB.out.size))
  clear hb7
  go_wp2_with fail
  refine ret_insb (b := w.heap.size) (cs := insC ⟨5, g3, 0, (fieldI v 19 15 : Nat), (fieldI v 24 20 : Nat), immP v psB 13, 0, false, false, false, 0⟩) (v := .bool true) rfl rfl rfl (by simp only [rowI_setRow, if_true, q0, Option.map_some]; rfl) rfl rfl (insB_eq (insB_yes rfl (below_row B7.out _ (Nat.le_refl _) _)) hr.out)
end Go.Proofs.Ytnhbekgmameeaaa
