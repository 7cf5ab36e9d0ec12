/- Contract: the document's one, by opcodes. -/
import Derived.Test.YtnhbekgmameeaaaIns4
import Derived.Test.YtnhbekgmameeaaaShapeRef
import Derived.Test.YtnhbekgmameeaaaShapeSame
import Derived.Test.YtnhbekgmameeaaaDecBackPlain
import Derived.Test.YtnhbekgmameeaaaAndL
namespace Go.Proofs.Ytnhbekgmameeaaa
open Go.RowKit Wd
set_option linter.unusedVariables false
set_option linter.unusedSimpArgs false
attribute [local go_sem] loadI_lit loadI_ins storeI_lit rowI_alloc rowI_drew rowI_drewN rowI_setRow rowI_setCell setRow_allocJ and_L
attribute [local go_sem ↓] loadI_run storeK_eq
attribute [local go_sem] storeK_run storeK_one storeF_int
set_option maxRecDepth 8000
set_option maxHeartbeats 40000000 in
theorem one_35 (v : BitVec 32) (x gO g3 g7 : Int) (h : fieldI v 6 0 = 35) (eO : Hid (gO = (fieldI v 6 0 : Nat))) (e3 : Hid (g3 = (fieldI v 14 12 : Nat))) (e7 : Hid (g7 = (fieldI v 31 25 : Nat))) (l3 : fieldI v 14 12 < 8)
    (cO : Hid (Mk Try.prog 86 #[.int .u32 x] (.int .i64 gO))) (c3 : Hid (Mk Try.prog 84 #[.int .u32 x] (.int .i64 g3))) (cd : Hid (Mk Try.prog 81 #[.int .u32 x] (.int .i64 (fieldI v 11 7 : Nat)))) (ca : Hid (Mk Try.prog 82 #[.int .u32 x] (.int .i64 (fieldI v 19 15 : Nat)))) (cb : Hid (Mk Try.prog 83 #[.int .u32 x] (.int .i64 (fieldI v 24 20 : Nat)))) (c7 : Hid (Mk Try.prog 85 #[.int .u32 x] (.int .i64 g7)))
    (ciS : Hid (Mk Try.prog 87 #[.int .u32 x, .int .u8 83] (.int .u64 ((immP v psS 12).toNat : Int)))) (w : World) :
    Calls Try.prog 71 #[.int .u32 x] w (InsB (decW v) w) := by
  have b7 : 0 ≤ g7 := by rw [e7.out]; omega
  replace l3 := Lib.hid l3
  replace h := Lib.hid h
  go_enter Try.func71, Try.ntmps71
  go_wp2_with fail
  refine (cd.out _).mono ?_
  rintro e w1 ⟨rfl, hb1⟩
  go_wp2_with fail
  refine (ca.out _).mono ?_
  rintro e w2 ⟨rfl, hb2⟩
  go_wp2_with fail
  refine (cb.out _).mono ?_
  rintro e w3 ⟨rfl, hb3⟩
  go_wp2_with fail
  refine (c3.out _).mono ?_
  rintro e w4 ⟨rfl, hb4⟩
  go_wp2_with fail
  refine (c7.out _).mono ?_
  rintro e w5 ⟨rfl, hb5⟩
  go_wp2_with fail
  refine (cO.out _).mono ?_
  rintro e w6 ⟨rfl, hb6⟩
  have B2 := hb1.trans (hb2.mono hb1.size)
  have B3 := B2.trans (hb3.mono B2.size)
  have B4 := B3.trans (hb4.mono B3.size)
  have B5 := B4.trans (hb5.mono B4.size)
  have B6 := B5.trans (hb6.mono B5.size)
  clear hb1 hb2 hb3 hb4 hb5 B2 B3 B4 B5 c3 cd ca cb cO c7
  obtain ⟨r0, BB⟩ := one_block B6
  clear B6 hb6
  replace r0 := Lib.hid r0
  replace BB := Lib.hid BB
  replace h := h.out
  replace l3 := l3.out
  have e := eO.out
  rw [h] at e
  simp at e
  subst e
  have hf : fieldI v 14 12 = 0 ∨ fieldI v 14 12 = 1 ∨ fieldI v 14 12 = 2 ∨ fieldI v 14 12 = 3 ∨ fieldI v 14 12 = 4 ∨ fieldI v 14 12 = 5 ∨ fieldI v 14 12 = 6 ∨ fieldI v 14 12 = 7 := by omega
  clear l3
  rcases hf with k | k | k | k | k | k | k | k
  · have e := e3.out
    rw [k] at e
    simp at e
    subst e
    have hr := Lib.hid (show ⟨7, 0, 0, (fieldI v 19 15 : Nat), (fieldI v 24 20 : Nat), immP v psS 12, sz (0 % 4), false, false, false, 0⟩ = decW v from by unfold decW; rw [if_neg (by omega), if_neg (by omega), if_neg (by omega), if_neg (by omega), if_neg (by omega), if_neg (by omega), if_pos h, if_pos (by omega), k]; try rfl)
    go_wp2_with fail
    refine (ciS.out _).mono ?_
    rintro e w7 ⟨rfl, hb7⟩
    have q0 := rowI_below r0.out hb7
    have B7 := Lib.hid (BB.out.trans (hb7.mono BB.out.size))
    clear hb7
    go_wp2_with fail
    refine ret_insb (b := w.heap.size) (cs := insC ⟨7, 0, 0, (fieldI v 19 15 : Nat), (fieldI v 24 20 : Nat), immP v psS 12, sz (0 % 4), false, false, false, 0⟩) (v := .bool true) rfl rfl rfl (by simp only [rowI_setRow, if_true, q0, Option.map_some]; rfl) rfl rfl (insB_eq (insB_yes rfl (below_row B7.out _ (Nat.le_refl _) _)) hr.out)
  · have e := e3.out
    rw [k] at e
    simp at e
    subst e
    have hr := Lib.hid (show ⟨7, 0, 0, (fieldI v 19 15 : Nat), (fieldI v 24 20 : Nat), immP v psS 12, sz (1 % 4), false, false, false, 0⟩ = decW v from by unfold decW; rw [if_neg (by omega), if_neg (by omega), if_neg (by omega), if_neg (by omega), if_neg (by omega), if_neg (by omega), if_pos h, if_pos (by omega), k]; try rfl)
    go_wp2_with fail
    refine (ciS.out _).mono ?_
    rintro e w7 ⟨rfl, hb7⟩
    have q0 := rowI_below r0.out hb7
    have B7 := Lib.hid (BB.out.trans (hb7.mono BB.out.size))
    clear hb7
    go_wp2_with fail
    refine ret_insb (b := w.heap.size) (cs := insC ⟨7, 0, 0, (fieldI v 19 15 : Nat), (fieldI v 24 20 : Nat), immP v psS 12, sz (1 % 4), false, false, false, 0⟩) (v := .bool true) rfl rfl rfl (by simp only [rowI_setRow, if_true, q0, Option.map_some]; rfl) rfl rfl (insB_eq (insB_yes rfl (below_row B7.out _ (Nat.le_refl _) _)) hr.out)
  · have e := e3.out
    rw [k] at e
    simp at e
    subst e
    have hr := Lib.hid (show ⟨7, 0, 0, (fieldI v 19 15 : Nat), (fieldI v 24 20 : Nat), immP v psS 12, sz (2 % 4), false, false, false, 0⟩ = decW v from by unfold decW; rw [if_neg (by omega), if_neg (by omega), if_neg (by omega), if_neg (by omega), if_neg (by omega), if_neg (by omega), if_pos h, if_pos (by omega), k]; try rfl)
    go_wp2_with fail
    refine (ciS.out _).mono ?_
    rintro e w7 ⟨rfl, hb7⟩
    have q0 := rowI_below r0.out hb7
    have B7 := Lib.hid (BB.out.trans (hb7.mono BB.out.size))
    clear hb7
    go_wp2_with fail
    refine ret_insb (b := w.heap.size) (cs := insC ⟨7, 0, 0, (fieldI v 19 15 : Nat), (fieldI v 24 20 : Nat), immP v psS 12, sz (2 % 4), false, false, false, 0⟩) (v := .bool true) rfl rfl rfl (by simp only [rowI_setRow, if_true, q0, Option.map_some]; rfl) rfl rfl (insB_eq (insB_yes rfl (below_row B7.out _ (Nat.le_refl _) _)) hr.out)
  · have e := e3.out
    rw [k] at e
    simp at e
    subst e
    have hr := Lib.hid (show ⟨7, 0, 0, (fieldI v 19 15 : Nat), (fieldI v 24 20 : Nat), immP v psS 12, sz (3 % 4), false, false, false, 0⟩ = decW v from by unfold decW; rw [if_neg (by omega), if_neg (by omega), if_neg (by omega), if_neg (by omega), if_neg (by omega), if_neg (by omega), if_pos h, if_pos (by omega), k]; try rfl)
    go_wp2_with fail
    refine (ciS.out _).mono ?_
    rintro e w7 ⟨rfl, hb7⟩
    have q0 := rowI_below r0.out hb7
    have B7 := Lib.hid (BB.out.trans (hb7.mono BB.out.size))
    clear hb7
    go_wp2_with fail
    refine ret_insb (b := w.heap.size) (cs := insC ⟨7, 0, 0, (fieldI v 19 15 : Nat), (fieldI v 24 20 : Nat), immP v psS 12, sz (3 % 4), false, false, false, 0⟩) (v := .bool true) rfl rfl rfl (by simp only [rowI_setRow, if_true, q0, Option.map_some]; rfl) rfl rfl (insB_eq (insB_yes rfl (below_row B7.out _ (Nat.le_refl _) _)) hr.out)
  · have e := e3.out
    rw [k] at e
    simp at e
    subst e
    have hr := Lib.hid (show noI = decW v from by unfold decW; rw [if_neg (by omega), if_neg (by omega), if_neg (by omega), if_neg (by omega), if_neg (by omega), if_neg (by omega), if_pos h, if_neg (by omega)]; try rfl)
    go_wp2_with fail
    refine (ciS.out _).mono ?_
    rintro e w7 ⟨rfl, hb7⟩
    have q0 := rowI_below r0.out hb7
    have B7 := Lib.hid (BB.out.trans (hb7.mono BB.out.size))
    clear hb7
    go_wp2_with fail
    refine ret_insb (b := w.heap.size) (cs := insC ⟨7, 0, 0, (fieldI v 19 15 : Nat), (fieldI v 24 20 : Nat), immP v psS 12, sz (4 % 4), false, false, false, 0⟩) (v := .bool false) rfl rfl rfl (by simp only [rowI_setRow, if_true, q0, Option.map_some]; rfl) rfl rfl (insB_eq (insB_no ⟨7, 0, 0, (fieldI v 19 15 : Nat), (fieldI v 24 20 : Nat), immP v psS 12, sz (4 % 4), false, false, false, 0⟩ rfl (below_row B7.out _ (Nat.le_refl _) _)) hr.out)
  · have e := e3.out
    rw [k] at e
    simp at e
    subst e
    have hr := Lib.hid (show noI = decW v from by unfold decW; rw [if_neg (by omega), if_neg (by omega), if_neg (by omega), if_neg (by omega), if_neg (by omega), if_neg (by omega), if_pos h, if_neg (by omega)]; try rfl)
    go_wp2_with fail
    refine (ciS.out _).mono ?_
    rintro e w7 ⟨rfl, hb7⟩
    have q0 := rowI_below r0.out hb7
    have B7 := Lib.hid (BB.out.trans (hb7.mono BB.out.size))
    clear hb7
    go_wp2_with fail
    refine ret_insb (b := w.heap.size) (cs := insC ⟨7, 0, 0, (fieldI v 19 15 : Nat), (fieldI v 24 20 : Nat), immP v psS 12, sz (5 % 4), false, false, false, 0⟩) (v := .bool false) rfl rfl rfl (by simp only [rowI_setRow, if_true, q0, Option.map_some]; rfl) rfl rfl (insB_eq (insB_no ⟨7, 0, 0, (fieldI v 19 15 : Nat), (fieldI v 24 20 : Nat), immP v psS 12, sz (5 % 4), false, false, false, 0⟩ rfl (below_row B7.out _ (Nat.le_refl _) _)) hr.out)
  · have e := e3.out
    rw [k] at e
    simp at e
    subst e
    have hr := Lib.hid (show noI = decW v from by unfold decW; rw [if_neg (by omega), if_neg (by omega), if_neg (by omega), if_neg (by omega), if_neg (by omega), if_neg (by omega), if_pos h, if_neg (by omega)]; try rfl)
    go_wp2_with fail
    refine (ciS.out _).mono ?_
    rintro e w7 ⟨rfl, hb7⟩
    have q0 := rowI_below r0.out hb7
    have B7 := Lib.hid (BB.out.trans (hb7.mono BB.out.size))
    clear hb7
    go_wp2_with fail
    refine ret_insb (b := w.heap.size) (cs := insC ⟨7, 0, 0, (fieldI v 19 15 : Nat), (fieldI v 24 20 : Nat), immP v psS 12, sz (6 % 4), false, false, false, 0⟩) (v := .bool false) rfl rfl rfl (by simp only [rowI_setRow, if_true, q0, Option.map_some]; rfl) rfl rfl (insB_eq (insB_no ⟨7, 0, 0, (fieldI v 19 15 : Nat), (fieldI v 24 20 : Nat), immP v psS 12, sz (6 % 4), false, false, false, 0⟩ rfl (below_row B7.out _ (Nat.le_refl _) _)) hr.out)
  · have e := e3.out
    rw [k] at e
    simp at e
    subst e
    have hr := Lib.hid (show noI = decW v from by unfold decW; rw [if_neg (by omega), if_neg (by omega), if_neg (by omega), if_neg (by omega), if_neg (by omega), if_neg (by omega), if_pos h, if_neg (by omega)]; try rfl)
    go_wp2_with fail
    refine (ciS.out _).mono ?_
    rintro e w7 ⟨rfl, hb7⟩
    have q0 := rowI_below r0.out hb7
    have B7 := Lib.hid (BB.out.trans (hb7.mono BB.out.size))
    clear hb7
    go_wp2_with fail
    refine ret_insb (b := w.heap.size) (cs := insC ⟨7, 0, 0, (fieldI v 19 15 : Nat), (fieldI v 24 20 : Nat), immP v psS 12, sz (7 % 4), false, false, false, 0⟩) (v := .bool false) rfl rfl rfl (by simp only [rowI_setRow, if_true, q0, Option.map_some]; rfl) rfl rfl (insB_eq (insB_no ⟨7, 0, 0, (fieldI v 19 15 : Nat), (fieldI v 24 20 : Nat), immP v psS 12, sz (7 % 4), false, false, false, 0⟩ rfl (below_row B7.out _ (Nat.le_refl _) _)) hr.out)
set_option maxHeartbeats 40000000 in
theorem one_15 (v : BitVec 32) (x gO g3 g7 : Int) (h : fieldI v 6 0 = 15) (eO : Hid (gO = (fieldI v 6 0 : Nat))) (e3 : Hid (g3 = (fieldI v 14 12 : Nat))) (e7 : Hid (g7 = (fieldI v 31 25 : Nat))) (l3 : fieldI v 14 12 < 8)
    (cO : Hid (Mk Try.prog 86 #[.int .u32 x] (.int .i64 gO))) (c3 : Hid (Mk Try.prog 84 #[.int .u32 x] (.int .i64 g3))) (cd : Hid (Mk Try.prog 81 #[.int .u32 x] (.int .i64 (fieldI v 11 7 : Nat)))) (ca : Hid (Mk Try.prog 82 #[.int .u32 x] (.int .i64 (fieldI v 19 15 : Nat)))) (cb : Hid (Mk Try.prog 83 #[.int .u32 x] (.int .i64 (fieldI v 24 20 : Nat)))) (c7 : Hid (Mk Try.prog 85 #[.int .u32 x] (.int .i64 g7))) (w : World) :
    Calls Try.prog 71 #[.int .u32 x] w (InsB (decW v) w) := by
  have b7 : 0 ≤ g7 := by rw [e7.out]; omega
  replace l3 := Lib.hid l3
  replace h := Lib.hid h
  go_enter Try.func71, Try.ntmps71
  go_wp2_with fail
  refine (cd.out _).mono ?_
  rintro e w1 ⟨rfl, hb1⟩
  go_wp2_with fail
  refine (ca.out _).mono ?_
  rintro e w2 ⟨rfl, hb2⟩
  go_wp2_with fail
  refine (cb.out _).mono ?_
  rintro e w3 ⟨rfl, hb3⟩
  go_wp2_with fail
  refine (c3.out _).mono ?_
  rintro e w4 ⟨rfl, hb4⟩
  go_wp2_with fail
  refine (c7.out _).mono ?_
  rintro e w5 ⟨rfl, hb5⟩
  go_wp2_with fail
  refine (cO.out _).mono ?_
  rintro e w6 ⟨rfl, hb6⟩
  have B2 := hb1.trans (hb2.mono hb1.size)
  have B3 := B2.trans (hb3.mono B2.size)
  have B4 := B3.trans (hb4.mono B3.size)
  have B5 := B4.trans (hb5.mono B4.size)
  have B6 := B5.trans (hb6.mono B5.size)
  clear hb1 hb2 hb3 hb4 hb5 B2 B3 B4 B5 c3 cd ca cb cO c7
  obtain ⟨r0, BB⟩ := one_block B6
  clear B6 hb6
  replace r0 := Lib.hid r0
  replace BB := Lib.hid BB
  replace h := h.out
  replace l3 := l3.out
  have e := eO.out
  rw [h] at e
  simp at e
  subst e
  have hf : fieldI v 14 12 = 0 ∨ fieldI v 14 12 = 1 ∨ fieldI v 14 12 = 2 ∨ fieldI v 14 12 = 3 ∨ fieldI v 14 12 = 4 ∨ fieldI v 14 12 = 5 ∨ fieldI v 14 12 = 6 ∨ fieldI v 14 12 = 7 := by omega
  clear l3
  rcases hf with k | k | k | k | k | k | k | k
  · have e := e3.out
    rw [k] at e
    simp at e
    subst e
    have hr := Lib.hid (show (opOnly (11 + 0)) = decW v from by unfold decW; rw [if_neg (by omega), if_neg (by omega), if_neg (by omega), if_neg (by omega), if_neg (by omega), if_neg (by omega), if_neg (by omega), if_neg (by omega), if_neg (by omega), if_pos h, if_pos k]; try rfl)
    have q0 := r0.out
    go_wp2_with fail
    refine ret_insb (b := w.heap.size) (cs := insC (opOnly (11 + 0))) (v := .bool true) rfl rfl rfl (by simp only [rowI_setRow, if_true, q0, Option.map_some]; rfl) rfl rfl (insB_eq (insB_yes rfl (below_row BB.out _ (Nat.le_refl _) _)) hr.out)
  · have e := e3.out
    rw [k] at e
    simp at e
    subst e
    have hr := Lib.hid (show (opOnly (11 + 1)) = decW v from by unfold decW; rw [if_neg (by omega), if_neg (by omega), if_neg (by omega), if_neg (by omega), if_neg (by omega), if_neg (by omega), if_neg (by omega), if_neg (by omega), if_neg (by omega), if_pos h, if_neg (by omega), if_pos k]; try rfl)
    have q0 := r0.out
    go_wp2_with fail
    refine ret_insb (b := w.heap.size) (cs := insC (opOnly (11 + 1))) (v := .bool true) rfl rfl rfl (by simp only [rowI_setRow, if_true, q0, Option.map_some]; rfl) rfl rfl (insB_eq (insB_yes rfl (below_row BB.out _ (Nat.le_refl _) _)) hr.out)
  · have e := e3.out
    rw [k] at e
    simp at e
    subst e
    have hr := Lib.hid (show noI = decW v from by unfold decW; rw [if_neg (by omega), if_neg (by omega), if_neg (by omega), if_neg (by omega), if_neg (by omega), if_neg (by omega), if_neg (by omega), if_neg (by omega), if_neg (by omega), if_pos h, if_neg (by omega), if_neg (by omega)]; try rfl)
    have q0 := r0.out
    go_wp2_with fail
    refine ret_insb (b := w.heap.size) (cs := insC (opOnly (11 + 0))) (v := .bool false) rfl rfl rfl (by simp only [rowI_setRow, if_true, q0, Option.map_some]; rfl) rfl rfl (insB_eq (insB_no (opOnly (11 + 0)) rfl (below_row BB.out _ (Nat.le_refl _) _)) hr.out)
  · have e := e3.out
    rw [k] at e
    simp at e
    subst e
    have hr := Lib.hid (show noI = decW v from by unfold decW; rw [if_neg (by omega), if_neg (by omega), if_neg (by omega), if_neg (by omega), if_neg (by omega), if_neg (by omega), if_neg (by omega), if_neg (by omega), if_neg (by omega), if_pos h, if_neg (by omega), if_neg (by omega)]; try rfl)
    have q0 := r0.out
    go_wp2_with fail
    refine ret_insb (b := w.heap.size) (cs := insC (opOnly (11 + 1))) (v := .bool false) rfl rfl rfl (by simp only [rowI_setRow, if_true, q0, Option.map_some]; rfl) rfl rfl (insB_eq (insB_no (opOnly (11 + 1)) rfl (below_row BB.out _ (Nat.le_refl _) _)) hr.out)
  · have e := e3.out
    rw [k] at e
    simp at e
    subst e
    have hr := Lib.hid (show noI = decW v from by unfold decW; rw [if_neg (by omega), if_neg (by omega), if_neg (by omega), if_neg (by omega), if_neg (by omega), if_neg (by omega), if_neg (by omega), if_neg (by omega), if_neg (by omega), if_pos h, if_neg (by omega), if_neg (by omega)]; try rfl)
    have q0 := r0.out
    go_wp2_with fail
    refine ret_insb (b := w.heap.size) (cs := insC (opOnly (11 + 0))) (v := .bool false) rfl rfl rfl (by simp only [rowI_setRow, if_true, q0, Option.map_some]; rfl) rfl rfl (insB_eq (insB_no (opOnly (11 + 0)) rfl (below_row BB.out _ (Nat.le_refl _) _)) hr.out)
  · have e := e3.out
    rw [k] at e
    simp at e
    subst e
    have hr := Lib.hid (show noI = decW v from by unfold decW; rw [if_neg (by omega), if_neg (by omega), if_neg (by omega), if_neg (by omega), if_neg (by omega), if_neg (by omega), if_neg (by omega), if_neg (by omega), if_neg (by omega), if_pos h, if_neg (by omega), if_neg (by omega)]; try rfl)
    have q0 := r0.out
    go_wp2_with fail
    refine ret_insb (b := w.heap.size) (cs := insC (opOnly (11 + 1))) (v := .bool false) rfl rfl rfl (by simp only [rowI_setRow, if_true, q0, Option.map_some]; rfl) rfl rfl (insB_eq (insB_no (opOnly (11 + 1)) rfl (below_row BB.out _ (Nat.le_refl _) _)) hr.out)
  · have e := e3.out
    rw [k] at e
    simp at e
    subst e
    have hr := Lib.hid (show noI = decW v from by unfold decW; rw [if_neg (by omega), if_neg (by omega), if_neg (by omega), if_neg (by omega), if_neg (by omega), if_neg (by omega), if_neg (by omega), if_neg (by omega), if_neg (by omega), if_pos h, if_neg (by omega), if_neg (by omega)]; try rfl)
    have q0 := r0.out
    go_wp2_with fail
    refine ret_insb (b := w.heap.size) (cs := insC (opOnly (11 + 0))) (v := .bool false) rfl rfl rfl (by simp only [rowI_setRow, if_true, q0, Option.map_some]; rfl) rfl rfl (insB_eq (insB_no (opOnly (11 + 0)) rfl (below_row BB.out _ (Nat.le_refl _) _)) hr.out)
  · have e := e3.out
    rw [k] at e
    simp at e
    subst e
    have hr := Lib.hid (show noI = decW v from by unfold decW; rw [if_neg (by omega), if_neg (by omega), if_neg (by omega), if_neg (by omega), if_neg (by omega), if_neg (by omega), if_neg (by omega), if_neg (by omega), if_neg (by omega), if_pos h, if_neg (by omega), if_neg (by omega)]; try rfl)
    have q0 := r0.out
    go_wp2_with fail
    refine ret_insb (b := w.heap.size) (cs := insC (opOnly (11 + 1))) (v := .bool false) rfl rfl rfl (by simp only [rowI_setRow, if_true, q0, Option.map_some]; rfl) rfl rfl (insB_eq (insB_no (opOnly (11 + 1)) rfl (below_row BB.out _ (Nat.le_refl _) _)) hr.out)
end Go.Proofs.Ytnhbekgmameeaaa
