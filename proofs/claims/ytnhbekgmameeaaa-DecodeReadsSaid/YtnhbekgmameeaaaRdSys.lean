/- Contract: the document's system; bits. -/
import Derived.Test.YtnhbekgmameeaaaIns4
import Derived.Test.YtnhbekgmameeaaaShapeRef
import Derived.Test.YtnhbekgmameeaaaShapeSame
import Derived.Test.YtnhbekgmameeaaaDecBackPlain
import Derived.Test.YtnhbekgmameeaaaAndL
namespace Go.Proofs.Ytnhbekgmameeaaa
open Go.RowKit Wd
set_option linter.unusedVariables false
set_option linter.unusedSimpArgs false
attribute [local go_sem] loadI_lit loadI_ins storeI_lit rowI_alloc rowI_drew rowI_drewN rowI_setRow rowI_setCell setRow_allocJ and_L
attribute [local go_sem ↓] loadI_run storeK_eq
attribute [local go_sem] storeK_run storeK_one storeF_int
set_option maxRecDepth 8000
theorem rbits_any (v : BitVec 32) (hi lo : Int) : Qt Try.prog 112 #[.int .u32 (v.toNat : Int), .int .i64 hi, .int .i64 lo] (.int .i64 (fieldI v hi lo : Nat)) := by
  intro w
  go_enter Try.func112, Try.ntmps112
  go_wp2_with fail
  refine (rF_any v hi lo _).mono ?_
  rintro e w1 ⟨rfl, hq⟩
  go_wp2_with fail
  go_ret
  exact ⟨rfl, hq⟩
theorem field_top (v : BitVec 32) : fieldI v 31 20 = v.toNat / 1048576 := by
  have := v.isLt
  have h : v.toNat / 1048576 < 4096 := by omega
  refine fieldI_eq v 31 20 _ (by omega) (by omega) (by omega) fun i hi => ?_
  rw [show (1048576 : Nat) = 2 ^ 20 from rfl, Nat.testBit_div_two_pow, Nat.add_comm]
  rfl
set_option maxHeartbeats 40000000 in
theorem rsys_at (v : BitVec 32) (f3 f7 rd rs1 rs2 : Nat) (x g3 g7 gd : Int) (eX : Hid (x = (v.toNat : Int))) (e3 : Hid (g3 = (f3 : Int))) (e7 : Hid (g7 = (f7 : Int))) (ed : Hid (gd = (rd : Int))) (h3 : f3 < 8)
    (cB : Hid (Qt Try.prog 112 #[.int .u32 x, .int .i64 31, .int .i64 20] (.int .i64 ((v.toNat / 1048576 : Nat) : Int)))) (w : World) :
    Calls Try.prog 91 #[.int .u32 x, .int .i64 gd, .int .i64 (rs1 : Nat), .int .i64 (rs2 : Nat), .int .i64 g3, .int .i64 g7] w (InsB (sysN v.toNat f3 f7 rd rs1 rs2) w) := by
  by_cases k0 : v.toNat = 115
  · have hr := Lib.hid (show opOnly 13 = sysN v.toNat f3 f7 rd rs1 rs2 from by unfold sysN; rw [if_pos k0])
    have e := eX.out
    rw [k0] at e
    simp at e
    subst e
    clear k0 cB
    go_enter Try.func91, Try.ntmps91
    go_wp2_with fail
    refine ret_insb (b := w.heap.size) (cs := insC (opOnly 13)) (v := .bool true) rfl rfl rfl (by simp [rowI_alloc, rowI_setCell, rowI_setRow]; rfl) rfl rfl (insB_eq (insB_yes rfl (by repeat (first | with_reducible exact Below.refl _ _ | refine below_row ?_ _ (by simp) _ | refine below_setCell ?_ _ _ _ (by simp) | refine Below.alloc ?_ (by simp) _))) hr.out)
  by_cases k1 : v.toNat = 1048691
  · have hr := Lib.hid (show opOnly 14 = sysN v.toNat f3 f7 rd rs1 rs2 from by unfold sysN; rw [if_neg k0, if_pos k1])
    have e := eX.out
    rw [k1] at e
    simp at e
    subst e
    clear k0 k1 cB
    go_enter Try.func91, Try.ntmps91
    go_wp2_with fail
    refine ret_insb (b := w.heap.size) (cs := insC (opOnly 14)) (v := .bool true) rfl rfl rfl (by simp [rowI_alloc, rowI_setCell, rowI_setRow]; rfl) rfl rfl (insB_eq (insB_yes rfl (by repeat (first | with_reducible exact Below.refl _ _ | refine below_row ?_ _ (by simp) _ | refine below_setCell ?_ _ _ _ (by simp) | refine Below.alloc ?_ (by simp) _))) hr.out)
  by_cases k2 : v.toNat = 270532723
  · have hr := Lib.hid (show opOnly 16 = sysN v.toNat f3 f7 rd rs1 rs2 from by unfold sysN; rw [if_neg k0, if_neg k1, if_pos k2])
    have e := eX.out
    rw [k2] at e
    simp at e
    subst e
    clear k0 k1 k2 cB
    go_enter Try.func91, Try.ntmps91
    go_wp2_with fail
    refine ret_insb (b := w.heap.size) (cs := insC (opOnly 16)) (v := .bool true) rfl rfl rfl (by simp [rowI_alloc, rowI_setCell, rowI_setRow]; rfl) rfl rfl (insB_eq (insB_yes rfl (by repeat (first | with_reducible exact Below.refl _ _ | refine below_row ?_ _ (by simp) _ | refine below_setCell ?_ _ _ _ (by simp) | refine Below.alloc ?_ (by simp) _))) hr.out)
  by_cases k3 : v.toNat = 807403635
  · have hr := Lib.hid (show opOnly 15 = sysN v.toNat f3 f7 rd rs1 rs2 from by unfold sysN; rw [if_neg k0, if_neg k1, if_neg k2, if_pos k3])
    have e := eX.out
    rw [k3] at e
    simp at e
    subst e
    clear k0 k1 k2 k3 cB
    go_enter Try.func91, Try.ntmps91
    go_wp2_with fail
    refine ret_insb (b := w.heap.size) (cs := insC (opOnly 15)) (v := .bool true) rfl rfl rfl (by simp [rowI_alloc, rowI_setCell, rowI_setRow]; rfl) rfl rfl (insB_eq (insB_yes rfl (by repeat (first | with_reducible exact Below.refl _ _ | refine below_row ?_ _ (by simp) _ | refine below_setCell ?_ _ _ _ (by simp) | refine Below.alloc ?_ (by simp) _))) hr.out)
  by_cases k4 : v.toNat = 273678451
  · have hr := Lib.hid (show opOnly 17 = sysN v.toNat f3 f7 rd rs1 rs2 from by unfold sysN; rw [if_neg k0, if_neg k1, if_neg k2, if_neg k3, if_pos k4])
    have e := eX.out
    rw [k4] at e
    simp at e
    subst e
    clear k0 k1 k2 k3 k4 cB
    go_enter Try.func91, Try.ntmps91
    go_wp2_with fail
    refine ret_insb (b := w.heap.size) (cs := insC (opOnly 17)) (v := .bool true) rfl rfl rfl (by simp [rowI_alloc, rowI_setCell, rowI_setRow]; rfl) rfl rfl (insB_eq (insB_yes rfl (by repeat (first | with_reducible exact Below.refl _ _ | refine below_row ?_ _ (by simp) _ | refine below_setCell ?_ _ _ _ (by simp) | refine Below.alloc ?_ (by simp) _))) hr.out)
  have m0 : (x == 115) = false := by have := eX.out; simp; omega
  have m1 : (x == 1048691) = false := by have := eX.out; simp; omega
  have m2 : (x == 270532723) = false := by have := eX.out; simp; omega
  have m3 : (x == 807403635) = false := by have := eX.out; simp; omega
  have m4 : (x == 273678451) = false := by have := eX.out; simp; omega
  have hs : sysN v.toNat f3 f7 rd rs1 rs2 = if f3 % 4 ≠ 0 then ⟨19, (f3 % 4 : Nat), rd, rs1, 0, 0#64, 0, false, false, decide (4 ≤ f3), (v.toNat / 1048576 : Nat)⟩ else if f3 = 0 ∧ rd = 0 ∧ f7 = 9 then ⟨18, 0, 0, rs1, rs2, 0#64, 0, false, false, false, 0⟩ else noI := by
    unfold sysN
    rw [if_neg k0, if_neg k1, if_neg k2, if_neg k3, if_neg k4]
  replace hs := Lib.hid hs
  clear k0 k1 k2 k3 k4 eX
  have hf : f3 = 0 ∨ f3 = 1 ∨ f3 = 2 ∨ f3 = 3 ∨ f3 = 4 ∨ f3 = 5 ∨ f3 = 6 ∨ f3 = 7 := by omega
  clear h3
  rcases hf with rfl | rfl | rfl | rfl | rfl | rfl | rfl | rfl
  all_goals
    have e := e3.out
    simp at e
    subst e
    clear e3
  · clear cB
    by_cases z : rd = 0
    · subst z
      have e := ed.out
      simp at e
      subst e
      clear ed
      by_cases y : f7 = 9
      · subst y
        have e := e7.out
        simp at e
        subst e
        clear e7
        have hr := Lib.hid (show ⟨18, 0, 0, (rs1 : Nat), (rs2 : Nat), 0#64, 0, false, false, false, 0⟩ = sysN v.toNat 0 9 0 rs1 rs2 from by rw [hs.out]; rfl)
        go_enter Try.func91, Try.ntmps91
        go_wp2_with fail
        refine ret_insb (b := w.heap.size) (cs := insC ⟨18, 0, 0, (rs1 : Nat), (rs2 : Nat), 0#64, 0, false, false, false, 0⟩) (v := .bool true) rfl rfl rfl (by simp [rowI_alloc, rowI_setCell, rowI_setRow]; rfl) rfl rfl (insB_eq (insB_yes rfl (by repeat (first | with_reducible exact Below.refl _ _ | refine below_row ?_ _ (by simp) _ | refine below_setCell ?_ _ _ _ (by simp) | refine Below.alloc ?_ (by simp) _))) hr.out)
      · have y7 : (g7 == 9) = false := by have := e7.out; simp; omega
        have hr := Lib.hid (show noI = sysN v.toNat 0 f7 0 rs1 rs2 from by rw [hs.out, if_neg (by simp), if_neg (by simp [y])])
        clear y e7
        go_enter Try.func91, Try.ntmps91
        go_wp2_with fail
        refine ret_insb (b := w.heap.size) (cs := insC ⟨18, 0, 0, (rs1 : Nat), (rs2 : Nat), 0#64, 0, false, false, false, 0⟩) (v := .bool false) rfl rfl rfl (by simp [rowI_alloc, rowI_setCell, rowI_setRow]; rfl) rfl rfl (insB_eq (insB_no ⟨18, 0, 0, (rs1 : Nat), (rs2 : Nat), 0#64, 0, false, false, false, 0⟩ rfl (by repeat (first | with_reducible exact Below.refl _ _ | refine below_row ?_ _ (by simp) _ | refine below_setCell ?_ _ _ _ (by simp) | refine Below.alloc ?_ (by simp) _))) hr.out)
    · have z7 : (gd == 0) = false := by have := ed.out; simp; omega
      have hr := Lib.hid (show noI = sysN v.toNat 0 f7 rd rs1 rs2 from by rw [hs.out, if_neg (by simp), if_neg (by simp [z])])
      clear z ed
      go_enter Try.func91, Try.ntmps91
      go_wp2_with fail
      refine ret_insb (b := w.heap.size) (cs := insC ⟨18, 0, 0, (rs1 : Nat), (rs2 : Nat), 0#64, 0, false, false, false, 0⟩) (v := .bool false) rfl rfl rfl (by simp [rowI_alloc, rowI_setCell, rowI_setRow]; rfl) rfl rfl (insB_eq (insB_no ⟨18, 0, 0, (rs1 : Nat), (rs2 : Nat), 0#64, 0, false, false, false, 0⟩ rfl (by repeat (first | with_reducible exact Below.refl _ _ | refine below_row ?_ _ (by simp) _ | refine below_setCell ?_ _ _ _ (by simp) | refine Below.alloc ?_ (by simp) _))) hr.out)
  · have hr := Lib.hid (show ⟨19, (1 % 4 : Nat), gd, (rs1 : Nat), 0, 0#64, 0, false, false, false, (v.toNat / 1048576 : Nat)⟩ = sysN v.toNat 1 f7 rd rs1 rs2 from by rw [hs.out, ed.out]; rfl)
    go_enter Try.func91, Try.ntmps91
    go_wp2_with fail
    refine (cB.out _).mono ?_
    rintro e w1 ⟨rfl, hq⟩
    obtain ⟨r0, BB⟩ := one_block (hq.below _)
    replace BB := Lib.hid BB
    clear hq cB ed
    go_wp2_with fail
    refine ret_insb (b := w.heap.size) (cs := insC ⟨19, (1 % 4 : Nat), gd, (rs1 : Nat), 0, 0#64, 0, false, false, false, (v.toNat / 1048576 : Nat)⟩) (v := .bool true) rfl rfl rfl (by simp only [rowI_setRow, if_true, r0, Option.map_some]; rfl) rfl rfl (insB_eq (insB_yes rfl (below_row BB.out _ (Nat.le_refl _) _)) hr.out)
  · have hr := Lib.hid (show ⟨19, (2 % 4 : Nat), gd, (rs1 : Nat), 0, 0#64, 0, false, false, false, (v.toNat / 1048576 : Nat)⟩ = sysN v.toNat 2 f7 rd rs1 rs2 from by rw [hs.out, ed.out]; rfl)
    go_enter Try.func91, Try.ntmps91
    go_wp2_with fail
    refine (cB.out _).mono ?_
    rintro e w1 ⟨rfl, hq⟩
    obtain ⟨r0, BB⟩ := one_block (hq.below _)
    replace BB := Lib.hid BB
    clear hq cB ed
    go_wp2_with fail
    refine ret_insb (b := w.heap.size) (cs := insC ⟨19, (2 % 4 : Nat), gd, (rs1 : Nat), 0, 0#64, 0, false, false, false, (v.toNat / 1048576 : Nat)⟩) (v := .bool true) rfl rfl rfl (by simp only [rowI_setRow, if_true, r0, Option.map_some]; rfl) rfl rfl (insB_eq (insB_yes rfl (below_row BB.out _ (Nat.le_refl _) _)) hr.out)
  · have hr := Lib.hid (show ⟨19, (3 % 4 : Nat), gd, (rs1 : Nat), 0, 0#64, 0, false, false, false, (v.toNat / 1048576 : Nat)⟩ = sysN v.toNat 3 f7 rd rs1 rs2 from by rw [hs.out, ed.out]; rfl)
    go_enter Try.func91, Try.ntmps91
    go_wp2_with fail
    refine (cB.out _).mono ?_
    rintro e w1 ⟨rfl, hq⟩
    obtain ⟨r0, BB⟩ := one_block (hq.below _)
    replace BB := Lib.hid BB
    clear hq cB ed
    go_wp2_with fail
    refine ret_insb (b := w.heap.size) (cs := insC ⟨19, (3 % 4 : Nat), gd, (rs1 : Nat), 0, 0#64, 0, false, false, false, (v.toNat / 1048576 : Nat)⟩) (v := .bool true) rfl rfl rfl (by simp only [rowI_setRow, if_true, r0, Option.map_some]; rfl) rfl rfl (insB_eq (insB_yes rfl (below_row BB.out _ (Nat.le_refl _) _)) hr.out)
  · have hr := Lib.hid (show noI = sysN v.toNat 4 f7 rd rs1 rs2 from by rw [hs.out]; rfl)
    go_enter Try.func91, Try.ntmps91
    go_wp2_with fail
    refine (cB.out _).mono ?_
    rintro e w1 ⟨rfl, hq⟩
    obtain ⟨r0, BB⟩ := one_block (hq.below _)
    replace BB := Lib.hid BB
    clear hq cB ed
    go_wp2_with fail
    refine ret_insb (b := w.heap.size) (cs := insC ⟨19, (4 % 4 : Nat), gd, (rs1 : Nat), 0, 0#64, 0, false, false, false, (v.toNat / 1048576 : Nat)⟩) (v := .bool false) rfl rfl rfl (by simp only [rowI_setRow, if_true, r0, Option.map_some]; rfl) rfl rfl (insB_eq (insB_no ⟨19, (4 % 4 : Nat), gd, (rs1 : Nat), 0, 0#64, 0, false, false, false, (v.toNat / 1048576 : Nat)⟩ rfl (below_row BB.out _ (Nat.le_refl _) _)) hr.out)
  · have hr := Lib.hid (show ⟨19, (5 % 4 : Nat), gd, (rs1 : Nat), 0, 0#64, 0, false, false, true, (v.toNat / 1048576 : Nat)⟩ = sysN v.toNat 5 f7 rd rs1 rs2 from by rw [hs.out, ed.out]; rfl)
    go_enter Try.func91, Try.ntmps91
    go_wp2_with fail
    refine (cB.out _).mono ?_
    rintro e w1 ⟨rfl, hq⟩
    obtain ⟨r0, BB⟩ := one_block (hq.below _)
    replace BB := Lib.hid BB
    clear hq cB ed
    go_wp2_with fail
    refine ret_insb (b := w.heap.size) (cs := insC ⟨19, (5 % 4 : Nat), gd, (rs1 : Nat), 0, 0#64, 0, false, false, true, (v.toNat / 1048576 : Nat)⟩) (v := .bool true) rfl rfl rfl (by simp only [rowI_setRow, if_true, r0, Option.map_some]; rfl) rfl rfl (insB_eq (insB_yes rfl (below_row BB.out _ (Nat.le_refl _) _)) hr.out)
  · have hr := Lib.hid (show ⟨19, (6 % 4 : Nat), gd, (rs1 : Nat), 0, 0#64, 0, false, false, true, (v.toNat / 1048576 : Nat)⟩ = sysN v.toNat 6 f7 rd rs1 rs2 from by rw [hs.out, ed.out]; rfl)
    go_enter Try.func91, Try.ntmps91
    go_wp2_with fail
    refine (cB.out _).mono ?_
    rintro e w1 ⟨rfl, hq⟩
    obtain ⟨r0, BB⟩ := one_block (hq.below _)
    replace BB := Lib.hid BB
    clear hq cB ed
    go_wp2_with fail
    refine ret_insb (b := w.heap.size) (cs := insC ⟨19, (6 % 4 : Nat), gd, (rs1 : Nat), 0, 0#64, 0, false, false, true, (v.toNat / 1048576 : Nat)⟩) (v := .bool true) rfl rfl rfl (by simp only [rowI_setRow, if_true, r0, Option.map_some]; rfl) rfl rfl (insB_eq (insB_yes rfl (below_row BB.out _ (Nat.le_refl _) _)) hr.out)
  · have hr := Lib.hid (show ⟨19, (7 % 4 : Nat), gd, (rs1 : Nat), 0, 0#64, 0, false, false, true, (v.toNat / 1048576 : Nat)⟩ = sysN v.toNat 7 f7 rd rs1 rs2 from by rw [hs.out, ed.out]; rfl)
    go_enter Try.func91, Try.ntmps91
    go_wp2_with fail
    refine (cB.out _).mono ?_
    rintro e w1 ⟨rfl, hq⟩
    obtain ⟨r0, BB⟩ := one_block (hq.below _)
    replace BB := Lib.hid BB
    clear hq cB ed
    go_wp2_with fail
    refine ret_insb (b := w.heap.size) (cs := insC ⟨19, (7 % 4 : Nat), gd, (rs1 : Nat), 0, 0#64, 0, false, false, true, (v.toNat / 1048576 : Nat)⟩) (v := .bool true) rfl rfl rfl (by simp only [rowI_setRow, if_true, r0, Option.map_some]; rfl) rfl rfl (insB_eq (insB_yes rfl (below_row BB.out _ (Nat.le_refl _) _)) hr.out)
theorem rsys_any (v : BitVec 32) (rd rs1 rs2 f3 f7 : Nat) (h3 : f3 < 8) (w : World) :
    Calls Try.prog 91 #[.int .u32 (v.toNat : Int), .int .i64 (rd : Nat), .int .i64 (rs1 : Nat), .int .i64 (rs2 : Nat), .int .i64 (f3 : Nat), .int .i64 (f7 : Nat)] w (InsB (sysN v.toNat f3 f7 rd rs1 rs2) w) :=
  rsys_at v f3 f7 rd rs1 rs2 _ _ _ _ (Lib.hid rfl) (Lib.hid rfl) (Lib.hid rfl) (Lib.hid rfl) h3 (Lib.hid (by have := rbits_any v 31 20; rwa [field_top] at this)) w
end Go.Proofs.Ytnhbekgmameeaaa
