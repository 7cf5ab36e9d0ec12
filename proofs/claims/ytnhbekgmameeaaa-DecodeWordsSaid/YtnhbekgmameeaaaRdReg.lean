/- Contract: the document's reg. -/
import Derived.Test.YtnhbekgmameeaaaIns4
import Derived.Test.YtnhbekgmameeaaaShapeRef
import Derived.Test.YtnhbekgmameeaaaShapeSame
import Derived.Test.YtnhbekgmameeaaaDecBackPlain
import Derived.Test.YtnhbekgmameeaaaAndL
namespace Go.Proofs.Ytnhbekgmameeaaa
open Go.RowKit Wd
set_option linter.unusedVariables false
set_option linter.unusedSimpArgs false
attribute [local go_sem] loadI_lit loadI_ins storeI_lit rowI_alloc rowI_drew rowI_drewN rowI_setRow rowI_setCell setRow_allocJ and_L
attribute [local go_sem ↓] loadI_run storeK_eq
attribute [local go_sem] storeK_run storeK_one storeF_int
set_option maxRecDepth 8000
set_option maxHeartbeats 40000000 in
theorem rreg_at (W : Bool) (f3 f7 rd rs1 rs2 : Nat) (g3 g7 : Int) (e3 : Hid (g3 = (f3 : Int))) (e7 : Hid (g7 = (f7 : Int))) (h3 : f3 < 8) (w : World) :
    Calls Try.prog 89 #[.int .i64 g3, .int .i64 g7, .bool W, .int .i64 (rd : Nat), .int .i64 (rs1 : Nat), .int .i64 (rs2 : Nat)] w (InsB (regN W f3 f7 rd rs1 rs2) w) := by
  have hf : f3 = 0 ∨ f3 = 1 ∨ f3 = 2 ∨ f3 = 3 ∨ f3 = 4 ∨ f3 = 5 ∨ f3 = 6 ∨ f3 = 7 := by omega
  clear h3
  rcases hf with rfl | rfl | rfl | rfl | rfl | rfl | rfl | rfl
  all_goals
    have e := e3.out
    simp at e
    subst e
    clear e3
  · by_cases h0 : f7 = 0
    · subst h0
      have e := e7.out
      simp at e
      subst e
      clear e7
      cases W
      · have hr := Lib.hid (show ⟨9, (0 : Nat), (rd : Nat), (rs1 : Nat), (rs2 : Nat), 0#64, 0, false, false, false, 0⟩ = regN false 0 0 rd rs1 rs2 from rfl)
        go_enter Try.func89, Try.ntmps89
        go_wp2_with fail
        refine ret_insb (b := w.heap.size) (cs := insC ⟨9, (0 : Nat), (rd : Nat), (rs1 : Nat), (rs2 : Nat), 0#64, 0, false, false, false, 0⟩) (v := .bool true) rfl rfl rfl (by simp [rowI_alloc, rowI_setCell, rowI_setRow]; rfl) rfl rfl (insB_eq (insB_yes rfl (by repeat (first | with_reducible exact Below.refl _ _ | refine below_row ?_ _ (by simp) _ | refine below_setCell ?_ _ _ _ (by simp) | refine Below.alloc ?_ (by simp) _))) hr.out)
      · have hr := Lib.hid (show ⟨9, (0 : Nat), (rd : Nat), (rs1 : Nat), (rs2 : Nat), 0#64, 0, false, true, false, 0⟩ = regN true 0 0 rd rs1 rs2 from rfl)
        go_enter Try.func89, Try.ntmps89
        go_wp2_with fail
        refine ret_insb (b := w.heap.size) (cs := insC ⟨9, (0 : Nat), (rd : Nat), (rs1 : Nat), (rs2 : Nat), 0#64, 0, false, true, false, 0⟩) (v := .bool true) rfl rfl rfl (by simp [rowI_alloc, rowI_setCell, rowI_setRow]; rfl) rfl rfl (insB_eq (insB_yes rfl (by repeat (first | with_reducible exact Below.refl _ _ | refine below_row ?_ _ (by simp) _ | refine below_setCell ?_ _ _ _ (by simp) | refine Below.alloc ?_ (by simp) _))) hr.out)
    by_cases h1 : f7 = 1
    · subst h1
      have e := e7.out
      simp at e
      subst e
      clear e7
      clear h0
      cases W
      · have hr := Lib.hid (show ⟨10, (0 : Nat), (rd : Nat), (rs1 : Nat), (rs2 : Nat), 0#64, 0, false, false, false, 0⟩ = regN false 0 1 rd rs1 rs2 from rfl)
        go_enter Try.func89, Try.ntmps89
        go_wp2_with fail
        refine ret_insb (b := w.heap.size) (cs := insC ⟨10, (0 : Nat), (rd : Nat), (rs1 : Nat), (rs2 : Nat), 0#64, 0, false, false, false, 0⟩) (v := .bool true) rfl rfl rfl (by simp [rowI_alloc, rowI_setCell, rowI_setRow]; rfl) rfl rfl (insB_eq (insB_yes rfl (by repeat (first | with_reducible exact Below.refl _ _ | refine below_row ?_ _ (by simp) _ | refine below_setCell ?_ _ _ _ (by simp) | refine Below.alloc ?_ (by simp) _))) hr.out)
      · have hr := Lib.hid (show ⟨10, (0 : Nat), (rd : Nat), (rs1 : Nat), (rs2 : Nat), 0#64, 0, false, true, false, 0⟩ = regN true 0 1 rd rs1 rs2 from rfl)
        go_enter Try.func89, Try.ntmps89
        go_wp2_with fail
        refine ret_insb (b := w.heap.size) (cs := insC ⟨10, (0 : Nat), (rd : Nat), (rs1 : Nat), (rs2 : Nat), 0#64, 0, false, true, false, 0⟩) (v := .bool true) rfl rfl rfl (by simp [rowI_alloc, rowI_setCell, rowI_setRow]; rfl) rfl rfl (insB_eq (insB_yes rfl (by repeat (first | with_reducible exact Below.refl _ _ | refine below_row ?_ _ (by simp) _ | refine below_setCell ?_ _ _ _ (by simp) | refine Below.alloc ?_ (by simp) _))) hr.out)
    by_cases h2 : f7 = 32
    · subst h2
      have e := e7.out
      simp at e
      subst e
      clear e7
      clear h0 h1
      have hr := Lib.hid (show ⟨9, (8 : Nat), (rd : Nat), (rs1 : Nat), (rs2 : Nat), 0#64, 0, false, W, false, 0⟩ = regN W 0 32 rd rs1 rs2 from rfl)
      go_enter Try.func89, Try.ntmps89
      go_wp2_with fail
      refine ret_insb (b := w.heap.size) (cs := insC ⟨9, (8 : Nat), (rd : Nat), (rs1 : Nat), (rs2 : Nat), 0#64, 0, false, W, false, 0⟩) (v := .bool true) rfl rfl rfl (by simp [rowI_alloc, rowI_setCell, rowI_setRow]; rfl) rfl rfl (insB_eq (insB_yes rfl (by repeat (first | with_reducible exact Below.refl _ _ | refine below_row ?_ _ (by simp) _ | refine below_setCell ?_ _ _ _ (by simp) | refine Below.alloc ?_ (by simp) _))) hr.out)
    have q0 : (g7 == 0) = false := by have := e7.out; simp; omega
    have q1 : (g7 == 1) = false := by have := e7.out; simp; omega
    have q2 : (g7 == 32) = false := by have := e7.out; simp; omega
    have hr := Lib.hid (show noI = regN W 0 f7 rd rs1 rs2 from by unfold regN; rw [if_neg (by omega), if_neg (by omega), if_neg (by omega), if_neg (by omega)])
    clear h0 h1 h2 e7
    go_enter Try.func89, Try.ntmps89
    go_wp2_with fail
    refine ret_insb (b := w.heap.size) (cs := insC ⟨9, (0 : Nat), (rd : Nat), (rs1 : Nat), (rs2 : Nat), 0#64, 0, false, W, false, 0⟩) (v := .bool false) rfl rfl rfl (by simp [rowI_alloc, rowI_setCell, rowI_setRow]; rfl) rfl rfl (insB_eq (insB_no ⟨9, (0 : Nat), (rd : Nat), (rs1 : Nat), (rs2 : Nat), 0#64, 0, false, W, false, 0⟩ rfl (by repeat (first | with_reducible exact Below.refl _ _ | refine below_row ?_ _ (by simp) _ | refine below_setCell ?_ _ _ _ (by simp) | refine Below.alloc ?_ (by simp) _))) hr.out)
  · by_cases h0 : f7 = 0
    · subst h0
      have e := e7.out
      simp at e
      subst e
      clear e7
      cases W
      · have hr := Lib.hid (show ⟨9, (1 : Nat), (rd : Nat), (rs1 : Nat), (rs2 : Nat), 0#64, 0, false, false, false, 0⟩ = regN false 1 0 rd rs1 rs2 from rfl)
        go_enter Try.func89, Try.ntmps89
        go_wp2_with fail
        refine ret_insb (b := w.heap.size) (cs := insC ⟨9, (1 : Nat), (rd : Nat), (rs1 : Nat), (rs2 : Nat), 0#64, 0, false, false, false, 0⟩) (v := .bool true) rfl rfl rfl (by simp [rowI_alloc, rowI_setCell, rowI_setRow]; rfl) rfl rfl (insB_eq (insB_yes rfl (by repeat (first | with_reducible exact Below.refl _ _ | refine below_row ?_ _ (by simp) _ | refine below_setCell ?_ _ _ _ (by simp) | refine Below.alloc ?_ (by simp) _))) hr.out)
      · have hr := Lib.hid (show ⟨9, (1 : Nat), (rd : Nat), (rs1 : Nat), (rs2 : Nat), 0#64, 0, false, true, false, 0⟩ = regN true 1 0 rd rs1 rs2 from rfl)
        go_enter Try.func89, Try.ntmps89
        go_wp2_with fail
        refine ret_insb (b := w.heap.size) (cs := insC ⟨9, (1 : Nat), (rd : Nat), (rs1 : Nat), (rs2 : Nat), 0#64, 0, false, true, false, 0⟩) (v := .bool true) rfl rfl rfl (by simp [rowI_alloc, rowI_setCell, rowI_setRow]; rfl) rfl rfl (insB_eq (insB_yes rfl (by repeat (first | with_reducible exact Below.refl _ _ | refine below_row ?_ _ (by simp) _ | refine below_setCell ?_ _ _ _ (by simp) | refine Below.alloc ?_ (by simp) _))) hr.out)
    by_cases h1 : f7 = 1
    · subst h1
      have e := e7.out
      simp at e
      subst e
      clear e7
      clear h0
      cases W
      · have hr := Lib.hid (show ⟨10, (1 : Nat), (rd : Nat), (rs1 : Nat), (rs2 : Nat), 0#64, 0, false, false, false, 0⟩ = regN false 1 1 rd rs1 rs2 from rfl)
        go_enter Try.func89, Try.ntmps89
        go_wp2_with fail
        refine ret_insb (b := w.heap.size) (cs := insC ⟨10, (1 : Nat), (rd : Nat), (rs1 : Nat), (rs2 : Nat), 0#64, 0, false, false, false, 0⟩) (v := .bool true) rfl rfl rfl (by simp [rowI_alloc, rowI_setCell, rowI_setRow]; rfl) rfl rfl (insB_eq (insB_yes rfl (by repeat (first | with_reducible exact Below.refl _ _ | refine below_row ?_ _ (by simp) _ | refine below_setCell ?_ _ _ _ (by simp) | refine Below.alloc ?_ (by simp) _))) hr.out)
      · have hr := Lib.hid (show noI = regN true 1 1 rd rs1 rs2 from rfl)
        go_enter Try.func89, Try.ntmps89
        go_wp2_with fail
        refine ret_insb (b := w.heap.size) (cs := insC ⟨10, (1 : Nat), (rd : Nat), (rs1 : Nat), (rs2 : Nat), 0#64, 0, false, true, false, 0⟩) (v := .bool false) rfl rfl rfl (by simp [rowI_alloc, rowI_setCell, rowI_setRow]; rfl) rfl rfl (insB_eq (insB_no ⟨10, (1 : Nat), (rd : Nat), (rs1 : Nat), (rs2 : Nat), 0#64, 0, false, true, false, 0⟩ rfl (by repeat (first | with_reducible exact Below.refl _ _ | refine below_row ?_ _ (by simp) _ | refine below_setCell ?_ _ _ _ (by simp) | refine Below.alloc ?_ (by simp) _))) hr.out)
    by_cases h2 : f7 = 32
    · subst h2
      have e := e7.out
      simp at e
      subst e
      clear e7
      clear h0 h1
      have hr := Lib.hid (show noI = regN W 1 32 rd rs1 rs2 from rfl)
      go_enter Try.func89, Try.ntmps89
      go_wp2_with fail
      refine ret_insb (b := w.heap.size) (cs := insC ⟨9, (9 : Nat), (rd : Nat), (rs1 : Nat), (rs2 : Nat), 0#64, 0, false, W, false, 0⟩) (v := .bool false) rfl rfl rfl (by simp [rowI_alloc, rowI_setCell, rowI_setRow]; rfl) rfl rfl (insB_eq (insB_no ⟨9, (9 : Nat), (rd : Nat), (rs1 : Nat), (rs2 : Nat), 0#64, 0, false, W, false, 0⟩ rfl (by repeat (first | with_reducible exact Below.refl _ _ | refine below_row ?_ _ (by simp) _ | refine below_setCell ?_ _ _ _ (by simp) | refine Below.alloc ?_ (by simp) _))) hr.out)
    have q0 : (g7 == 0) = false := by have := e7.out; simp; omega
    have q1 : (g7 == 1) = false := by have := e7.out; simp; omega
    have q2 : (g7 == 32) = false := by have := e7.out; simp; omega
    have hr := Lib.hid (show noI = regN W 1 f7 rd rs1 rs2 from by unfold regN; rw [if_neg (by omega), if_neg (by omega), if_neg (by omega), if_neg (by omega)])
    clear h0 h1 h2 e7
    go_enter Try.func89, Try.ntmps89
    go_wp2_with fail
    refine ret_insb (b := w.heap.size) (cs := insC ⟨9, (1 : Nat), (rd : Nat), (rs1 : Nat), (rs2 : Nat), 0#64, 0, false, W, false, 0⟩) (v := .bool false) rfl rfl rfl (by simp [rowI_alloc, rowI_setCell, rowI_setRow]; rfl) rfl rfl (insB_eq (insB_no ⟨9, (1 : Nat), (rd : Nat), (rs1 : Nat), (rs2 : Nat), 0#64, 0, false, W, false, 0⟩ rfl (by repeat (first | with_reducible exact Below.refl _ _ | refine below_row ?_ _ (by simp) _ | refine below_setCell ?_ _ _ _ (by simp) | refine Below.alloc ?_ (by simp) _))) hr.out)
  · by_cases h0 : f7 = 0
    · subst h0
      have e := e7.out
      simp at e
      subst e
      clear e7
      cases W
      · have hr := Lib.hid (show ⟨9, (2 : Nat), (rd : Nat), (rs1 : Nat), (rs2 : Nat), 0#64, 0, false, false, false, 0⟩ = regN false 2 0 rd rs1 rs2 from rfl)
        go_enter Try.func89, Try.ntmps89
        go_wp2_with fail
        refine ret_insb (b := w.heap.size) (cs := insC ⟨9, (2 : Nat), (rd : Nat), (rs1 : Nat), (rs2 : Nat), 0#64, 0, false, false, false, 0⟩) (v := .bool true) rfl rfl rfl (by simp [rowI_alloc, rowI_setCell, rowI_setRow]; rfl) rfl rfl (insB_eq (insB_yes rfl (by repeat (first | with_reducible exact Below.refl _ _ | refine below_row ?_ _ (by simp) _ | refine below_setCell ?_ _ _ _ (by simp) | refine Below.alloc ?_ (by simp) _))) hr.out)
      · have hr := Lib.hid (show noI = regN true 2 0 rd rs1 rs2 from rfl)
        go_enter Try.func89, Try.ntmps89
        go_wp2_with fail
        refine ret_insb (b := w.heap.size) (cs := insC ⟨9, (2 : Nat), (rd : Nat), (rs1 : Nat), (rs2 : Nat), 0#64, 0, false, true, false, 0⟩) (v := .bool false) rfl rfl rfl (by simp [rowI_alloc, rowI_setCell, rowI_setRow]; rfl) rfl rfl (insB_eq (insB_no ⟨9, (2 : Nat), (rd : Nat), (rs1 : Nat), (rs2 : Nat), 0#64, 0, false, true, false, 0⟩ rfl (by repeat (first | with_reducible exact Below.refl _ _ | refine below_row ?_ _ (by simp) _ | refine below_setCell ?_ _ _ _ (by simp) | refine Below.alloc ?_ (by simp) _))) hr.out)
    by_cases h1 : f7 = 1
    · subst h1
      have e := e7.out
      simp at e
      subst e
      clear e7
      clear h0
      cases W
      · have hr := Lib.hid (show ⟨10, (2 : Nat), (rd : Nat), (rs1 : Nat), (rs2 : Nat), 0#64, 0, false, false, false, 0⟩ = regN false 2 1 rd rs1 rs2 from rfl)
        go_enter Try.func89, Try.ntmps89
        go_wp2_with fail
        refine ret_insb (b := w.heap.size) (cs := insC ⟨10, (2 : Nat), (rd : Nat), (rs1 : Nat), (rs2 : Nat), 0#64, 0, false, false, false, 0⟩) (v := .bool true) rfl rfl rfl (by simp [rowI_alloc, rowI_setCell, rowI_setRow]; rfl) rfl rfl (insB_eq (insB_yes rfl (by repeat (first | with_reducible exact Below.refl _ _ | refine below_row ?_ _ (by simp) _ | refine below_setCell ?_ _ _ _ (by simp) | refine Below.alloc ?_ (by simp) _))) hr.out)
      · have hr := Lib.hid (show noI = regN true 2 1 rd rs1 rs2 from rfl)
        go_enter Try.func89, Try.ntmps89
        go_wp2_with fail
        refine ret_insb (b := w.heap.size) (cs := insC ⟨10, (2 : Nat), (rd : Nat), (rs1 : Nat), (rs2 : Nat), 0#64, 0, false, true, false, 0⟩) (v := .bool false) rfl rfl rfl (by simp [rowI_alloc, rowI_setCell, rowI_setRow]; rfl) rfl rfl (insB_eq (insB_no ⟨10, (2 : Nat), (rd : Nat), (rs1 : Nat), (rs2 : Nat), 0#64, 0, false, true, false, 0⟩ rfl (by repeat (first | with_reducible exact Below.refl _ _ | refine below_row ?_ _ (by simp) _ | refine below_setCell ?_ _ _ _ (by simp) | refine Below.alloc ?_ (by simp) _))) hr.out)
    by_cases h2 : f7 = 32
    · subst h2
      have e := e7.out
      simp at e
      subst e
      clear e7
      clear h0 h1
      have hr := Lib.hid (show noI = regN W 2 32 rd rs1 rs2 from rfl)
      go_enter Try.func89, Try.ntmps89
      go_wp2_with fail
      refine ret_insb (b := w.heap.size) (cs := insC ⟨9, (10 : Nat), (rd : Nat), (rs1 : Nat), (rs2 : Nat), 0#64, 0, false, W, false, 0⟩) (v := .bool false) rfl rfl rfl (by simp [rowI_alloc, rowI_setCell, rowI_setRow]; rfl) rfl rfl (insB_eq (insB_no ⟨9, (10 : Nat), (rd : Nat), (rs1 : Nat), (rs2 : Nat), 0#64, 0, false, W, false, 0⟩ rfl (by repeat (first | with_reducible exact Below.refl _ _ | refine below_row ?_ _ (by simp) _ | refine below_setCell ?_ _ _ _ (by simp) | refine Below.alloc ?_ (by simp) _))) hr.out)
    have q0 : (g7 == 0) = false := by have := e7.out; simp; omega
    have q1 : (g7 == 1) = false := by have := e7.out; simp; omega
    have q2 : (g7 == 32) = false := by have := e7.out; simp; omega
    have hr := Lib.hid (show noI = regN W 2 f7 rd rs1 rs2 from by unfold regN; rw [if_neg (by omega), if_neg (by omega), if_neg (by omega), if_neg (by omega)])
    clear h0 h1 h2 e7
    go_enter Try.func89, Try.ntmps89
    go_wp2_with fail
    refine ret_insb (b := w.heap.size) (cs := insC ⟨9, (2 : Nat), (rd : Nat), (rs1 : Nat), (rs2 : Nat), 0#64, 0, false, W, false, 0⟩) (v := .bool false) rfl rfl rfl (by simp [rowI_alloc, rowI_setCell, rowI_setRow]; rfl) rfl rfl (insB_eq (insB_no ⟨9, (2 : Nat), (rd : Nat), (rs1 : Nat), (rs2 : Nat), 0#64, 0, false, W, false, 0⟩ rfl (by repeat (first | with_reducible exact Below.refl _ _ | refine below_row ?_ _ (by simp) _ | refine below_setCell ?_ _ _ _ (by simp) | refine Below.alloc ?_ (by simp) _))) hr.out)
  · by_cases h0 : f7 = 0
    · subst h0
      have e := e7.out
      simp at e
      subst e
      clear e7
      cases W
      · have hr := Lib.hid (show ⟨9, (3 : Nat), (rd : Nat), (rs1 : Nat), (rs2 : Nat), 0#64, 0, false, false, false, 0⟩ = regN false 3 0 rd rs1 rs2 from rfl)
        go_enter Try.func89, Try.ntmps89
        go_wp2_with fail
        refine ret_insb (b := w.heap.size) (cs := insC ⟨9, (3 : Nat), (rd : Nat), (rs1 : Nat), (rs2 : Nat), 0#64, 0, false, false, false, 0⟩) (v := .bool true) rfl rfl rfl (by simp [rowI_alloc, rowI_setCell, rowI_setRow]; rfl) rfl rfl (insB_eq (insB_yes rfl (by repeat (first | with_reducible exact Below.refl _ _ | refine below_row ?_ _ (by simp) _ | refine below_setCell ?_ _ _ _ (by simp) | refine Below.alloc ?_ (by simp) _))) hr.out)
      · have hr := Lib.hid (show noI = regN true 3 0 rd rs1 rs2 from rfl)
        go_enter Try.func89, Try.ntmps89
        go_wp2_with fail
        refine ret_insb (b := w.heap.size) (cs := insC ⟨9, (3 : Nat), (rd : Nat), (rs1 : Nat), (rs2 : Nat), 0#64, 0, false, true, false, 0⟩) (v := .bool false) rfl rfl rfl (by simp [rowI_alloc, rowI_setCell, rowI_setRow]; rfl) rfl rfl (insB_eq (insB_no ⟨9, (3 : Nat), (rd : Nat), (rs1 : Nat), (rs2 : Nat), 0#64, 0, false, true, false, 0⟩ rfl (by repeat (first | with_reducible exact Below.refl _ _ | refine below_row ?_ _ (by simp) _ | refine below_setCell ?_ _ _ _ (by simp) | refine Below.alloc ?_ (by simp) _))) hr.out)
    by_cases h1 : f7 = 1
    · subst h1
      have e := e7.out
      simp at e
      subst e
      clear e7
      clear h0
      cases W
      · have hr := Lib.hid (show ⟨10, (3 : Nat), (rd : Nat), (rs1 : Nat), (rs2 : Nat), 0#64, 0, false, false, false, 0⟩ = regN false 3 1 rd rs1 rs2 from rfl)
        go_enter Try.func89, Try.ntmps89
        go_wp2_with fail
        refine ret_insb (b := w.heap.size) (cs := insC ⟨10, (3 : Nat), (rd : Nat), (rs1 : Nat), (rs2 : Nat), 0#64, 0, false, false, false, 0⟩) (v := .bool true) rfl rfl rfl (by simp [rowI_alloc, rowI_setCell, rowI_setRow]; rfl) rfl rfl (insB_eq (insB_yes rfl (by repeat (first | with_reducible exact Below.refl _ _ | refine below_row ?_ _ (by simp) _ | refine below_setCell ?_ _ _ _ (by simp) | refine Below.alloc ?_ (by simp) _))) hr.out)
      · have hr := Lib.hid (show noI = regN true 3 1 rd rs1 rs2 from rfl)
        go_enter Try.func89, Try.ntmps89
        go_wp2_with fail
        refine ret_insb (b := w.heap.size) (cs := insC ⟨10, (3 : Nat), (rd : Nat), (rs1 : Nat), (rs2 : Nat), 0#64, 0, false, true, false, 0⟩) (v := .bool false) rfl rfl rfl (by simp [rowI_alloc, rowI_setCell, rowI_setRow]; rfl) rfl rfl (insB_eq (insB_no ⟨10, (3 : Nat), (rd : Nat), (rs1 : Nat), (rs2 : Nat), 0#64, 0, false, true, false, 0⟩ rfl (by repeat (first | with_reducible exact Below.refl _ _ | refine below_row ?_ _ (by simp) _ | refine below_setCell ?_ _ _ _ (by simp) | refine Below.alloc ?_ (by simp) _))) hr.out)
    by_cases h2 : f7 = 32
    · subst h2
      have e := e7.out
      simp at e
      subst e
      clear e7
      clear h0 h1
      have hr := Lib.hid (show noI = regN W 3 32 rd rs1 rs2 from rfl)
      go_enter Try.func89, Try.ntmps89
      go_wp2_with fail
      refine ret_insb (b := w.heap.size) (cs := insC ⟨9, (11 : Nat), (rd : Nat), (rs1 : Nat), (rs2 : Nat), 0#64, 0, false, W, false, 0⟩) (v := .bool false) rfl rfl rfl (by simp [rowI_alloc, rowI_setCell, rowI_setRow]; rfl) rfl rfl (insB_eq (insB_no ⟨9, (11 : Nat), (rd : Nat), (rs1 : Nat), (rs2 : Nat), 0#64, 0, false, W, false, 0⟩ rfl (by repeat (first | with_reducible exact Below.refl _ _ | refine below_row ?_ _ (by simp) _ | refine below_setCell ?_ _ _ _ (by simp) | refine Below.alloc ?_ (by simp) _))) hr.out)
    have q0 : (g7 == 0) = false := by have := e7.out; simp; omega
    have q1 : (g7 == 1) = false := by have := e7.out; simp; omega
    have q2 : (g7 == 32) = false := by have := e7.out; simp; omega
    have hr := Lib.hid (show noI = regN W 3 f7 rd rs1 rs2 from by unfold regN; rw [if_neg (by omega), if_neg (by omega), if_neg (by omega), if_neg (by omega)])
    clear h0 h1 h2 e7
    go_enter Try.func89, Try.ntmps89
    go_wp2_with fail
    refine ret_insb (b := w.heap.size) (cs := insC ⟨9, (3 : Nat), (rd : Nat), (rs1 : Nat), (rs2 : Nat), 0#64, 0, false, W, false, 0⟩) (v := .bool false) rfl rfl rfl (by simp [rowI_alloc, rowI_setCell, rowI_setRow]; rfl) rfl rfl (insB_eq (insB_no ⟨9, (3 : Nat), (rd : Nat), (rs1 : Nat), (rs2 : Nat), 0#64, 0, false, W, false, 0⟩ rfl (by repeat (first | with_reducible exact Below.refl _ _ | refine below_row ?_ _ (by simp) _ | refine below_setCell ?_ _ _ _ (by simp) | refine Below.alloc ?_ (by simp) _))) hr.out)
  · by_cases h0 : f7 = 0
    · subst h0
      have e := e7.out
      simp at e
      subst e
      clear e7
      cases W
      · have hr := Lib.hid (show ⟨9, (4 : Nat), (rd : Nat), (rs1 : Nat), (rs2 : Nat), 0#64, 0, false, false, false, 0⟩ = regN false 4 0 rd rs1 rs2 from rfl)
        go_enter Try.func89, Try.ntmps89
        go_wp2_with fail
        refine ret_insb (b := w.heap.size) (cs := insC ⟨9, (4 : Nat), (rd : Nat), (rs1 : Nat), (rs2 : Nat), 0#64, 0, false, false, false, 0⟩) (v := .bool true) rfl rfl rfl (by simp [rowI_alloc, rowI_setCell, rowI_setRow]; rfl) rfl rfl (insB_eq (insB_yes rfl (by repeat (first | with_reducible exact Below.refl _ _ | refine below_row ?_ _ (by simp) _ | refine below_setCell ?_ _ _ _ (by simp) | refine Below.alloc ?_ (by simp) _))) hr.out)
      · have hr := Lib.hid (show noI = regN true 4 0 rd rs1 rs2 from rfl)
        go_enter Try.func89, Try.ntmps89
        go_wp2_with fail
        refine ret_insb (b := w.heap.size) (cs := insC ⟨9, (4 : Nat), (rd : Nat), (rs1 : Nat), (rs2 : Nat), 0#64, 0, false, true, false, 0⟩) (v := .bool false) rfl rfl rfl (by simp [rowI_alloc, rowI_setCell, rowI_setRow]; rfl) rfl rfl (insB_eq (insB_no ⟨9, (4 : Nat), (rd : Nat), (rs1 : Nat), (rs2 : Nat), 0#64, 0, false, true, false, 0⟩ rfl (by repeat (first | with_reducible exact Below.refl _ _ | refine below_row ?_ _ (by simp) _ | refine below_setCell ?_ _ _ _ (by simp) | refine Below.alloc ?_ (by simp) _))) hr.out)
    by_cases h1 : f7 = 1
    · subst h1
      have e := e7.out
      simp at e
      subst e
      clear e7
      clear h0
      cases W
      · have hr := Lib.hid (show ⟨10, (4 : Nat), (rd : Nat), (rs1 : Nat), (rs2 : Nat), 0#64, 0, false, false, false, 0⟩ = regN false 4 1 rd rs1 rs2 from rfl)
        go_enter Try.func89, Try.ntmps89
        go_wp2_with fail
        refine ret_insb (b := w.heap.size) (cs := insC ⟨10, (4 : Nat), (rd : Nat), (rs1 : Nat), (rs2 : Nat), 0#64, 0, false, false, false, 0⟩) (v := .bool true) rfl rfl rfl (by simp [rowI_alloc, rowI_setCell, rowI_setRow]; rfl) rfl rfl (insB_eq (insB_yes rfl (by repeat (first | with_reducible exact Below.refl _ _ | refine below_row ?_ _ (by simp) _ | refine below_setCell ?_ _ _ _ (by simp) | refine Below.alloc ?_ (by simp) _))) hr.out)
      · have hr := Lib.hid (show ⟨10, (4 : Nat), (rd : Nat), (rs1 : Nat), (rs2 : Nat), 0#64, 0, false, true, false, 0⟩ = regN true 4 1 rd rs1 rs2 from rfl)
        go_enter Try.func89, Try.ntmps89
        go_wp2_with fail
        refine ret_insb (b := w.heap.size) (cs := insC ⟨10, (4 : Nat), (rd : Nat), (rs1 : Nat), (rs2 : Nat), 0#64, 0, false, true, false, 0⟩) (v := .bool true) rfl rfl rfl (by simp [rowI_alloc, rowI_setCell, rowI_setRow]; rfl) rfl rfl (insB_eq (insB_yes rfl (by repeat (first | with_reducible exact Below.refl _ _ | refine below_row ?_ _ (by simp) _ | refine below_setCell ?_ _ _ _ (by simp) | refine Below.alloc ?_ (by simp) _))) hr.out)
    by_cases h2 : f7 = 32
    · subst h2
      have e := e7.out
      simp at e
      subst e
      clear e7
      clear h0 h1
      have hr := Lib.hid (show noI = regN W 4 32 rd rs1 rs2 from rfl)
      go_enter Try.func89, Try.ntmps89
      go_wp2_with fail
      refine ret_insb (b := w.heap.size) (cs := insC ⟨9, (12 : Nat), (rd : Nat), (rs1 : Nat), (rs2 : Nat), 0#64, 0, false, W, false, 0⟩) (v := .bool false) rfl rfl rfl (by simp [rowI_alloc, rowI_setCell, rowI_setRow]; rfl) rfl rfl (insB_eq (insB_no ⟨9, (12 : Nat), (rd : Nat), (rs1 : Nat), (rs2 : Nat), 0#64, 0, false, W, false, 0⟩ rfl (by repeat (first | with_reducible exact Below.refl _ _ | refine below_row ?_ _ (by simp) _ | refine below_setCell ?_ _ _ _ (by simp) | refine Below.alloc ?_ (by simp) _))) hr.out)
    have q0 : (g7 == 0) = false := by have := e7.out; simp; omega
    have q1 : (g7 == 1) = false := by have := e7.out; simp; omega
    have q2 : (g7 == 32) = false := by have := e7.out; simp; omega
    have hr := Lib.hid (show noI = regN W 4 f7 rd rs1 rs2 from by unfold regN; rw [if_neg (by omega), if_neg (by omega), if_neg (by omega), if_neg (by omega)])
    clear h0 h1 h2 e7
    go_enter Try.func89, Try.ntmps89
    go_wp2_with fail
    refine ret_insb (b := w.heap.size) (cs := insC ⟨9, (4 : Nat), (rd : Nat), (rs1 : Nat), (rs2 : Nat), 0#64, 0, false, W, false, 0⟩) (v := .bool false) rfl rfl rfl (by simp [rowI_alloc, rowI_setCell, rowI_setRow]; rfl) rfl rfl (insB_eq (insB_no ⟨9, (4 : Nat), (rd : Nat), (rs1 : Nat), (rs2 : Nat), 0#64, 0, false, W, false, 0⟩ rfl (by repeat (first | with_reducible exact Below.refl _ _ | refine below_row ?_ _ (by simp) _ | refine below_setCell ?_ _ _ _ (by simp) | refine Below.alloc ?_ (by simp) _))) hr.out)
  · by_cases h0 : f7 = 0
    · subst h0
      have e := e7.out
      simp at e
      subst e
      clear e7
      cases W
      · have hr := Lib.hid (show ⟨9, (5 : Nat), (rd : Nat), (rs1 : Nat), (rs2 : Nat), 0#64, 0, false, false, false, 0⟩ = regN false 5 0 rd rs1 rs2 from rfl)
        go_enter Try.func89, Try.ntmps89
        go_wp2_with fail
        refine ret_insb (b := w.heap.size) (cs := insC ⟨9, (5 : Nat), (rd : Nat), (rs1 : Nat), (rs2 : Nat), 0#64, 0, false, false, false, 0⟩) (v := .bool true) rfl rfl rfl (by simp [rowI_alloc, rowI_setCell, rowI_setRow]; rfl) rfl rfl (insB_eq (insB_yes rfl (by repeat (first | with_reducible exact Below.refl _ _ | refine below_row ?_ _ (by simp) _ | refine below_setCell ?_ _ _ _ (by simp) | refine Below.alloc ?_ (by simp) _))) hr.out)
      · have hr := Lib.hid (show ⟨9, (5 : Nat), (rd : Nat), (rs1 : Nat), (rs2 : Nat), 0#64, 0, false, true, false, 0⟩ = regN true 5 0 rd rs1 rs2 from rfl)
        go_enter Try.func89, Try.ntmps89
        go_wp2_with fail
        refine ret_insb (b := w.heap.size) (cs := insC ⟨9, (5 : Nat), (rd : Nat), (rs1 : Nat), (rs2 : Nat), 0#64, 0, false, true, false, 0⟩) (v := .bool true) rfl rfl rfl (by simp [rowI_alloc, rowI_setCell, rowI_setRow]; rfl) rfl rfl (insB_eq (insB_yes rfl (by repeat (first | with_reducible exact Below.refl _ _ | refine below_row ?_ _ (by simp) _ | refine below_setCell ?_ _ _ _ (by simp) | refine Below.alloc ?_ (by simp) _))) hr.out)
    by_cases h1 : f7 = 1
    · subst h1
      have e := e7.out
      simp at e
      subst e
      clear e7
      clear h0
      cases W
      · have hr := Lib.hid (show ⟨10, (5 : Nat), (rd : Nat), (rs1 : Nat), (rs2 : Nat), 0#64, 0, false, false, false, 0⟩ = regN false 5 1 rd rs1 rs2 from rfl)
        go_enter Try.func89, Try.ntmps89
        go_wp2_with fail
        refine ret_insb (b := w.heap.size) (cs := insC ⟨10, (5 : Nat), (rd : Nat), (rs1 : Nat), (rs2 : Nat), 0#64, 0, false, false, false, 0⟩) (v := .bool true) rfl rfl rfl (by simp [rowI_alloc, rowI_setCell, rowI_setRow]; rfl) rfl rfl (insB_eq (insB_yes rfl (by repeat (first | with_reducible exact Below.refl _ _ | refine below_row ?_ _ (by simp) _ | refine below_setCell ?_ _ _ _ (by simp) | refine Below.alloc ?_ (by simp) _))) hr.out)
      · have hr := Lib.hid (show ⟨10, (5 : Nat), (rd : Nat), (rs1 : Nat), (rs2 : Nat), 0#64, 0, false, true, false, 0⟩ = regN true 5 1 rd rs1 rs2 from rfl)
        go_enter Try.func89, Try.ntmps89
        go_wp2_with fail
        refine ret_insb (b := w.heap.size) (cs := insC ⟨10, (5 : Nat), (rd : Nat), (rs1 : Nat), (rs2 : Nat), 0#64, 0, false, true, false, 0⟩) (v := .bool true) rfl rfl rfl (by simp [rowI_alloc, rowI_setCell, rowI_setRow]; rfl) rfl rfl (insB_eq (insB_yes rfl (by repeat (first | with_reducible exact Below.refl _ _ | refine below_row ?_ _ (by simp) _ | refine below_setCell ?_ _ _ _ (by simp) | refine Below.alloc ?_ (by simp) _))) hr.out)
    by_cases h2 : f7 = 32
    · subst h2
      have e := e7.out
      simp at e
      subst e
      clear e7
      clear h0 h1
      have hr := Lib.hid (show ⟨9, (13 : Nat), (rd : Nat), (rs1 : Nat), (rs2 : Nat), 0#64, 0, false, W, false, 0⟩ = regN W 5 32 rd rs1 rs2 from rfl)
      go_enter Try.func89, Try.ntmps89
      go_wp2_with fail
      refine ret_insb (b := w.heap.size) (cs := insC ⟨9, (13 : Nat), (rd : Nat), (rs1 : Nat), (rs2 : Nat), 0#64, 0, false, W, false, 0⟩) (v := .bool true) rfl rfl rfl (by simp [rowI_alloc, rowI_setCell, rowI_setRow]; rfl) rfl rfl (insB_eq (insB_yes rfl (by repeat (first | with_reducible exact Below.refl _ _ | refine below_row ?_ _ (by simp) _ | refine below_setCell ?_ _ _ _ (by simp) | refine Below.alloc ?_ (by simp) _))) hr.out)
    have q0 : (g7 == 0) = false := by have := e7.out; simp; omega
    have q1 : (g7 == 1) = false := by have := e7.out; simp; omega
    have q2 : (g7 == 32) = false := by have := e7.out; simp; omega
    have hr := Lib.hid (show noI = regN W 5 f7 rd rs1 rs2 from by unfold regN; rw [if_neg (by omega), if_neg (by omega), if_neg (by omega), if_neg (by omega)])
    clear h0 h1 h2 e7
    go_enter Try.func89, Try.ntmps89
    go_wp2_with fail
    refine ret_insb (b := w.heap.size) (cs := insC ⟨9, (5 : Nat), (rd : Nat), (rs1 : Nat), (rs2 : Nat), 0#64, 0, false, W, false, 0⟩) (v := .bool false) rfl rfl rfl (by simp [rowI_alloc, rowI_setCell, rowI_setRow]; rfl) rfl rfl (insB_eq (insB_no ⟨9, (5 : Nat), (rd : Nat), (rs1 : Nat), (rs2 : Nat), 0#64, 0, false, W, false, 0⟩ rfl (by repeat (first | with_reducible exact Below.refl _ _ | refine below_row ?_ _ (by simp) _ | refine below_setCell ?_ _ _ _ (by simp) | refine Below.alloc ?_ (by simp) _))) hr.out)
  · by_cases h0 : f7 = 0
    · subst h0
      have e := e7.out
      simp at e
      subst e
      clear e7
      cases W
      · have hr := Lib.hid (show ⟨9, (6 : Nat), (rd : Nat), (rs1 : Nat), (rs2 : Nat), 0#64, 0, false, false, false, 0⟩ = regN false 6 0 rd rs1 rs2 from rfl)
        go_enter Try.func89, Try.ntmps89
        go_wp2_with fail
        refine ret_insb (b := w.heap.size) (cs := insC ⟨9, (6 : Nat), (rd : Nat), (rs1 : Nat), (rs2 : Nat), 0#64, 0, false, false, false, 0⟩) (v := .bool true) rfl rfl rfl (by simp [rowI_alloc, rowI_setCell, rowI_setRow]; rfl) rfl rfl (insB_eq (insB_yes rfl (by repeat (first | with_reducible exact Below.refl _ _ | refine below_row ?_ _ (by simp) _ | refine below_setCell ?_ _ _ _ (by simp) | refine Below.alloc ?_ (by simp) _))) hr.out)
      · have hr := Lib.hid (show noI = regN true 6 0 rd rs1 rs2 from rfl)
        go_enter Try.func89, Try.ntmps89
        go_wp2_with fail
        refine ret_insb (b := w.heap.size) (cs := insC ⟨9, (6 : Nat), (rd : Nat), (rs1 : Nat), (rs2 : Nat), 0#64, 0, false, true, false, 0⟩) (v := .bool false) rfl rfl rfl (by simp [rowI_alloc, rowI_setCell, rowI_setRow]; rfl) rfl rfl (insB_eq (insB_no ⟨9, (6 : Nat), (rd : Nat), (rs1 : Nat), (rs2 : Nat), 0#64, 0, false, true, false, 0⟩ rfl (by repeat (first | with_reducible exact Below.refl _ _ | refine below_row ?_ _ (by simp) _ | refine below_setCell ?_ _ _ _ (by simp) | refine Below.alloc ?_ (by simp) _))) hr.out)
    by_cases h1 : f7 = 1
    · subst h1
      have e := e7.out
      simp at e
      subst e
      clear e7
      clear h0
      cases W
      · have hr := Lib.hid (show ⟨10, (6 : Nat), (rd : Nat), (rs1 : Nat), (rs2 : Nat), 0#64, 0, false, false, false, 0⟩ = regN false 6 1 rd rs1 rs2 from rfl)
        go_enter Try.func89, Try.ntmps89
        go_wp2_with fail
        refine ret_insb (b := w.heap.size) (cs := insC ⟨10, (6 : Nat), (rd : Nat), (rs1 : Nat), (rs2 : Nat), 0#64, 0, false, false, false, 0⟩) (v := .bool true) rfl rfl rfl (by simp [rowI_alloc, rowI_setCell, rowI_setRow]; rfl) rfl rfl (insB_eq (insB_yes rfl (by repeat (first | with_reducible exact Below.refl _ _ | refine below_row ?_ _ (by simp) _ | refine below_setCell ?_ _ _ _ (by simp) | refine Below.alloc ?_ (by simp) _))) hr.out)
      · have hr := Lib.hid (show ⟨10, (6 : Nat), (rd : Nat), (rs1 : Nat), (rs2 : Nat), 0#64, 0, false, true, false, 0⟩ = regN true 6 1 rd rs1 rs2 from rfl)
        go_enter Try.func89, Try.ntmps89
        go_wp2_with fail
        refine ret_insb (b := w.heap.size) (cs := insC ⟨10, (6 : Nat), (rd : Nat), (rs1 : Nat), (rs2 : Nat), 0#64, 0, false, true, false, 0⟩) (v := .bool true) rfl rfl rfl (by simp [rowI_alloc, rowI_setCell, rowI_setRow]; rfl) rfl rfl (insB_eq (insB_yes rfl (by repeat (first | with_reducible exact Below.refl _ _ | refine below_row ?_ _ (by simp) _ | refine below_setCell ?_ _ _ _ (by simp) | refine Below.alloc ?_ (by simp) _))) hr.out)
    by_cases h2 : f7 = 32
    · subst h2
      have e := e7.out
      simp at e
      subst e
      clear e7
      clear h0 h1
      have hr := Lib.hid (show noI = regN W 6 32 rd rs1 rs2 from rfl)
      go_enter Try.func89, Try.ntmps89
      go_wp2_with fail
      refine ret_insb (b := w.heap.size) (cs := insC ⟨9, (14 : Nat), (rd : Nat), (rs1 : Nat), (rs2 : Nat), 0#64, 0, false, W, false, 0⟩) (v := .bool false) rfl rfl rfl (by simp [rowI_alloc, rowI_setCell, rowI_setRow]; rfl) rfl rfl (insB_eq (insB_no ⟨9, (14 : Nat), (rd : Nat), (rs1 : Nat), (rs2 : Nat), 0#64, 0, false, W, false, 0⟩ rfl (by repeat (first | with_reducible exact Below.refl _ _ | refine below_row ?_ _ (by simp) _ | refine below_setCell ?_ _ _ _ (by simp) | refine Below.alloc ?_ (by simp) _))) hr.out)
    have q0 : (g7 == 0) = false := by have := e7.out; simp; omega
    have q1 : (g7 == 1) = false := by have := e7.out; simp; omega
    have q2 : (g7 == 32) = false := by have := e7.out; simp; omega
    have hr := Lib.hid (show noI = regN W 6 f7 rd rs1 rs2 from by unfold regN; rw [if_neg (by omega), if_neg (by omega), if_neg (by omega), if_neg (by omega)])
    clear h0 h1 h2 e7
    go_enter Try.func89, Try.ntmps89
    go_wp2_with fail
    refine ret_insb (b := w.heap.size) (cs := insC ⟨9, (6 : Nat), (rd : Nat), (rs1 : Nat), (rs2 : Nat), 0#64, 0, false, W, false, 0⟩) (v := .bool false) rfl rfl rfl (by simp [rowI_alloc, rowI_setCell, rowI_setRow]; rfl) rfl rfl (insB_eq (insB_no ⟨9, (6 : Nat), (rd : Nat), (rs1 : Nat), (rs2 : Nat), 0#64, 0, false, W, false, 0⟩ rfl (by repeat (first | with_reducible exact Below.refl _ _ | refine below_row ?_ _ (by simp) _ | refine below_setCell ?_ _ _ _ (by simp) | refine Below.alloc ?_ (by simp) _))) hr.out)
  · by_cases h0 : f7 = 0
    · subst h0
      have e := e7.out
      simp at e
      subst e
      clear e7
      cases W
      · have hr := Lib.hid (show ⟨9, (7 : Nat), (rd : Nat), (rs1 : Nat), (rs2 : Nat), 0#64, 0, false, false, false, 0⟩ = regN false 7 0 rd rs1 rs2 from rfl)
        go_enter Try.func89, Try.ntmps89
        go_wp2_with fail
        refine ret_insb (b := w.heap.size) (cs := insC ⟨9, (7 : Nat), (rd : Nat), (rs1 : Nat), (rs2 : Nat), 0#64, 0, false, false, false, 0⟩) (v := .bool true) rfl rfl rfl (by simp [rowI_alloc, rowI_setCell, rowI_setRow]; rfl) rfl rfl (insB_eq (insB_yes rfl (by repeat (first | with_reducible exact Below.refl _ _ | refine below_row ?_ _ (by simp) _ | refine below_setCell ?_ _ _ _ (by simp) | refine Below.alloc ?_ (by simp) _))) hr.out)
      · have hr := Lib.hid (show noI = regN true 7 0 rd rs1 rs2 from rfl)
        go_enter Try.func89, Try.ntmps89
        go_wp2_with fail
        refine ret_insb (b := w.heap.size) (cs := insC ⟨9, (7 : Nat), (rd : Nat), (rs1 : Nat), (rs2 : Nat), 0#64, 0, false, true, false, 0⟩) (v := .bool false) rfl rfl rfl (by simp [rowI_alloc, rowI_setCell, rowI_setRow]; rfl) rfl rfl (insB_eq (insB_no ⟨9, (7 : Nat), (rd : Nat), (rs1 : Nat), (rs2 : Nat), 0#64, 0, false, true, false, 0⟩ rfl (by repeat (first | with_reducible exact Below.refl _ _ | refine below_row ?_ _ (by simp) _ | refine below_setCell ?_ _ _ _ (by simp) | refine Below.alloc ?_ (by simp) _))) hr.out)
    by_cases h1 : f7 = 1
    · subst h1
      have e := e7.out
      simp at e
      subst e
      clear e7
      clear h0
      cases W
      · have hr := Lib.hid (show ⟨10, (7 : Nat), (rd : Nat), (rs1 : Nat), (rs2 : Nat), 0#64, 0, false, false, false, 0⟩ = regN false 7 1 rd rs1 rs2 from rfl)
        go_enter Try.func89, Try.ntmps89
        go_wp2_with fail
        refine ret_insb (b := w.heap.size) (cs := insC ⟨10, (7 : Nat), (rd : Nat), (rs1 : Nat), (rs2 : Nat), 0#64, 0, false, false, false, 0⟩) (v := .bool true) rfl rfl rfl (by simp [rowI_alloc, rowI_setCell, rowI_setRow]; rfl) rfl rfl (insB_eq (insB_yes rfl (by repeat (first | with_reducible exact Below.refl _ _ | refine below_row ?_ _ (by simp) _ | refine below_setCell ?_ _ _ _ (by simp) | refine Below.alloc ?_ (by simp) _))) hr.out)
      · have hr := Lib.hid (show ⟨10, (7 : Nat), (rd : Nat), (rs1 : Nat), (rs2 : Nat), 0#64, 0, false, true, false, 0⟩ = regN true 7 1 rd rs1 rs2 from rfl)
        go_enter Try.func89, Try.ntmps89
        go_wp2_with fail
        refine ret_insb (b := w.heap.size) (cs := insC ⟨10, (7 : Nat), (rd : Nat), (rs1 : Nat), (rs2 : Nat), 0#64, 0, false, true, false, 0⟩) (v := .bool true) rfl rfl rfl (by simp [rowI_alloc, rowI_setCell, rowI_setRow]; rfl) rfl rfl (insB_eq (insB_yes rfl (by repeat (first | with_reducible exact Below.refl _ _ | refine below_row ?_ _ (by simp) _ | refine below_setCell ?_ _ _ _ (by simp) | refine Below.alloc ?_ (by simp) _))) hr.out)
    by_cases h2 : f7 = 32
    · subst h2
      have e := e7.out
      simp at e
      subst e
      clear e7
      clear h0 h1
      have hr := Lib.hid (show noI = regN W 7 32 rd rs1 rs2 from rfl)
      go_enter Try.func89, Try.ntmps89
      go_wp2_with fail
      refine ret_insb (b := w.heap.size) (cs := insC ⟨9, (15 : Nat), (rd : Nat), (rs1 : Nat), (rs2 : Nat), 0#64, 0, false, W, false, 0⟩) (v := .bool false) rfl rfl rfl (by simp [rowI_alloc, rowI_setCell, rowI_setRow]; rfl) rfl rfl (insB_eq (insB_no ⟨9, (15 : Nat), (rd : Nat), (rs1 : Nat), (rs2 : Nat), 0#64, 0, false, W, false, 0⟩ rfl (by repeat (first | with_reducible exact Below.refl _ _ | refine below_row ?_ _ (by simp) _ | refine below_setCell ?_ _ _ _ (by simp) | refine Below.alloc ?_ (by simp) _))) hr.out)
    have q0 : (g7 == 0) = false := by have := e7.out; simp; omega
    have q1 : (g7 == 1) = false := by have := e7.out; simp; omega
    have q2 : (g7 == 32) = false := by have := e7.out; simp; omega
    have hr := Lib.hid (show noI = regN W 7 f7 rd rs1 rs2 from by unfold regN; rw [if_neg (by omega), if_neg (by omega), if_neg (by omega), if_neg (by omega)])
    clear h0 h1 h2 e7
    go_enter Try.func89, Try.ntmps89
    go_wp2_with fail
    refine ret_insb (b := w.heap.size) (cs := insC ⟨9, (7 : Nat), (rd : Nat), (rs1 : Nat), (rs2 : Nat), 0#64, 0, false, W, false, 0⟩) (v := .bool false) rfl rfl rfl (by simp [rowI_alloc, rowI_setCell, rowI_setRow]; rfl) rfl rfl (insB_eq (insB_no ⟨9, (7 : Nat), (rd : Nat), (rs1 : Nat), (rs2 : Nat), 0#64, 0, false, W, false, 0⟩ rfl (by repeat (first | with_reducible exact Below.refl _ _ | refine below_row ?_ _ (by simp) _ | refine below_setCell ?_ _ _ _ (by simp) | refine Below.alloc ?_ (by simp) _))) hr.out)
end Go.Proofs.Ytnhbekgmameeaaa
