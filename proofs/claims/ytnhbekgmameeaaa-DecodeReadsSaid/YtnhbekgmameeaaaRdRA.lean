/- Contracts, by operations: RdReg, RdAmo. -/
import Derived.Test.YtnhbekgmameeaaaIns4
import Derived.Test.YtnhbekgmameeaaaShapeRef
import Derived.Test.YtnhbekgmameeaaaShapeSame
import Derived.Test.YtnhbekgmameeaaaDecBackPlain
import Derived.Test.YtnhbekgmameeaaaAndL
namespace Go.Proofs.Ytnhbekgmameeaaa
section
open Go.RowKit Wd
set_option linter.unusedVariables false
set_option linter.unusedSimpArgs false
attribute [local go_sem] loadI_lit loadI_ins storeI_lit rowI_alloc rowI_drew rowI_drewN rowI_setRow rowI_setCell setRow_allocJ and_L
attribute [local go_sem ↓] loadI_run storeK_eq
attribute [local go_sem] storeK_run storeK_one storeF_int
set_option maxRecDepth 8000
set_option maxHeartbeats 40000000 in
theorem rreg_at (W : Bool) (f3 f7 rd rs1 rs2 : Nat) (g3 g7 : Int) (e3 : Hid (g3 = (f3 : Int))) (e7 : Hid (g7 = (f7 : Int))) (h3 : f3 < 8) (w : World) :
    Calls Try.prog 89 #[.int .i64 g3, .int .i64 g7, .bool W, .int .i64 (rd : Nat), .int .i64 (rs1 : Nat), .int .i64 (rs2 : Nat)] w (InsB (regN W f3 f7 rd rs1 rs2) w) := by
  have hf : f3 = 0 ∨ f3 = 1 ∨ f3 = 2 ∨ f3 = 3 ∨ f3 = 4 ∨ f3 = 5 ∨ f3 = 6 ∨ f3 = 7 := by omega
  clear h3
  rcases hf with rfl | rfl | rfl | rfl | rfl | rfl | rfl | rfl
  all_goals
    have e := e3.out
    simp at e
    subst e
    clear e3
  · by_cases h0 : f7 = 0
    · subst h0
      have e := e7.out
      simp at e
      subst e
      clear e7
      cases W
      · have hr := Lib.hid (show ⟨9, (0 : Nat), (rd : Nat), (rs1 : Nat), (rs2 : Nat), 0#64, 0, false, false, false, 0⟩ = regN false 0 0 rd rs1 rs2 from rfl)
        go_enter Try.func89, Try.ntmps89
        go_wp2_with fail
        refine ret_insb (b := w.heap.size) (cs := insC ⟨9, (0 : Nat), (rd : Nat), (rs1 : Nat), (rs2 : Nat), 0#64, 0, false, false, false, 0⟩) (v := .bool true) rfl rfl rfl (by simp [rowI_alloc, rowI_setCell, rowI_setRow]; rfl) rfl rfl (insB_eq (insB_yes rfl (by repeat (first | with_reducible exact Below.refl _ _ | refine below_row ?_ _ (by simp) _ | refine below_setCell ?_ _ _ _ (by simp) | refine Below.alloc ?_ (by simp) _))) hr.out)
      · have hr := Lib.hid (show ⟨9, (0 : Nat), (rd : Nat), (rs1 : Nat), (rs2 : Nat), 0#64, 0, false, true, false, 0⟩ = regN true 0 0 rd rs1 rs2 from rfl)
        go_enter Try.func89, Try.ntmps89
        go_wp2_with fail
        refine ret_insb (b := w.heap.size) (cs := insC ⟨9, (0 : Nat), (rd : Nat), (rs1 : Nat), (rs2 : Nat), 0#64, 0, false, true, false, 0⟩) (v := .bool true) rfl rfl rfl (by simp [rowI_alloc, rowI_setCell, rowI_setRow]; rfl) rfl rfl (insB_eq (insB_yes rfl (by repeat (first | with_reducible exact Below.refl _ _ | refine below_row ?_ _ (by simp) _ | refine below_setCell ?_ _ _ _ (by simp) | refine Below.alloc ?_ (by simp) _))) hr.out)
    by_cases h1 : f7 = 1
    · subst h1
      have e := e7.out
      simp at e
      subst e
      clear e7
      clear h0
      cases W
      · have hr := Lib.hid (show ⟨10, (0 : Nat), (rd : Nat), (rs1 : Nat), (rs2 : Nat), 0#64, 0, false, false, false, 0⟩ = regN false 0 1 rd rs1 rs2 from rfl)
        go_enter Try.func89, Try.ntmps89
        go_wp2_with fail
        refine ret_insb (b := w.heap.size) (cs := insC ⟨10, (0 : Nat), (rd : Nat), (rs1 : Nat), (rs2 : Nat), 0#64, 0, false, false, false, 0⟩) (v := .bool true) rfl rfl rfl (by simp [rowI_alloc, rowI_setCell, rowI_setRow]; rfl) rfl rfl (insB_eq (insB_yes rfl (by repeat (first | with_reducible exact Below.refl _ _ | refine below_row ?_ _ (by simp) _ | refine below_setCell ?_ _ _ _ (by simp) | refine Below.alloc ?_ (by simp) _))) hr.out)
      · have hr := Lib.hid (show ⟨10, (0 : Nat), (rd : Nat), (rs1 : Nat), (rs2 : Nat), 0#64, 0, false, true, false, 0⟩ = regN true 0 1 rd rs1 rs2 from rfl)
        go_enter Try.func89, Try.ntmps89
        go_wp2_with fail
        refine ret_insb (b := w.heap.size) (cs := insC ⟨10, (0 : Nat), (rd : Nat), (rs1 : Nat), (rs2 : Nat), 0#64, 0, false, true, false, 0⟩) (v := .bool true) rfl rfl rfl (by simp [rowI_alloc, rowI_setCell, rowI_setRow]; rfl) rfl rfl (insB_eq (insB_yes rfl (by repeat (first | with_reducible exact Below.refl _ _ | refine below_row ?_ _ (by simp) _ | refine below_setCell ?_ _ _ _ (by simp) | refine Below.alloc ?_ (by simp) _))) hr.out)
    by_cases h2 : f7 = 32
    · subst h2
      have e := e7.out
      simp at e
      subst e
      clear e7
      clear h0 h1
      have hr := Lib.hid (show ⟨9, (8 : Nat), (rd : Nat), (rs1 : Nat), (rs2 : Nat), 0#64, 0, false, W, false, 0⟩ = regN W 0 32 rd rs1 rs2 from rfl)
      go_enter Try.func89, Try.ntmps89
      go_wp2_with fail
      refine ret_insb (b := w.heap.size) (cs := insC ⟨9, (8 : Nat), (rd : Nat), (rs1 : Nat), (rs2 : Nat), 0#64, 0, false, W, false, 0⟩) (v := .bool true) rfl rfl rfl (by simp [rowI_alloc, rowI_setCell, rowI_setRow]; rfl) rfl rfl (insB_eq (insB_yes rfl (by repeat (first | with_reducible exact Below.refl _ _ | refine below_row ?_ _ (by simp) _ | refine below_setCell ?_ _ _ _ (by simp) | refine Below.alloc ?_ (by simp) _))) hr.out)
    have q0 : (g7 == 0) = false := by have := e7.out; simp; omega
    have q1 : (g7 == 1) = false := by have := e7.out; simp; omega
    have q2 : (g7 == 32) = false := by have := e7.out; simp; omega
    have hr := Lib.hid (show noI = regN W 0 f7 rd rs1 rs2 from by unfold regN; rw [if_neg (by omega), if_neg (by omega), if_neg (by omega), if_neg (by omega)])
    clear h0 h1 h2 e7
    go_enter Try.func89, Try.ntmps89
    go_wp2_with fail
    refine ret_insb (b := w.heap.size) (cs := insC ⟨9, (0 : Nat), (rd : Nat), (rs1 : Nat), (rs2 : Nat), 0#64, 0, false, W, false, 0⟩) (v := .bool false) rfl rfl rfl (by simp [rowI_alloc, rowI_setCell, rowI_setRow]; rfl) rfl rfl (insB_eq (insB_no ⟨9, (0 : Nat), (rd : Nat), (rs1 : Nat), (rs2 : Nat), 0#64, 0, false, W, false, 0⟩ rfl (by repeat (first | with_reducible exact Below.refl _ _ | refine below_row ?_ _ (by simp) _ | refine below_setCell ?_ _ _ _ (by simp) | refine Below.alloc ?_ (by simp) _))) hr.out)
  · by_cases h0 : f7 = 0
    · subst h0
      have e := e7.out
      simp at e
      subst e
      clear e7
      cases W
      · have hr := Lib.hid (show ⟨9, (1 : Nat), (rd : Nat), (rs1 : Nat), (rs2 : Nat), 0#64, 0, false, false, false, 0⟩ = regN false 1 0 rd rs1 rs2 from rfl)
        go_enter Try.func89, Try.ntmps89
        go_wp2_with fail
        refine ret_insb (b := w.heap.size) (cs := insC ⟨9, (1 : Nat), (rd : Nat), (rs1 : Nat), (rs2 : Nat), 0#64, 0, false, false, false, 0⟩) (v := .bool true) rfl rfl rfl (by simp [rowI_alloc, rowI_setCell, rowI_setRow]; rfl) rfl rfl (insB_eq (insB_yes rfl (by repeat (first | with_reducible exact Below.refl _ _ | refine below_row ?_ _ (by simp) _ | refine below_setCell ?_ _ _ _ (by simp) | refine Below.alloc ?_ (by simp) _))) hr.out)
      · have hr := Lib.hid (show ⟨9, (1 : Nat), (rd : Nat), (rs1 : Nat), (rs2 : Nat), 0#64, 0, false, true, false, 0⟩ = regN true 1 0 rd rs1 rs2 from rfl)
        go_enter Try.func89, Try.ntmps89
        go_wp2_with fail
        refine ret_insb (b := w.heap.size) (cs := insC ⟨9, (1 : Nat), (rd : Nat), (rs1 : Nat), (rs2 : Nat), 0#64, 0, false, true, false, 0⟩) (v := .bool true) rfl rfl rfl (by simp [rowI_alloc, rowI_setCell, rowI_setRow]; rfl) rfl rfl (insB_eq (insB_yes rfl (by repeat (first | with_reducible exact Below.refl _ _ | refine below_row ?_ _ (by simp) _ | refine below_setCell ?_ _ _ _ (by simp) | refine Below.alloc ?_ (by simp) _))) hr.out)
    by_cases h1 : f7 = 1
    · subst h1
      have e := e7.out
      simp at e
      subst e
      clear e7
      clear h0
      cases W
      · have hr := Lib.hid (show ⟨10, (1 : Nat), (rd : Nat), (rs1 : Nat), (rs2 : Nat), 0#64, 0, false, false, false, 0⟩ = regN false 1 1 rd rs1 rs2 from rfl)
        go_enter Try.func89, Try.ntmps89
        go_wp2_with fail
        refine ret_insb (b := w.heap.size) (cs := insC ⟨10, (1 : Nat), (rd : Nat), (rs1 : Nat), (rs2 : Nat), 0#64, 0, false, false, false, 0⟩) (v := .bool true) rfl rfl rfl (by simp [rowI_alloc, rowI_setCell, rowI_setRow]; rfl) rfl rfl (insB_eq (insB_yes rfl (by repeat (first | with_reducible exact Below.refl _ _ | refine below_row ?_ _ (by simp) _ | refine below_setCell ?_ _ _ _ (by simp) | refine Below.alloc ?_ (by simp) _))) hr.out)
      · have hr := Lib.hid (show noI = regN true 1 1 rd rs1 rs2 from rfl)
        go_enter Try.func89, Try.ntmps89
        go_wp2_with fail
        refine ret_insb (b := w.heap.size) (cs := insC ⟨10, (1 : Nat), (rd : Nat), (rs1 : Nat), (rs2 : Nat), 0#64, 0, false, true, false, 0⟩) (v := .bool false) rfl rfl rfl (by simp [rowI_alloc, rowI_setCell, rowI_setRow]; rfl) rfl rfl (insB_eq (insB_no ⟨10, (1 : Nat), (rd : Nat), (rs1 : Nat), (rs2 : Nat), 0#64, 0, false, true, false, 0⟩ rfl (by repeat (first | with_reducible exact Below.refl _ _ | refine below_row ?_ _ (by simp) _ | refine below_setCell ?_ _ _ _ (by simp) | refine Below.alloc ?_ (by simp) _))) hr.out)
    by_cases h2 : f7 = 32
    · subst h2
      have e := e7.out
      simp at e
      subst e
      clear e7
      clear h0 h1
      have hr := Lib.hid (show noI = regN W 1 32 rd rs1 rs2 from rfl)
      go_enter Try.func89, Try.ntmps89
      go_wp2_with fail
      refine ret_insb (b := w.heap.size) (cs := insC ⟨9, (9 : Nat), (rd : Nat), (rs1 : Nat), (rs2 : Nat), 0#64, 0, false, W, false, 0⟩) (v := .bool false) rfl rfl rfl (by simp [rowI_alloc, rowI_setCell, rowI_setRow]; rfl) rfl rfl (insB_eq (insB_no ⟨9, (9 : Nat), (rd : Nat), (rs1 : Nat), (rs2 : Nat), 0#64, 0, false, W, false, 0⟩ rfl (by repeat (first | with_reducible exact Below.refl _ _ | refine below_row ?_ _ (by simp) _ | refine below_setCell ?_ _ _ _ (by simp) | refine Below.alloc ?_ (by simp) _))) hr.out)
    have q0 : (g7 == 0) = false := by have := e7.out; simp; omega
    have q1 : (g7 == 1) = false := by have := e7.out; simp; omega
    have q2 : (g7 == 32) = false := by have := e7.out; simp; omega
    have hr := Lib.hid (show noI = regN W 1 f7 rd rs1 rs2 from by unfold regN; rw [if_neg (by omega), if_neg (by omega), if_neg (by omega), if_neg (by omega)])
    clear h0 h1 h2 e7
    go_enter Try.func89, Try.ntmps89
    go_wp2_with fail
    refine ret_insb (b := w.heap.size) (cs := insC ⟨9, (1 : Nat), (rd : Nat), (rs1 : Nat), (rs2 : Nat), 0#64, 0, false, W, false, 0⟩) (v := .bool false) rfl rfl rfl (by simp [rowI_alloc, rowI_setCell, rowI_setRow]; rfl) rfl rfl (insB_eq (insB_no ⟨9, (1 : Nat), (rd : Nat), (rs1 : Nat), (rs2 : Nat), 0#64, 0, false, W, false, 0⟩ rfl (by repeat (first | with_reducible exact Below.refl _ _ | refine below_row ?_ _ (by simp) _ | refine below_setCell ?_ _ _ _ (by simp) | refine Below.alloc ?_ (by simp) _))) hr.out)
  · by_cases h0 : f7 = 0
    · subst h0
      have e := e7.out
      simp at e
      subst e
      clear e7
      cases W
      · have hr := Lib.hid (show ⟨9, (2 : Nat), (rd : Nat), (rs1 : Nat), (rs2 : Nat), 0#64, 0, false, false, false, 0⟩ = regN false 2 0 rd rs1 rs2 from rfl)
        go_enter Try.func89, Try.ntmps89
        go_wp2_with fail
        refine ret_insb (b := w.heap.size) (cs := insC ⟨9, (2 : Nat), (rd : Nat), (rs1 : Nat), (rs2 : Nat), 0#64, 0, false, false, false, 0⟩) (v := .bool true) rfl rfl rfl (by simp [rowI_alloc, rowI_setCell, rowI_setRow]; rfl) rfl rfl (insB_eq (insB_yes rfl (by repeat (first | with_reducible exact Below.refl _ _ | refine below_row ?_ _ (by simp) _ | refine below_setCell ?_ _ _ _ (by simp) | refine Below.alloc ?_ (by simp) _))) hr.out)
      · have hr := Lib.hid (show noI = regN true 2 0 rd rs1 rs2 from rfl)
        go_enter Try.func89, Try.ntmps89
        go_wp2_with fail
        refine ret_insb (b := w.heap.size) (cs := insC ⟨9, (2 : Nat), (rd : Nat), (rs1 : Nat), (rs2 : Nat), 0#64, 0, false, true, false, 0⟩) (v := .bool false) rfl rfl rfl (by simp [rowI_alloc, rowI_setCell, rowI_setRow]; rfl) rfl rfl (insB_eq (insB_no ⟨9, (2 : Nat), (rd : Nat), (rs1 : Nat), (rs2 : Nat), 0#64, 0, false, true, false, 0⟩ rfl (by repeat (first | with_reducible exact Below.refl _ _ | refine below_row ?_ _ (by simp) _ | refine below_setCell ?_ _ _ _ (by simp) | refine Below.alloc ?_ (by simp) _))) hr.out)
    by_cases h1 : f7 = 1
    · subst h1
      have e := e7.out
      simp at e
      subst e
      clear e7
      clear h0
      cases W
      · have hr := Lib.hid (show ⟨10, (2 : Nat), (rd : Nat), (rs1 : Nat), (rs2 : Nat), 0#64, 0, false, false, false, 0⟩ = regN false 2 1 rd rs1 rs2 from rfl)
        go_enter Try.func89, Try.ntmps89
        go_wp2_with fail
        refine ret_insb (b := w.heap.size) (cs := insC ⟨10, (2 : Nat), (rd : Nat), (rs1 : Nat), (rs2 : Nat), 0#64, 0, false, false, false, 0⟩) (v := .bool true) rfl rfl rfl (by simp [rowI_alloc, rowI_setCell, rowI_setRow]; rfl) rfl rfl (insB_eq (insB_yes rfl (by repeat (first | with_reducible exact Below.refl _ _ | refine below_row ?_ _ (by simp) _ | refine below_setCell ?_ _ _ _ (by simp) | refine Below.alloc ?_ (by simp) _))) hr.out)
      · have hr := Lib.hid (show noI = regN true 2 1 rd rs1 rs2 from rfl)
        go_enter Try.func89, Try.ntmps89
        go_wp2_with fail
        refine ret_insb (b := w.heap.size) (cs := insC ⟨10, (2 : Nat), (rd : Nat), (rs1 : Nat), (rs2 : Nat), 0#64, 0, false, true, false, 0⟩) (v := .bool false) rfl rfl rfl (by simp [rowI_alloc, rowI_setCell, rowI_setRow]; rfl) rfl rfl (insB_eq (insB_no ⟨10, (2 : Nat), (rd : Nat), (rs1 : Nat), (rs2 : Nat), 0#64, 0, false, true, false, 0⟩ rfl (by repeat (first | with_reducible exact Below.refl _ _ | refine below_row ?_ _ (by simp) _ | refine below_setCell ?_ _ _ _ (by simp) | refine Below.alloc ?_ (by simp) _))) hr.out)
    by_cases h2 : f7 = 32
    · subst h2
      have e := e7.out
      simp at e
      subst e
      clear e7
      clear h0 h1
      have hr := Lib.hid (show noI = regN W 2 32 rd rs1 rs2 from rfl)
      go_enter Try.func89, Try.ntmps89
      go_wp2_with fail
      refine ret_insb (b := w.heap.size) (cs := insC ⟨9, (10 : Nat), (rd : Nat), (rs1 : Nat), (rs2 : Nat), 0#64, 0, false, W, false, 0⟩) (v := .bool false) rfl rfl rfl (by simp [rowI_alloc, rowI_setCell, rowI_setRow]; rfl) rfl rfl (insB_eq (insB_no ⟨9, (10 : Nat), (rd : Nat), (rs1 : Nat), (rs2 : Nat), 0#64, 0, false, W, false, 0⟩ rfl (by repeat (first | with_reducible exact Below.refl _ _ | refine below_row ?_ _ (by simp) _ | refine below_setCell ?_ _ _ _ (by simp) | refine Below.alloc ?_ (by simp) _))) hr.out)
    have q0 : (g7 == 0) = false := by have := e7.out; simp; omega
    have q1 : (g7 == 1) = false := by have := e7.out; simp; omega
    have q2 : (g7 == 32) = false := by have := e7.out; simp; omega
    have hr := Lib.hid (show noI = regN W 2 f7 rd rs1 rs2 from by unfold regN; rw [if_neg (by omega), if_neg (by omega), if_neg (by omega), if_neg (by omega)])
    clear h0 h1 h2 e7
    go_enter Try.func89, Try.ntmps89
    go_wp2_with fail
    refine ret_insb (b := w.heap.size) (cs := insC ⟨9, (2 : Nat), (rd : Nat), (rs1 : Nat), (rs2 : Nat), 0#64, 0, false, W, false, 0⟩) (v := .bool false) rfl rfl rfl (by simp [rowI_alloc, rowI_setCell, rowI_setRow]; rfl) rfl rfl (insB_eq (insB_no ⟨9, (2 : Nat), (rd : Nat), (rs1 : Nat), (rs2 : Nat), 0#64, 0, false, W, false, 0⟩ rfl (by repeat (first | with_reducible exact Below.refl _ _ | refine below_row ?_ _ (by simp) _ | refine below_setCell ?_ _ _ _ (by simp) | refine Below.alloc ?_ (by simp) _))) hr.out)
  · by_cases h0 : f7 = 0
    · subst h0
      have e := e7.out
      simp at e
      subst e
      clear e7
      cases W
      · have hr := Lib.hid (show ⟨9, (3 : Nat), (rd : Nat), (rs1 : Nat), (rs2 : Nat), 0#64, 0, false, false, false, 0⟩ = regN false 3 0 rd rs1 rs2 from rfl)
        go_enter Try.func89, Try.ntmps89
        go_wp2_with fail
        refine ret_insb (b := w.heap.size) (cs := insC ⟨9, (3 : Nat), (rd : Nat), (rs1 : Nat), (rs2 : Nat), 0#64, 0, false, false, false, 0⟩) (v := .bool true) rfl rfl rfl (by simp [rowI_alloc, rowI_setCell, rowI_setRow]; rfl) rfl rfl (insB_eq (insB_yes rfl (by repeat (first | with_reducible exact Below.refl _ _ | refine below_row ?_ _ (by simp) _ | refine below_setCell ?_ _ _ _ (by simp) | refine Below.alloc ?_ (by simp) _))) hr.out)
      · have hr := Lib.hid (show noI = regN true 3 0 rd rs1 rs2 from rfl)
        go_enter Try.func89, Try.ntmps89
        go_wp2_with fail
        refine ret_insb (b := w.heap.size) (cs := insC ⟨9, (3 : Nat), (rd : Nat), (rs1 : Nat), (rs2 : Nat), 0#64, 0, false, true, false, 0⟩) (v := .bool false) rfl rfl rfl (by simp [rowI_alloc, rowI_setCell, rowI_setRow]; rfl) rfl rfl (insB_eq (insB_no ⟨9, (3 : Nat), (rd : Nat), (rs1 : Nat), (rs2 : Nat), 0#64, 0, false, true, false, 0⟩ rfl (by repeat (first | with_reducible exact Below.refl _ _ | refine below_row ?_ _ (by simp) _ | refine below_setCell ?_ _ _ _ (by simp) | refine Below.alloc ?_ (by simp) _))) hr.out)
    by_cases h1 : f7 = 1
    · subst h1
      have e := e7.out
      simp at e
      subst e
      clear e7
      clear h0
      cases W
      · have hr := Lib.hid (show ⟨10, (3 : Nat), (rd : Nat), (rs1 : Nat), (rs2 : Nat), 0#64, 0, false, false, false, 0⟩ = regN false 3 1 rd rs1 rs2 from rfl)
        go_enter Try.func89, Try.ntmps89
        go_wp2_with fail
        refine ret_insb (b := w.heap.size) (cs := insC ⟨10, (3 : Nat), (rd : Nat), (rs1 : Nat), (rs2 : Nat), 0#64, 0, false, false, false, 0⟩) (v := .bool true) rfl rfl rfl (by simp [rowI_alloc, rowI_setCell, rowI_setRow]; rfl) rfl rfl (insB_eq (insB_yes rfl (by repeat (first | with_reducible exact Below.refl _ _ | refine below_row ?_ _ (by simp) _ | refine below_setCell ?_ _ _ _ (by simp) | refine Below.alloc ?_ (by simp) _))) hr.out)
      · have hr := Lib.hid (show noI = regN true 3 1 rd rs1 rs2 from rfl)
        go_enter Try.func89, Try.ntmps89
        go_wp2_with fail
        refine ret_insb (b := w.heap.size) (cs := insC ⟨10, (3 : Nat), (rd : Nat), (rs1 : Nat), (rs2 : Nat), 0#64, 0, false, true, false, 0⟩) (v := .bool false) rfl rfl rfl (by simp [rowI_alloc, rowI_setCell, rowI_setRow]; rfl) rfl rfl (insB_eq (insB_no ⟨10, (3 : Nat), (rd : Nat), (rs1 : Nat), (rs2 : Nat), 0#64, 0, false, true, false, 0⟩ rfl (by repeat (first | with_reducible exact Below.refl _ _ | refine below_row ?_ _ (by simp) _ | refine below_setCell ?_ _ _ _ (by simp) | refine Below.alloc ?_ (by simp) _))) hr.out)
    by_cases h2 : f7 = 32
    · subst h2
      have e := e7.out
      simp at e
      subst e
      clear e7
      clear h0 h1
      have hr := Lib.hid (show noI = regN W 3 32 rd rs1 rs2 from rfl)
      go_enter Try.func89, Try.ntmps89
      go_wp2_with fail
      refine ret_insb (b := w.heap.size) (cs := insC ⟨9, (11 : Nat), (rd : Nat), (rs1 : Nat), (rs2 : Nat), 0#64, 0, false, W, false, 0⟩) (v := .bool false) rfl rfl rfl (by simp [rowI_alloc, rowI_setCell, rowI_setRow]; rfl) rfl rfl (insB_eq (insB_no ⟨9, (11 : Nat), (rd : Nat), (rs1 : Nat), (rs2 : Nat), 0#64, 0, false, W, false, 0⟩ rfl (by repeat (first | with_reducible exact Below.refl _ _ | refine below_row ?_ _ (by simp) _ | refine below_setCell ?_ _ _ _ (by simp) | refine Below.alloc ?_ (by simp) _))) hr.out)
    have q0 : (g7 == 0) = false := by have := e7.out; simp; omega
    have q1 : (g7 == 1) = false := by have := e7.out; simp; omega
    have q2 : (g7 == 32) = false := by have := e7.out; simp; omega
    have hr := Lib.hid (show noI = regN W 3 f7 rd rs1 rs2 from by unfold regN; rw [if_neg (by omega), if_neg (by omega), if_neg (by omega), if_neg (by omega)])
    clear h0 h1 h2 e7
    go_enter Try.func89, Try.ntmps89
    go_wp2_with fail
    refine ret_insb (b := w.heap.size) (cs := insC ⟨9, (3 : Nat), (rd : Nat), (rs1 : Nat), (rs2 : Nat), 0#64, 0, false, W, false, 0⟩) (v := .bool false) rfl rfl rfl (by simp [rowI_alloc, rowI_setCell, rowI_setRow]; rfl) rfl rfl (insB_eq (insB_no ⟨9, (3 : Nat), (rd : Nat), (rs1 : Nat), (rs2 : Nat), 0#64, 0, false, W, false, 0⟩ rfl (by repeat (first | with_reducible exact Below.refl _ _ | refine below_row ?_ _ (by simp) _ | refine below_setCell ?_ _ _ _ (by simp) | refine Below.alloc ?_ (by simp) _))) hr.out)
  · by_cases h0 : f7 = 0
    · subst h0
      have e := e7.out
      simp at e
      subst e
      clear e7
      cases W
      · have hr := Lib.hid (show ⟨9, (4 : Nat), (rd : Nat), (rs1 : Nat), (rs2 : Nat), 0#64, 0, false, false, false, 0⟩ = regN false 4 0 rd rs1 rs2 from rfl)
        go_enter Try.func89, Try.ntmps89
        go_wp2_with fail
        refine ret_insb (b := w.heap.size) (cs := insC ⟨9, (4 : Nat), (rd : Nat), (rs1 : Nat), (rs2 : Nat), 0#64, 0, false, false, false, 0⟩) (v := .bool true) rfl rfl rfl (by simp [rowI_alloc, rowI_setCell, rowI_setRow]; rfl) rfl rfl (insB_eq (insB_yes rfl (by repeat (first | with_reducible exact Below.refl _ _ | refine below_row ?_ _ (by simp) _ | refine below_setCell ?_ _ _ _ (by simp) | refine Below.alloc ?_ (by simp) _))) hr.out)
      · have hr := Lib.hid (show noI = regN true 4 0 rd rs1 rs2 from rfl)
        go_enter Try.func89, Try.ntmps89
        go_wp2_with fail
        refine ret_insb (b := w.heap.size) (cs := insC ⟨9, (4 : Nat), (rd : Nat), (rs1 : Nat), (rs2 : Nat), 0#64, 0, false, true, false, 0⟩) (v := .bool false) rfl rfl rfl (by simp [rowI_alloc, rowI_setCell, rowI_setRow]; rfl) rfl rfl (insB_eq (insB_no ⟨9, (4 : Nat), (rd : Nat), (rs1 : Nat), (rs2 : Nat), 0#64, 0, false, true, false, 0⟩ rfl (by repeat (first | with_reducible exact Below.refl _ _ | refine below_row ?_ _ (by simp) _ | refine below_setCell ?_ _ _ _ (by simp) | refine Below.alloc ?_ (by simp) _))) hr.out)
    by_cases h1 : f7 = 1
    · subst h1
      have e := e7.out
      simp at e
      subst e
      clear e7
      clear h0
      cases W
      · have hr := Lib.hid (show ⟨10, (4 : Nat), (rd : Nat), (rs1 : Nat), (rs2 : Nat), 0#64, 0, false, false, false, 0⟩ = regN false 4 1 rd rs1 rs2 from rfl)
        go_enter Try.func89, Try.ntmps89
        go_wp2_with fail
        refine ret_insb (b := w.heap.size) (cs := insC ⟨10, (4 : Nat), (rd : Nat), (rs1 : Nat), (rs2 : Nat), 0#64, 0, false, false, false, 0⟩) (v := .bool true) rfl rfl rfl (by simp [rowI_alloc, rowI_setCell, rowI_setRow]; rfl) rfl rfl (insB_eq (insB_yes rfl (by repeat (first | with_reducible exact Below.refl _ _ | refine below_row ?_ _ (by simp) _ | refine below_setCell ?_ _ _ _ (by simp) | refine Below.alloc ?_ (by simp) _))) hr.out)
      · have hr := Lib.hid (show ⟨10, (4 : Nat), (rd : Nat), (rs1 : Nat), (rs2 : Nat), 0#64, 0, false, true, false, 0⟩ = regN true 4 1 rd rs1 rs2 from rfl)
        go_enter Try.func89, Try.ntmps89
        go_wp2_with fail
        refine ret_insb (b := w.heap.size) (cs := insC ⟨10, (4 : Nat), (rd : Nat), (rs1 : Nat), (rs2 : Nat), 0#64, 0, false, true, false, 0⟩) (v := .bool true) rfl rfl rfl (by simp [rowI_alloc, rowI_setCell, rowI_setRow]; rfl) rfl rfl (insB_eq (insB_yes rfl (by repeat (first | with_reducible exact Below.refl _ _ | refine below_row ?_ _ (by simp) _ | refine below_setCell ?_ _ _ _ (by simp) | refine Below.alloc ?_ (by simp) _))) hr.out)
    by_cases h2 : f7 = 32
    · subst h2
      have e := e7.out
      simp at e
      subst e
      clear e7
      clear h0 h1
      have hr := Lib.hid (show noI = regN W 4 32 rd rs1 rs2 from rfl)
      go_enter Try.func89, Try.ntmps89
      go_wp2_with fail
      refine ret_insb (b := w.heap.size) (cs := insC ⟨9, (12 : Nat), (rd : Nat), (rs1 : Nat), (rs2 : Nat), 0#64, 0, false, W, false, 0⟩) (v := .bool false) rfl rfl rfl (by simp [rowI_alloc, rowI_setCell, rowI_setRow]; rfl) rfl rfl (insB_eq (insB_no ⟨9, (12 : Nat), (rd : Nat), (rs1 : Nat), (rs2 : Nat), 0#64, 0, false, W, false, 0⟩ rfl (by repeat (first | with_reducible exact Below.refl _ _ | refine below_row ?_ _ (by simp) _ | refine below_setCell ?_ _ _ _ (by simp) | refine Below.alloc ?_ (by simp) _))) hr.out)
    have q0 : (g7 == 0) = false := by have := e7.out; simp; omega
    have q1 : (g7 == 1) = false := by have := e7.out; simp; omega
    have q2 : (g7 == 32) = false := by have := e7.out; simp; omega
    have hr := Lib.hid (show noI = regN W 4 f7 rd rs1 rs2 from by unfold regN; rw [if_neg (by omega), if_neg (by omega), if_neg (by omega), if_neg (by omega)])
    clear h0 h1 h2 e7
    go_enter Try.func89, Try.ntmps89
    go_wp2_with fail
    refine ret_insb (b := w.heap.size) (cs := insC ⟨9, (4 : Nat), (rd : Nat), (rs1 : Nat), (rs2 : Nat), 0#64, 0, false, W, false, 0⟩) (v := .bool false) rfl rfl rfl (by simp [rowI_alloc, rowI_setCell, rowI_setRow]; rfl) rfl rfl (insB_eq (insB_no ⟨9, (4 : Nat), (rd : Nat), (rs1 : Nat), (rs2 : Nat), 0#64, 0, false, W, false, 0⟩ rfl (by repeat (first | with_reducible exact Below.refl _ _ | refine below_row ?_ _ (by simp) _ | refine below_setCell ?_ _ _ _ (by simp) | refine Below.alloc ?_ (by simp) _))) hr.out)
  · by_cases h0 : f7 = 0
    · subst h0
      have e := e7.out
      simp at e
      subst e
      clear e7
      cases W
      · have hr := Lib.hid (show ⟨9, (5 : Nat), (rd : Nat), (rs1 : Nat), (rs2 : Nat), 0#64, 0, false, false, false, 0⟩ = regN false 5 0 rd rs1 rs2 from rfl)
        go_enter Try.func89, Try.ntmps89
        go_wp2_with fail
        refine ret_insb (b := w.heap.size) (cs := insC ⟨9, (5 : Nat), (rd : Nat), (rs1 : Nat), (rs2 : Nat), 0#64, 0, false, false, false, 0⟩) (v := .bool true) rfl rfl rfl (by simp [rowI_alloc, rowI_setCell, rowI_setRow]; rfl) rfl rfl (insB_eq (insB_yes rfl (by repeat (first | with_reducible exact Below.refl _ _ | refine below_row ?_ _ (by simp) _ | refine below_setCell ?_ _ _ _ (by simp) | refine Below.alloc ?_ (by simp) _))) hr.out)
      · have hr := Lib.hid (show ⟨9, (5 : Nat), (rd : Nat), (rs1 : Nat), (rs2 : Nat), 0#64, 0, false, true, false, 0⟩ = regN true 5 0 rd rs1 rs2 from rfl)
        go_enter Try.func89, Try.ntmps89
        go_wp2_with fail
        refine ret_insb (b := w.heap.size) (cs := insC ⟨9, (5 : Nat), (rd : Nat), (rs1 : Nat), (rs2 : Nat), 0#64, 0, false, true, false, 0⟩) (v := .bool true) rfl rfl rfl (by simp [rowI_alloc, rowI_setCell, rowI_setRow]; rfl) rfl rfl (insB_eq (insB_yes rfl (by repeat (first | with_reducible exact Below.refl _ _ | refine below_row ?_ _ (by simp) _ | refine below_setCell ?_ _ _ _ (by simp) | refine Below.alloc ?_ (by simp) _))) hr.out)
    by_cases h1 : f7 = 1
    · subst h1
      have e := e7.out
      simp at e
      subst e
      clear e7
      clear h0
      cases W
      · have hr := Lib.hid (show ⟨10, (5 : Nat), (rd : Nat), (rs1 : Nat), (rs2 : Nat), 0#64, 0, false, false, false, 0⟩ = regN false 5 1 rd rs1 rs2 from rfl)
        go_enter Try.func89, Try.ntmps89
        go_wp2_with fail
        refine ret_insb (b := w.heap.size) (cs := insC ⟨10, (5 : Nat), (rd : Nat), (rs1 : Nat), (rs2 : Nat), 0#64, 0, false, false, false, 0⟩) (v := .bool true) rfl rfl rfl (by simp [rowI_alloc, rowI_setCell, rowI_setRow]; rfl) rfl rfl (insB_eq (insB_yes rfl (by repeat (first | with_reducible exact Below.refl _ _ | refine below_row ?_ _ (by simp) _ | refine below_setCell ?_ _ _ _ (by simp) | refine Below.alloc ?_ (by simp) _))) hr.out)
      · have hr := Lib.hid (show ⟨10, (5 : Nat), (rd : Nat), (rs1 : Nat), (rs2 : Nat), 0#64, 0, false, true, false, 0⟩ = regN true 5 1 rd rs1 rs2 from rfl)
        go_enter Try.func89, Try.ntmps89
        go_wp2_with fail
        refine ret_insb (b := w.heap.size) (cs := insC ⟨10, (5 : Nat), (rd : Nat), (rs1 : Nat), (rs2 : Nat), 0#64, 0, false, true, false, 0⟩) (v := .bool true) rfl rfl rfl (by simp [rowI_alloc, rowI_setCell, rowI_setRow]; rfl) rfl rfl (insB_eq (insB_yes rfl (by repeat (first | with_reducible exact Below.refl _ _ | refine below_row ?_ _ (by simp) _ | refine below_setCell ?_ _ _ _ (by simp) | refine Below.alloc ?_ (by simp) _))) hr.out)
    by_cases h2 : f7 = 32
    · subst h2
      have e := e7.out
      simp at e
      subst e
      clear e7
      clear h0 h1
      have hr := Lib.hid (show ⟨9, (13 : Nat), (rd : Nat), (rs1 : Nat), (rs2 : Nat), 0#64, 0, false, W, false, 0⟩ = regN W 5 32 rd rs1 rs2 from rfl)
      go_enter Try.func89, Try.ntmps89
      go_wp2_with fail
      refine ret_insb (b := w.heap.size) (cs := insC ⟨9, (13 : Nat), (rd : Nat), (rs1 : Nat), (rs2 : Nat), 0#64, 0, false, W, false, 0⟩) (v := .bool true) rfl rfl rfl (by simp [rowI_alloc, rowI_setCell, rowI_setRow]; rfl) rfl rfl (insB_eq (insB_yes rfl (by repeat (first | with_reducible exact Below.refl _ _ | refine below_row ?_ _ (by simp) _ | refine below_setCell ?_ _ _ _ (by simp) | refine Below.alloc ?_ (by simp) _))) hr.out)
    have q0 : (g7 == 0) = false := by have := e7.out; simp; omega
    have q1 : (g7 == 1) = false := by have := e7.out; simp; omega
    have q2 : (g7 == 32) = false := by have := e7.out; simp; omega
    have hr := Lib.hid (show noI = regN W 5 f7 rd rs1 rs2 from by unfold regN; rw [if_neg (by omega), if_neg (by omega), if_neg (by omega), if_neg (by omega)])
    clear h0 h1 h2 e7
    go_enter Try.func89, Try.ntmps89
    go_wp2_with fail
    refine ret_insb (b := w.heap.size) (cs := insC ⟨9, (5 : Nat), (rd : Nat), (rs1 : Nat), (rs2 : Nat), 0#64, 0, false, W, false, 0⟩) (v := .bool false) rfl rfl rfl (by simp [rowI_alloc, rowI_setCell, rowI_setRow]; rfl) rfl rfl (insB_eq (insB_no ⟨9, (5 : Nat), (rd : Nat), (rs1 : Nat), (rs2 : Nat), 0#64, 0, false, W, false, 0⟩ rfl (by repeat (first | with_reducible exact Below.refl _ _ | refine below_row ?_ _ (by simp) _ | refine below_setCell ?_ _ _ _ (by simp) | refine Below.alloc ?_ (by simp) _))) hr.out)
  · by_cases h0 : f7 = 0
    · subst h0
      have e := e7.out
      simp at e
      subst e
      clear e7
      cases W
      · have hr := Lib.hid (show ⟨9, (6 : Nat), (rd : Nat), (rs1 : Nat), (rs2 : Nat), 0#64, 0, false, false, false, 0⟩ = regN false 6 0 rd rs1 rs2 from rfl)
        go_enter Try.func89, Try.ntmps89
        go_wp2_with fail
        refine ret_insb (b := w.heap.size) (cs := insC ⟨9, (6 : Nat), (rd : Nat), (rs1 : Nat), (rs2 : Nat), 0#64, 0, false, false, false, 0⟩) (v := .bool true) rfl rfl rfl (by simp [rowI_alloc, rowI_setCell, rowI_setRow]; rfl) rfl rfl (insB_eq (insB_yes rfl (by repeat (first | with_reducible exact Below.refl _ _ | refine below_row ?_ _ (by simp) _ | refine below_setCell ?_ _ _ _ (by simp) | refine Below.alloc ?_ (by simp) _))) hr.out)
      · have hr := Lib.hid (show noI = regN true 6 0 rd rs1 rs2 from rfl)
        go_enter Try.func89, Try.ntmps89
        go_wp2_with fail
        refine ret_insb (b := w.heap.size) (cs := insC ⟨9, (6 : Nat), (rd : Nat), (rs1 : Nat), (rs2 : Nat), 0#64, 0, false, true, false, 0⟩) (v := .bool false) rfl rfl rfl (by simp [rowI_alloc, rowI_setCell, rowI_setRow]; rfl) rfl rfl (insB_eq (insB_no ⟨9, (6 : Nat), (rd : Nat), (rs1 : Nat), (rs2 : Nat), 0#64, 0, false, true, false, 0⟩ rfl (by repeat (first | with_reducible exact Below.refl _ _ | refine below_row ?_ _ (by simp) _ | refine below_setCell ?_ _ _ _ (by simp) | refine Below.alloc ?_ (by simp) _))) hr.out)
    by_cases h1 : f7 = 1
    · subst h1
      have e := e7.out
      simp at e
      subst e
      clear e7
      clear h0
      cases W
      · have hr := Lib.hid (show ⟨10, (6 : Nat), (rd : Nat), (rs1 : Nat), (rs2 : Nat), 0#64, 0, false, false, false, 0⟩ = regN false 6 1 rd rs1 rs2 from rfl)
        go_enter Try.func89, Try.ntmps89
        go_wp2_with fail
        refine ret_insb (b := w.heap.size) (cs := insC ⟨10, (6 : Nat), (rd : Nat), (rs1 : Nat), (rs2 : Nat), 0#64, 0, false, false, false, 0⟩) (v := .bool true) rfl rfl rfl (by simp [rowI_alloc, rowI_setCell, rowI_setRow]; rfl) rfl rfl (insB_eq (insB_yes rfl (by repeat (first | with_reducible exact Below.refl _ _ | refine below_row ?_ _ (by simp) _ | refine below_setCell ?_ _ _ _ (by simp) | refine Below.alloc ?_ (by simp) _))) hr.out)
      · have hr := Lib.hid (show ⟨10, (6 : Nat), (rd : Nat), (rs1 : Nat), (rs2 : Nat), 0#64, 0, false, true, false, 0⟩ = regN true 6 1 rd rs1 rs2 from rfl)
        go_enter Try.func89, Try.ntmps89
        go_wp2_with fail
        refine ret_insb (b := w.heap.size) (cs := insC ⟨10, (6 : Nat), (rd : Nat), (rs1 : Nat), (rs2 : Nat), 0#64, 0, false, true, false, 0⟩) (v := .bool true) rfl rfl rfl (by simp [rowI_alloc, rowI_setCell, rowI_setRow]; rfl) rfl rfl (insB_eq (insB_yes rfl (by repeat (first | with_reducible exact Below.refl _ _ | refine below_row ?_ _ (by simp) _ | refine below_setCell ?_ _ _ _ (by simp) | refine Below.alloc ?_ (by simp) _))) hr.out)
    by_cases h2 : f7 = 32
    · subst h2
      have e := e7.out
      simp at e
      subst e
      clear e7
      clear h0 h1
      have hr := Lib.hid (show noI = regN W 6 32 rd rs1 rs2 from rfl)
      go_enter Try.func89, Try.ntmps89
      go_wp2_with fail
      refine ret_insb (b := w.heap.size) (cs := insC ⟨9, (14 : Nat), (rd : Nat), (rs1 : Nat), (rs2 : Nat), 0#64, 0, false, W, false, 0⟩) (v := .bool false) rfl rfl rfl (by simp [rowI_alloc, rowI_setCell, rowI_setRow]; rfl) rfl rfl (insB_eq (insB_no ⟨9, (14 : Nat), (rd : Nat), (rs1 : Nat), (rs2 : Nat), 0#64, 0, false, W, false, 0⟩ rfl (by repeat (first | with_reducible exact Below.refl _ _ | refine below_row ?_ _ (by simp) _ | refine below_setCell ?_ _ _ _ (by simp) | refine Below.alloc ?_ (by simp) _))) hr.out)
    have q0 : (g7 == 0) = false := by have := e7.out; simp; omega
    have q1 : (g7 == 1) = false := by have := e7.out; simp; omega
    have q2 : (g7 == 32) = false := by have := e7.out; simp; omega
    have hr := Lib.hid (show noI = regN W 6 f7 rd rs1 rs2 from by unfold regN; rw [if_neg (by omega), if_neg (by omega), if_neg (by omega), if_neg (by omega)])
    clear h0 h1 h2 e7
    go_enter Try.func89, Try.ntmps89
    go_wp2_with fail
    refine ret_insb (b := w.heap.size) (cs := insC ⟨9, (6 : Nat), (rd : Nat), (rs1 : Nat), (rs2 : Nat), 0#64, 0, false, W, false, 0⟩) (v := .bool false) rfl rfl rfl (by simp [rowI_alloc, rowI_setCell, rowI_setRow]; rfl) rfl rfl (insB_eq (insB_no ⟨9, (6 : Nat), (rd : Nat), (rs1 : Nat), (rs2 : Nat), 0#64, 0, false, W, false, 0⟩ rfl (by repeat (first | with_reducible exact Below.refl _ _ | refine below_row ?_ _ (by simp) _ | refine below_setCell ?_ _ _ _ (by simp) | refine Below.alloc ?_ (by simp) _))) hr.out)
  · by_cases h0 : f7 = 0
    · subst h0
      have e := e7.out
      simp at e
      subst e
      clear e7
      cases W
      · have hr := Lib.hid (show ⟨9, (7 : Nat), (rd : Nat), (rs1 : Nat), (rs2 : Nat), 0#64, 0, false, false, false, 0⟩ = regN false 7 0 rd rs1 rs2 from rfl)
        go_enter Try.func89, Try.ntmps89
        go_wp2_with fail
        refine ret_insb (b := w.heap.size) (cs := insC ⟨9, (7 : Nat), (rd : Nat), (rs1 : Nat), (rs2 : Nat), 0#64, 0, false, false, false, 0⟩) (v := .bool true) rfl rfl rfl (by simp [rowI_alloc, rowI_setCell, rowI_setRow]; rfl) rfl rfl (insB_eq (insB_yes rfl (by repeat (first | with_reducible exact Below.refl _ _ | refine below_row ?_ _ (by simp) _ | refine below_setCell ?_ _ _ _ (by simp) | refine Below.alloc ?_ (by simp) _))) hr.out)
      · have hr := Lib.hid (show noI = regN true 7 0 rd rs1 rs2 from rfl)
        go_enter Try.func89, Try.ntmps89
        go_wp2_with fail
        refine ret_insb (b := w.heap.size) (cs := insC ⟨9, (7 : Nat), (rd : Nat), (rs1 : Nat), (rs2 : Nat), 0#64, 0, false, true, false, 0⟩) (v := .bool false) rfl rfl rfl (by simp [rowI_alloc, rowI_setCell, rowI_setRow]; rfl) rfl rfl (insB_eq (insB_no ⟨9, (7 : Nat), (rd : Nat), (rs1 : Nat), (rs2 : Nat), 0#64, 0, false, true, false, 0⟩ rfl (by repeat (first | with_reducible exact Below.refl _ _ | refine below_row ?_ _ (by simp) _ | refine below_setCell ?_ _ _ _ (by simp) | refine Below.alloc ?_ (by simp) _))) hr.out)
    by_cases h1 : f7 = 1
    · subst h1
      have e := e7.out
      simp at e
      subst e
      clear e7
      clear h0
      cases W
      · have hr := Lib.hid (show ⟨10, (7 : Nat), (rd : Nat), (rs1 : Nat), (rs2 : Nat), 0#64, 0, false, false, false, 0⟩ = regN false 7 1 rd rs1 rs2 from rfl)
        go_enter Try.func89, Try.ntmps89
        go_wp2_with fail
        refine ret_insb (b := w.heap.size) (cs := insC ⟨10, (7 : Nat), (rd : Nat), (rs1 : Nat), (rs2 : Nat), 0#64, 0, false, false, false, 0⟩) (v := .bool true) rfl rfl rfl (by simp [rowI_alloc, rowI_setCell, rowI_setRow]; rfl) rfl rfl (insB_eq (insB_yes rfl (by repeat (first | with_reducible exact Below.refl _ _ | refine below_row ?_ _ (by simp) _ | refine below_setCell ?_ _ _ _ (by simp) | refine Below.alloc ?_ (by simp) _))) hr.out)
      · have hr := Lib.hid (show ⟨10, (7 : Nat), (rd : Nat), (rs1 : Nat), (rs2 : Nat), 0#64, 0, false, true, false, 0⟩ = regN true 7 1 rd rs1 rs2 from rfl)
        go_enter Try.func89, Try.ntmps89
        go_wp2_with fail
        refine ret_insb (b := w.heap.size) (cs := insC ⟨10, (7 : Nat), (rd : Nat), (rs1 : Nat), (rs2 : Nat), 0#64, 0, false, true, false, 0⟩) (v := .bool true) rfl rfl rfl (by simp [rowI_alloc, rowI_setCell, rowI_setRow]; rfl) rfl rfl (insB_eq (insB_yes rfl (by repeat (first | with_reducible exact Below.refl _ _ | refine below_row ?_ _ (by simp) _ | refine below_setCell ?_ _ _ _ (by simp) | refine Below.alloc ?_ (by simp) _))) hr.out)
    by_cases h2 : f7 = 32
    · subst h2
      have e := e7.out
      simp at e
      subst e
      clear e7
      clear h0 h1
      have hr := Lib.hid (show noI = regN W 7 32 rd rs1 rs2 from rfl)
      go_enter Try.func89, Try.ntmps89
      go_wp2_with fail
      refine ret_insb (b := w.heap.size) (cs := insC ⟨9, (15 : Nat), (rd : Nat), (rs1 : Nat), (rs2 : Nat), 0#64, 0, false, W, false, 0⟩) (v := .bool false) rfl rfl rfl (by simp [rowI_alloc, rowI_setCell, rowI_setRow]; rfl) rfl rfl (insB_eq (insB_no ⟨9, (15 : Nat), (rd : Nat), (rs1 : Nat), (rs2 : Nat), 0#64, 0, false, W, false, 0⟩ rfl (by repeat (first | with_reducible exact Below.refl _ _ | refine below_row ?_ _ (by simp) _ | refine below_setCell ?_ _ _ _ (by simp) | refine Below.alloc ?_ (by simp) _))) hr.out)
    have q0 : (g7 == 0) = false := by have := e7.out; simp; omega
    have q1 : (g7 == 1) = false := by have := e7.out; simp; omega
    have q2 : (g7 == 32) = false := by have := e7.out; simp; omega
    have hr := Lib.hid (show noI = regN W 7 f7 rd rs1 rs2 from by unfold regN; rw [if_neg (by omega), if_neg (by omega), if_neg (by omega), if_neg (by omega)])
    clear h0 h1 h2 e7
    go_enter Try.func89, Try.ntmps89
    go_wp2_with fail
    refine ret_insb (b := w.heap.size) (cs := insC ⟨9, (7 : Nat), (rd : Nat), (rs1 : Nat), (rs2 : Nat), 0#64, 0, false, W, false, 0⟩) (v := .bool false) rfl rfl rfl (by simp [rowI_alloc, rowI_setCell, rowI_setRow]; rfl) rfl rfl (insB_eq (insB_no ⟨9, (7 : Nat), (rd : Nat), (rs1 : Nat), (rs2 : Nat), 0#64, 0, false, W, false, 0⟩ rfl (by repeat (first | with_reducible exact Below.refl _ _ | refine below_row ?_ _ (by simp) _ | refine below_setCell ?_ _ _ _ (by simp) | refine Below.alloc ?_ (by simp) _))) hr.out)
end
section
open Go.RowKit Wd
set_option linter.unusedVariables false
set_option linter.unusedSimpArgs false
attribute [local go_sem] loadI_lit loadI_ins storeI_lit rowI_alloc rowI_drew rowI_drewN rowI_setRow rowI_setCell setRow_allocJ and_L
attribute [local go_sem ↓] loadI_run storeK_eq
attribute [local go_sem] storeK_run storeK_one storeF_int
set_option maxRecDepth 40000
set_option maxHeartbeats 40000000 in
theorem ramo_2 (f5 rd rs1 rs2 : Nat) (g5 : Int) (e5 : Hid (g5 = (f5 : Int))) (w : World) :
    Calls Try.prog 90 #[.int .i64 2, .int .i64 g5, .int .i64 (rd : Nat), .int .i64 (rs1 : Nat), .int .i64 (rs2 : Nat)] w (InsB (amoN 2 f5 rd rs1 rs2) w) := by
  by_cases h2 : f5 = 2
  · subst h2
    have e := e5.out
    simp at e
    subst e
    clear e5
    by_cases z : rs2 = 0
    · subst z
      have hr := Lib.hid (show ⟨20, 0, (rd : Nat), (rs1 : Nat), (0 : Nat), 0#64, sz 2, false, false, false, 0⟩ = amoN 2 2 rd rs1 0 from rfl)
      go_enter Try.func90, Try.ntmps90
      go_wp2_with fail
      refine ret_insb (b := w.heap.size) (cs := insC ⟨20, 0, (rd : Nat), (rs1 : Nat), (0 : Nat), 0#64, sz 2, false, false, false, 0⟩) (v := .bool true) rfl rfl rfl (by simp [rowI_alloc, rowI_setCell, rowI_setRow]; rfl) rfl rfl (insB_eq (insB_yes rfl (by repeat (first | with_reducible exact Below.refl _ _ | refine below_row ?_ _ (by simp) _ | refine below_setCell ?_ _ _ _ (by simp) | refine Below.alloc ?_ (by simp) _))) hr.out)
    · have nz : ((rs2 : Int) == 0) = false := by simp; omega
      have hr := Lib.hid (show noI = amoN 2 2 rd rs1 rs2 from (show noI = (if rs2 = 0 then _ else noI) from (if_neg z).symm))
      clear z
      go_enter Try.func90, Try.ntmps90
      go_wp2_with fail
      refine ret_insb (b := w.heap.size) (cs := insC ⟨20, 0, (rd : Nat), (rs1 : Nat), (rs2 : Nat), 0#64, sz 2, false, false, false, 0⟩) (v := .bool false) rfl rfl rfl (by simp [rowI_alloc, rowI_setCell, rowI_setRow]; rfl) rfl rfl (insB_eq (insB_no ⟨20, 0, (rd : Nat), (rs1 : Nat), (rs2 : Nat), 0#64, sz 2, false, false, false, 0⟩ rfl (by repeat (first | with_reducible exact Below.refl _ _ | refine below_row ?_ _ (by simp) _ | refine below_setCell ?_ _ _ _ (by simp) | refine Below.alloc ?_ (by simp) _))) hr.out)
  by_cases h3 : f5 = 3
  · subst h3
    have e := e5.out
    simp at e
    subst e
    clear e5
    clear h2
    have hr := Lib.hid (show ⟨21, 0, (rd : Nat), (rs1 : Nat), (rs2 : Nat), 0#64, sz 2, false, false, false, 0⟩ = amoN 2 3 rd rs1 rs2 from rfl)
    go_enter Try.func90, Try.ntmps90
    go_wp2_with fail
    refine ret_insb (b := w.heap.size) (cs := insC ⟨21, 0, (rd : Nat), (rs1 : Nat), (rs2 : Nat), 0#64, sz 2, false, false, false, 0⟩) (v := .bool true) rfl rfl rfl (by simp [rowI_alloc, rowI_setCell, rowI_setRow]; rfl) rfl rfl (insB_eq (insB_yes rfl (by repeat (first | with_reducible exact Below.refl _ _ | refine below_row ?_ _ (by simp) _ | refine below_setCell ?_ _ _ _ (by simp) | refine Below.alloc ?_ (by simp) _))) hr.out)
  by_cases h0 : f5 = 0
  · subst h0
    have e := e5.out
    simp at e
    subst e
    clear e5
    clear h2 h3
    have hr := Lib.hid (show ⟨22, (0 : Nat), (rd : Nat), (rs1 : Nat), (rs2 : Nat), 0#64, sz 2, false, false, false, 0⟩ = amoN 2 0 rd rs1 rs2 from rfl)
    go_enter Try.func90, Try.ntmps90
    go_wp2_with fail
    refine ret_insb (b := w.heap.size) (cs := insC ⟨22, (0 : Nat), (rd : Nat), (rs1 : Nat), (rs2 : Nat), 0#64, sz 2, false, false, false, 0⟩) (v := .bool true) rfl rfl rfl (by simp [rowI_alloc, rowI_setCell, rowI_setRow]; rfl) rfl rfl (insB_eq (insB_yes rfl (by repeat (first | with_reducible exact Below.refl _ _ | refine below_row ?_ _ (by simp) _ | refine below_setCell ?_ _ _ _ (by simp) | refine Below.alloc ?_ (by simp) _))) hr.out)
  by_cases h1 : f5 = 1
  · subst h1
    have e := e5.out
    simp at e
    subst e
    clear e5
    clear h2 h3 h0
    have hr := Lib.hid (show ⟨22, (1 : Nat), (rd : Nat), (rs1 : Nat), (rs2 : Nat), 0#64, sz 2, false, false, false, 0⟩ = amoN 2 1 rd rs1 rs2 from rfl)
    go_enter Try.func90, Try.ntmps90
    go_wp2_with fail
    refine ret_insb (b := w.heap.size) (cs := insC ⟨22, (1 : Nat), (rd : Nat), (rs1 : Nat), (rs2 : Nat), 0#64, sz 2, false, false, false, 0⟩) (v := .bool true) rfl rfl rfl (by simp [rowI_alloc, rowI_setCell, rowI_setRow]; rfl) rfl rfl (insB_eq (insB_yes rfl (by repeat (first | with_reducible exact Below.refl _ _ | refine below_row ?_ _ (by simp) _ | refine below_setCell ?_ _ _ _ (by simp) | refine Below.alloc ?_ (by simp) _))) hr.out)
  by_cases h4 : f5 = 4
  · subst h4
    have e := e5.out
    simp at e
    subst e
    clear e5
    clear h2 h3 h0 h1
    have hr := Lib.hid (show ⟨22, (4 : Nat), (rd : Nat), (rs1 : Nat), (rs2 : Nat), 0#64, sz 2, false, false, false, 0⟩ = amoN 2 4 rd rs1 rs2 from rfl)
    go_enter Try.func90, Try.ntmps90
    go_wp2_with fail
    refine ret_insb (b := w.heap.size) (cs := insC ⟨22, (4 : Nat), (rd : Nat), (rs1 : Nat), (rs2 : Nat), 0#64, sz 2, false, false, false, 0⟩) (v := .bool true) rfl rfl rfl (by simp [rowI_alloc, rowI_setCell, rowI_setRow]; rfl) rfl rfl (insB_eq (insB_yes rfl (by repeat (first | with_reducible exact Below.refl _ _ | refine below_row ?_ _ (by simp) _ | refine below_setCell ?_ _ _ _ (by simp) | refine Below.alloc ?_ (by simp) _))) hr.out)
  by_cases h8 : f5 = 8
  · subst h8
    have e := e5.out
    simp at e
    subst e
    clear e5
    clear h2 h3 h0 h1 h4
    have hr := Lib.hid (show ⟨22, (8 : Nat), (rd : Nat), (rs1 : Nat), (rs2 : Nat), 0#64, sz 2, false, false, false, 0⟩ = amoN 2 8 rd rs1 rs2 from rfl)
    go_enter Try.func90, Try.ntmps90
    go_wp2_with fail
    refine ret_insb (b := w.heap.size) (cs := insC ⟨22, (8 : Nat), (rd : Nat), (rs1 : Nat), (rs2 : Nat), 0#64, sz 2, false, false, false, 0⟩) (v := .bool true) rfl rfl rfl (by simp [rowI_alloc, rowI_setCell, rowI_setRow]; rfl) rfl rfl (insB_eq (insB_yes rfl (by repeat (first | with_reducible exact Below.refl _ _ | refine below_row ?_ _ (by simp) _ | refine below_setCell ?_ _ _ _ (by simp) | refine Below.alloc ?_ (by simp) _))) hr.out)
  by_cases h12 : f5 = 12
  · subst h12
    have e := e5.out
    simp at e
    subst e
    clear e5
    clear h2 h3 h0 h1 h4 h8
    have hr := Lib.hid (show ⟨22, (12 : Nat), (rd : Nat), (rs1 : Nat), (rs2 : Nat), 0#64, sz 2, false, false, false, 0⟩ = amoN 2 12 rd rs1 rs2 from rfl)
    go_enter Try.func90, Try.ntmps90
    go_wp2_with fail
    refine ret_insb (b := w.heap.size) (cs := insC ⟨22, (12 : Nat), (rd : Nat), (rs1 : Nat), (rs2 : Nat), 0#64, sz 2, false, false, false, 0⟩) (v := .bool true) rfl rfl rfl (by simp [rowI_alloc, rowI_setCell, rowI_setRow]; rfl) rfl rfl (insB_eq (insB_yes rfl (by repeat (first | with_reducible exact Below.refl _ _ | refine below_row ?_ _ (by simp) _ | refine below_setCell ?_ _ _ _ (by simp) | refine Below.alloc ?_ (by simp) _))) hr.out)
  by_cases h16 : f5 = 16
  · subst h16
    have e := e5.out
    simp at e
    subst e
    clear e5
    clear h2 h3 h0 h1 h4 h8 h12
    have hr := Lib.hid (show ⟨22, (16 : Nat), (rd : Nat), (rs1 : Nat), (rs2 : Nat), 0#64, sz 2, false, false, false, 0⟩ = amoN 2 16 rd rs1 rs2 from rfl)
    go_enter Try.func90, Try.ntmps90
    go_wp2_with fail
    refine ret_insb (b := w.heap.size) (cs := insC ⟨22, (16 : Nat), (rd : Nat), (rs1 : Nat), (rs2 : Nat), 0#64, sz 2, false, false, false, 0⟩) (v := .bool true) rfl rfl rfl (by simp [rowI_alloc, rowI_setCell, rowI_setRow]; rfl) rfl rfl (insB_eq (insB_yes rfl (by repeat (first | with_reducible exact Below.refl _ _ | refine below_row ?_ _ (by simp) _ | refine below_setCell ?_ _ _ _ (by simp) | refine Below.alloc ?_ (by simp) _))) hr.out)
  by_cases h20 : f5 = 20
  · subst h20
    have e := e5.out
    simp at e
    subst e
    clear e5
    clear h2 h3 h0 h1 h4 h8 h12 h16
    have hr := Lib.hid (show ⟨22, (20 : Nat), (rd : Nat), (rs1 : Nat), (rs2 : Nat), 0#64, sz 2, false, false, false, 0⟩ = amoN 2 20 rd rs1 rs2 from rfl)
    go_enter Try.func90, Try.ntmps90
    go_wp2_with fail
    refine ret_insb (b := w.heap.size) (cs := insC ⟨22, (20 : Nat), (rd : Nat), (rs1 : Nat), (rs2 : Nat), 0#64, sz 2, false, false, false, 0⟩) (v := .bool true) rfl rfl rfl (by simp [rowI_alloc, rowI_setCell, rowI_setRow]; rfl) rfl rfl (insB_eq (insB_yes rfl (by repeat (first | with_reducible exact Below.refl _ _ | refine below_row ?_ _ (by simp) _ | refine below_setCell ?_ _ _ _ (by simp) | refine Below.alloc ?_ (by simp) _))) hr.out)
  by_cases h24 : f5 = 24
  · subst h24
    have e := e5.out
    simp at e
    subst e
    clear e5
    clear h2 h3 h0 h1 h4 h8 h12 h16 h20
    have hr := Lib.hid (show ⟨22, (24 : Nat), (rd : Nat), (rs1 : Nat), (rs2 : Nat), 0#64, sz 2, false, false, false, 0⟩ = amoN 2 24 rd rs1 rs2 from rfl)
    go_enter Try.func90, Try.ntmps90
    go_wp2_with fail
    refine ret_insb (b := w.heap.size) (cs := insC ⟨22, (24 : Nat), (rd : Nat), (rs1 : Nat), (rs2 : Nat), 0#64, sz 2, false, false, false, 0⟩) (v := .bool true) rfl rfl rfl (by simp [rowI_alloc, rowI_setCell, rowI_setRow]; rfl) rfl rfl (insB_eq (insB_yes rfl (by repeat (first | with_reducible exact Below.refl _ _ | refine below_row ?_ _ (by simp) _ | refine below_setCell ?_ _ _ _ (by simp) | refine Below.alloc ?_ (by simp) _))) hr.out)
  by_cases h28 : f5 = 28
  · subst h28
    have e := e5.out
    simp at e
    subst e
    clear e5
    clear h2 h3 h0 h1 h4 h8 h12 h16 h20 h24
    have hr := Lib.hid (show ⟨22, (28 : Nat), (rd : Nat), (rs1 : Nat), (rs2 : Nat), 0#64, sz 2, false, false, false, 0⟩ = amoN 2 28 rd rs1 rs2 from rfl)
    go_enter Try.func90, Try.ntmps90
    go_wp2_with fail
    refine ret_insb (b := w.heap.size) (cs := insC ⟨22, (28 : Nat), (rd : Nat), (rs1 : Nat), (rs2 : Nat), 0#64, sz 2, false, false, false, 0⟩) (v := .bool true) rfl rfl rfl (by simp [rowI_alloc, rowI_setCell, rowI_setRow]; rfl) rfl rfl (insB_eq (insB_yes rfl (by repeat (first | with_reducible exact Below.refl _ _ | refine below_row ?_ _ (by simp) _ | refine below_setCell ?_ _ _ _ (by simp) | refine Below.alloc ?_ (by simp) _))) hr.out)
  have q2 : (g5 == 2) = false := by have := e5.out; simp; omega
  have q3 : (g5 == 3) = false := by have := e5.out; simp; omega
  have q0 : (g5 == 0) = false := by have := e5.out; simp; omega
  have q1 : (g5 == 1) = false := by have := e5.out; simp; omega
  have q4 : (g5 == 4) = false := by have := e5.out; simp; omega
  have q8 : (g5 == 8) = false := by have := e5.out; simp; omega
  have q12 : (g5 == 12) = false := by have := e5.out; simp; omega
  have q16 : (g5 == 16) = false := by have := e5.out; simp; omega
  have q20 : (g5 == 20) = false := by have := e5.out; simp; omega
  have q24 : (g5 == 24) = false := by have := e5.out; simp; omega
  have q28 : (g5 == 28) = false := by have := e5.out; simp; omega
  have hr := Lib.hid (show noI = amoN 2 f5 rd rs1 rs2 from by unfold amoN; rw [if_pos (by omega), if_neg h2, if_neg h3, if_neg (by simp [amoSet]; omega)])
  have hg : g5 = (f5 : Nat) := e5.out
  have bg := Lib.hid hg
  clear hg h2 h3 h0 h1 h4 h8 h12 h16 h20 h24 h28
  go_enter Try.func90, Try.ntmps90
  go_wp2_with fail
  refine ret_insb (b := w.heap.size) (cs := insC ⟨22, g5, (rd : Nat), (rs1 : Nat), (rs2 : Nat), 0#64, sz 2, false, false, false, 0⟩) (v := .bool false) rfl rfl rfl (by simp [rowI_alloc, rowI_setCell, rowI_setRow]; rfl) rfl rfl (insB_eq (insB_no ⟨22, g5, (rd : Nat), (rs1 : Nat), (rs2 : Nat), 0#64, sz 2, false, false, false, 0⟩ rfl (by repeat (first | with_reducible exact Below.refl _ _ | refine below_row ?_ _ (by simp) _ | refine below_setCell ?_ _ _ _ (by simp) | refine Below.alloc ?_ (by simp) _))) hr.out)
set_option maxHeartbeats 40000000 in
theorem ramo_3 (f5 rd rs1 rs2 : Nat) (g5 : Int) (e5 : Hid (g5 = (f5 : Int))) (w : World) :
    Calls Try.prog 90 #[.int .i64 3, .int .i64 g5, .int .i64 (rd : Nat), .int .i64 (rs1 : Nat), .int .i64 (rs2 : Nat)] w (InsB (amoN 3 f5 rd rs1 rs2) w) := by
  by_cases h2 : f5 = 2
  · subst h2
    have e := e5.out
    simp at e
    subst e
    clear e5
    by_cases z : rs2 = 0
    · subst z
      have hr := Lib.hid (show ⟨20, 0, (rd : Nat), (rs1 : Nat), (0 : Nat), 0#64, sz 3, false, false, false, 0⟩ = amoN 3 2 rd rs1 0 from rfl)
      go_enter Try.func90, Try.ntmps90
      go_wp2_with fail
      refine ret_insb (b := w.heap.size) (cs := insC ⟨20, 0, (rd : Nat), (rs1 : Nat), (0 : Nat), 0#64, sz 3, false, false, false, 0⟩) (v := .bool true) rfl rfl rfl (by simp [rowI_alloc, rowI_setCell, rowI_setRow]; rfl) rfl rfl (insB_eq (insB_yes rfl (by repeat (first | with_reducible exact Below.refl _ _ | refine below_row ?_ _ (by simp) _ | refine below_setCell ?_ _ _ _ (by simp) | refine Below.alloc ?_ (by simp) _))) hr.out)
    · have nz : ((rs2 : Int) == 0) = false := by simp; omega
      have hr := Lib.hid (show noI = amoN 3 2 rd rs1 rs2 from (show noI = (if rs2 = 0 then _ else noI) from (if_neg z).symm))
      clear z
      go_enter Try.func90, Try.ntmps90
      go_wp2_with fail
      refine ret_insb (b := w.heap.size) (cs := insC ⟨20, 0, (rd : Nat), (rs1 : Nat), (rs2 : Nat), 0#64, sz 3, false, false, false, 0⟩) (v := .bool false) rfl rfl rfl (by simp [rowI_alloc, rowI_setCell, rowI_setRow]; rfl) rfl rfl (insB_eq (insB_no ⟨20, 0, (rd : Nat), (rs1 : Nat), (rs2 : Nat), 0#64, sz 3, false, false, false, 0⟩ rfl (by repeat (first | with_reducible exact Below.refl _ _ | refine below_row ?_ _ (by simp) _ | refine below_setCell ?_ _ _ _ (by simp) | refine Below.alloc ?_ (by simp) _))) hr.out)
  by_cases h3 : f5 = 3
  · subst h3
    have e := e5.out
    simp at e
    subst e
    clear e5
    clear h2
    have hr := Lib.hid (show ⟨21, 0, (rd : Nat), (rs1 : Nat), (rs2 : Nat), 0#64, sz 3, false, false, false, 0⟩ = amoN 3 3 rd rs1 rs2 from rfl)
    go_enter Try.func90, Try.ntmps90
    go_wp2_with fail
    refine ret_insb (b := w.heap.size) (cs := insC ⟨21, 0, (rd : Nat), (rs1 : Nat), (rs2 : Nat), 0#64, sz 3, false, false, false, 0⟩) (v := .bool true) rfl rfl rfl (by simp [rowI_alloc, rowI_setCell, rowI_setRow]; rfl) rfl rfl (insB_eq (insB_yes rfl (by repeat (first | with_reducible exact Below.refl _ _ | refine below_row ?_ _ (by simp) _ | refine below_setCell ?_ _ _ _ (by simp) | refine Below.alloc ?_ (by simp) _))) hr.out)
  by_cases h0 : f5 = 0
  · subst h0
    have e := e5.out
    simp at e
    subst e
    clear e5
    clear h2 h3
    have hr := Lib.hid (show ⟨22, (0 : Nat), (rd : Nat), (rs1 : Nat), (rs2 : Nat), 0#64, sz 3, false, false, false, 0⟩ = amoN 3 0 rd rs1 rs2 from rfl)
    go_enter Try.func90, Try.ntmps90
    go_wp2_with fail
    refine ret_insb (b := w.heap.size) (cs := insC ⟨22, (0 : Nat), (rd : Nat), (rs1 : Nat), (rs2 : Nat), 0#64, sz 3, false, false, false, 0⟩) (v := .bool true) rfl rfl rfl (by simp [rowI_alloc, rowI_setCell, rowI_setRow]; rfl) rfl rfl (insB_eq (insB_yes rfl (by repeat (first | with_reducible exact Below.refl _ _ | refine below_row ?_ _ (by simp) _ | refine below_setCell ?_ _ _ _ (by simp) | refine Below.alloc ?_ (by simp) _))) hr.out)
  by_cases h1 : f5 = 1
  · subst h1
    have e := e5.out
    simp at e
    subst e
    clear e5
    clear h2 h3 h0
    have hr := Lib.hid (show ⟨22, (1 : Nat), (rd : Nat), (rs1 : Nat), (rs2 : Nat), 0#64, sz 3, false, false, false, 0⟩ = amoN 3 1 rd rs1 rs2 from rfl)
    go_enter Try.func90, Try.ntmps90
    go_wp2_with fail
    refine ret_insb (b := w.heap.size) (cs := insC ⟨22, (1 : Nat), (rd : Nat), (rs1 : Nat), (rs2 : Nat), 0#64, sz 3, false, false, false, 0⟩) (v := .bool true) rfl rfl rfl (by simp [rowI_alloc, rowI_setCell, rowI_setRow]; rfl) rfl rfl (insB_eq (insB_yes rfl (by repeat (first | with_reducible exact Below.refl _ _ | refine below_row ?_ _ (by simp) _ | refine below_setCell ?_ _ _ _ (by simp) | refine Below.alloc ?_ (by simp) _))) hr.out)
  by_cases h4 : f5 = 4
  · subst h4
    have e := e5.out
    simp at e
    subst e
    clear e5
    clear h2 h3 h0 h1
    have hr := Lib.hid (show ⟨22, (4 : Nat), (rd : Nat), (rs1 : Nat), (rs2 : Nat), 0#64, sz 3, false, false, false, 0⟩ = amoN 3 4 rd rs1 rs2 from rfl)
    go_enter Try.func90, Try.ntmps90
    go_wp2_with fail
    refine ret_insb (b := w.heap.size) (cs := insC ⟨22, (4 : Nat), (rd : Nat), (rs1 : Nat), (rs2 : Nat), 0#64, sz 3, false, false, false, 0⟩) (v := .bool true) rfl rfl rfl (by simp [rowI_alloc, rowI_setCell, rowI_setRow]; rfl) rfl rfl (insB_eq (insB_yes rfl (by repeat (first | with_reducible exact Below.refl _ _ | refine below_row ?_ _ (by simp) _ | refine below_setCell ?_ _ _ _ (by simp) | refine Below.alloc ?_ (by simp) _))) hr.out)
  by_cases h8 : f5 = 8
  · subst h8
    have e := e5.out
    simp at e
    subst e
    clear e5
    clear h2 h3 h0 h1 h4
    have hr := Lib.hid (show ⟨22, (8 : Nat), (rd : Nat), (rs1 : Nat), (rs2 : Nat), 0#64, sz 3, false, false, false, 0⟩ = amoN 3 8 rd rs1 rs2 from rfl)
    go_enter Try.func90, Try.ntmps90
    go_wp2_with fail
    refine ret_insb (b := w.heap.size) (cs := insC ⟨22, (8 : Nat), (rd : Nat), (rs1 : Nat), (rs2 : Nat), 0#64, sz 3, false, false, false, 0⟩) (v := .bool true) rfl rfl rfl (by simp [rowI_alloc, rowI_setCell, rowI_setRow]; rfl) rfl rfl (insB_eq (insB_yes rfl (by repeat (first | with_reducible exact Below.refl _ _ | refine below_row ?_ _ (by simp) _ | refine below_setCell ?_ _ _ _ (by simp) | refine Below.alloc ?_ (by simp) _))) hr.out)
  by_cases h12 : f5 = 12
  · subst h12
    have e := e5.out
    simp at e
    subst e
    clear e5
    clear h2 h3 h0 h1 h4 h8
    have hr := Lib.hid (show ⟨22, (12 : Nat), (rd : Nat), (rs1 : Nat), (rs2 : Nat), 0#64, sz 3, false, false, false, 0⟩ = amoN 3 12 rd rs1 rs2 from rfl)
    go_enter Try.func90, Try.ntmps90
    go_wp2_with fail
    refine ret_insb (b := w.heap.size) (cs := insC ⟨22, (12 : Nat), (rd : Nat), (rs1 : Nat), (rs2 : Nat), 0#64, sz 3, false, false, false, 0⟩) (v := .bool true) rfl rfl rfl (by simp [rowI_alloc, rowI_setCell, rowI_setRow]; rfl) rfl rfl (insB_eq (insB_yes rfl (by repeat (first | with_reducible exact Below.refl _ _ | refine below_row ?_ _ (by simp) _ | refine below_setCell ?_ _ _ _ (by simp) | refine Below.alloc ?_ (by simp) _))) hr.out)
  by_cases h16 : f5 = 16
  · subst h16
    have e := e5.out
    simp at e
    subst e
    clear e5
    clear h2 h3 h0 h1 h4 h8 h12
    have hr := Lib.hid (show ⟨22, (16 : Nat), (rd : Nat), (rs1 : Nat), (rs2 : Nat), 0#64, sz 3, false, false, false, 0⟩ = amoN 3 16 rd rs1 rs2 from rfl)
    go_enter Try.func90, Try.ntmps90
    go_wp2_with fail
    refine ret_insb (b := w.heap.size) (cs := insC ⟨22, (16 : Nat), (rd : Nat), (rs1 : Nat), (rs2 : Nat), 0#64, sz 3, false, false, false, 0⟩) (v := .bool true) rfl rfl rfl (by simp [rowI_alloc, rowI_setCell, rowI_setRow]; rfl) rfl rfl (insB_eq (insB_yes rfl (by repeat (first | with_reducible exact Below.refl _ _ | refine below_row ?_ _ (by simp) _ | refine below_setCell ?_ _ _ _ (by simp) | refine Below.alloc ?_ (by simp) _))) hr.out)
  by_cases h20 : f5 = 20
  · subst h20
    have e := e5.out
    simp at e
    subst e
    clear e5
    clear h2 h3 h0 h1 h4 h8 h12 h16
    have hr := Lib.hid (show ⟨22, (20 : Nat), (rd : Nat), (rs1 : Nat), (rs2 : Nat), 0#64, sz 3, false, false, false, 0⟩ = amoN 3 20 rd rs1 rs2 from rfl)
    go_enter Try.func90, Try.ntmps90
    go_wp2_with fail
    refine ret_insb (b := w.heap.size) (cs := insC ⟨22, (20 : Nat), (rd : Nat), (rs1 : Nat), (rs2 : Nat), 0#64, sz 3, false, false, false, 0⟩) (v := .bool true) rfl rfl rfl (by simp [rowI_alloc, rowI_setCell, rowI_setRow]; rfl) rfl rfl (insB_eq (insB_yes rfl (by repeat (first | with_reducible exact Below.refl _ _ | refine below_row ?_ _ (by simp) _ | refine below_setCell ?_ _ _ _ (by simp) | refine Below.alloc ?_ (by simp) _))) hr.out)
  by_cases h24 : f5 = 24
  · subst h24
    have e := e5.out
    simp at e
    subst e
    clear e5
    clear h2 h3 h0 h1 h4 h8 h12 h16 h20
    have hr := Lib.hid (show ⟨22, (24 : Nat), (rd : Nat), (rs1 : Nat), (rs2 : Nat), 0#64, sz 3, false, false, false, 0⟩ = amoN 3 24 rd rs1 rs2 from rfl)
    go_enter Try.func90, Try.ntmps90
    go_wp2_with fail
    refine ret_insb (b := w.heap.size) (cs := insC ⟨22, (24 : Nat), (rd : Nat), (rs1 : Nat), (rs2 : Nat), 0#64, sz 3, false, false, false, 0⟩) (v := .bool true) rfl rfl rfl (by simp [rowI_alloc, rowI_setCell, rowI_setRow]; rfl) rfl rfl (insB_eq (insB_yes rfl (by repeat (first | with_reducible exact Below.refl _ _ | refine below_row ?_ _ (by simp) _ | refine below_setCell ?_ _ _ _ (by simp) | refine Below.alloc ?_ (by simp) _))) hr.out)
  by_cases h28 : f5 = 28
  · subst h28
    have e := e5.out
    simp at e
    subst e
    clear e5
    clear h2 h3 h0 h1 h4 h8 h12 h16 h20 h24
    have hr := Lib.hid (show ⟨22, (28 : Nat), (rd : Nat), (rs1 : Nat), (rs2 : Nat), 0#64, sz 3, false, false, false, 0⟩ = amoN 3 28 rd rs1 rs2 from rfl)
    go_enter Try.func90, Try.ntmps90
    go_wp2_with fail
    refine ret_insb (b := w.heap.size) (cs := insC ⟨22, (28 : Nat), (rd : Nat), (rs1 : Nat), (rs2 : Nat), 0#64, sz 3, false, false, false, 0⟩) (v := .bool true) rfl rfl rfl (by simp [rowI_alloc, rowI_setCell, rowI_setRow]; rfl) rfl rfl (insB_eq (insB_yes rfl (by repeat (first | with_reducible exact Below.refl _ _ | refine below_row ?_ _ (by simp) _ | refine below_setCell ?_ _ _ _ (by simp) | refine Below.alloc ?_ (by simp) _))) hr.out)
  have q2 : (g5 == 2) = false := by have := e5.out; simp; omega
  have q3 : (g5 == 3) = false := by have := e5.out; simp; omega
  have q0 : (g5 == 0) = false := by have := e5.out; simp; omega
  have q1 : (g5 == 1) = false := by have := e5.out; simp; omega
  have q4 : (g5 == 4) = false := by have := e5.out; simp; omega
  have q8 : (g5 == 8) = false := by have := e5.out; simp; omega
  have q12 : (g5 == 12) = false := by have := e5.out; simp; omega
  have q16 : (g5 == 16) = false := by have := e5.out; simp; omega
  have q20 : (g5 == 20) = false := by have := e5.out; simp; omega
  have q24 : (g5 == 24) = false := by have := e5.out; simp; omega
  have q28 : (g5 == 28) = false := by have := e5.out; simp; omega
  have hr := Lib.hid (show noI = amoN 3 f5 rd rs1 rs2 from by unfold amoN; rw [if_pos (by omega), if_neg h2, if_neg h3, if_neg (by simp [amoSet]; omega)])
  have hg : g5 = (f5 : Nat) := e5.out
  have bg := Lib.hid hg
  clear hg h2 h3 h0 h1 h4 h8 h12 h16 h20 h24 h28
  go_enter Try.func90, Try.ntmps90
  go_wp2_with fail
  refine ret_insb (b := w.heap.size) (cs := insC ⟨22, g5, (rd : Nat), (rs1 : Nat), (rs2 : Nat), 0#64, sz 3, false, false, false, 0⟩) (v := .bool false) rfl rfl rfl (by simp [rowI_alloc, rowI_setCell, rowI_setRow]; rfl) rfl rfl (insB_eq (insB_no ⟨22, g5, (rd : Nat), (rs1 : Nat), (rs2 : Nat), 0#64, sz 3, false, false, false, 0⟩ rfl (by repeat (first | with_reducible exact Below.refl _ _ | refine below_row ?_ _ (by simp) _ | refine below_setCell ?_ _ _ _ (by simp) | refine Below.alloc ?_ (by simp) _))) hr.out)
set_option maxHeartbeats 40000000 in
theorem ramo_no (f3 f5 rd rs1 rs2 : Nat) (g3 g5 : Int) (e3 : Hid (g3 = (f3 : Int))) (e5 : Hid (g5 = (f5 : Int))) (h3 : f3 < 8) (hf : ¬ (f3 = 2 ∨ f3 = 3)) (w : World) :
    Calls Try.prog 90 #[.int .i64 g3, .int .i64 g5, .int .i64 (rd : Nat), .int .i64 (rs1 : Nat), .int .i64 (rs2 : Nat)] w (InsB (amoN f3 f5 rd rs1 rs2) w) := by
  have q2' : (g3 == 2) = false := by have := e3.out; simp; omega
  have q3' : (g3 == 3) = false := by have := e3.out; simp; omega
  have b0 : 0 ≤ g3 := by rw [e3.out]; omega
  have b8 : g3 < 8 := by rw [e3.out]; omega
  have hN := Lib.hid (show ∀ f5, noI = amoN f3 f5 rd rs1 rs2 from fun f5 => (if_neg hf).symm)
  clear e3 h3 hf
  by_cases h2 : f5 = 2
  · subst h2
    have e := e5.out
    simp at e
    subst e
    clear e5
    by_cases z : rs2 = 0
    · subst z
      have hr := Lib.hid (hN.out 2)
      go_enter Try.func90, Try.ntmps90
      go_wp2_with fail
      refine ret_insb (b := w.heap.size) (cs := insC ⟨20, 0, (rd : Nat), (rs1 : Nat), (0 : Nat), 0#64, _, false, false, false, 0⟩) (v := .bool false) rfl rfl rfl (by simp [rowI_alloc, rowI_setCell, rowI_setRow]; rfl) rfl rfl (insB_eq (insB_no ⟨20, 0, (rd : Nat), (rs1 : Nat), (0 : Nat), 0#64, _, false, false, false, 0⟩ rfl (by repeat (first | with_reducible exact Below.refl _ _ | refine below_row ?_ _ (by simp) _ | refine below_setCell ?_ _ _ _ (by simp) | refine Below.alloc ?_ (by simp) _))) hr.out)
    · have nz : ((rs2 : Int) == 0) = false := by simp; omega
      clear z
      have hr := Lib.hid (hN.out 2)
      go_enter Try.func90, Try.ntmps90
      go_wp2_with fail
      refine ret_insb (b := w.heap.size) (cs := insC ⟨20, 0, (rd : Nat), (rs1 : Nat), (rs2 : Nat), 0#64, _, false, false, false, 0⟩) (v := .bool false) rfl rfl rfl (by simp [rowI_alloc, rowI_setCell, rowI_setRow]; rfl) rfl rfl (insB_eq (insB_no ⟨20, 0, (rd : Nat), (rs1 : Nat), (rs2 : Nat), 0#64, _, false, false, false, 0⟩ rfl (by repeat (first | with_reducible exact Below.refl _ _ | refine below_row ?_ _ (by simp) _ | refine below_setCell ?_ _ _ _ (by simp) | refine Below.alloc ?_ (by simp) _))) hr.out)
  by_cases h3 : f5 = 3
  · subst h3
    have e := e5.out
    simp at e
    subst e
    clear e5
    clear h2
    have hr := Lib.hid (hN.out 3)
    go_enter Try.func90, Try.ntmps90
    go_wp2_with fail
    refine ret_insb (b := w.heap.size) (cs := insC ⟨21, 0, (rd : Nat), (rs1 : Nat), (rs2 : Nat), 0#64, _, false, false, false, 0⟩) (v := .bool false) rfl rfl rfl (by simp [rowI_alloc, rowI_setCell, rowI_setRow]; rfl) rfl rfl (insB_eq (insB_no ⟨21, 0, (rd : Nat), (rs1 : Nat), (rs2 : Nat), 0#64, _, false, false, false, 0⟩ rfl (by repeat (first | with_reducible exact Below.refl _ _ | refine below_row ?_ _ (by simp) _ | refine below_setCell ?_ _ _ _ (by simp) | refine Below.alloc ?_ (by simp) _))) hr.out)
  by_cases h0 : f5 = 0
  · subst h0
    have e := e5.out
    simp at e
    subst e
    clear e5
    clear h2 h3
    have hr := Lib.hid (hN.out 0)
    go_enter Try.func90, Try.ntmps90
    go_wp2_with fail
    refine ret_insb (b := w.heap.size) (cs := insC ⟨22, (0 : Nat), (rd : Nat), (rs1 : Nat), (rs2 : Nat), 0#64, _, false, false, false, 0⟩) (v := .bool false) rfl rfl rfl (by simp [rowI_alloc, rowI_setCell, rowI_setRow]; rfl) rfl rfl (insB_eq (insB_no ⟨22, (0 : Nat), (rd : Nat), (rs1 : Nat), (rs2 : Nat), 0#64, _, false, false, false, 0⟩ rfl (by repeat (first | with_reducible exact Below.refl _ _ | refine below_row ?_ _ (by simp) _ | refine below_setCell ?_ _ _ _ (by simp) | refine Below.alloc ?_ (by simp) _))) hr.out)
  by_cases h1 : f5 = 1
  · subst h1
    have e := e5.out
    simp at e
    subst e
    clear e5
    clear h2 h3 h0
    have hr := Lib.hid (hN.out 1)
    go_enter Try.func90, Try.ntmps90
    go_wp2_with fail
    refine ret_insb (b := w.heap.size) (cs := insC ⟨22, (1 : Nat), (rd : Nat), (rs1 : Nat), (rs2 : Nat), 0#64, _, false, false, false, 0⟩) (v := .bool false) rfl rfl rfl (by simp [rowI_alloc, rowI_setCell, rowI_setRow]; rfl) rfl rfl (insB_eq (insB_no ⟨22, (1 : Nat), (rd : Nat), (rs1 : Nat), (rs2 : Nat), 0#64, _, false, false, false, 0⟩ rfl (by repeat (first | with_reducible exact Below.refl _ _ | refine below_row ?_ _ (by simp) _ | refine below_setCell ?_ _ _ _ (by simp) | refine Below.alloc ?_ (by simp) _))) hr.out)
  by_cases h4 : f5 = 4
  · subst h4
    have e := e5.out
    simp at e
    subst e
    clear e5
    clear h2 h3 h0 h1
    have hr := Lib.hid (hN.out 4)
    go_enter Try.func90, Try.ntmps90
    go_wp2_with fail
    refine ret_insb (b := w.heap.size) (cs := insC ⟨22, (4 : Nat), (rd : Nat), (rs1 : Nat), (rs2 : Nat), 0#64, _, false, false, false, 0⟩) (v := .bool false) rfl rfl rfl (by simp [rowI_alloc, rowI_setCell, rowI_setRow]; rfl) rfl rfl (insB_eq (insB_no ⟨22, (4 : Nat), (rd : Nat), (rs1 : Nat), (rs2 : Nat), 0#64, _, false, false, false, 0⟩ rfl (by repeat (first | with_reducible exact Below.refl _ _ | refine below_row ?_ _ (by simp) _ | refine below_setCell ?_ _ _ _ (by simp) | refine Below.alloc ?_ (by simp) _))) hr.out)
  by_cases h8 : f5 = 8
  · subst h8
    have e := e5.out
    simp at e
    subst e
    clear e5
    clear h2 h3 h0 h1 h4
    have hr := Lib.hid (hN.out 8)
    go_enter Try.func90, Try.ntmps90
    go_wp2_with fail
    refine ret_insb (b := w.heap.size) (cs := insC ⟨22, (8 : Nat), (rd : Nat), (rs1 : Nat), (rs2 : Nat), 0#64, _, false, false, false, 0⟩) (v := .bool false) rfl rfl rfl (by simp [rowI_alloc, rowI_setCell, rowI_setRow]; rfl) rfl rfl (insB_eq (insB_no ⟨22, (8 : Nat), (rd : Nat), (rs1 : Nat), (rs2 : Nat), 0#64, _, false, false, false, 0⟩ rfl (by repeat (first | with_reducible exact Below.refl _ _ | refine below_row ?_ _ (by simp) _ | refine below_setCell ?_ _ _ _ (by simp) | refine Below.alloc ?_ (by simp) _))) hr.out)
  by_cases h12 : f5 = 12
  · subst h12
    have e := e5.out
    simp at e
    subst e
    clear e5
    clear h2 h3 h0 h1 h4 h8
    have hr := Lib.hid (hN.out 12)
    go_enter Try.func90, Try.ntmps90
    go_wp2_with fail
    refine ret_insb (b := w.heap.size) (cs := insC ⟨22, (12 : Nat), (rd : Nat), (rs1 : Nat), (rs2 : Nat), 0#64, _, false, false, false, 0⟩) (v := .bool false) rfl rfl rfl (by simp [rowI_alloc, rowI_setCell, rowI_setRow]; rfl) rfl rfl (insB_eq (insB_no ⟨22, (12 : Nat), (rd : Nat), (rs1 : Nat), (rs2 : Nat), 0#64, _, false, false, false, 0⟩ rfl (by repeat (first | with_reducible exact Below.refl _ _ | refine below_row ?_ _ (by simp) _ | refine below_setCell ?_ _ _ _ (by simp) | refine Below.alloc ?_ (by simp) _))) hr.out)
  by_cases h16 : f5 = 16
  · subst h16
    have e := e5.out
    simp at e
    subst e
    clear e5
    clear h2 h3 h0 h1 h4 h8 h12
    have hr := Lib.hid (hN.out 16)
    go_enter Try.func90, Try.ntmps90
    go_wp2_with fail
    refine ret_insb (b := w.heap.size) (cs := insC ⟨22, (16 : Nat), (rd : Nat), (rs1 : Nat), (rs2 : Nat), 0#64, _, false, false, false, 0⟩) (v := .bool false) rfl rfl rfl (by simp [rowI_alloc, rowI_setCell, rowI_setRow]; rfl) rfl rfl (insB_eq (insB_no ⟨22, (16 : Nat), (rd : Nat), (rs1 : Nat), (rs2 : Nat), 0#64, _, false, false, false, 0⟩ rfl (by repeat (first | with_reducible exact Below.refl _ _ | refine below_row ?_ _ (by simp) _ | refine below_setCell ?_ _ _ _ (by simp) | refine Below.alloc ?_ (by simp) _))) hr.out)
  by_cases h20 : f5 = 20
  · subst h20
    have e := e5.out
    simp at e
    subst e
    clear e5
    clear h2 h3 h0 h1 h4 h8 h12 h16
    have hr := Lib.hid (hN.out 20)
    go_enter Try.func90, Try.ntmps90
    go_wp2_with fail
    refine ret_insb (b := w.heap.size) (cs := insC ⟨22, (20 : Nat), (rd : Nat), (rs1 : Nat), (rs2 : Nat), 0#64, _, false, false, false, 0⟩) (v := .bool false) rfl rfl rfl (by simp [rowI_alloc, rowI_setCell, rowI_setRow]; rfl) rfl rfl (insB_eq (insB_no ⟨22, (20 : Nat), (rd : Nat), (rs1 : Nat), (rs2 : Nat), 0#64, _, false, false, false, 0⟩ rfl (by repeat (first | with_reducible exact Below.refl _ _ | refine below_row ?_ _ (by simp) _ | refine below_setCell ?_ _ _ _ (by simp) | refine Below.alloc ?_ (by simp) _))) hr.out)
  by_cases h24 : f5 = 24
  · subst h24
    have e := e5.out
    simp at e
    subst e
    clear e5
    clear h2 h3 h0 h1 h4 h8 h12 h16 h20
    have hr := Lib.hid (hN.out 24)
    go_enter Try.func90, Try.ntmps90
    go_wp2_with fail
    refine ret_insb (b := w.heap.size) (cs := insC ⟨22, (24 : Nat), (rd : Nat), (rs1 : Nat), (rs2 : Nat), 0#64, _, false, false, false, 0⟩) (v := .bool false) rfl rfl rfl (by simp [rowI_alloc, rowI_setCell, rowI_setRow]; rfl) rfl rfl (insB_eq (insB_no ⟨22, (24 : Nat), (rd : Nat), (rs1 : Nat), (rs2 : Nat), 0#64, _, false, false, false, 0⟩ rfl (by repeat (first | with_reducible exact Below.refl _ _ | refine below_row ?_ _ (by simp) _ | refine below_setCell ?_ _ _ _ (by simp) | refine Below.alloc ?_ (by simp) _))) hr.out)
  by_cases h28 : f5 = 28
  · subst h28
    have e := e5.out
    simp at e
    subst e
    clear e5
    clear h2 h3 h0 h1 h4 h8 h12 h16 h20 h24
    have hr := Lib.hid (hN.out 28)
    go_enter Try.func90, Try.ntmps90
    go_wp2_with fail
    refine ret_insb (b := w.heap.size) (cs := insC ⟨22, (28 : Nat), (rd : Nat), (rs1 : Nat), (rs2 : Nat), 0#64, _, false, false, false, 0⟩) (v := .bool false) rfl rfl rfl (by simp [rowI_alloc, rowI_setCell, rowI_setRow]; rfl) rfl rfl (insB_eq (insB_no ⟨22, (28 : Nat), (rd : Nat), (rs1 : Nat), (rs2 : Nat), 0#64, _, false, false, false, 0⟩ rfl (by repeat (first | with_reducible exact Below.refl _ _ | refine below_row ?_ _ (by simp) _ | refine below_setCell ?_ _ _ _ (by simp) | refine Below.alloc ?_ (by simp) _))) hr.out)
  have q2 : (g5 == 2) = false := by have := e5.out; simp; omega
  have q3 : (g5 == 3) = false := by have := e5.out; simp; omega
  have q0 : (g5 == 0) = false := by have := e5.out; simp; omega
  have q1 : (g5 == 1) = false := by have := e5.out; simp; omega
  have q4 : (g5 == 4) = false := by have := e5.out; simp; omega
  have q8 : (g5 == 8) = false := by have := e5.out; simp; omega
  have q12 : (g5 == 12) = false := by have := e5.out; simp; omega
  have q16 : (g5 == 16) = false := by have := e5.out; simp; omega
  have q20 : (g5 == 20) = false := by have := e5.out; simp; omega
  have q24 : (g5 == 24) = false := by have := e5.out; simp; omega
  have q28 : (g5 == 28) = false := by have := e5.out; simp; omega
  have hr := Lib.hid (hN.out f5)
  have hg : g5 = (f5 : Nat) := e5.out
  have bg := Lib.hid hg
  clear hg h2 h3 h0 h1 h4 h8 h12 h16 h20 h24 h28
  go_enter Try.func90, Try.ntmps90
  go_wp2_with fail
  refine ret_insb (b := w.heap.size) (cs := insC ⟨22, g5, (rd : Nat), (rs1 : Nat), (rs2 : Nat), 0#64, _, false, false, false, 0⟩) (v := .bool false) rfl rfl rfl (by simp [rowI_alloc, rowI_setCell, rowI_setRow]; rfl) rfl rfl (insB_eq (insB_no ⟨22, g5, (rd : Nat), (rs1 : Nat), (rs2 : Nat), 0#64, _, false, false, false, 0⟩ rfl (by repeat (first | with_reducible exact Below.refl _ _ | refine below_row ?_ _ (by simp) _ | refine below_setCell ?_ _ _ _ (by simp) | refine Below.alloc ?_ (by simp) _))) hr.out)
set_option maxHeartbeats 40000000 in
theorem ramo_at (f3 f5 rd rs1 rs2 : Nat) (g3 g5 : Int) (e3 : Hid (g3 = (f3 : Int))) (e5 : Hid (g5 = (f5 : Int))) (h3 : f3 < 8) (w : World) :
    Calls Try.prog 90 #[.int .i64 g3, .int .i64 g5, .int .i64 (rd : Nat), .int .i64 (rs1 : Nat), .int .i64 (rs2 : Nat)] w (InsB (amoN f3 f5 rd rs1 rs2) w) := by
  have hf : f3 = 2 ∨ f3 = 3 ∨ ¬ (f3 = 2 ∨ f3 = 3) := by omega
  rcases hf with rfl | rfl | hf
  · have e := e3.out
    simp at e
    subst e
    clear e3
    exact ramo_2 f5 rd rs1 rs2 g5 e5 w
  · have e := e3.out
    simp at e
    subst e
    clear e3
    exact ramo_3 f5 rd rs1 rs2 g5 e5 w
  · exact ramo_no f3 f5 rd rs1 rs2 g3 g5 e3 e5 h3 hf w
end
end Go.Proofs.Ytnhbekgmameeaaa
