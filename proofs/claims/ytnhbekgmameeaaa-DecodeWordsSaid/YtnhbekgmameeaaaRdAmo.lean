/- Contract: the document's atomic. -/
import Derived.Test.YtnhbekgmameeaaaIns4
import Derived.Test.YtnhbekgmameeaaaShapeRef
import Derived.Test.YtnhbekgmameeaaaShapeSame
import Derived.Test.YtnhbekgmameeaaaDecBackPlain
import Derived.Test.YtnhbekgmameeaaaAndL
namespace Go.Proofs.Ytnhbekgmameeaaa
open Go.RowKit Wd
set_option linter.unusedVariables false
set_option linter.unusedSimpArgs false
attribute [local go_sem] loadI_lit loadI_ins storeI_lit rowI_alloc rowI_drew rowI_drewN rowI_setRow rowI_setCell setRow_allocJ and_L
attribute [local go_sem ↓] loadI_run storeK_eq
attribute [local go_sem] storeK_run storeK_one storeF_int
set_option maxRecDepth 40000
set_option maxHeartbeats 40000000 in
theorem ramo_2 (f5 rd rs1 rs2 : Nat) (g5 : Int) (e5 : Hid (g5 = (f5 : Int))) (w : World) :
    Calls Try.prog 90 #[.int .i64 2, .int .i64 g5, .int .i64 (rd : Nat), .int .i64 (rs1 : Nat), .int .i64 (rs2 : Nat)] w (InsB (amoN 2 f5 rd rs1 rs2) w) := by
  by_cases h2 : f5 = 2
  · subst h2
    have e := e5.out
    simp at e
    subst e
    clear e5
    by_cases z : rs2 = 0
    · subst z
      have hr := Lib.hid (show ⟨20, 0, (rd : Nat), (rs1 : Nat), (0 : Nat), 0#64, sz 2, false, false, false, 0⟩ = amoN 2 2 rd rs1 0 from rfl)
      go_enter Try.func90, Try.ntmps90
      go_wp2_with fail
      refine ret_insb (b := w.heap.size) (cs := insC ⟨20, 0, (rd : Nat), (rs1 : Nat), (0 : Nat), 0#64, sz 2, false, false, false, 0⟩) (v := .bool true) rfl rfl rfl (by simp [rowI_alloc, rowI_setCell, rowI_setRow]; rfl) rfl rfl (insB_eq (insB_yes rfl (by repeat (first | with_reducible exact Below.refl _ _ | refine below_row ?_ _ (by simp) _ | refine below_setCell ?_ _ _ _ (by simp) | refine Below.alloc ?_ (by simp) _))) hr.out)
    · have nz : ((rs2 : Int) == 0) = false := by simp; omega
      have hr := Lib.hid (show noI = amoN 2 2 rd rs1 rs2 from (show noI = (if rs2 = 0 then _ else noI) from (if_neg z).symm))
      clear z
      go_enter Try.func90, Try.ntmps90
      go_wp2_with fail
      refine ret_insb (b := w.heap.size) (cs := insC ⟨20, 0, (rd : Nat), (rs1 : Nat), (rs2 : Nat), 0#64, sz 2, false, false, false, 0⟩) (v := .bool false) rfl rfl rfl (by simp [rowI_alloc, rowI_setCell, rowI_setRow]; rfl) rfl rfl (insB_eq (insB_no ⟨20, 0, (rd : Nat), (rs1 : Nat), (rs2 : Nat), 0#64, sz 2, false, false, false, 0⟩ rfl (by repeat (first | with_reducible exact Below.refl _ _ | refine below_row ?_ _ (by simp) _ | refine below_setCell ?_ _ _ _ (by simp) | refine Below.alloc ?_ (by simp) _))) hr.out)
  by_cases h3 : f5 = 3
  · subst h3
    have e := e5.out
    simp at e
    subst e
    clear e5
    clear h2
    have hr := Lib.hid (show ⟨21, 0, (rd : Nat), (rs1 : Nat), (rs2 : Nat), 0#64, sz 2, false, false, false, 0⟩ = amoN 2 3 rd rs1 rs2 from rfl)
    go_enter Try.func90, Try.ntmps90
    go_wp2_with fail
    refine ret_insb (b := w.heap.size) (cs := insC ⟨21, 0, (rd : Nat), (rs1 : Nat), (rs2 : Nat), 0#64, sz 2, false, false, false, 0⟩) (v := .bool true) rfl rfl rfl (by simp [rowI_alloc, rowI_setCell, rowI_setRow]; rfl) rfl rfl (insB_eq (insB_yes rfl (by repeat (first | with_reducible exact Below.refl _ _ | refine below_row ?_ _ (by simp) _ | refine below_setCell ?_ _ _ _ (by simp) | refine Below.alloc ?_ (by simp) _))) hr.out)
  by_cases h0 : f5 = 0
  · subst h0
    have e := e5.out
    simp at e
    subst e
    clear e5
    clear h2 h3
    have hr := Lib.hid (show ⟨22, (0 : Nat), (rd : Nat), (rs1 : Nat), (rs2 : Nat), 0#64, sz 2, false, false, false, 0⟩ = amoN 2 0 rd rs1 rs2 from rfl)
    go_enter Try.func90, Try.ntmps90
    go_wp2_with fail
    refine ret_insb (b := w.heap.size) (cs := insC ⟨22, (0 : Nat), (rd : Nat), (rs1 : Nat), (rs2 : Nat), 0#64, sz 2, false, false, false, 0⟩) (v := .bool true) rfl rfl rfl (by simp [rowI_alloc, rowI_setCell, rowI_setRow]; rfl) rfl rfl (insB_eq (insB_yes rfl (by repeat (first | with_reducible exact Below.refl _ _ | refine below_row ?_ _ (by simp) _ | refine below_setCell ?_ _ _ _ (by simp) | refine Below.alloc ?_ (by simp) _))) hr.out)
  by_cases h1 : f5 = 1
  · subst h1
    have e := e5.out
    simp at e
    subst e
    clear e5
    clear h2 h3 h0
    have hr := Lib.hid (show ⟨22, (1 : Nat), (rd : Nat), (rs1 : Nat), (rs2 : Nat), 0#64, sz 2, false, false, false, 0⟩ = amoN 2 1 rd rs1 rs2 from rfl)
    go_enter Try.func90, Try.ntmps90
    go_wp2_with fail
    refine ret_insb (b := w.heap.size) (cs := insC ⟨22, (1 : Nat), (rd : Nat), (rs1 : Nat), (rs2 : Nat), 0#64, sz 2, false, false, false, 0⟩) (v := .bool true) rfl rfl rfl (by simp [rowI_alloc, rowI_setCell, rowI_setRow]; rfl) rfl rfl (insB_eq (insB_yes rfl (by repeat (first | with_reducible exact Below.refl _ _ | refine below_row ?_ _ (by simp) _ | refine below_setCell ?_ _ _ _ (by simp) | refine Below.alloc ?_ (by simp) _))) hr.out)
  by_cases h4 : f5 = 4
  · subst h4
    have e := e5.out
    simp at e
    subst e
    clear e5
    clear h2 h3 h0 h1
    have hr := Lib.hid (show ⟨22, (4 : Nat), (rd : Nat), (rs1 : Nat), (rs2 : Nat), 0#64, sz 2, false, false, false, 0⟩ = amoN 2 4 rd rs1 rs2 from rfl)
    go_enter Try.func90, Try.ntmps90
    go_wp2_with fail
    refine ret_insb (b := w.heap.size) (cs := insC ⟨22, (4 : Nat), (rd : Nat), (rs1 : Nat), (rs2 : Nat), 0#64, sz 2, false, false, false, 0⟩) (v := .bool true) rfl rfl rfl (by simp [rowI_alloc, rowI_setCell, rowI_setRow]; rfl) rfl rfl (insB_eq (insB_yes rfl (by repeat (first | with_reducible exact Below.refl _ _ | refine below_row ?_ _ (by simp) _ | refine below_setCell ?_ _ _ _ (by simp) | refine Below.alloc ?_ (by simp) _))) hr.out)
  by_cases h8 : f5 = 8
  · subst h8
    have e := e5.out
    simp at e
    subst e
    clear e5
    clear h2 h3 h0 h1 h4
    have hr := Lib.hid (show ⟨22, (8 : Nat), (rd : Nat), (rs1 : Nat), (rs2 : Nat), 0#64, sz 2, false, false, false, 0⟩ = amoN 2 8 rd rs1 rs2 from rfl)
    go_enter Try.func90, Try.ntmps90
    go_wp2_with fail
    refine ret_insb (b := w.heap.size) (cs := insC ⟨22, (8 : Nat), (rd : Nat), (rs1 : Nat), (rs2 : Nat), 0#64, sz 2, false, false, false, 0⟩) (v := .bool true) rfl rfl rfl (by simp [rowI_alloc, rowI_setCell, rowI_setRow]; rfl) rfl rfl (insB_eq (insB_yes rfl (by repeat (first | with_reducible exact Below.refl _ _ | refine below_row ?_ _ (by simp) _ | refine below_setCell ?_ _ _ _ (by simp) | refine Below.alloc ?_ (by simp) _))) hr.out)
  by_cases h12 : f5 = 12
  · subst h12
    have e := e5.out
    simp at e
    subst e
    clear e5
    clear h2 h3 h0 h1 h4 h8
    have hr := Lib.hid (show ⟨22, (12 : Nat), (rd : Nat), (rs1 : Nat), (rs2 : Nat), 0#64, sz 2, false, false, false, 0⟩ = amoN 2 12 rd rs1 rs2 from rfl)
    go_enter Try.func90, Try.ntmps90
    go_wp2_with fail
    refine ret_insb (b := w.heap.size) (cs := insC ⟨22, (12 : Nat), (rd : Nat), (rs1 : Nat), (rs2 : Nat), 0#64, sz 2, false, false, false, 0⟩) (v := .bool true) rfl rfl rfl (by simp [rowI_alloc, rowI_setCell, rowI_setRow]; rfl) rfl rfl (insB_eq (insB_yes rfl (by repeat (first | with_reducible exact Below.refl _ _ | refine below_row ?_ _ (by simp) _ | refine below_setCell ?_ _ _ _ (by simp) | refine Below.alloc ?_ (by simp) _))) hr.out)
  by_cases h16 : f5 = 16
  · subst h16
    have e := e5.out
    simp at e
    subst e
    clear e5
    clear h2 h3 h0 h1 h4 h8 h12
    have hr := Lib.hid (show ⟨22, (16 : Nat), (rd : Nat), (rs1 : Nat), (rs2 : Nat), 0#64, sz 2, false, false, false, 0⟩ = amoN 2 16 rd rs1 rs2 from rfl)
    go_enter Try.func90, Try.ntmps90
    go_wp2_with fail
    refine ret_insb (b := w.heap.size) (cs := insC ⟨22, (16 : Nat), (rd : Nat), (rs1 : Nat), (rs2 : Nat), 0#64, sz 2, false, false, false, 0⟩) (v := .bool true) rfl rfl rfl (by simp [rowI_alloc, rowI_setCell, rowI_setRow]; rfl) rfl rfl (insB_eq (insB_yes rfl (by repeat (first | with_reducible exact Below.refl _ _ | refine below_row ?_ _ (by simp) _ | refine below_setCell ?_ _ _ _ (by simp) | refine Below.alloc ?_ (by simp) _))) hr.out)
  by_cases h20 : f5 = 20
  · subst h20
    have e := e5.out
    simp at e
    subst e
    clear e5
    clear h2 h3 h0 h1 h4 h8 h12 h16
    have hr := Lib.hid (show ⟨22, (20 : Nat), (rd : Nat), (rs1 : Nat), (rs2 : Nat), 0#64, sz 2, false, false, false, 0⟩ = amoN 2 20 rd rs1 rs2 from rfl)
    go_enter Try.func90, Try.ntmps90
    go_wp2_with fail
    refine ret_insb (b := w.heap.size) (cs := insC ⟨22, (20 : Nat), (rd : Nat), (rs1 : Nat), (rs2 : Nat), 0#64, sz 2, false, false, false, 0⟩) (v := .bool true) rfl rfl rfl (by simp [rowI_alloc, rowI_setCell, rowI_setRow]; rfl) rfl rfl (insB_eq (insB_yes rfl (by repeat (first | with_reducible exact Below.refl _ _ | refine below_row ?_ _ (by simp) _ | refine below_setCell ?_ _ _ _ (by simp) | refine Below.alloc ?_ (by simp) _))) hr.out)
  by_cases h24 : f5 = 24
  · subst h24
    have e := e5.out
    simp at e
    subst e
    clear e5
    clear h2 h3 h0 h1 h4 h8 h12 h16 h20
    have hr := Lib.hid (show ⟨22, (24 : Nat), (rd : Nat), (rs1 : Nat), (rs2 : Nat), 0#64, sz 2, false, false, false, 0⟩ = amoN 2 24 rd rs1 rs2 from rfl)
    go_enter Try.func90, Try.ntmps90
    go_wp2_with fail
    refine ret_insb (b := w.heap.size) (cs := insC ⟨22, (24 : Nat), (rd : Nat), (rs1 : Nat), (rs2 : Nat), 0#64, sz 2, false, false, false, 0⟩) (v := .bool true) rfl rfl rfl (by simp [rowI_alloc, rowI_setCell, rowI_setRow]; rfl) rfl rfl (insB_eq (insB_yes rfl (by repeat (first | with_reducible exact Below.refl _ _ | refine below_row ?_ _ (by simp) _ | refine below_setCell ?_ _ _ _ (by simp) | refine Below.alloc ?_ (by simp) _))) hr.out)
  by_cases h28 : f5 = 28
  · subst h28
    have e := e5.out
    simp at e
    subst e
    clear e5
    clear h2 h3 h0 h1 h4 h8 h12 h16 h20 h24
    have hr := Lib.hid (show ⟨22, (28 : Nat), (rd : Nat), (rs1 : Nat), (rs2 : Nat), 0#64, sz 2, false, false, false, 0⟩ = amoN 2 28 rd rs1 rs2 from rfl)
    go_enter Try.func90, Try.ntmps90
    go_wp2_with fail
    refine ret_insb (b := w.heap.size) (cs := insC ⟨22, (28 : Nat), (rd : Nat), (rs1 : Nat), (rs2 : Nat), 0#64, sz 2, false, false, false, 0⟩) (v := .bool true) rfl rfl rfl (by simp [rowI_alloc, rowI_setCell, rowI_setRow]; rfl) rfl rfl (insB_eq (insB_yes rfl (by repeat (first | with_reducible exact Below.refl _ _ | refine below_row ?_ _ (by simp) _ | refine below_setCell ?_ _ _ _ (by simp) | refine Below.alloc ?_ (by simp) _))) hr.out)
  have q2 : (g5 == 2) = false := by have := e5.out; simp; omega
  have q3 : (g5 == 3) = false := by have := e5.out; simp; omega
  have q0 : (g5 == 0) = false := by have := e5.out; simp; omega
  have q1 : (g5 == 1) = false := by have := e5.out; simp; omega
  have q4 : (g5 == 4) = false := by have := e5.out; simp; omega
  have q8 : (g5 == 8) = false := by have := e5.out; simp; omega
  have q12 : (g5 == 12) = false := by have := e5.out; simp; omega
  have q16 : (g5 == 16) = false := by have := e5.out; simp; omega
  have q20 : (g5 == 20) = false := by have := e5.out; simp; omega
  have q24 : (g5 == 24) = false := by have := e5.out; simp; omega
  have q28 : (g5 == 28) = false := by have := e5.out; simp; omega
  have hr := Lib.hid (show noI = amoN 2 f5 rd rs1 rs2 from by unfold amoN; rw [if_pos (by omega), if_neg h2, if_neg h3, if_neg (by simp [amoSet]; omega)])
  have hg : g5 = (f5 : Nat) := e5.out
  have bg := Lib.hid hg
  clear hg h2 h3 h0 h1 h4 h8 h12 h16 h20 h24 h28
  go_enter Try.func90, Try.ntmps90
  go_wp2_with fail
  refine ret_insb (b := w.heap.size) (cs := insC ⟨22, g5, (rd : Nat), (rs1 : Nat), (rs2 : Nat), 0#64, sz 2, false, false, false, 0⟩) (v := .bool false) rfl rfl rfl (by simp [rowI_alloc, rowI_setCell, rowI_setRow]; rfl) rfl rfl (insB_eq (insB_no ⟨22, g5, (rd : Nat), (rs1 : Nat), (rs2 : Nat), 0#64, sz 2, false, false, false, 0⟩ rfl (by repeat (first | with_reducible exact Below.refl _ _ | refine below_row ?_ _ (by simp) _ | refine below_setCell ?_ _ _ _ (by simp) | refine Below.alloc ?_ (by simp) _))) hr.out)
set_option maxHeartbeats 40000000 in
theorem ramo_3 (f5 rd rs1 rs2 : Nat) (g5 : Int) (e5 : Hid (g5 = (f5 : Int))) (w : World) :
    Calls Try.prog 90 #[.int .i64 3, .int .i64 g5, .int .i64 (rd : Nat), .int .i64 (rs1 : Nat), .int .i64 (rs2 : Nat)] w (InsB (amoN 3 f5 rd rs1 rs2) w) := by
  by_cases h2 : f5 = 2
  · subst h2
    have e := e5.out
    simp at e
    subst e
    clear e5
    by_cases z : rs2 = 0
    · subst z
      have hr := Lib.hid (show ⟨20, 0, (rd : Nat), (rs1 : Nat), (0 : Nat), 0#64, sz 3, false, false, false, 0⟩ = amoN 3 2 rd rs1 0 from rfl)
      go_enter Try.func90, Try.ntmps90
      go_wp2_with fail
      refine ret_insb (b := w.heap.size) (cs := insC ⟨20, 0, (rd : Nat), (rs1 : Nat), (0 : Nat), 0#64, sz 3, false, false, false, 0⟩) (v := .bool true) rfl rfl rfl (by simp [rowI_alloc, rowI_setCell, rowI_setRow]; rfl) rfl rfl (insB_eq (insB_yes rfl (by repeat (first | with_reducible exact Below.refl _ _ | refine below_row ?_ _ (by simp) _ | refine below_setCell ?_ _ _ _ (by simp) | refine Below.alloc ?_ (by simp) _))) hr.out)
    · have nz : ((rs2 : Int) == 0) = false := by simp; omega
      have hr := Lib.hid (show noI = amoN 3 2 rd rs1 rs2 from (show noI = (if rs2 = 0 then _ else noI) from (if_neg z).symm))
      clear z
      go_enter Try.func90, Try.ntmps90
      go_wp2_with fail
      refine ret_insb (b := w.heap.size) (cs := insC ⟨20, 0, (rd : Nat), (rs1 : Nat), (rs2 : Nat), 0#64, sz 3, false, false, false, 0⟩) (v := .bool false) rfl rfl rfl (by simp [rowI_alloc, rowI_setCell, rowI_setRow]; rfl) rfl rfl (insB_eq (insB_no ⟨20, 0, (rd : Nat), (rs1 : Nat), (rs2 : Nat), 0#64, sz 3, false, false, false, 0⟩ rfl (by repeat (first | with_reducible exact Below.refl _ _ | refine below_row ?_ _ (by simp) _ | refine below_setCell ?_ _ _ _ (by simp) | refine Below.alloc ?_ (by simp) _))) hr.out)
  by_cases h3 : f5 = 3
  · subst h3
    have e := e5.out
    simp at e
    subst e
    clear e5
    clear h2
    have hr := Lib.hid (show ⟨21, 0, (rd : Nat), (rs1 : Nat), (rs2 : Nat), 0#64, sz 3, false, false, false, 0⟩ = amoN 3 3 rd rs1 rs2 from rfl)
    go_enter Try.func90, Try.ntmps90
    go_wp2_with fail
    refine ret_insb (b := w.heap.size) (cs := insC ⟨21, 0, (rd : Nat), (rs1 : Nat), (rs2 : Nat), 0#64, sz 3, false, false, false, 0⟩) (v := .bool true) rfl rfl rfl (by simp [rowI_alloc, rowI_setCell, rowI_setRow]; rfl) rfl rfl (insB_eq (insB_yes rfl (by repeat (first | with_reducible exact Below.refl _ _ | refine below_row ?_ _ (by simp) _ | refine below_setCell ?_ _ _ _ (by simp) | refine Below.alloc ?_ (by simp) _))) hr.out)
  by_cases h0 : f5 = 0
  · subst h0
    have e := e5.out
    simp at e
    subst e
    clear e5
    clear h2 h3
    have hr := Lib.hid (show ⟨22, (0 : Nat), (rd : Nat), (rs1 : Nat), (rs2 : Nat), 0#64, sz 3, false, false, false, 0⟩ = amoN 3 0 rd rs1 rs2 from rfl)
    go_enter Try.func90, Try.ntmps90
    go_wp2_with fail
    refine ret_insb (b := w.heap.size) (cs := insC ⟨22, (0 : Nat), (rd : Nat), (rs1 : Nat), (rs2 : Nat), 0#64, sz 3, false, false, false, 0⟩) (v := .bool true) rfl rfl rfl (by simp [rowI_alloc, rowI_setCell, rowI_setRow]; rfl) rfl rfl (insB_eq (insB_yes rfl (by repeat (first | with_reducible exact Below.refl _ _ | refine below_row ?_ _ (by simp) _ | refine below_setCell ?_ _ _ _ (by simp) | refine Below.alloc ?_ (by simp) _))) hr.out)
  by_cases h1 : f5 = 1
  · subst h1
    have e := e5.out
    simp at e
    subst e
    clear e5
    clear h2 h3 h0
    have hr := Lib.hid (show ⟨22, (1 : Nat), (rd : Nat), (rs1 : Nat), (rs2 : Nat), 0#64, sz 3, false, false, false, 0⟩ = amoN 3 1 rd rs1 rs2 from rfl)
    go_enter Try.func90, Try.ntmps90
    go_wp2_with fail
    refine ret_insb (b := w.heap.size) (cs := insC ⟨22, (1 : Nat), (rd : Nat), (rs1 : Nat), (rs2 : Nat), 0#64, sz 3, false, false, false, 0⟩) (v := .bool true) rfl rfl rfl (by simp [rowI_alloc, rowI_setCell, rowI_setRow]; rfl) rfl rfl (insB_eq (insB_yes rfl (by repeat (first | with_reducible exact Below.refl _ _ | refine below_row ?_ _ (by simp) _ | refine below_setCell ?_ _ _ _ (by simp) | refine Below.alloc ?_ (by simp) _))) hr.out)
  by_cases h4 : f5 = 4
  · subst h4
    have e := e5.out
    simp at e
    subst e
    clear e5
    clear h2 h3 h0 h1
    have hr := Lib.hid (show ⟨22, (4 : Nat), (rd : Nat), (rs1 : Nat), (rs2 : Nat), 0#64, sz 3, false, false, false, 0⟩ = amoN 3 4 rd rs1 rs2 from rfl)
    go_enter Try.func90, Try.ntmps90
    go_wp2_with fail
    refine ret_insb (b := w.heap.size) (cs := insC ⟨22, (4 : Nat), (rd : Nat), (rs1 : Nat), (rs2 : Nat), 0#64, sz 3, false, false, false, 0⟩) (v := .bool true) rfl rfl rfl (by simp [rowI_alloc, rowI_setCell, rowI_setRow]; rfl) rfl rfl (insB_eq (insB_yes rfl (by repeat (first | with_reducible exact Below.refl _ _ | refine below_row ?_ _ (by simp) _ | refine below_setCell ?_ _ _ _ (by simp) | refine Below.alloc ?_ (by simp) _))) hr.out)
  by_cases h8 : f5 = 8
  · subst h8
    have e := e5.out
    simp at e
    subst e
    clear e5
    clear h2 h3 h0 h1 h4
    have hr := Lib.hid (show ⟨22, (8 : Nat), (rd : Nat), (rs1 : Nat), (rs2 : Nat), 0#64, sz 3, false, false, false, 0⟩ = amoN 3 8 rd rs1 rs2 from rfl)
    go_enter Try.func90, Try.ntmps90
    go_wp2_with fail
    refine ret_insb (b := w.heap.size) (cs := insC ⟨22, (8 : Nat), (rd : Nat), (rs1 : Nat), (rs2 : Nat), 0#64, sz 3, false, false, false, 0⟩) (v := .bool true) rfl rfl rfl (by simp [rowI_alloc, rowI_setCell, rowI_setRow]; rfl) rfl rfl (insB_eq (insB_yes rfl (by repeat (first | with_reducible exact Below.refl _ _ | refine below_row ?_ _ (by simp) _ | refine below_setCell ?_ _ _ _ (by simp) | refine Below.alloc ?_ (by simp) _))) hr.out)
  by_cases h12 : f5 = 12
  · subst h12
    have e := e5.out
    simp at e
    subst e
    clear e5
    clear h2 h3 h0 h1 h4 h8
    have hr := Lib.hid (show ⟨22, (12 : Nat), (rd : Nat), (rs1 : Nat), (rs2 : Nat), 0#64, sz 3, false, false, false, 0⟩ = amoN 3 12 rd rs1 rs2 from rfl)
    go_enter Try.func90, Try.ntmps90
    go_wp2_with fail
    refine ret_insb (b := w.heap.size) (cs := insC ⟨22, (12 : Nat), (rd : Nat), (rs1 : Nat), (rs2 : Nat), 0#64, sz 3, false, false, false, 0⟩) (v := .bool true) rfl rfl rfl (by simp [rowI_alloc, rowI_setCell, rowI_setRow]; rfl) rfl rfl (insB_eq (insB_yes rfl (by repeat (first | with_reducible exact Below.refl _ _ | refine below_row ?_ _ (by simp) _ | refine below_setCell ?_ _ _ _ (by simp) | refine Below.alloc ?_ (by simp) _))) hr.out)
  by_cases h16 : f5 = 16
  · subst h16
    have e := e5.out
    simp at e
    subst e
    clear e5
    clear h2 h3 h0 h1 h4 h8 h12
    have hr := Lib.hid (show ⟨22, (16 : Nat), (rd : Nat), (rs1 : Nat), (rs2 : Nat), 0#64, sz 3, false, false, false, 0⟩ = amoN 3 16 rd rs1 rs2 from rfl)
    go_enter Try.func90, Try.ntmps90
    go_wp2_with fail
    refine ret_insb (b := w.heap.size) (cs := insC ⟨22, (16 : Nat), (rd : Nat), (rs1 : Nat), (rs2 : Nat), 0#64, sz 3, false, false, false, 0⟩) (v := .bool true) rfl rfl rfl (by simp [rowI_alloc, rowI_setCell, rowI_setRow]; rfl) rfl rfl (insB_eq (insB_yes rfl (by repeat (first | with_reducible exact Below.refl _ _ | refine below_row ?_ _ (by simp) _ | refine below_setCell ?_ _ _ _ (by simp) | refine Below.alloc ?_ (by simp) _))) hr.out)
  by_cases h20 : f5 = 20
  · subst h20
    have e := e5.out
    simp at e
    subst e
    clear e5
    clear h2 h3 h0 h1 h4 h8 h12 h16
    have hr := Lib.hid (show ⟨22, (20 : Nat), (rd : Nat), (rs1 : Nat), (rs2 : Nat), 0#64, sz 3, false, false, false, 0⟩ = amoN 3 20 rd rs1 rs2 from rfl)
    go_enter Try.func90, Try.ntmps90
    go_wp2_with fail
    refine ret_insb (b := w.heap.size) (cs := insC ⟨22, (20 : Nat), (rd : Nat), (rs1 : Nat), (rs2 : Nat), 0#64, sz 3, false, false, false, 0⟩) (v := .bool true) rfl rfl rfl (by simp [rowI_alloc, rowI_setCell, rowI_setRow]; rfl) rfl rfl (insB_eq (insB_yes rfl (by repeat (first | with_reducible exact Below.refl _ _ | refine below_row ?_ _ (by simp) _ | refine below_setCell ?_ _ _ _ (by simp) | refine Below.alloc ?_ (by simp) _))) hr.out)
  by_cases h24 : f5 = 24
  · subst h24
    have e := e5.out
    simp at e
    subst e
    clear e5
    clear h2 h3 h0 h1 h4 h8 h12 h16 h20
    have hr := Lib.hid (show ⟨22, (24 : Nat), (rd : Nat), (rs1 : Nat), (rs2 : Nat), 0#64, sz 3, false, false, false, 0⟩ = amoN 3 24 rd rs1 rs2 from rfl)
    go_enter Try.func90, Try.ntmps90
    go_wp2_with fail
    refine ret_insb (b := w.heap.size) (cs := insC ⟨22, (24 : Nat), (rd : Nat), (rs1 : Nat), (rs2 : Nat), 0#64, sz 3, false, false, false, 0⟩) (v := .bool true) rfl rfl rfl (by simp [rowI_alloc, rowI_setCell, rowI_setRow]; rfl) rfl rfl (insB_eq (insB_yes rfl (by repeat (first | with_reducible exact Below.refl _ _ | refine below_row ?_ _ (by simp) _ | refine below_setCell ?_ _ _ _ (by simp) | refine Below.alloc ?_ (by simp) _))) hr.out)
  by_cases h28 : f5 = 28
  · subst h28
    have e := e5.out
    simp at e
    subst e
    clear e5
    clear h2 h3 h0 h1 h4 h8 h12 h16 h20 h24
    have hr := Lib.hid (show ⟨22, (28 : Nat), (rd : Nat), (rs1 : Nat), (rs2 : Nat), 0#64, sz 3, false, false, false, 0⟩ = amoN 3 28 rd rs1 rs2 from rfl)
    go_enter Try.func90, Try.ntmps90
    go_wp2_with fail
    refine ret_insb (b := w.heap.size) (cs := insC ⟨22, (28 : Nat), (rd : Nat), (rs1 : Nat), (rs2 : Nat), 0#64, sz 3, false, false, false, 0⟩) (v := .bool true) rfl rfl rfl (by simp [rowI_alloc, rowI_setCell, rowI_setRow]; rfl) rfl rfl (insB_eq (insB_yes rfl (by repeat (first | with_reducible exact Below.refl _ _ | refine below_row ?_ _ (by simp) _ | refine below_setCell ?_ _ _ _ (by simp) | refine Below.alloc ?_ (by simp) _))) hr.out)
  have q2 : (g5 == 2) = false := by have := e5.out; simp; omega
  have q3 : (g5 == 3) = false := by have := e5.out; simp; omega
  have q0 : (g5 == 0) = false := by have := e5.out; simp; omega
  have q1 : (g5 == 1) = false := by have := e5.out; simp; omega
  have q4 : (g5 == 4) = false := by have := e5.out; simp; omega
  have q8 : (g5 == 8) = false := by have := e5.out; simp; omega
  have q12 : (g5 == 12) = false := by have := e5.out; simp; omega
  have q16 : (g5 == 16) = false := by have := e5.out; simp; omega
  have q20 : (g5 == 20) = false := by have := e5.out; simp; omega
  have q24 : (g5 == 24) = false := by have := e5.out; simp; omega
  have q28 : (g5 == 28) = false := by have := e5.out; simp; omega
  have hr := Lib.hid (show noI = amoN 3 f5 rd rs1 rs2 from by unfold amoN; rw [if_pos (by omega), if_neg h2, if_neg h3, if_neg (by simp [amoSet]; omega)])
  have hg : g5 = (f5 : Nat) := e5.out
  have bg := Lib.hid hg
  clear hg h2 h3 h0 h1 h4 h8 h12 h16 h20 h24 h28
  go_enter Try.func90, Try.ntmps90
  go_wp2_with fail
  refine ret_insb (b := w.heap.size) (cs := insC ⟨22, g5, (rd : Nat), (rs1 : Nat), (rs2 : Nat), 0#64, sz 3, false, false, false, 0⟩) (v := .bool false) rfl rfl rfl (by simp [rowI_alloc, rowI_setCell, rowI_setRow]; rfl) rfl rfl (insB_eq (insB_no ⟨22, g5, (rd : Nat), (rs1 : Nat), (rs2 : Nat), 0#64, sz 3, false, false, false, 0⟩ rfl (by repeat (first | with_reducible exact Below.refl _ _ | refine below_row ?_ _ (by simp) _ | refine below_setCell ?_ _ _ _ (by simp) | refine Below.alloc ?_ (by simp) _))) hr.out)
set_option maxHeartbeats 40000000 in
theorem ramo_no (f3 f5 rd rs1 rs2 : Nat) (g3 g5 : Int) (e3 : Hid (g3 = (f3 : Int))) (e5 : Hid (g5 = (f5 : Int))) (h3 : f3 < 8) (hf : ¬ (f3 = 2 ∨ f3 = 3)) (w : World) :
    Calls Try.prog 90 #[.int .i64 g3, .int .i64 g5, .int .i64 (rd : Nat), .int .i64 (rs1 : Nat), .int .i64 (rs2 : Nat)] w (InsB (amoN f3 f5 rd rs1 rs2) w) := by
  have q2' : (g3 == 2) = false := by have := e3.out; simp; omega
  have q3' : (g3 == 3) = false := by have := e3.out; simp; omega
  have b0 : 0 ≤ g3 := by rw [e3.out]; omega
  have b8 : g3 < 8 := by rw [e3.out]; omega
  have hN := Lib.hid (show ∀ f5, noI = amoN f3 f5 rd rs1 rs2 from fun f5 => (if_neg hf).symm)
  clear e3 h3 hf
  by_cases h2 : f5 = 2
  · subst h2
    have e := e5.out
    simp at e
    subst e
    clear e5
    by_cases z : rs2 = 0
    · subst z
      have hr := Lib.hid (hN.out 2)
      go_enter Try.func90, Try.ntmps90
      go_wp2_with fail
      refine ret_insb (b := w.heap.size) (cs := insC ⟨20, 0, (rd : Nat), (rs1 : Nat), (0 : Nat), 0#64, _, false, false, false, 0⟩) (v := .bool false) rfl rfl rfl (by simp [rowI_alloc, rowI_setCell, rowI_setRow]; rfl) rfl rfl (insB_eq (insB_no ⟨20, 0, (rd : Nat), (rs1 : Nat), (0 : Nat), 0#64, _, false, false, false, 0⟩ rfl (by repeat (first | with_reducible exact Below.refl _ _ | refine below_row ?_ _ (by simp) _ | refine below_setCell ?_ _ _ _ (by simp) | refine Below.alloc ?_ (by simp) _))) hr.out)
    · have nz : ((rs2 : Int) == 0) = false := by simp; omega
      clear z
      have hr := Lib.hid (hN.out 2)
      go_enter Try.func90, Try.ntmps90
      go_wp2_with fail
      refine ret_insb (b := w.heap.size) (cs := insC ⟨20, 0, (rd : Nat), (rs1 : Nat), (rs2 : Nat), 0#64, _, false, false, false, 0⟩) (v := .bool false) rfl rfl rfl (by simp [rowI_alloc, rowI_setCell, rowI_setRow]; rfl) rfl rfl (insB_eq (insB_no ⟨20, 0, (rd : Nat), (rs1 : Nat), (rs2 : Nat), 0#64, _, false, false, false, 0⟩ rfl (by repeat (first | with_reducible exact Below.refl _ _ | refine below_row ?_ _ (by simp) _ | refine below_setCell ?_ _ _ _ (by simp) | refine Below.alloc ?_ (by simp) _))) hr.out)
  by_cases h3 : f5 = 3
  · subst h3
    have e := e5.out
    simp at e
    subst e
    clear e5
    clear h2
    have hr := Lib.hid (hN.out 3)
    go_enter Try.func90, Try.ntmps90
    go_wp2_with fail
    refine ret_insb (b := w.heap.size) (cs := insC ⟨21, 0, (rd : Nat), (rs1 : Nat), (rs2 : Nat), 0#64, _, false, false, false, 0⟩) (v := .bool false) rfl rfl rfl (by simp [rowI_alloc, rowI_setCell, rowI_setRow]; rfl) rfl rfl (insB_eq (insB_no ⟨21, 0, (rd : Nat), (rs1 : Nat), (rs2 : Nat), 0#64, _, false, false, false, 0⟩ rfl (by repeat (first | with_reducible exact Below.refl _ _ | refine below_row ?_ _ (by simp) _ | refine below_setCell ?_ _ _ _ (by simp) | refine Below.alloc ?_ (by simp) _))) hr.out)
  by_cases h0 : f5 = 0
  · subst h0
    have e := e5.out
    simp at e
    subst e
    clear e5
    clear h2 h3
    have hr := Lib.hid (hN.out 0)
    go_enter Try.func90, Try.ntmps90
    go_wp2_with fail
    refine ret_insb (b := w.heap.size) (cs := insC ⟨22, (0 : Nat), (rd : Nat), (rs1 : Nat), (rs2 : Nat), 0#64, _, false, false, false, 0⟩) (v := .bool false) rfl rfl rfl (by simp [rowI_alloc, rowI_setCell, rowI_setRow]; rfl) rfl rfl (insB_eq (insB_no ⟨22, (0 : Nat), (rd : Nat), (rs1 : Nat), (rs2 : Nat), 0#64, _, false, false, false, 0⟩ rfl (by repeat (first | with_reducible exact Below.refl _ _ | refine below_row ?_ _ (by simp) _ | refine below_setCell ?_ _ _ _ (by simp) | refine Below.alloc ?_ (by simp) _))) hr.out)
  by_cases h1 : f5 = 1
  · subst h1
    have e := e5.out
    simp at e
    subst e
    clear e5
    clear h2 h3 h0
    have hr := Lib.hid (hN.out 1)
    go_enter Try.func90, Try.ntmps90
    go_wp2_with fail
    refine ret_insb (b := w.heap.size) (cs := insC ⟨22, (1 : Nat), (rd : Nat), (rs1 : Nat), (rs2 : Nat), 0#64, _, false, false, false, 0⟩) (v := .bool false) rfl rfl rfl (by simp [rowI_alloc, rowI_setCell, rowI_setRow]; rfl) rfl rfl (insB_eq (insB_no ⟨22, (1 : Nat), (rd : Nat), (rs1 : Nat), (rs2 : Nat), 0#64, _, false, false, false, 0⟩ rfl (by repeat (first | with_reducible exact Below.refl _ _ | refine below_row ?_ _ (by simp) _ | refine below_setCell ?_ _ _ _ (by simp) | refine Below.alloc ?_ (by simp) _))) hr.out)
  by_cases h4 : f5 = 4
  · subst h4
    have e := e5.out
    simp at e
    subst e
    clear e5
    clear h2 h3 h0 h1
    have hr := Lib.hid (hN.out 4)
    go_enter Try.func90, Try.ntmps90
    go_wp2_with fail
    refine ret_insb (b := w.heap.size) (cs := insC ⟨22, (4 : Nat), (rd : Nat), (rs1 : Nat), (rs2 : Nat), 0#64, _, false, false, false, 0⟩) (v := .bool false) rfl rfl rfl (by simp [rowI_alloc, rowI_setCell, rowI_setRow]; rfl) rfl rfl (insB_eq (insB_no ⟨22, (4 : Nat), (rd : Nat), (rs1 : Nat), (rs2 : Nat), 0#64, _, false, false, false, 0⟩ rfl (by repeat (first | with_reducible exact Below.refl _ _ | refine below_row ?_ _ (by simp) _ | refine below_setCell ?_ _ _ _ (by simp) | refine Below.alloc ?_ (by simp) _))) hr.out)
  by_cases h8 : f5 = 8
  · subst h8
    have e := e5.out
    simp at e
    subst e
    clear e5
    clear h2 h3 h0 h1 h4
    have hr := Lib.hid (hN.out 8)
    go_enter Try.func90, Try.ntmps90
    go_wp2_with fail
    refine ret_insb (b := w.heap.size) (cs := insC ⟨22, (8 : Nat), (rd : Nat), (rs1 : Nat), (rs2 : Nat), 0#64, _, false, false, false, 0⟩) (v := .bool false) rfl rfl rfl (by simp [rowI_alloc, rowI_setCell, rowI_setRow]; rfl) rfl rfl (insB_eq (insB_no ⟨22, (8 : Nat), (rd : Nat), (rs1 : Nat), (rs2 : Nat), 0#64, _, false, false, false, 0⟩ rfl (by repeat (first | with_reducible exact Below.refl _ _ | refine below_row ?_ _ (by simp) _ | refine below_setCell ?_ _ _ _ (by simp) | refine Below.alloc ?_ (by simp) _))) hr.out)
  by_cases h12 : f5 = 12
  · subst h12
    have e := e5.out
    simp at e
    subst e
    clear e5
    clear h2 h3 h0 h1 h4 h8
    have hr := Lib.hid (hN.out 12)
    go_enter Try.func90, Try.ntmps90
    go_wp2_with fail
    refine ret_insb (b := w.heap.size) (cs := insC ⟨22, (12 : Nat), (rd : Nat), (rs1 : Nat), (rs2 : Nat), 0#64, _, false, false, false, 0⟩) (v := .bool false) rfl rfl rfl (by simp [rowI_alloc, rowI_setCell, rowI_setRow]; rfl) rfl rfl (insB_eq (insB_no ⟨22, (12 : Nat), (rd : Nat), (rs1 : Nat), (rs2 : Nat), 0#64, _, false, false, false, 0⟩ rfl (by repeat (first | with_reducible exact Below.refl _ _ | refine below_row ?_ _ (by simp) _ | refine below_setCell ?_ _ _ _ (by simp) | refine Below.alloc ?_ (by simp) _))) hr.out)
  by_cases h16 : f5 = 16
  · subst h16
    have e := e5.out
    simp at e
    subst e
    clear e5
    clear h2 h3 h0 h1 h4 h8 h12
    have hr := Lib.hid (hN.out 16)
    go_enter Try.func90, Try.ntmps90
    go_wp2_with fail
    refine ret_insb (b := w.heap.size) (cs := insC ⟨22, (16 : Nat), (rd : Nat), (rs1 : Nat), (rs2 : Nat), 0#64, _, false, false, false, 0⟩) (v := .bool false) rfl rfl rfl (by simp [rowI_alloc, rowI_setCell, rowI_setRow]; rfl) rfl rfl (insB_eq (insB_no ⟨22, (16 : Nat), (rd : Nat), (rs1 : Nat), (rs2 : Nat), 0#64, _, false, false, false, 0⟩ rfl (by repeat (first | with_reducible exact Below.refl _ _ | refine below_row ?_ _ (by simp) _ | refine below_setCell ?_ _ _ _ (by simp) | refine Below.alloc ?_ (by simp) _))) hr.out)
  by_cases h20 : f5 = 20
  · subst h20
    have e := e5.out
    simp at e
    subst e
    clear e5
    clear h2 h3 h0 h1 h4 h8 h12 h16
    have hr := Lib.hid (hN.out 20)
    go_enter Try.func90, Try.ntmps90
    go_wp2_with fail
    refine ret_insb (b := w.heap.size) (cs := insC ⟨22, (20 : Nat), (rd : Nat), (rs1 : Nat), (rs2 : Nat), 0#64, _, false, false, false, 0⟩) (v := .bool false) rfl rfl rfl (by simp [rowI_alloc, rowI_setCell, rowI_setRow]; rfl) rfl rfl (insB_eq (insB_no ⟨22, (20 : Nat), (rd : Nat), (rs1 : Nat), (rs2 : Nat), 0#64, _, false, false, false, 0⟩ rfl (by repeat (first | with_reducible exact Below.refl _ _ | refine below_row ?_ _ (by simp) _ | refine below_setCell ?_ _ _ _ (by simp) | refine Below.alloc ?_ (by simp) _))) hr.out)
  by_cases h24 : f5 = 24
  · subst h24
    have e := e5.out
    simp at e
    subst e
    clear e5
    clear h2 h3 h0 h1 h4 h8 h12 h16 h20
    have hr := Lib.hid (hN.out 24)
    go_enter Try.func90, Try.ntmps90
    go_wp2_with fail
    refine ret_insb (b := w.heap.size) (cs := insC ⟨22, (24 : Nat), (rd : Nat), (rs1 : Nat), (rs2 : Nat), 0#64, _, false, false, false, 0⟩) (v := .bool false) rfl rfl rfl (by simp [rowI_alloc, rowI_setCell, rowI_setRow]; rfl) rfl rfl (insB_eq (insB_no ⟨22, (24 : Nat), (rd : Nat), (rs1 : Nat), (rs2 : Nat), 0#64, _, false, false, false, 0⟩ rfl (by repeat (first | with_reducible exact Below.refl _ _ | refine below_row ?_ _ (by simp) _ | refine below_setCell ?_ _ _ _ (by simp) | refine Below.alloc ?_ (by simp) _))) hr.out)
  by_cases h28 : f5 = 28
  · subst h28
    have e := e5.out
    simp at e
    subst e
    clear e5
    clear h2 h3 h0 h1 h4 h8 h12 h16 h20 h24
    have hr := Lib.hid (hN.out 28)
    go_enter Try.func90, Try.ntmps90
    go_wp2_with fail
    refine ret_insb (b := w.heap.size) (cs := insC ⟨22, (28 : Nat), (rd : Nat), (rs1 : Nat), (rs2 : Nat), 0#64, _, false, false, false, 0⟩) (v := .bool false) rfl rfl rfl (by simp [rowI_alloc, rowI_setCell, rowI_setRow]; rfl) rfl rfl (insB_eq (insB_no ⟨22, (28 : Nat), (rd : Nat), (rs1 : Nat), (rs2 : Nat), 0#64, _, false, false, false, 0⟩ rfl (by repeat (first | with_reducible exact Below.refl _ _ | refine below_row ?_ _ (by simp) _ | refine below_setCell ?_ _ _ _ (by simp) | refine Below.alloc ?_ (by simp) _))) hr.out)
  have q2 : (g5 == 2) = false := by have := e5.out; simp; omega
  have q3 : (g5 == 3) = false := by have := e5.out; simp; omega
  have q0 : (g5 == 0) = false := by have := e5.out; simp; omega
  have q1 : (g5 == 1) = false := by have := e5.out; simp; omega
  have q4 : (g5 == 4) = false := by have := e5.out; simp; omega
  have q8 : (g5 == 8) = false := by have := e5.out; simp; omega
  have q12 : (g5 == 12) = false := by have := e5.out; simp; omega
  have q16 : (g5 == 16) = false := by have := e5.out; simp; omega
  have q20 : (g5 == 20) = false := by have := e5.out; simp; omega
  have q24 : (g5 == 24) = false := by have := e5.out; simp; omega
  have q28 : (g5 == 28) = false := by have := e5.out; simp; omega
  have hr := Lib.hid (hN.out f5)
  have hg : g5 = (f5 : Nat) := e5.out
  have bg := Lib.hid hg
  clear hg h2 h3 h0 h1 h4 h8 h12 h16 h20 h24 h28
  go_enter Try.func90, Try.ntmps90
  go_wp2_with fail
  refine ret_insb (b := w.heap.size) (cs := insC ⟨22, g5, (rd : Nat), (rs1 : Nat), (rs2 : Nat), 0#64, _, false, false, false, 0⟩) (v := .bool false) rfl rfl rfl (by simp [rowI_alloc, rowI_setCell, rowI_setRow]; rfl) rfl rfl (insB_eq (insB_no ⟨22, g5, (rd : Nat), (rs1 : Nat), (rs2 : Nat), 0#64, _, false, false, false, 0⟩ rfl (by repeat (first | with_reducible exact Below.refl _ _ | refine below_row ?_ _ (by simp) _ | refine below_setCell ?_ _ _ _ (by simp) | refine Below.alloc ?_ (by simp) _))) hr.out)
set_option maxHeartbeats 40000000 in
theorem ramo_at (f3 f5 rd rs1 rs2 : Nat) (g3 g5 : Int) (e3 : Hid (g3 = (f3 : Int))) (e5 : Hid (g5 = (f5 : Int))) (h3 : f3 < 8) (w : World) :
    Calls Try.prog 90 #[.int .i64 g3, .int .i64 g5, .int .i64 (rd : Nat), .int .i64 (rs1 : Nat), .int .i64 (rs2 : Nat)] w (InsB (amoN f3 f5 rd rs1 rs2) w) := by
  have hf : f3 = 2 ∨ f3 = 3 ∨ ¬ (f3 = 2 ∨ f3 = 3) := by omega
  rcases hf with rfl | rfl | hf
  · have e := e3.out
    simp at e
    subst e
    clear e3
    exact ramo_2 f5 rd rs1 rs2 g5 e5 w
  · have e := e3.out
    simp at e
    subst e
    clear e3
    exact ramo_3 f5 rd rs1 rs2 g5 e5 w
  · exact ramo_no f3 f5 rd rs1 rs2 g3 g5 e3 e5 h3 hf w
end Go.Proofs.Ytnhbekgmameeaaa
