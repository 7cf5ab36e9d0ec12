/- Contract: package decode's atomic. -/
import Derived.Test.YtnhbekgmameeaaaIns
import Derived.Test.YtnhbekgmameeaaaShape
import Derived.Test.YtnhbekgmameeaaaAndL
import Derived.Test.YtnhbekgmameeaaaIns3
import Derived.Deep.RegionWith
namespace Go.Proofs.Ytnhbekgmameeaaa
open Go.RowKit Wd
set_option linter.unusedVariables false
set_option linter.unusedSimpArgs false
attribute [local go_sem] loadI_lit storeI_lit rowI_alloc rowI_drew rowI_setRow rowI_setCell setRow_allocI and_L
attribute [local go_sem ↓] loadI_run storeI_run'
set_option maxRecDepth 8000
theorem q_cell (w : World) (n : Nat) (p : Addr) : (w.drewN n).cell? p = w.cell? p := rfl
theorem q_frozen (w : World) (n : Nat) (p : Addr) : (w.drewN n).frozen? p = w.frozen? p := rfl
theorem q_size (w : World) (n : Nat) : (w.drewN n).heap.size = w.heap.size := rfl
theorem q_setRow (w : World) (n b : Nat) (c : Array Value) : (w.drewN n).setRow b c = (w.setRow b c).drewN n := rfl
theorem q_setCell (w : World) (n : Nat) (p : Addr) (v : Value) : (w.drewN n).setCell p v = (w.setCell p v).drewN n := rfl
attribute [local go_sem ↓] storeK_eq
attribute [local go_sem] storeK_run storeK_one storeF_int
attribute [local go_sem] rowI_drewN q_setRow
/-- Behind the instruction's making: the result's block, the instruction's. -/
def MadeI (w : World) (c : Array Value) (s4 : Value) (wx : World) : Prop := ∃ b1, s4 = .pointer (some ⟨b1, 0, none⟩) ∧ w.heap.size < b1 ∧ rowI wx w.heap.size = some (insC noI) ∧ rowI wx b1 = some c ∧ Below w.heap.size w wx
theorem made_of {w w1 wx : World} {c : Array Value} (r0 : rowI w1 w.heap.size = some (insC noI)) (B : Below w.heap.size w w1) (hh : wx.heap = (w1.alloc (.cells c 44)).heap) (ho : wx.os = w1.os) (ht : wx.tape = w1.tape) (hu : wx.output = w1.output) : MadeI w c (.pointer (some ⟨w1.heap.size, 0, none⟩)) wx := by
  have hl := rowI_lt r0
  have r1 : rowI wx w.heap.size = some (insC noI) := by
    have : rowI (w1.alloc (.cells c 44)) w.heap.size = some (insC noI) := by rw [rowI_alloc, if_neg (by omega)]; exact r0
    exact rowI_of (by rw [hh]; exact rowI_heap this)
  have r2 : rowI wx w1.heap.size = some c := by
    have : rowI (w1.alloc (.cells c 44)) w1.heap.size = some c := by rw [rowI_alloc, if_pos rfl, if_pos rfl]
    exact rowI_of (by rw [hh]; exact rowI_heap this)
  have b2 := B.alloc (by omega) (.cells c 44)
  exact ⟨_, rfl, hl, r1, r2, ⟨ho.trans B.os, ht.trans B.tape, hu.trans B.output, by rw [hh]; exact b2.size, fun k hk => by rw [hh]; exact b2.block k hk⟩⟩
set_option maxHeartbeats 40000000 in
theorem atomic_at (x : Int) (f3 f7 rd rs1 rs2 : Nat) (g3 g7 : Int) (e3 : Hid (g3 = (f3 : Int))) (e7 : Hid (g7 = (f7 : Int)))
    (c3 : Hid (Mk Try.prog 25 #[.int .u32 x] (.int .i64 g3))) (cd : Hid (Qt Try.prog 24 #[.int .u32 x] (.int .i64 (rd : Int)))) (ca : Hid (Qt Try.prog 26 #[.int .u32 x] (.int .i64 (rs1 : Int)))) (cb : Hid (Qt Try.prog 27 #[.int .u32 x] (.int .i64 (rs2 : Int)))) (c7 : Hid (Mk Try.prog 28 #[.int .u32 x] (.int .i64 g7))) (w : World) :
    Calls Try.prog 69 #[.int .u32 x] w fun e w' => e = .returned (.agg (insC (amoN f3 (f7 / 4) rd rs1 rs2))) ∧ Below w.heap.size w w' := by
  have b7 : 0 ≤ g7 := by rw [e7.out]; omega
  go_enter Try.func69, Try.ntmps69
  go_wp2_with fail
  refine (c3.out _).mono ?_
  rintro e w1 ⟨rfl, hb1⟩
  obtain ⟨r0, BB⟩ := one_block hb1
  replace BB := Lib.hid BB
  replace r0 := Lib.hid r0
  clear hb1 c3
  by_cases hf : f3 = 2 ∨ f3 = 3
  · rcases hf with rfl | rfl
    all_goals
      have e := e3.out
      simp at e
      subst e
      clear e3
    · go_wp2_with fail
      go_cut [4] from 5 (fun s4 wx => MadeI w (#[.int .i64 0, .int .i64 0, .int .i64 (rd : Int), .int .i64 (rs1 : Int), .int .i64 (rs2 : Int), .int .u64 0, .int .i64 4, .bool false, .bool false, .bool false, .int .i64 0]) s4 wx)
      case first =>
        go_region_with (first
          | (go_at_call 24; refine (cd.out _).mono ?_; rintro e _ ⟨rfl, n2, rfl⟩)
          | (go_at_call 26; refine (ca.out _).mono ?_; rintro e _ ⟨rfl, n3, rfl⟩)
          | (go_at_call 27; refine (cb.out _).mono ?_; rintro e _ ⟨rfl, n4, rfl⟩))
        all_goals
          go_wp2_with fail
          go_meet
          case rel => exact made_of r0.out BB.out rfl rfl rfl rfl
      case rest =>
        clear r0 BB cd ca cb
        obtain ⟨b1, rfl, hlt, r0, r1, BB⟩ := hcut
        replace r0 : rowI wc w.heap.size = some #[.int .i64 0, .int .i64 0, .int .i64 0, .int .i64 0, .int .i64 0, .int .u64 0, .int .i64 0, .bool false, .bool false, .bool false, .int .i64 0] := r0
        go_wp2_with fail
        refine (c7.out _).mono ?_
        rintro e w6 ⟨rfl, hb6⟩
        obtain ⟨q0, q1, cc, cf⟩ := rows2 r0 r1 hb6
        have B6 := Lib.hid (BB.trans (hb6.mono BB.size))
        have n1 : ¬ w.heap.size = b1 := by omega
        have n2 : ¬ b1 = w.heap.size := by omega
        replace hlt := Lib.hid (Nat.le_of_lt hlt)
        clear r0 r1 hb6 BB c7
        by_cases k2 : f7 / 4 = 2
        · have hq : g7 / 4 = 2 := by have := e7.out; omega
          by_cases z : rs2 = 0
          · have hr := Lib.hid (show amoN 2 (f7 / 4) rd rs1 rs2 = ⟨20, 0, (rd : Nat), (rs1 : Nat), (rs2 : Nat), 0#64, sz 2, false, false, false, 0⟩ from by rw [k2, z]; rfl)
            have nz : ((rs2 : Int) != 0) = false := by simp; omega
            clear z
            clear e7 b7
            go_wp2_with fail
            refine ret_ins (cs := insC ⟨20, 0, (rd : Nat), (rs1 : Nat), (rs2 : Nat), 0#64, sz 2, false, false, false, 0⟩) rfl rfl (by simp only [rowI_setRow, if_true, rowI_setCell, n1, if_false, q0, Option.map_some]; rfl) rfl rfl ⟨by rw [hr.out], ?_⟩
            refine below_row ?_ _ (Nat.le_refl _) _
            repeat (refine below_setCell ?_ _ _ _ ?_)
            all_goals first | exact B6.out | exact hlt.out
          · have hr := Lib.hid (show amoN 2 (f7 / 4) rd rs1 rs2 = noI from by rw [k2]; show (if rs2 = 0 then _ else noI) = noI; exact if_neg z)
            have nz : ((rs2 : Int) != 0) = true := by simp; omega
            clear z
            clear e7 b7
            go_wp2_with fail
            refine ret_ins (cs := insC noI) rfl rfl (by simp only [rowI_setRow, if_true, rowI_setCell, n1, if_false, q0, Option.map_some]; rfl) rfl rfl ⟨by rw [hr.out], ?_⟩
            refine below_row ?_ _ (Nat.le_refl _) _
            repeat (refine below_setCell ?_ _ _ _ ?_)
            all_goals first | exact B6.out | exact hlt.out
        by_cases k3 : f7 / 4 = 3
        · have hq : g7 / 4 = 3 := by have := e7.out; omega
          have hr := Lib.hid (show amoN 2 (f7 / 4) rd rs1 rs2 = ⟨21, 0, (rd : Nat), (rs1 : Nat), (rs2 : Nat), 0#64, sz 2, false, false, false, 0⟩ from by rw [k3]; rfl)
          clear k2 k3
          clear e7 b7
          go_wp2_with fail
          refine ret_ins (cs := insC ⟨21, 0, (rd : Nat), (rs1 : Nat), (rs2 : Nat), 0#64, sz 2, false, false, false, 0⟩) rfl rfl (by simp only [rowI_setRow, if_true, rowI_setCell, n1, if_false, q0, Option.map_some]; rfl) rfl rfl ⟨by rw [hr.out], ?_⟩
          refine below_row ?_ _ (Nat.le_refl _) _
          repeat (refine below_setCell ?_ _ _ _ ?_)
          all_goals first | exact B6.out | exact hlt.out
        by_cases k0 : f7 / 4 = 0
        · have hq : g7 / 4 = 0 := by have := e7.out; omega
          have hr := Lib.hid (show amoN 2 (f7 / 4) rd rs1 rs2 = ⟨22, (0 : Nat), (rd : Nat), (rs1 : Nat), (rs2 : Nat), 0#64, sz 2, false, false, false, 0⟩ from by rw [k0]; rfl)
          clear k2 k3 k0
          clear e7 b7
          go_wp2_with fail
          refine ret_ins (cs := insC ⟨22, (0 : Nat), (rd : Nat), (rs1 : Nat), (rs2 : Nat), 0#64, sz 2, false, false, false, 0⟩) rfl rfl (by simp only [rowI_setRow, if_true, rowI_setCell, n1, if_false, q0, Option.map_some]; rfl) rfl rfl ⟨by rw [hr.out], ?_⟩
          refine below_row ?_ _ (Nat.le_refl _) _
          repeat (refine below_setCell ?_ _ _ _ ?_)
          all_goals first | exact B6.out | exact hlt.out
        by_cases k1 : f7 / 4 = 1
        · have hq : g7 / 4 = 1 := by have := e7.out; omega
          have hr := Lib.hid (show amoN 2 (f7 / 4) rd rs1 rs2 = ⟨22, (1 : Nat), (rd : Nat), (rs1 : Nat), (rs2 : Nat), 0#64, sz 2, false, false, false, 0⟩ from by rw [k1]; rfl)
          clear k2 k3 k0 k1
          clear e7 b7
          go_wp2_with fail
          refine ret_ins (cs := insC ⟨22, (1 : Nat), (rd : Nat), (rs1 : Nat), (rs2 : Nat), 0#64, sz 2, false, false, false, 0⟩) rfl rfl (by simp only [rowI_setRow, if_true, rowI_setCell, n1, if_false, q0, Option.map_some]; rfl) rfl rfl ⟨by rw [hr.out], ?_⟩
          refine below_row ?_ _ (Nat.le_refl _) _
          repeat (refine below_setCell ?_ _ _ _ ?_)
          all_goals first | exact B6.out | exact hlt.out
        by_cases k4 : f7 / 4 = 4
        · have hq : g7 / 4 = 4 := by have := e7.out; omega
          have hr := Lib.hid (show amoN 2 (f7 / 4) rd rs1 rs2 = ⟨22, (4 : Nat), (rd : Nat), (rs1 : Nat), (rs2 : Nat), 0#64, sz 2, false, false, false, 0⟩ from by rw [k4]; rfl)
          clear k2 k3 k0 k1 k4
          clear e7 b7
          go_wp2_with fail
          refine ret_ins (cs := insC ⟨22, (4 : Nat), (rd : Nat), (rs1 : Nat), (rs2 : Nat), 0#64, sz 2, false, false, false, 0⟩) rfl rfl (by simp only [rowI_setRow, if_true, rowI_setCell, n1, if_false, q0, Option.map_some]; rfl) rfl rfl ⟨by rw [hr.out], ?_⟩
          refine below_row ?_ _ (Nat.le_refl _) _
          repeat (refine below_setCell ?_ _ _ _ ?_)
          all_goals first | exact B6.out | exact hlt.out
        by_cases k8 : f7 / 4 = 8
        · have hq : g7 / 4 = 8 := by have := e7.out; omega
          have hr := Lib.hid (show amoN 2 (f7 / 4) rd rs1 rs2 = ⟨22, (8 : Nat), (rd : Nat), (rs1 : Nat), (rs2 : Nat), 0#64, sz 2, false, false, false, 0⟩ from by rw [k8]; rfl)
          clear k2 k3 k0 k1 k4 k8
          clear e7 b7
          go_wp2_with fail
          refine ret_ins (cs := insC ⟨22, (8 : Nat), (rd : Nat), (rs1 : Nat), (rs2 : Nat), 0#64, sz 2, false, false, false, 0⟩) rfl rfl (by simp only [rowI_setRow, if_true, rowI_setCell, n1, if_false, q0, Option.map_some]; rfl) rfl rfl ⟨by rw [hr.out], ?_⟩
          refine below_row ?_ _ (Nat.le_refl _) _
          repeat (refine below_setCell ?_ _ _ _ ?_)
          all_goals first | exact B6.out | exact hlt.out
        by_cases k12 : f7 / 4 = 12
        · have hq : g7 / 4 = 12 := by have := e7.out; omega
          have hr := Lib.hid (show amoN 2 (f7 / 4) rd rs1 rs2 = ⟨22, (12 : Nat), (rd : Nat), (rs1 : Nat), (rs2 : Nat), 0#64, sz 2, false, false, false, 0⟩ from by rw [k12]; rfl)
          clear k2 k3 k0 k1 k4 k8 k12
          clear e7 b7
          go_wp2_with fail
          refine ret_ins (cs := insC ⟨22, (12 : Nat), (rd : Nat), (rs1 : Nat), (rs2 : Nat), 0#64, sz 2, false, false, false, 0⟩) rfl rfl (by simp only [rowI_setRow, if_true, rowI_setCell, n1, if_false, q0, Option.map_some]; rfl) rfl rfl ⟨by rw [hr.out], ?_⟩
          refine below_row ?_ _ (Nat.le_refl _) _
          repeat (refine below_setCell ?_ _ _ _ ?_)
          all_goals first | exact B6.out | exact hlt.out
        by_cases k16 : f7 / 4 = 16
        · have hq : g7 / 4 = 16 := by have := e7.out; omega
          have hr := Lib.hid (show amoN 2 (f7 / 4) rd rs1 rs2 = ⟨22, (16 : Nat), (rd : Nat), (rs1 : Nat), (rs2 : Nat), 0#64, sz 2, false, false, false, 0⟩ from by rw [k16]; rfl)
          clear k2 k3 k0 k1 k4 k8 k12 k16
          clear e7 b7
          go_wp2_with fail
          refine ret_ins (cs := insC ⟨22, (16 : Nat), (rd : Nat), (rs1 : Nat), (rs2 : Nat), 0#64, sz 2, false, false, false, 0⟩) rfl rfl (by simp only [rowI_setRow, if_true, rowI_setCell, n1, if_false, q0, Option.map_some]; rfl) rfl rfl ⟨by rw [hr.out], ?_⟩
          refine below_row ?_ _ (Nat.le_refl _) _
          repeat (refine below_setCell ?_ _ _ _ ?_)
          all_goals first | exact B6.out | exact hlt.out
        by_cases k20 : f7 / 4 = 20
        · have hq : g7 / 4 = 20 := by have := e7.out; omega
          have hr := Lib.hid (show amoN 2 (f7 / 4) rd rs1 rs2 = ⟨22, (20 : Nat), (rd : Nat), (rs1 : Nat), (rs2 : Nat), 0#64, sz 2, false, false, false, 0⟩ from by rw [k20]; rfl)
          clear k2 k3 k0 k1 k4 k8 k12 k16 k20
          clear e7 b7
          go_wp2_with fail
          refine ret_ins (cs := insC ⟨22, (20 : Nat), (rd : Nat), (rs1 : Nat), (rs2 : Nat), 0#64, sz 2, false, false, false, 0⟩) rfl rfl (by simp only [rowI_setRow, if_true, rowI_setCell, n1, if_false, q0, Option.map_some]; rfl) rfl rfl ⟨by rw [hr.out], ?_⟩
          refine below_row ?_ _ (Nat.le_refl _) _
          repeat (refine below_setCell ?_ _ _ _ ?_)
          all_goals first | exact B6.out | exact hlt.out
        by_cases k24 : f7 / 4 = 24
        · have hq : g7 / 4 = 24 := by have := e7.out; omega
          have hr := Lib.hid (show amoN 2 (f7 / 4) rd rs1 rs2 = ⟨22, (24 : Nat), (rd : Nat), (rs1 : Nat), (rs2 : Nat), 0#64, sz 2, false, false, false, 0⟩ from by rw [k24]; rfl)
          clear k2 k3 k0 k1 k4 k8 k12 k16 k20 k24
          clear e7 b7
          go_wp2_with fail
          refine ret_ins (cs := insC ⟨22, (24 : Nat), (rd : Nat), (rs1 : Nat), (rs2 : Nat), 0#64, sz 2, false, false, false, 0⟩) rfl rfl (by simp only [rowI_setRow, if_true, rowI_setCell, n1, if_false, q0, Option.map_some]; rfl) rfl rfl ⟨by rw [hr.out], ?_⟩
          refine below_row ?_ _ (Nat.le_refl _) _
          repeat (refine below_setCell ?_ _ _ _ ?_)
          all_goals first | exact B6.out | exact hlt.out
        by_cases k28 : f7 / 4 = 28
        · have hq : g7 / 4 = 28 := by have := e7.out; omega
          have hr := Lib.hid (show amoN 2 (f7 / 4) rd rs1 rs2 = ⟨22, (28 : Nat), (rd : Nat), (rs1 : Nat), (rs2 : Nat), 0#64, sz 2, false, false, false, 0⟩ from by rw [k28]; rfl)
          clear k2 k3 k0 k1 k4 k8 k12 k16 k20 k24 k28
          clear e7 b7
          go_wp2_with fail
          refine ret_ins (cs := insC ⟨22, (28 : Nat), (rd : Nat), (rs1 : Nat), (rs2 : Nat), 0#64, sz 2, false, false, false, 0⟩) rfl rfl (by simp only [rowI_setRow, if_true, rowI_setCell, n1, if_false, q0, Option.map_some]; rfl) rfl rfl ⟨by rw [hr.out], ?_⟩
          refine below_row ?_ _ (Nat.le_refl _) _
          repeat (refine below_setCell ?_ _ _ _ ?_)
          all_goals first | exact B6.out | exact hlt.out
        have f2 : (g7 / 4 == 2) = false := by have := e7.out; simp; omega
        have f3 : (g7 / 4 == 3) = false := by have := e7.out; simp; omega
        have f0 : (g7 / 4 == 0) = false := by have := e7.out; simp; omega
        have f1 : (g7 / 4 == 1) = false := by have := e7.out; simp; omega
        have f4 : (g7 / 4 == 4) = false := by have := e7.out; simp; omega
        have f8 : (g7 / 4 == 8) = false := by have := e7.out; simp; omega
        have f12 : (g7 / 4 == 12) = false := by have := e7.out; simp; omega
        have f16 : (g7 / 4 == 16) = false := by have := e7.out; simp; omega
        have f20 : (g7 / 4 == 20) = false := by have := e7.out; simp; omega
        have f24 : (g7 / 4 == 24) = false := by have := e7.out; simp; omega
        have f28 : (g7 / 4 == 28) = false := by have := e7.out; simp; omega
        have hr := Lib.hid (show amoN 2 (f7 / 4) rd rs1 rs2 = noI from by unfold amoN; rw [if_pos (by omega), if_neg k2, if_neg k3, if_neg (by simp [amoSet]; omega)])
        clear k2 k3 k0 k1 k4 k8 k12 k16 k20 k24 k28
        clear e7 b7
        go_wp2_with fail
        refine ret_ins (cs := insC noI) rfl rfl (by simp only [rowI_setRow, if_true, rowI_setCell, n1, if_false, q0, Option.map_some]; rfl) rfl rfl ⟨by rw [hr.out], ?_⟩
        refine below_row ?_ _ (Nat.le_refl _) _
        repeat (refine below_setCell ?_ _ _ _ ?_)
        all_goals first | exact B6.out | exact hlt.out
    · go_wp2_with fail
      go_cut [4] from 5 (fun s4 wx => MadeI w (#[.int .i64 0, .int .i64 0, .int .i64 (rd : Int), .int .i64 (rs1 : Int), .int .i64 (rs2 : Int), .int .u64 0, .int .i64 8, .bool false, .bool false, .bool false, .int .i64 0]) s4 wx)
      case first =>
        go_region_with (first
          | (go_at_call 24; refine (cd.out _).mono ?_; rintro e _ ⟨rfl, n2, rfl⟩)
          | (go_at_call 26; refine (ca.out _).mono ?_; rintro e _ ⟨rfl, n3, rfl⟩)
          | (go_at_call 27; refine (cb.out _).mono ?_; rintro e _ ⟨rfl, n4, rfl⟩))
        all_goals
          go_wp2_with fail
          go_meet
          case rel => exact made_of r0.out BB.out rfl rfl rfl rfl
      case rest =>
        clear r0 BB cd ca cb
        obtain ⟨b1, rfl, hlt, r0, r1, BB⟩ := hcut
        replace r0 : rowI wc w.heap.size = some #[.int .i64 0, .int .i64 0, .int .i64 0, .int .i64 0, .int .i64 0, .int .u64 0, .int .i64 0, .bool false, .bool false, .bool false, .int .i64 0] := r0
        go_wp2_with fail
        refine (c7.out _).mono ?_
        rintro e w6 ⟨rfl, hb6⟩
        obtain ⟨q0, q1, cc, cf⟩ := rows2 r0 r1 hb6
        have B6 := Lib.hid (BB.trans (hb6.mono BB.size))
        have n1 : ¬ w.heap.size = b1 := by omega
        have n2 : ¬ b1 = w.heap.size := by omega
        replace hlt := Lib.hid (Nat.le_of_lt hlt)
        clear r0 r1 hb6 BB c7
        by_cases k2 : f7 / 4 = 2
        · have hq : g7 / 4 = 2 := by have := e7.out; omega
          by_cases z : rs2 = 0
          · have hr := Lib.hid (show amoN 3 (f7 / 4) rd rs1 rs2 = ⟨20, 0, (rd : Nat), (rs1 : Nat), (rs2 : Nat), 0#64, sz 3, false, false, false, 0⟩ from by rw [k2, z]; rfl)
            have nz : ((rs2 : Int) != 0) = false := by simp; omega
            clear z
            clear e7 b7
            go_wp2_with fail
            refine ret_ins (cs := insC ⟨20, 0, (rd : Nat), (rs1 : Nat), (rs2 : Nat), 0#64, sz 3, false, false, false, 0⟩) rfl rfl (by simp only [rowI_setRow, if_true, rowI_setCell, n1, if_false, q0, Option.map_some]; rfl) rfl rfl ⟨by rw [hr.out], ?_⟩
            refine below_row ?_ _ (Nat.le_refl _) _
            repeat (refine below_setCell ?_ _ _ _ ?_)
            all_goals first | exact B6.out | exact hlt.out
          · have hr := Lib.hid (show amoN 3 (f7 / 4) rd rs1 rs2 = noI from by rw [k2]; show (if rs2 = 0 then _ else noI) = noI; exact if_neg z)
            have nz : ((rs2 : Int) != 0) = true := by simp; omega
            clear z
            clear e7 b7
            go_wp2_with fail
            refine ret_ins (cs := insC noI) rfl rfl (by simp only [rowI_setRow, if_true, rowI_setCell, n1, if_false, q0, Option.map_some]; rfl) rfl rfl ⟨by rw [hr.out], ?_⟩
            refine below_row ?_ _ (Nat.le_refl _) _
            repeat (refine below_setCell ?_ _ _ _ ?_)
            all_goals first | exact B6.out | exact hlt.out
        by_cases k3 : f7 / 4 = 3
        · have hq : g7 / 4 = 3 := by have := e7.out; omega
          have hr := Lib.hid (show amoN 3 (f7 / 4) rd rs1 rs2 = ⟨21, 0, (rd : Nat), (rs1 : Nat), (rs2 : Nat), 0#64, sz 3, false, false, false, 0⟩ from by rw [k3]; rfl)
          clear k2 k3
          clear e7 b7
          go_wp2_with fail
          refine ret_ins (cs := insC ⟨21, 0, (rd : Nat), (rs1 : Nat), (rs2 : Nat), 0#64, sz 3, false, false, false, 0⟩) rfl rfl (by simp only [rowI_setRow, if_true, rowI_setCell, n1, if_false, q0, Option.map_some]; rfl) rfl rfl ⟨by rw [hr.out], ?_⟩
          refine below_row ?_ _ (Nat.le_refl _) _
          repeat (refine below_setCell ?_ _ _ _ ?_)
          all_goals first | exact B6.out | exact hlt.out
        by_cases k0 : f7 / 4 = 0
        · have hq : g7 / 4 = 0 := by have := e7.out; omega
          have hr := Lib.hid (show amoN 3 (f7 / 4) rd rs1 rs2 = ⟨22, (0 : Nat), (rd : Nat), (rs1 : Nat), (rs2 : Nat), 0#64, sz 3, false, false, false, 0⟩ from by rw [k0]; rfl)
          clear k2 k3 k0
          clear e7 b7
          go_wp2_with fail
          refine ret_ins (cs := insC ⟨22, (0 : Nat), (rd : Nat), (rs1 : Nat), (rs2 : Nat), 0#64, sz 3, false, false, false, 0⟩) rfl rfl (by simp only [rowI_setRow, if_true, rowI_setCell, n1, if_false, q0, Option.map_some]; rfl) rfl rfl ⟨by rw [hr.out], ?_⟩
          refine below_row ?_ _ (Nat.le_refl _) _
          repeat (refine below_setCell ?_ _ _ _ ?_)
          all_goals first | exact B6.out | exact hlt.out
        by_cases k1 : f7 / 4 = 1
        · have hq : g7 / 4 = 1 := by have := e7.out; omega
          have hr := Lib.hid (show amoN 3 (f7 / 4) rd rs1 rs2 = ⟨22, (1 : Nat), (rd : Nat), (rs1 : Nat), (rs2 : Nat), 0#64, sz 3, false, false, false, 0⟩ from by rw [k1]; rfl)
          clear k2 k3 k0 k1
          clear e7 b7
          go_wp2_with fail
          refine ret_ins (cs := insC ⟨22, (1 : Nat), (rd : Nat), (rs1 : Nat), (rs2 : Nat), 0#64, sz 3, false, false, false, 0⟩) rfl rfl (by simp only [rowI_setRow, if_true, rowI_setCell, n1, if_false, q0, Option.map_some]; rfl) rfl rfl ⟨by rw [hr.out], ?_⟩
          refine below_row ?_ _ (Nat.le_refl _) _
          repeat (refine below_setCell ?_ _ _ _ ?_)
          all_goals first | exact B6.out | exact hlt.out
        by_cases k4 : f7 / 4 = 4
        · have hq : g7 / 4 = 4 := by have := e7.out; omega
          have hr := Lib.hid (show amoN 3 (f7 / 4) rd rs1 rs2 = ⟨22, (4 : Nat), (rd : Nat), (rs1 : Nat), (rs2 : Nat), 0#64, sz 3, false, false, false, 0⟩ from by rw [k4]; rfl)
          clear k2 k3 k0 k1 k4
          clear e7 b7
          go_wp2_with fail
          refine ret_ins (cs := insC ⟨22, (4 : Nat), (rd : Nat), (rs1 : Nat), (rs2 : Nat), 0#64, sz 3, false, false, false, 0⟩) rfl rfl (by simp only [rowI_setRow, if_true, rowI_setCell, n1, if_false, q0, Option.map_some]; rfl) rfl rfl ⟨by rw [hr.out], ?_⟩
          refine below_row ?_ _ (Nat.le_refl _) _
          repeat (refine below_setCell ?_ _ _ _ ?_)
          all_goals first | exact B6.out | exact hlt.out
        by_cases k8 : f7 / 4 = 8
        · have hq : g7 / 4 = 8 := by have := e7.out; omega
          have hr := Lib.hid (show amoN 3 (f7 / 4) rd rs1 rs2 = ⟨22, (8 : Nat), (rd : Nat), (rs1 : Nat), (rs2 : Nat), 0#64, sz 3, false, false, false, 0⟩ from by rw [k8]; rfl)
          clear k2 k3 k0 k1 k4 k8
          clear e7 b7
          go_wp2_with fail
          refine ret_ins (cs := insC ⟨22, (8 : Nat), (rd : Nat), (rs1 : Nat), (rs2 : Nat), 0#64, sz 3, false, false, false, 0⟩) rfl rfl (by simp only [rowI_setRow, if_true, rowI_setCell, n1, if_false, q0, Option.map_some]; rfl) rfl rfl ⟨by rw [hr.out], ?_⟩
          refine below_row ?_ _ (Nat.le_refl _) _
          repeat (refine below_setCell ?_ _ _ _ ?_)
          all_goals first | exact B6.out | exact hlt.out
        by_cases k12 : f7 / 4 = 12
        · have hq : g7 / 4 = 12 := by have := e7.out; omega
          have hr := Lib.hid (show amoN 3 (f7 / 4) rd rs1 rs2 = ⟨22, (12 : Nat), (rd : Nat), (rs1 : Nat), (rs2 : Nat), 0#64, sz 3, false, false, false, 0⟩ from by rw [k12]; rfl)
          clear k2 k3 k0 k1 k4 k8 k12
          clear e7 b7
          go_wp2_with fail
          refine ret_ins (cs := insC ⟨22, (12 : Nat), (rd : Nat), (rs1 : Nat), (rs2 : Nat), 0#64, sz 3, false, false, false, 0⟩) rfl rfl (by simp only [rowI_setRow, if_true, rowI_setCell, n1, if_false, q0, Option.map_some]; rfl) rfl rfl ⟨by rw [hr.out], ?_⟩
          refine below_row ?_ _ (Nat.le_refl _) _
          repeat (refine below_setCell ?_ _ _ _ ?_)
          all_goals first | exact B6.out | exact hlt.out
        by_cases k16 : f7 / 4 = 16
        · have hq : g7 / 4 = 16 := by have := e7.out; omega
          have hr := Lib.hid (show amoN 3 (f7 / 4) rd rs1 rs2 = ⟨22, (16 : Nat), (rd : Nat), (rs1 : Nat), (rs2 : Nat), 0#64, sz 3, false, false, false, 0⟩ from by rw [k16]; rfl)
          clear k2 k3 k0 k1 k4 k8 k12 k16
          clear e7 b7
          go_wp2_with fail
          refine ret_ins (cs := insC ⟨22, (16 : Nat), (rd : Nat), (rs1 : Nat), (rs2 : Nat), 0#64, sz 3, false, false, false, 0⟩) rfl rfl (by simp only [rowI_setRow, if_true, rowI_setCell, n1, if_false, q0, Option.map_some]; rfl) rfl rfl ⟨by rw [hr.out], ?_⟩
          refine below_row ?_ _ (Nat.le_refl _) _
          repeat (refine below_setCell ?_ _ _ _ ?_)
          all_goals first | exact B6.out | exact hlt.out
        by_cases k20 : f7 / 4 = 20
        · have hq : g7 / 4 = 20 := by have := e7.out; omega
          have hr := Lib.hid (show amoN 3 (f7 / 4) rd rs1 rs2 = ⟨22, (20 : Nat), (rd : Nat), (rs1 : Nat), (rs2 : Nat), 0#64, sz 3, false, false, false, 0⟩ from by rw [k20]; rfl)
          clear k2 k3 k0 k1 k4 k8 k12 k16 k20
          clear e7 b7
          go_wp2_with fail
          refine ret_ins (cs := insC ⟨22, (20 : Nat), (rd : Nat), (rs1 : Nat), (rs2 : Nat), 0#64, sz 3, false, false, false, 0⟩) rfl rfl (by simp only [rowI_setRow, if_true, rowI_setCell, n1, if_false, q0, Option.map_some]; rfl) rfl rfl ⟨by rw [hr.out], ?_⟩
          refine below_row ?_ _ (Nat.le_refl _) _
          repeat (refine below_setCell ?_ _ _ _ ?_)
          all_goals first | exact B6.out | exact hlt.out
        by_cases k24 : f7 / 4 = 24
        · have hq : g7 / 4 = 24 := by have := e7.out; omega
          have hr := Lib.hid (show amoN 3 (f7 / 4) rd rs1 rs2 = ⟨22, (24 : Nat), (rd : Nat), (rs1 : Nat), (rs2 : Nat), 0#64, sz 3, false, false, false, 0⟩ from by rw [k24]; rfl)
          clear k2 k3 k0 k1 k4 k8 k12 k16 k20 k24
          clear e7 b7
          go_wp2_with fail
          refine ret_ins (cs := insC ⟨22, (24 : Nat), (rd : Nat), (rs1 : Nat), (rs2 : Nat), 0#64, sz 3, false, false, false, 0⟩) rfl rfl (by simp only [rowI_setRow, if_true, rowI_setCell, n1, if_false, q0, Option.map_some]; rfl) rfl rfl ⟨by rw [hr.out], ?_⟩
          refine below_row ?_ _ (Nat.le_refl _) _
          repeat (refine below_setCell ?_ _ _ _ ?_)
          all_goals first | exact B6.out | exact hlt.out
        by_cases k28 : f7 / 4 = 28
        · have hq : g7 / 4 = 28 := by have := e7.out; omega
          have hr := Lib.hid (show amoN 3 (f7 / 4) rd rs1 rs2 = ⟨22, (28 : Nat), (rd : Nat), (rs1 : Nat), (rs2 : Nat), 0#64, sz 3, false, false, false, 0⟩ from by rw [k28]; rfl)
          clear k2 k3 k0 k1 k4 k8 k12 k16 k20 k24 k28
          clear e7 b7
          go_wp2_with fail
          refine ret_ins (cs := insC ⟨22, (28 : Nat), (rd : Nat), (rs1 : Nat), (rs2 : Nat), 0#64, sz 3, false, false, false, 0⟩) rfl rfl (by simp only [rowI_setRow, if_true, rowI_setCell, n1, if_false, q0, Option.map_some]; rfl) rfl rfl ⟨by rw [hr.out], ?_⟩
          refine below_row ?_ _ (Nat.le_refl _) _
          repeat (refine below_setCell ?_ _ _ _ ?_)
          all_goals first | exact B6.out | exact hlt.out
        have f2 : (g7 / 4 == 2) = false := by have := e7.out; simp; omega
        have f3 : (g7 / 4 == 3) = false := by have := e7.out; simp; omega
        have f0 : (g7 / 4 == 0) = false := by have := e7.out; simp; omega
        have f1 : (g7 / 4 == 1) = false := by have := e7.out; simp; omega
        have f4 : (g7 / 4 == 4) = false := by have := e7.out; simp; omega
        have f8 : (g7 / 4 == 8) = false := by have := e7.out; simp; omega
        have f12 : (g7 / 4 == 12) = false := by have := e7.out; simp; omega
        have f16 : (g7 / 4 == 16) = false := by have := e7.out; simp; omega
        have f20 : (g7 / 4 == 20) = false := by have := e7.out; simp; omega
        have f24 : (g7 / 4 == 24) = false := by have := e7.out; simp; omega
        have f28 : (g7 / 4 == 28) = false := by have := e7.out; simp; omega
        have hr := Lib.hid (show amoN 3 (f7 / 4) rd rs1 rs2 = noI from by unfold amoN; rw [if_pos (by omega), if_neg k2, if_neg k3, if_neg (by simp [amoSet]; omega)])
        clear k2 k3 k0 k1 k4 k8 k12 k16 k20 k24 k28
        clear e7 b7
        go_wp2_with fail
        refine ret_ins (cs := insC noI) rfl rfl (by simp only [rowI_setRow, if_true, rowI_setCell, n1, if_false, q0, Option.map_some]; rfl) rfl rfl ⟨by rw [hr.out], ?_⟩
        refine below_row ?_ _ (Nat.le_refl _) _
        repeat (refine below_setCell ?_ _ _ _ ?_)
        all_goals first | exact B6.out | exact hlt.out
  · have n2 : (g3 != 2) = true := by have := e3.out; simp; omega
    have n3 : (g3 != 3) = true := by have := e3.out; simp; omega
    have hr := Lib.hid (show amoN f3 (f7 / 4) rd rs1 rs2 = noI from if_neg hf)
    replace r0 := r0.out
    go_wp2_with fail
    refine ret_ins (cs := insC noI) rfl rfl (by simp only [rowI_setRow, if_true, r0, Option.map_some]; rfl) rfl rfl ⟨by rw [hr.out], below_row BB.out _ (Nat.le_refl _) _⟩
theorem atomic_any (v : BitVec 32) : Mk Try.prog 69 #[.int .u32 (v.toNat : Int)] (.agg (insC (amoD v))) := fun w =>
  atomic_at (v.toNat : Int) _ _ _ _ _ _ _ (Lib.hid rfl) (Lib.hid rfl) (Lib.hid (pFunct3_any v).mk) (Lib.hid (pRd_any v)) (Lib.hid (pRs1_any v)) (Lib.hid (pRs2_any v)) (Lib.hid (pFunct7_any v).mk) w
end Go.Proofs.Ytnhbekgmameeaaa
