/- Contract: package decode's immediate. -/
import Derived.Test.YtnhbekgmameeaaaIns
import Derived.Test.YtnhbekgmameeaaaShape
import Derived.Test.YtnhbekgmameeaaaAndL
namespace Go.Proofs.Ytnhbekgmameeaaa
open Go.RowKit Wd
set_option linter.unusedVariables false
set_option linter.unusedSimpArgs false
attribute [local go_sem] loadI_lit storeI_lit rowI_alloc rowI_drew rowI_setRow rowI_setCell setRow_allocI and_L
attribute [local go_sem ↓] loadI_run storeI_run'
set_option maxRecDepth 8000
theorem and1_127 (n : Nat) (h : n < 128) : bits .and .i64 (n : Int) 1 = ((n % 2 : Nat) : Int) := by
  have : ∀ k : Nat, k < 128 → bits .and .i64 (k : Int) 1 = ((k % 2 : Nat) : Int) := by decide +kernel
  exact this n h
theorem and63_eq (v : BitVec 64) : andL v 63 = v &&& 63#64 := rfl
set_option maxHeartbeats 20000000 in
theorem immediate_at (x : Int) (W : Bool) (op : Int) (hX : (op == 27) = W) (f3 f7 rd rs1 : Nat) (imm : BitVec 64) (g3 g7 : Int) (e3 : Hid (g3 = (f3 : Int))) (e7 : Hid (g7 = (f7 : Int))) (h3 : f3 < 8) (h7 : f7 < 128)
    (cO : Hid (Mk Try.prog 23 #[.int .u32 x] (.int .i64 op))) (c3 : Hid (Qt Try.prog 25 #[.int .u32 x] (.int .i64 g3))) (cd : Hid (Mk Try.prog 24 #[.int .u32 x] (.int .i64 (rd : Int)))) (ca : Hid (Mk Try.prog 26 #[.int .u32 x] (.int .i64 (rs1 : Int)))) (ci : Hid (Mk Try.prog 34 #[.int .u32 x] (.int .u64 (imm.toNat : Int)))) (c7 : Hid (Qt Try.prog 28 #[.int .u32 x] (.int .i64 g7))) (w : World) :
    Calls Try.prog 67 #[.int .u32 x] w fun e w' => e = .returned (.agg (insC (immN W f3 f7 rd rs1 imm (andL imm 63)))) ∧ Below w.heap.size w w' := by
  have b7 : 0 ≤ g7 := by rw [e7.out]; omega
  have A1 := Lib.hid (show bits .and .i64 g7 1 = ((f7 % 2 : Nat) : Int) from by rw [e7.out]; exact and1_127 f7 h7)
  go_enter Try.func67, Try.ntmps67
  go_wp2_with fail
  refine (cO.out _).mono ?_
  rintro e w1 ⟨rfl, hb1⟩
  go_wp2_with fail
  refine (cd.out _).mono ?_
  rintro e w2 ⟨rfl, hb2⟩
  go_wp2_with fail
  refine (ca.out _).mono ?_
  rintro e w3 ⟨rfl, hb3⟩
  go_wp2_with fail
  refine (ci.out _).mono ?_
  rintro e w4 ⟨rfl, hb4⟩
  have B2 := hb1.trans (hb2.mono hb1.size)
  have B3 := B2.trans (hb3.mono B2.size)
  have B4 := B3.trans (hb4.mono B3.size)
  clear hb1 hb2 hb3 hb4 B2 B3 cO cd ca ci
  replace B4 := Lib.hid B4
  go_wp2_with fail
  go_quiet ((first | (go_at_call 25; exact (c3.out).quiet) | (go_at_call 28; exact (c7.out).quiet)))
  clear c3
  have hf : f3 = 0 ∨ f3 = 1 ∨ f3 = 2 ∨ f3 = 3 ∨ f3 = 4 ∨ f3 = 5 ∨ f3 = 6 ∨ f3 = 7 := by omega
  clear h3
  cases W
  · obtain ⟨r0, r1, cc, cf, n1, n2, n3, BB⟩ := two_blocks (c := #[.int .i64 8, .int .i64 0, .int .i64 (rd : Int), .int .i64 (rs1 : Int), .int .i64 0, .int .u64 (imm.toNat : Int), .int .i64 0, .bool false, .bool false, .bool false, .int .i64 0]) B4.out (below_drewN (Below.refl _ _) nq)
    replace BB := Lib.hid BB
    replace n3 := Lib.hid n3
    clear B4 c7
    rcases hf with rfl | rfl | rfl | rfl | rfl | rfl | rfl | rfl
    all_goals
      have e := e3.out
      simp at e
      subst e
      clear e3
    · clear e7 A1 b7
      go_wp2_with (refine st_ins rfl _ _ rfl w.heap.size rfl _ (by first | exact r0 | (simp only [rowI_setCell, n1, n2, if_false]; exact r0)) rfl _ rfl rfl (by simp [Value.oneCell']) ?_; intro W1 hW hS)
      refine ret_ins rfl rfl hW rfl rfl ⟨rfl, hS _ _ (Nat.le_refl _) ?_⟩
      repeat (refine below_setCell ?_ _ _ _ ?_)
      all_goals first | exact BB.out | exact n3.out | trace_state
    · by_cases d0 : f7 / 2 = 0
      · have q0 : (g7 / 2 == 0) = true := by have := e7.out; simp; omega
        have q1 : (g7 / 2 == 16) = false := by have := e7.out; simp; omega
        have hr := Lib.hid (show immN false 1 f7 rd rs1 imm (andL imm 63) = ⟨8, 1, (rd : Nat), (rs1 : Nat), 0, andL imm 63, 0, false, false, false, 0⟩ from by unfold immN; rw [if_pos (by first | omega | (simp; done) | (simp; omega))])
        clear e7 A1 b7
        go_wp2_with (refine st_ins rfl _ _ rfl w.heap.size rfl _ (by first | exact r0 | (simp only [rowI_setCell, n1, n2, if_false]; exact r0)) rfl _ rfl rfl (by simp [Value.oneCell']) ?_; intro W1 hW hS)
        refine ret_ins rfl rfl hW rfl rfl ⟨by rw [hr.out]; rfl, hS _ _ (Nat.le_refl _) ?_⟩
        repeat (refine below_setCell ?_ _ _ _ ?_)
        all_goals first | exact BB.out | exact n3.out | trace_state
      · by_cases d1 : f7 / 2 = 16
        · have q0 : (g7 / 2 == 0) = false := by have := e7.out; simp; omega
          have q1 : (g7 / 2 == 16) = true := by have := e7.out; simp; omega
          have hr := Lib.hid (show immN false 1 f7 rd rs1 imm (andL imm 63) = noI from by unfold immN; rw [if_neg (by first | omega | (simp; done) | (simp; omega)), if_neg (by first | omega | (simp; done) | (simp; omega)), if_neg (by first | omega | (simp; done) | (simp; omega)), if_neg (by first | omega | (simp; done) | (simp; omega)), if_pos (by first | omega | (simp; done) | (simp; omega))])
          clear e7 A1 b7
          go_wp2_with (refine st_ins rfl _ _ rfl w.heap.size rfl _ (by first | exact r0 | (simp only [rowI_setCell, n1, n2, if_false]; exact r0)) rfl _ rfl rfl (by simp [Value.oneCell']) ?_; intro W1 hW hS)
          refine ret_ins rfl rfl hW rfl rfl ⟨by rw [hr.out]; rfl, hS _ _ (Nat.le_refl _) ?_⟩
          repeat (refine below_setCell ?_ _ _ _ ?_)
          all_goals first | exact BB.out | exact n3.out | trace_state
        · have q0 : (g7 / 2 == 0) = false := by have := e7.out; simp; omega
          have q1 : (g7 / 2 == 16) = false := by have := e7.out; simp; omega
          have hr := Lib.hid (show immN false 1 f7 rd rs1 imm (andL imm 63) = noI from by unfold immN; rw [if_neg (by first | omega | (simp; done) | (simp; omega)), if_neg (by first | omega | (simp; done) | (simp; omega)), if_neg (by first | omega | (simp; done) | (simp; omega)), if_neg (by first | omega | (simp; done) | (simp; omega)), if_pos (by first | omega | (simp; done) | (simp; omega))])
          clear e7 A1 b7
          go_wp2_with (refine st_ins rfl _ _ rfl w.heap.size rfl _ (by first | exact r0 | (simp only [rowI_setCell, n1, n2, if_false]; exact r0)) rfl _ rfl rfl (by simp [Value.oneCell']) ?_; intro W1 hW hS)
          refine ret_ins rfl rfl hW rfl rfl ⟨by rw [hr.out]; rfl, hS _ _ (Nat.le_refl _) ?_⟩
          repeat (refine below_setCell ?_ _ _ _ ?_)
          all_goals first | exact BB.out | exact n3.out | trace_state
    · clear e7 A1 b7
      go_wp2_with (refine st_ins rfl _ _ rfl w.heap.size rfl _ (by first | exact r0 | (simp only [rowI_setCell, n1, n2, if_false]; exact r0)) rfl _ rfl rfl (by simp [Value.oneCell']) ?_; intro W1 hW hS)
      refine ret_ins rfl rfl hW rfl rfl ⟨rfl, hS _ _ (Nat.le_refl _) ?_⟩
      repeat (refine below_setCell ?_ _ _ _ ?_)
      all_goals first | exact BB.out | exact n3.out | trace_state
    · clear e7 A1 b7
      go_wp2_with (refine st_ins rfl _ _ rfl w.heap.size rfl _ (by first | exact r0 | (simp only [rowI_setCell, n1, n2, if_false]; exact r0)) rfl _ rfl rfl (by simp [Value.oneCell']) ?_; intro W1 hW hS)
      refine ret_ins rfl rfl hW rfl rfl ⟨rfl, hS _ _ (Nat.le_refl _) ?_⟩
      repeat (refine below_setCell ?_ _ _ _ ?_)
      all_goals first | exact BB.out | exact n3.out | trace_state
    · clear e7 A1 b7
      go_wp2_with (refine st_ins rfl _ _ rfl w.heap.size rfl _ (by first | exact r0 | (simp only [rowI_setCell, n1, n2, if_false]; exact r0)) rfl _ rfl rfl (by simp [Value.oneCell']) ?_; intro W1 hW hS)
      refine ret_ins rfl rfl hW rfl rfl ⟨rfl, hS _ _ (Nat.le_refl _) ?_⟩
      repeat (refine below_setCell ?_ _ _ _ ?_)
      all_goals first | exact BB.out | exact n3.out | trace_state
    · by_cases d0 : f7 / 2 = 0
      · have q0 : (g7 / 2 == 0) = true := by have := e7.out; simp; omega
        have q1 : (g7 / 2 == 16) = false := by have := e7.out; simp; omega
        have hr := Lib.hid (show immN false 5 f7 rd rs1 imm (andL imm 63) = ⟨8, 5, (rd : Nat), (rs1 : Nat), 0, andL imm 63, 0, false, false, false, 0⟩ from by unfold immN; rw [if_neg (by first | omega | (simp; done) | (simp; omega)), if_pos (by first | omega | (simp; done) | (simp; omega))])
        clear e7 A1 b7
        go_wp2_with (refine st_ins rfl _ _ rfl w.heap.size rfl _ (by first | exact r0 | (simp only [rowI_setCell, n1, n2, if_false]; exact r0)) rfl _ rfl rfl (by simp [Value.oneCell']) ?_; intro W1 hW hS)
        refine ret_ins rfl rfl hW rfl rfl ⟨by rw [hr.out]; rfl, hS _ _ (Nat.le_refl _) ?_⟩
        repeat (refine below_setCell ?_ _ _ _ ?_)
        all_goals first | exact BB.out | exact n3.out | trace_state
      · by_cases d1 : f7 / 2 = 16
        · have q0 : (g7 / 2 == 0) = false := by have := e7.out; simp; omega
          have q1 : (g7 / 2 == 16) = true := by have := e7.out; simp; omega
          have hr := Lib.hid (show immN false 5 f7 rd rs1 imm (andL imm 63) = ⟨8, 13, (rd : Nat), (rs1 : Nat), 0, andL imm 63, 0, false, false, false, 0⟩ from by unfold immN; rw [if_neg (by first | omega | (simp; done) | (simp; omega)), if_neg (by first | omega | (simp; done) | (simp; omega)), if_pos (by first | omega | (simp; done) | (simp; omega))])
          clear e7 A1 b7
          go_wp2_with (refine st_ins rfl _ _ rfl w.heap.size rfl _ (by first | exact r0 | (simp only [rowI_setCell, n1, n2, if_false]; exact r0)) rfl _ rfl rfl (by simp [Value.oneCell']) ?_; intro W1 hW hS)
          refine ret_ins rfl rfl hW rfl rfl ⟨by rw [hr.out]; rfl, hS _ _ (Nat.le_refl _) ?_⟩
          repeat (refine below_setCell ?_ _ _ _ ?_)
          all_goals first | exact BB.out | exact n3.out | trace_state
        · have q0 : (g7 / 2 == 0) = false := by have := e7.out; simp; omega
          have q1 : (g7 / 2 == 16) = false := by have := e7.out; simp; omega
          have hr := Lib.hid (show immN false 5 f7 rd rs1 imm (andL imm 63) = noI from by unfold immN; rw [if_neg (by first | omega | (simp; done) | (simp; omega)), if_neg (by first | omega | (simp; done) | (simp; omega)), if_neg (by first | omega | (simp; done) | (simp; omega)), if_neg (by first | omega | (simp; done) | (simp; omega)), if_pos (by first | omega | (simp; done) | (simp; omega))])
          clear e7 A1 b7
          go_wp2_with (refine st_ins rfl _ _ rfl w.heap.size rfl _ (by first | exact r0 | (simp only [rowI_setCell, n1, n2, if_false]; exact r0)) rfl _ rfl rfl (by simp [Value.oneCell']) ?_; intro W1 hW hS)
          refine ret_ins rfl rfl hW rfl rfl ⟨by rw [hr.out]; rfl, hS _ _ (Nat.le_refl _) ?_⟩
          repeat (refine below_setCell ?_ _ _ _ ?_)
          all_goals first | exact BB.out | exact n3.out | trace_state
    · clear e7 A1 b7
      go_wp2_with (refine st_ins rfl _ _ rfl w.heap.size rfl _ (by first | exact r0 | (simp only [rowI_setCell, n1, n2, if_false]; exact r0)) rfl _ rfl rfl (by simp [Value.oneCell']) ?_; intro W1 hW hS)
      refine ret_ins rfl rfl hW rfl rfl ⟨rfl, hS _ _ (Nat.le_refl _) ?_⟩
      repeat (refine below_setCell ?_ _ _ _ ?_)
      all_goals first | exact BB.out | exact n3.out | trace_state
    · clear e7 A1 b7
      go_wp2_with (refine st_ins rfl _ _ rfl w.heap.size rfl _ (by first | exact r0 | (simp only [rowI_setCell, n1, n2, if_false]; exact r0)) rfl _ rfl rfl (by simp [Value.oneCell']) ?_; intro W1 hW hS)
      refine ret_ins rfl rfl hW rfl rfl ⟨rfl, hS _ _ (Nat.le_refl _) ?_⟩
      repeat (refine below_setCell ?_ _ _ _ ?_)
      all_goals first | exact BB.out | exact n3.out | trace_state
  · rcases hf with rfl | rfl | rfl | rfl | rfl | rfl | rfl | rfl
    all_goals
      have e := e3.out
      simp at e
      subst e
      clear e3
    · clear e7 A1 b7
      go_wp2_with fail
      refine (c7.out _).mono ?_
      rintro e w6 ⟨rfl, hq⟩
      obtain ⟨r0, r1, cc, cf, n1, n2, n3, BB⟩ := two_blocks B4.out ((below_drewN (Below.refl _ _) nq).trans (hq.below _))
      replace BB := Lib.hid BB
      replace n3 := Lib.hid n3
      clear B4 c7 hq
      go_wp2_with (refine st_ins rfl _ _ rfl w.heap.size rfl _ (by first | exact r0 | (simp only [rowI_setCell, n1, n2, if_false]; exact r0)) rfl _ rfl rfl (by simp [Value.oneCell']) ?_; intro W1 hW hS)
      refine ret_ins rfl rfl hW rfl rfl ⟨rfl, hS _ _ (Nat.le_refl _) ?_⟩
      repeat (refine below_setCell ?_ _ _ _ ?_)
      all_goals first | exact BB.out | exact n3.out | trace_state
    · by_cases d0 : f7 / 2 = 0
      · by_cases o1 : f7 % 2 = 1
        · have a1 : bits .and .i64 g7 1 = 1 := by rw [A1.out]; omega
          have q0 : (g7 / 2 == 0) = true := by have := e7.out; simp; omega
          have q1 : (g7 / 2 == 16) = false := by have := e7.out; simp; omega
          have hr := Lib.hid (show immN true 1 f7 rd rs1 imm (andL imm 63) = noI from by unfold immN; rw [if_neg (by first | omega | (simp; done) | (simp; omega)), if_neg (by first | omega | (simp; done) | (simp; omega)), if_neg (by first | omega | (simp; done) | (simp; omega)), if_neg (by first | omega | (simp; done) | (simp; omega)), if_pos (by first | omega | (simp; done) | (simp; omega))])
          clear e7 A1 b7
          go_wp2_with fail
          refine (c7.out _).mono ?_
          rintro e w6 ⟨rfl, hq⟩
          obtain ⟨r0, r1, cc, cf, n1, n2, n3, BB⟩ := two_blocks B4.out ((below_drewN (Below.refl _ _) nq).trans (hq.below _))
          replace BB := Lib.hid BB
          replace n3 := Lib.hid n3
          clear B4 c7 hq
          go_wp2_with (refine st_ins rfl _ _ rfl w.heap.size rfl _ (by first | exact r0 | (simp only [rowI_setCell, n1, n2, if_false]; exact r0)) rfl _ rfl rfl (by simp [Value.oneCell']) ?_; intro W1 hW hS)
          refine ret_ins rfl rfl hW rfl rfl ⟨by rw [hr.out]; rfl, hS _ _ (Nat.le_refl _) ?_⟩
          repeat (refine below_setCell ?_ _ _ _ ?_)
          all_goals first | exact BB.out | exact n3.out | trace_state
        · have a1 : bits .and .i64 g7 1 = 0 := by rw [A1.out]; omega
          have q0 : (g7 / 2 == 0) = true := by have := e7.out; simp; omega
          have q1 : (g7 / 2 == 16) = false := by have := e7.out; simp; omega
          have hr := Lib.hid (show immN true 1 f7 rd rs1 imm (andL imm 63) = ⟨8, 1, (rd : Nat), (rs1 : Nat), 0, andL imm 63, 0, false, true, false, 0⟩ from by unfold immN; rw [if_pos (by first | omega | (simp; done) | (simp; omega))])
          clear e7 A1 b7
          go_wp2_with fail
          refine (c7.out _).mono ?_
          rintro e w6 ⟨rfl, hq⟩
          obtain ⟨r0, r1, cc, cf, n1, n2, n3, BB⟩ := two_blocks B4.out ((below_drewN (Below.refl _ _) nq).trans (hq.below _))
          replace BB := Lib.hid BB
          replace n3 := Lib.hid n3
          clear B4 c7 hq
          go_wp2_with (refine st_ins rfl _ _ rfl w.heap.size rfl _ (by first | exact r0 | (simp only [rowI_setCell, n1, n2, if_false]; exact r0)) rfl _ rfl rfl (by simp [Value.oneCell']) ?_; intro W1 hW hS)
          refine ret_ins rfl rfl hW rfl rfl ⟨by rw [hr.out]; rfl, hS _ _ (Nat.le_refl _) ?_⟩
          repeat (refine below_setCell ?_ _ _ _ ?_)
          all_goals first | exact BB.out | exact n3.out | trace_state
      · by_cases d1 : f7 / 2 = 16
        · by_cases o1 : f7 % 2 = 1
          · have a1 : bits .and .i64 g7 1 = 1 := by rw [A1.out]; omega
            have q0 : (g7 / 2 == 0) = false := by have := e7.out; simp; omega
            have q1 : (g7 / 2 == 16) = true := by have := e7.out; simp; omega
            have hr := Lib.hid (show immN true 1 f7 rd rs1 imm (andL imm 63) = noI from by unfold immN; rw [if_neg (by first | omega | (simp; done) | (simp; omega)), if_neg (by first | omega | (simp; done) | (simp; omega)), if_neg (by first | omega | (simp; done) | (simp; omega)), if_neg (by first | omega | (simp; done) | (simp; omega)), if_pos (by first | omega | (simp; done) | (simp; omega))])
            clear e7 A1 b7
            go_wp2_with fail
            refine (c7.out _).mono ?_
            rintro e w6 ⟨rfl, hq⟩
            obtain ⟨r0, r1, cc, cf, n1, n2, n3, BB⟩ := two_blocks B4.out ((below_drewN (Below.refl _ _) nq).trans (hq.below _))
            replace BB := Lib.hid BB
            replace n3 := Lib.hid n3
            clear B4 c7 hq
            go_wp2_with (refine st_ins rfl _ _ rfl w.heap.size rfl _ (by first | exact r0 | (simp only [rowI_setCell, n1, n2, if_false]; exact r0)) rfl _ rfl rfl (by simp [Value.oneCell']) ?_; intro W1 hW hS)
            refine ret_ins rfl rfl hW rfl rfl ⟨by rw [hr.out]; rfl, hS _ _ (Nat.le_refl _) ?_⟩
            repeat (refine below_setCell ?_ _ _ _ ?_)
            all_goals first | exact BB.out | exact n3.out | trace_state
          · have a1 : bits .and .i64 g7 1 = 0 := by rw [A1.out]; omega
            have q0 : (g7 / 2 == 0) = false := by have := e7.out; simp; omega
            have q1 : (g7 / 2 == 16) = true := by have := e7.out; simp; omega
            have hr := Lib.hid (show immN true 1 f7 rd rs1 imm (andL imm 63) = noI from by unfold immN; rw [if_neg (by first | omega | (simp; done) | (simp; omega)), if_neg (by first | omega | (simp; done) | (simp; omega)), if_neg (by first | omega | (simp; done) | (simp; omega)), if_neg (by first | omega | (simp; done) | (simp; omega)), if_pos (by first | omega | (simp; done) | (simp; omega))])
            clear e7 A1 b7
            go_wp2_with fail
            refine (c7.out _).mono ?_
            rintro e w6 ⟨rfl, hq⟩
            obtain ⟨r0, r1, cc, cf, n1, n2, n3, BB⟩ := two_blocks B4.out ((below_drewN (Below.refl _ _) nq).trans (hq.below _))
            replace BB := Lib.hid BB
            replace n3 := Lib.hid n3
            clear B4 c7 hq
            go_wp2_with (refine st_ins rfl _ _ rfl w.heap.size rfl _ (by first | exact r0 | (simp only [rowI_setCell, n1, n2, if_false]; exact r0)) rfl _ rfl rfl (by simp [Value.oneCell']) ?_; intro W1 hW hS)
            refine ret_ins rfl rfl hW rfl rfl ⟨by rw [hr.out]; rfl, hS _ _ (Nat.le_refl _) ?_⟩
            repeat (refine below_setCell ?_ _ _ _ ?_)
            all_goals first | exact BB.out | exact n3.out | trace_state
        · by_cases o1 : f7 % 2 = 1
          · have a1 : bits .and .i64 g7 1 = 1 := by rw [A1.out]; omega
            have q0 : (g7 / 2 == 0) = false := by have := e7.out; simp; omega
            have q1 : (g7 / 2 == 16) = false := by have := e7.out; simp; omega
            have hr := Lib.hid (show immN true 1 f7 rd rs1 imm (andL imm 63) = noI from by unfold immN; rw [if_neg (by first | omega | (simp; done) | (simp; omega)), if_neg (by first | omega | (simp; done) | (simp; omega)), if_neg (by first | omega | (simp; done) | (simp; omega)), if_neg (by first | omega | (simp; done) | (simp; omega)), if_pos (by first | omega | (simp; done) | (simp; omega))])
            clear e7 A1 b7
            go_wp2_with fail
            refine (c7.out _).mono ?_
            rintro e w6 ⟨rfl, hq⟩
            obtain ⟨r0, r1, cc, cf, n1, n2, n3, BB⟩ := two_blocks B4.out ((below_drewN (Below.refl _ _) nq).trans (hq.below _))
            replace BB := Lib.hid BB
            replace n3 := Lib.hid n3
            clear B4 c7 hq
            go_wp2_with (refine st_ins rfl _ _ rfl w.heap.size rfl _ (by first | exact r0 | (simp only [rowI_setCell, n1, n2, if_false]; exact r0)) rfl _ rfl rfl (by simp [Value.oneCell']) ?_; intro W1 hW hS)
            refine ret_ins rfl rfl hW rfl rfl ⟨by rw [hr.out]; rfl, hS _ _ (Nat.le_refl _) ?_⟩
            repeat (refine below_setCell ?_ _ _ _ ?_)
            all_goals first | exact BB.out | exact n3.out | trace_state
          · have a1 : bits .and .i64 g7 1 = 0 := by rw [A1.out]; omega
            have q0 : (g7 / 2 == 0) = false := by have := e7.out; simp; omega
            have q1 : (g7 / 2 == 16) = false := by have := e7.out; simp; omega
            have hr := Lib.hid (show immN true 1 f7 rd rs1 imm (andL imm 63) = noI from by unfold immN; rw [if_neg (by first | omega | (simp; done) | (simp; omega)), if_neg (by first | omega | (simp; done) | (simp; omega)), if_neg (by first | omega | (simp; done) | (simp; omega)), if_neg (by first | omega | (simp; done) | (simp; omega)), if_pos (by first | omega | (simp; done) | (simp; omega))])
            clear e7 A1 b7
            go_wp2_with fail
            refine (c7.out _).mono ?_
            rintro e w6 ⟨rfl, hq⟩
            obtain ⟨r0, r1, cc, cf, n1, n2, n3, BB⟩ := two_blocks B4.out ((below_drewN (Below.refl _ _) nq).trans (hq.below _))
            replace BB := Lib.hid BB
            replace n3 := Lib.hid n3
            clear B4 c7 hq
            go_wp2_with (refine st_ins rfl _ _ rfl w.heap.size rfl _ (by first | exact r0 | (simp only [rowI_setCell, n1, n2, if_false]; exact r0)) rfl _ rfl rfl (by simp [Value.oneCell']) ?_; intro W1 hW hS)
            refine ret_ins rfl rfl hW rfl rfl ⟨by rw [hr.out]; rfl, hS _ _ (Nat.le_refl _) ?_⟩
            repeat (refine below_setCell ?_ _ _ _ ?_)
            all_goals first | exact BB.out | exact n3.out | trace_state
    · clear e7 A1 b7
      go_wp2_with fail
      refine (c7.out _).mono ?_
      rintro e w6 ⟨rfl, hq⟩
      obtain ⟨r0, r1, cc, cf, n1, n2, n3, BB⟩ := two_blocks B4.out ((below_drewN (Below.refl _ _) nq).trans (hq.below _))
      replace BB := Lib.hid BB
      replace n3 := Lib.hid n3
      clear B4 c7 hq
      go_wp2_with (refine st_ins rfl _ _ rfl w.heap.size rfl _ (by first | exact r0 | (simp only [rowI_setCell, n1, n2, if_false]; exact r0)) rfl _ rfl rfl (by simp [Value.oneCell']) ?_; intro W1 hW hS)
      refine ret_ins rfl rfl hW rfl rfl ⟨rfl, hS _ _ (Nat.le_refl _) ?_⟩
      repeat (refine below_setCell ?_ _ _ _ ?_)
      all_goals first | exact BB.out | exact n3.out | trace_state
    · clear e7 A1 b7
      go_wp2_with fail
      refine (c7.out _).mono ?_
      rintro e w6 ⟨rfl, hq⟩
      obtain ⟨r0, r1, cc, cf, n1, n2, n3, BB⟩ := two_blocks B4.out ((below_drewN (Below.refl _ _) nq).trans (hq.below _))
      replace BB := Lib.hid BB
      replace n3 := Lib.hid n3
      clear B4 c7 hq
      go_wp2_with (refine st_ins rfl _ _ rfl w.heap.size rfl _ (by first | exact r0 | (simp only [rowI_setCell, n1, n2, if_false]; exact r0)) rfl _ rfl rfl (by simp [Value.oneCell']) ?_; intro W1 hW hS)
      refine ret_ins rfl rfl hW rfl rfl ⟨rfl, hS _ _ (Nat.le_refl _) ?_⟩
      repeat (refine below_setCell ?_ _ _ _ ?_)
      all_goals first | exact BB.out | exact n3.out | trace_state
    · clear e7 A1 b7
      go_wp2_with fail
      refine (c7.out _).mono ?_
      rintro e w6 ⟨rfl, hq⟩
      obtain ⟨r0, r1, cc, cf, n1, n2, n3, BB⟩ := two_blocks B4.out ((below_drewN (Below.refl _ _) nq).trans (hq.below _))
      replace BB := Lib.hid BB
      replace n3 := Lib.hid n3
      clear B4 c7 hq
      go_wp2_with (refine st_ins rfl _ _ rfl w.heap.size rfl _ (by first | exact r0 | (simp only [rowI_setCell, n1, n2, if_false]; exact r0)) rfl _ rfl rfl (by simp [Value.oneCell']) ?_; intro W1 hW hS)
      refine ret_ins rfl rfl hW rfl rfl ⟨rfl, hS _ _ (Nat.le_refl _) ?_⟩
      repeat (refine below_setCell ?_ _ _ _ ?_)
      all_goals first | exact BB.out | exact n3.out | trace_state
    · by_cases d0 : f7 / 2 = 0
      · by_cases o1 : f7 % 2 = 1
        · have a1 : bits .and .i64 g7 1 = 1 := by rw [A1.out]; omega
          have q0 : (g7 / 2 == 0) = true := by have := e7.out; simp; omega
          have q1 : (g7 / 2 == 16) = false := by have := e7.out; simp; omega
          have hr := Lib.hid (show immN true 5 f7 rd rs1 imm (andL imm 63) = noI from by unfold immN; rw [if_neg (by first | omega | (simp; done) | (simp; omega)), if_neg (by first | omega | (simp; done) | (simp; omega)), if_neg (by first | omega | (simp; done) | (simp; omega)), if_neg (by first | omega | (simp; done) | (simp; omega)), if_pos (by first | omega | (simp; done) | (simp; omega))])
          clear e7 A1 b7
          go_wp2_with fail
          refine (c7.out _).mono ?_
          rintro e w6 ⟨rfl, hq⟩
          obtain ⟨r0, r1, cc, cf, n1, n2, n3, BB⟩ := two_blocks B4.out ((below_drewN (Below.refl _ _) nq).trans (hq.below _))
          replace BB := Lib.hid BB
          replace n3 := Lib.hid n3
          clear B4 c7 hq
          go_wp2_with (refine st_ins rfl _ _ rfl w.heap.size rfl _ (by first | exact r0 | (simp only [rowI_setCell, n1, n2, if_false]; exact r0)) rfl _ rfl rfl (by simp [Value.oneCell']) ?_; intro W1 hW hS)
          refine ret_ins rfl rfl hW rfl rfl ⟨by rw [hr.out]; rfl, hS _ _ (Nat.le_refl _) ?_⟩
          repeat (refine below_setCell ?_ _ _ _ ?_)
          all_goals first | exact BB.out | exact n3.out | trace_state
        · have a1 : bits .and .i64 g7 1 = 0 := by rw [A1.out]; omega
          have q0 : (g7 / 2 == 0) = true := by have := e7.out; simp; omega
          have q1 : (g7 / 2 == 16) = false := by have := e7.out; simp; omega
          have hr := Lib.hid (show immN true 5 f7 rd rs1 imm (andL imm 63) = ⟨8, 5, (rd : Nat), (rs1 : Nat), 0, andL imm 63, 0, false, true, false, 0⟩ from by unfold immN; rw [if_neg (by first | omega | (simp; done) | (simp; omega)), if_pos (by first | omega | (simp; done) | (simp; omega))])
          clear e7 A1 b7
          go_wp2_with fail
          refine (c7.out _).mono ?_
          rintro e w6 ⟨rfl, hq⟩
          obtain ⟨r0, r1, cc, cf, n1, n2, n3, BB⟩ := two_blocks B4.out ((below_drewN (Below.refl _ _) nq).trans (hq.below _))
          replace BB := Lib.hid BB
          replace n3 := Lib.hid n3
          clear B4 c7 hq
          go_wp2_with (refine st_ins rfl _ _ rfl w.heap.size rfl _ (by first | exact r0 | (simp only [rowI_setCell, n1, n2, if_false]; exact r0)) rfl _ rfl rfl (by simp [Value.oneCell']) ?_; intro W1 hW hS)
          refine ret_ins rfl rfl hW rfl rfl ⟨by rw [hr.out]; rfl, hS _ _ (Nat.le_refl _) ?_⟩
          repeat (refine below_setCell ?_ _ _ _ ?_)
          all_goals first | exact BB.out | exact n3.out | trace_state
      · by_cases d1 : f7 / 2 = 16
        · by_cases o1 : f7 % 2 = 1
          · have a1 : bits .and .i64 g7 1 = 1 := by rw [A1.out]; omega
            have q0 : (g7 / 2 == 0) = false := by have := e7.out; simp; omega
            have q1 : (g7 / 2 == 16) = true := by have := e7.out; simp; omega
            have hr := Lib.hid (show immN true 5 f7 rd rs1 imm (andL imm 63) = noI from by unfold immN; rw [if_neg (by first | omega | (simp; done) | (simp; omega)), if_neg (by first | omega | (simp; done) | (simp; omega)), if_neg (by first | omega | (simp; done) | (simp; omega)), if_neg (by first | omega | (simp; done) | (simp; omega)), if_pos (by first | omega | (simp; done) | (simp; omega))])
            clear e7 A1 b7
            go_wp2_with fail
            refine (c7.out _).mono ?_
            rintro e w6 ⟨rfl, hq⟩
            obtain ⟨r0, r1, cc, cf, n1, n2, n3, BB⟩ := two_blocks B4.out ((below_drewN (Below.refl _ _) nq).trans (hq.below _))
            replace BB := Lib.hid BB
            replace n3 := Lib.hid n3
            clear B4 c7 hq
            go_wp2_with (refine st_ins rfl _ _ rfl w.heap.size rfl _ (by first | exact r0 | (simp only [rowI_setCell, n1, n2, if_false]; exact r0)) rfl _ rfl rfl (by simp [Value.oneCell']) ?_; intro W1 hW hS)
            refine ret_ins rfl rfl hW rfl rfl ⟨by rw [hr.out]; rfl, hS _ _ (Nat.le_refl _) ?_⟩
            repeat (refine below_setCell ?_ _ _ _ ?_)
            all_goals first | exact BB.out | exact n3.out | trace_state
          · have a1 : bits .and .i64 g7 1 = 0 := by rw [A1.out]; omega
            have q0 : (g7 / 2 == 0) = false := by have := e7.out; simp; omega
            have q1 : (g7 / 2 == 16) = true := by have := e7.out; simp; omega
            have hr := Lib.hid (show immN true 5 f7 rd rs1 imm (andL imm 63) = ⟨8, 13, (rd : Nat), (rs1 : Nat), 0, andL imm 63, 0, false, true, false, 0⟩ from by unfold immN; rw [if_neg (by first | omega | (simp; done) | (simp; omega)), if_neg (by first | omega | (simp; done) | (simp; omega)), if_pos (by first | omega | (simp; done) | (simp; omega))])
            clear e7 A1 b7
            go_wp2_with fail
            refine (c7.out _).mono ?_
            rintro e w6 ⟨rfl, hq⟩
            obtain ⟨r0, r1, cc, cf, n1, n2, n3, BB⟩ := two_blocks B4.out ((below_drewN (Below.refl _ _) nq).trans (hq.below _))
            replace BB := Lib.hid BB
            replace n3 := Lib.hid n3
            clear B4 c7 hq
            go_wp2_with (refine st_ins rfl _ _ rfl w.heap.size rfl _ (by first | exact r0 | (simp only [rowI_setCell, n1, n2, if_false]; exact r0)) rfl _ rfl rfl (by simp [Value.oneCell']) ?_; intro W1 hW hS)
            refine ret_ins rfl rfl hW rfl rfl ⟨by rw [hr.out]; rfl, hS _ _ (Nat.le_refl _) ?_⟩
            repeat (refine below_setCell ?_ _ _ _ ?_)
            all_goals first | exact BB.out | exact n3.out | trace_state
        · by_cases o1 : f7 % 2 = 1
          · have a1 : bits .and .i64 g7 1 = 1 := by rw [A1.out]; omega
            have q0 : (g7 / 2 == 0) = false := by have := e7.out; simp; omega
            have q1 : (g7 / 2 == 16) = false := by have := e7.out; simp; omega
            have hr := Lib.hid (show immN true 5 f7 rd rs1 imm (andL imm 63) = noI from by unfold immN; rw [if_neg (by first | omega | (simp; done) | (simp; omega)), if_neg (by first | omega | (simp; done) | (simp; omega)), if_neg (by first | omega | (simp; done) | (simp; omega)), if_neg (by first | omega | (simp; done) | (simp; omega)), if_pos (by first | omega | (simp; done) | (simp; omega))])
            clear e7 A1 b7
            go_wp2_with fail
            refine (c7.out _).mono ?_
            rintro e w6 ⟨rfl, hq⟩
            obtain ⟨r0, r1, cc, cf, n1, n2, n3, BB⟩ := two_blocks B4.out ((below_drewN (Below.refl _ _) nq).trans (hq.below _))
            replace BB := Lib.hid BB
            replace n3 := Lib.hid n3
            clear B4 c7 hq
            go_wp2_with (refine st_ins rfl _ _ rfl w.heap.size rfl _ (by first | exact r0 | (simp only [rowI_setCell, n1, n2, if_false]; exact r0)) rfl _ rfl rfl (by simp [Value.oneCell']) ?_; intro W1 hW hS)
            refine ret_ins rfl rfl hW rfl rfl ⟨by rw [hr.out]; rfl, hS _ _ (Nat.le_refl _) ?_⟩
            repeat (refine below_setCell ?_ _ _ _ ?_)
            all_goals first | exact BB.out | exact n3.out | trace_state
          · have a1 : bits .and .i64 g7 1 = 0 := by rw [A1.out]; omega
            have q0 : (g7 / 2 == 0) = false := by have := e7.out; simp; omega
            have q1 : (g7 / 2 == 16) = false := by have := e7.out; simp; omega
            have hr := Lib.hid (show immN true 5 f7 rd rs1 imm (andL imm 63) = noI from by unfold immN; rw [if_neg (by first | omega | (simp; done) | (simp; omega)), if_neg (by first | omega | (simp; done) | (simp; omega)), if_neg (by first | omega | (simp; done) | (simp; omega)), if_neg (by first | omega | (simp; done) | (simp; omega)), if_pos (by first | omega | (simp; done) | (simp; omega))])
            clear e7 A1 b7
            go_wp2_with fail
            refine (c7.out _).mono ?_
            rintro e w6 ⟨rfl, hq⟩
            obtain ⟨r0, r1, cc, cf, n1, n2, n3, BB⟩ := two_blocks B4.out ((below_drewN (Below.refl _ _) nq).trans (hq.below _))
            replace BB := Lib.hid BB
            replace n3 := Lib.hid n3
            clear B4 c7 hq
            go_wp2_with (refine st_ins rfl _ _ rfl w.heap.size rfl _ (by first | exact r0 | (simp only [rowI_setCell, n1, n2, if_false]; exact r0)) rfl _ rfl rfl (by simp [Value.oneCell']) ?_; intro W1 hW hS)
            refine ret_ins rfl rfl hW rfl rfl ⟨by rw [hr.out]; rfl, hS _ _ (Nat.le_refl _) ?_⟩
            repeat (refine below_setCell ?_ _ _ _ ?_)
            all_goals first | exact BB.out | exact n3.out | trace_state
    · clear e7 A1 b7
      go_wp2_with fail
      refine (c7.out _).mono ?_
      rintro e w6 ⟨rfl, hq⟩
      obtain ⟨r0, r1, cc, cf, n1, n2, n3, BB⟩ := two_blocks B4.out ((below_drewN (Below.refl _ _) nq).trans (hq.below _))
      replace BB := Lib.hid BB
      replace n3 := Lib.hid n3
      clear B4 c7 hq
      go_wp2_with (refine st_ins rfl _ _ rfl w.heap.size rfl _ (by first | exact r0 | (simp only [rowI_setCell, n1, n2, if_false]; exact r0)) rfl _ rfl rfl (by simp [Value.oneCell']) ?_; intro W1 hW hS)
      refine ret_ins rfl rfl hW rfl rfl ⟨rfl, hS _ _ (Nat.le_refl _) ?_⟩
      repeat (refine below_setCell ?_ _ _ _ ?_)
      all_goals first | exact BB.out | exact n3.out | trace_state
    · clear e7 A1 b7
      go_wp2_with fail
      refine (c7.out _).mono ?_
      rintro e w6 ⟨rfl, hq⟩
      obtain ⟨r0, r1, cc, cf, n1, n2, n3, BB⟩ := two_blocks B4.out ((below_drewN (Below.refl _ _) nq).trans (hq.below _))
      replace BB := Lib.hid BB
      replace n3 := Lib.hid n3
      clear B4 c7 hq
      go_wp2_with (refine st_ins rfl _ _ rfl w.heap.size rfl _ (by first | exact r0 | (simp only [rowI_setCell, n1, n2, if_false]; exact r0)) rfl _ rfl rfl (by simp [Value.oneCell']) ?_; intro W1 hW hS)
      refine ret_ins rfl rfl hW rfl rfl ⟨rfl, hS _ _ (Nat.le_refl _) ?_⟩
      repeat (refine below_setCell ?_ _ _ _ ?_)
      all_goals first | exact BB.out | exact n3.out | trace_state
theorem immediate_any (v : BitVec 32) : Mk Try.prog 67 #[.int .u32 (v.toNat : Int)] (.agg (insC (immD v))) := by
  intro w
  exact immediate_at (v.toNat : Int) (decide (fieldI v 6 0 = 27)) (fieldI v 6 0 : Nat) (by rw [Bool.eq_iff_iff]; simp; omega) _ _ _ _ _ _ _ (Lib.hid rfl) (Lib.hid rfl) (by have := (small_of v).f3; omega) (by have := (small_of v).f7; omega)
    (Lib.hid (pOpcode_any v).mk) (Lib.hid (pFunct3_any v)) (Lib.hid (pRd_any v).mk) (Lib.hid (pRs1_any v).mk) (Lib.hid (immI_any v)) (Lib.hid (pFunct7_any v)) w
end Go.Proofs.Ytnhbekgmameeaaa
