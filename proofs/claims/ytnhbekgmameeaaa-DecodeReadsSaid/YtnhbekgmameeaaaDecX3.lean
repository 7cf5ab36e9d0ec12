/- Contracts, by operations: DecReg, DecImm, DecSys. -/
import Derived.Test.YtnhbekgmameeaaaIns
import Derived.Test.YtnhbekgmameeaaaShape
import Derived.Test.YtnhbekgmameeaaaAndL
import Derived.Test.YtnhbekgmameeaaaIns2
namespace Go.Proofs.Ytnhbekgmameeaaa
section
open Go.RowKit Wd
set_option linter.unusedVariables false
set_option linter.unusedSimpArgs false
attribute [local go_sem] loadI_lit storeI_lit rowI_alloc rowI_drew rowI_setRow rowI_setCell setRow_allocI and_L
attribute [local go_sem ↓] loadI_run storeI_run'
set_option maxRecDepth 8000
set_option maxHeartbeats 20000000 in
theorem registers_at (x : Int) (W : Bool) (op : Int) (hX : (op == 59) = W) (f3 f7 rd rs1 rs2 : Nat) (g3 g7 : Int) (e3 : Hid (g3 = (f3 : Int))) (e7 : Hid (g7 = (f7 : Int))) (h3 : f3 < 8)
    (cO : Hid (Mk Try.prog 23 #[.int .u32 x] (.int .i64 op))) (c3 : Hid (Mk Try.prog 25 #[.int .u32 x] (.int .i64 g3))) (cd : Hid (Mk Try.prog 24 #[.int .u32 x] (.int .i64 (rd : Int)))) (ca : Hid (Mk Try.prog 26 #[.int .u32 x] (.int .i64 (rs1 : Int)))) (cb : Hid (Mk Try.prog 27 #[.int .u32 x] (.int .i64 (rs2 : Int)))) (c7 : Hid (Mk Try.prog 28 #[.int .u32 x] (.int .i64 g7))) (w : World) :
    Calls Try.prog 68 #[.int .u32 x] w fun e w' => e = .returned (.agg (insC (regN W f3 f7 rd rs1 rs2))) ∧ Below w.heap.size w w' := by
  go_enter Try.func68, Try.ntmps68
  go_wp2_with fail
  refine (cO.out _).mono ?_
  rintro e w1 ⟨rfl, hb1⟩
  go_wp2_with fail
  refine (c3.out _).mono ?_
  rintro e w2 ⟨rfl, hb2⟩
  go_wp2_with fail
  refine (cd.out _).mono ?_
  rintro e w3 ⟨rfl, hb3⟩
  go_wp2_with fail
  refine (ca.out _).mono ?_
  rintro e w4 ⟨rfl, hb4⟩
  go_wp2_with fail
  refine (cb.out _).mono ?_
  rintro e w5 ⟨rfl, hb5⟩
  have B2 := hb1.trans (hb2.mono hb1.size)
  have B3 := B2.trans (hb3.mono B2.size)
  have B4 := B3.trans (hb4.mono B3.size)
  have B5 := B4.trans (hb5.mono B4.size)
  clear hb1 hb2 hb3 hb4 hb5 B2 B3 B4 cO c3 cd ca cb
  replace B5 := Lib.hid B5
  have hf : f3 = 0 ∨ f3 = 1 ∨ f3 = 2 ∨ f3 = 3 ∨ f3 = 4 ∨ f3 = 5 ∨ f3 = 6 ∨ f3 = 7 := by omega
  clear h3
  rcases hf with rfl | rfl | rfl | rfl | rfl | rfl | rfl | rfl
  all_goals
    have e := e3.out
    simp at e
    subst e
    clear e3
    go_wp2_with fail
    refine (c7.out _).mono ?_
    rintro e w6 ⟨rfl, hb6⟩
    obtain ⟨r0, r1, cc, cf, n1, n2, n3, BB⟩ := two_blocks B5.out hb6
    replace BB := Lib.hid BB
    replace n3 := Lib.hid n3
    clear hb6 B5 c7
    have E := e7.out
    by_cases h0 : f7 = 0
    · subst h0
      simp at E
      subst E
      clear e7
      cases W
      all_goals
        go_wp2_with (refine st_ins rfl _ _ rfl w.heap.size rfl _ (by first | exact r0 | (simp only [rowI_setCell, n1, n2, if_false]; exact r0)) rfl _ rfl rfl (by simp [Value.oneCell']) ?_; intro W hW hS)
        refine ret_ins rfl rfl hW rfl rfl ⟨rfl, hS _ _ (Nat.le_refl _) ?_⟩
        repeat (refine below_setCell ?_ _ _ _ ?_)
        all_goals first | exact BB.out | exact n3.out | trace_state
    · by_cases h1 : f7 = 1
      · subst h1
        simp at E
        subst E
        clear e7 h0
        cases W
        all_goals
          go_wp2_with (refine st_ins rfl _ _ rfl w.heap.size rfl _ (by first | exact r0 | (simp only [rowI_setCell, n1, n2, if_false]; exact r0)) rfl _ rfl rfl (by simp [Value.oneCell']) ?_; intro W hW hS)
          refine ret_ins rfl rfl hW rfl rfl ⟨rfl, hS _ _ (Nat.le_refl _) ?_⟩
          repeat (refine below_setCell ?_ _ _ _ ?_)
          all_goals first | exact BB.out | exact n3.out | trace_state
      · by_cases h32 : f7 = 32
        · subst h32
          simp at E
          subst E
          clear e7 h0 h1
          go_wp2_with (refine st_ins rfl _ _ rfl w.heap.size rfl _ (by first | exact r0 | (simp only [rowI_setCell, n1, n2, if_false]; exact r0)) rfl _ rfl rfl (by simp [Value.oneCell']) ?_; intro W hW hS)
          refine ret_ins rfl rfl hW rfl rfl ⟨rfl, hS _ _ (Nat.le_refl _) ?_⟩
          repeat (refine below_setCell ?_ _ _ _ ?_)
          all_goals first | exact BB.out | exact n3.out | trace_state
        · have q0 : (g7 == 0) = false := by simp; omega
          have q1 : (g7 == 1) = false := by simp; omega
          have q2 : (g7 == 32) = false := by simp; omega
          have hr := Lib.hid (show ∀ k, regN W k f7 rd rs1 rs2 = noI from fun k => by unfold regN; rw [if_neg (by omega), if_neg (by omega), if_neg (by omega), if_neg (by omega)])
          clear E e7 h0 h1 h32
          go_wp2_with (refine st_ins rfl _ _ rfl w.heap.size rfl _ (by first | exact r0 | (simp only [rowI_setCell, n1, n2, if_false]; exact r0)) rfl _ rfl rfl (by simp [Value.oneCell']) ?_; intro W hW hS)
          refine ret_ins rfl rfl hW rfl rfl ⟨by rw [hr.out]; rfl, hS _ _ (Nat.le_refl _) ?_⟩
          repeat (refine below_setCell ?_ _ _ _ ?_)
          all_goals first | exact BB.out | exact n3.out | trace_state
theorem registers_any (v : BitVec 32) : Mk Try.prog 68 #[.int .u32 (v.toNat : Int)] (.agg (insC (regD v))) := by
  intro w
  exact registers_at (v.toNat : Int) (decide (fieldI v 6 0 = 59)) (fieldI v 6 0 : Nat) (by rw [Bool.eq_iff_iff]; simp; omega) _ _ _ _ _ _ _ (Lib.hid rfl) (Lib.hid rfl) (by have := (small_of v).f3; omega)
    (Lib.hid (pOpcode_any v).mk) (Lib.hid (pFunct3_any v).mk) (Lib.hid (pRd_any v).mk) (Lib.hid (pRs1_any v).mk) (Lib.hid (pRs2_any v).mk) (Lib.hid (pFunct7_any v).mk) w
end
section
open Go.RowKit Wd
set_option linter.unusedVariables false
set_option linter.unusedSimpArgs false
attribute [local go_sem] loadI_lit storeI_lit rowI_alloc rowI_drew rowI_setRow rowI_setCell setRow_allocI and_L
attribute [local go_sem ↓] loadI_run storeI_run'
set_option maxRecDepth 8000
theorem and1_127 (n : Nat) (h : n < 128) : bits .and .i64 (n : Int) 1 = ((n % 2 : Nat) : Int) := by
  have : ∀ k : Nat, k < 128 → bits .and .i64 (k : Int) 1 = ((k % 2 : Nat) : Int) := by decide +kernel
  exact this n h
theorem and63_eq (v : BitVec 64) : andL v 63 = v &&& 63#64 := rfl
set_option maxHeartbeats 20000000 in
theorem immediate_at (x : Int) (W : Bool) (op : Int) (hX : (op == 27) = W) (f3 f7 rd rs1 : Nat) (imm : BitVec 64) (g3 g7 : Int) (e3 : Hid (g3 = (f3 : Int))) (e7 : Hid (g7 = (f7 : Int))) (h3 : f3 < 8) (h7 : f7 < 128)
    (cO : Hid (Mk Try.prog 23 #[.int .u32 x] (.int .i64 op))) (c3 : Hid (Qt Try.prog 25 #[.int .u32 x] (.int .i64 g3))) (cd : Hid (Mk Try.prog 24 #[.int .u32 x] (.int .i64 (rd : Int)))) (ca : Hid (Mk Try.prog 26 #[.int .u32 x] (.int .i64 (rs1 : Int)))) (ci : Hid (Mk Try.prog 34 #[.int .u32 x] (.int .u64 (imm.toNat : Int)))) (c7 : Hid (Qt Try.prog 28 #[.int .u32 x] (.int .i64 g7))) (w : World) :
    Calls Try.prog 67 #[.int .u32 x] w fun e w' => e = .returned (.agg (insC (immN W f3 f7 rd rs1 imm (andL imm 63)))) ∧ Below w.heap.size w w' := by
  have b7 : 0 ≤ g7 := by rw [e7.out]; omega
  have A1 := Lib.hid (show bits .and .i64 g7 1 = ((f7 % 2 : Nat) : Int) from by rw [e7.out]; exact and1_127 f7 h7)
  go_enter Try.func67, Try.ntmps67
  go_wp2_with fail
  refine (cO.out _).mono ?_
  rintro e w1 ⟨rfl, hb1⟩
  go_wp2_with fail
  refine (cd.out _).mono ?_
  rintro e w2 ⟨rfl, hb2⟩
  go_wp2_with fail
  refine (ca.out _).mono ?_
  rintro e w3 ⟨rfl, hb3⟩
  go_wp2_with fail
  refine (ci.out _).mono ?_
  rintro e w4 ⟨rfl, hb4⟩
  have B2 := hb1.trans (hb2.mono hb1.size)
  have B3 := B2.trans (hb3.mono B2.size)
  have B4 := B3.trans (hb4.mono B3.size)
  clear hb1 hb2 hb3 hb4 B2 B3 cO cd ca ci
  replace B4 := Lib.hid B4
  go_wp2_with fail
  go_quiet ((first | (go_at_call 25; exact (c3.out).quiet) | (go_at_call 28; exact (c7.out).quiet)))
  clear c3
  have hf : f3 = 0 ∨ f3 = 1 ∨ f3 = 2 ∨ f3 = 3 ∨ f3 = 4 ∨ f3 = 5 ∨ f3 = 6 ∨ f3 = 7 := by omega
  clear h3
  cases W
  · obtain ⟨r0, r1, cc, cf, n1, n2, n3, BB⟩ := two_blocks (c := #[.int .i64 8, .int .i64 0, .int .i64 (rd : Int), .int .i64 (rs1 : Int), .int .i64 0, .int .u64 (imm.toNat : Int), .int .i64 0, .bool false, .bool false, .bool false, .int .i64 0]) B4.out (below_drewN (Below.refl _ _) nq)
    replace BB := Lib.hid BB
    replace n3 := Lib.hid n3
    clear B4 c7
    rcases hf with rfl | rfl | rfl | rfl | rfl | rfl | rfl | rfl
    all_goals
      have e := e3.out
      simp at e
      subst e
      clear e3
    · clear e7 A1 b7
      go_wp2_with (refine st_ins rfl _ _ rfl w.heap.size rfl _ (by first | exact r0 | (simp only [rowI_setCell, n1, n2, if_false]; exact r0)) rfl _ rfl rfl (by simp [Value.oneCell']) ?_; intro W1 hW hS)
      refine ret_ins rfl rfl hW rfl rfl ⟨rfl, hS _ _ (Nat.le_refl _) ?_⟩
      repeat (refine below_setCell ?_ _ _ _ ?_)
      all_goals first | exact BB.out | exact n3.out | trace_state
    · by_cases d0 : f7 / 2 = 0
      · have q0 : (g7 / 2 == 0) = true := by have := e7.out; simp; omega
        have q1 : (g7 / 2 == 16) = false := by have := e7.out; simp; omega
        have hr := Lib.hid (show immN false 1 f7 rd rs1 imm (andL imm 63) = ⟨8, 1, (rd : Nat), (rs1 : Nat), 0, andL imm 63, 0, false, false, false, 0⟩ from by unfold immN; rw [if_pos (by first | omega | (simp; done) | (simp; omega))])
        clear e7 A1 b7
        go_wp2_with (refine st_ins rfl _ _ rfl w.heap.size rfl _ (by first | exact r0 | (simp only [rowI_setCell, n1, n2, if_false]; exact r0)) rfl _ rfl rfl (by simp [Value.oneCell']) ?_; intro W1 hW hS)
        refine ret_ins rfl rfl hW rfl rfl ⟨by rw [hr.out]; rfl, hS _ _ (Nat.le_refl _) ?_⟩
        repeat (refine below_setCell ?_ _ _ _ ?_)
        all_goals first | exact BB.out | exact n3.out | trace_state
      · by_cases d1 : f7 / 2 = 16
        · have q0 : (g7 / 2 == 0) = false := by have := e7.out; simp; omega
          have q1 : (g7 / 2 == 16) = true := by have := e7.out; simp; omega
          have hr := Lib.hid (show immN false 1 f7 rd rs1 imm (andL imm 63) = noI from by unfold immN; rw [if_neg (by first | omega | (simp; done) | (simp; omega)), if_neg (by first | omega | (simp; done) | (simp; omega)), if_neg (by first | omega | (simp; done) | (simp; omega)), if_neg (by first | omega | (simp; done) | (simp; omega)), if_pos (by first | omega | (simp; done) | (simp; omega))])
          clear e7 A1 b7
          go_wp2_with (refine st_ins rfl _ _ rfl w.heap.size rfl _ (by first | exact r0 | (simp only [rowI_setCell, n1, n2, if_false]; exact r0)) rfl _ rfl rfl (by simp [Value.oneCell']) ?_; intro W1 hW hS)
          refine ret_ins rfl rfl hW rfl rfl ⟨by rw [hr.out]; rfl, hS _ _ (Nat.le_refl _) ?_⟩
          repeat (refine below_setCell ?_ _ _ _ ?_)
          all_goals first | exact BB.out | exact n3.out | trace_state
        · have q0 : (g7 / 2 == 0) = false := by have := e7.out; simp; omega
          have q1 : (g7 / 2 == 16) = false := by have := e7.out; simp; omega
          have hr := Lib.hid (show immN false 1 f7 rd rs1 imm (andL imm 63) = noI from by unfold immN; rw [if_neg (by first | omega | (simp; done) | (simp; omega)), if_neg (by first | omega | (simp; done) | (simp; omega)), if_neg (by first | omega | (simp; done) | (simp; omega)), if_neg (by first | omega | (simp; done) | (simp; omega)), if_pos (by first | omega | (simp; done) | (simp; omega))])
          clear e7 A1 b7
          go_wp2_with (refine st_ins rfl _ _ rfl w.heap.size rfl _ (by first | exact r0 | (simp only [rowI_setCell, n1, n2, if_false]; exact r0)) rfl _ rfl rfl (by simp [Value.oneCell']) ?_; intro W1 hW hS)
          refine ret_ins rfl rfl hW rfl rfl ⟨by rw [hr.out]; rfl, hS _ _ (Nat.le_refl _) ?_⟩
          repeat (refine below_setCell ?_ _ _ _ ?_)
          all_goals first | exact BB.out | exact n3.out | trace_state
    · clear e7 A1 b7
      go_wp2_with (refine st_ins rfl _ _ rfl w.heap.size rfl _ (by first | exact r0 | (simp only [rowI_setCell, n1, n2, if_false]; exact r0)) rfl _ rfl rfl (by simp [Value.oneCell']) ?_; intro W1 hW hS)
      refine ret_ins rfl rfl hW rfl rfl ⟨rfl, hS _ _ (Nat.le_refl _) ?_⟩
      repeat (refine below_setCell ?_ _ _ _ ?_)
      all_goals first | exact BB.out | exact n3.out | trace_state
    · clear e7 A1 b7
      go_wp2_with (refine st_ins rfl _ _ rfl w.heap.size rfl _ (by first | exact r0 | (simp only [rowI_setCell, n1, n2, if_false]; exact r0)) rfl _ rfl rfl (by simp [Value.oneCell']) ?_; intro W1 hW hS)
      refine ret_ins rfl rfl hW rfl rfl ⟨rfl, hS _ _ (Nat.le_refl _) ?_⟩
      repeat (refine below_setCell ?_ _ _ _ ?_)
      all_goals first | exact BB.out | exact n3.out | trace_state
    · clear e7 A1 b7
      go_wp2_with (refine st_ins rfl _ _ rfl w.heap.size rfl _ (by first | exact r0 | (simp only [rowI_setCell, n1, n2, if_false]; exact r0)) rfl _ rfl rfl (by simp [Value.oneCell']) ?_; intro W1 hW hS)
      refine ret_ins rfl rfl hW rfl rfl ⟨rfl, hS _ _ (Nat.le_refl _) ?_⟩
      repeat (refine below_setCell ?_ _ _ _ ?_)
      all_goals first | exact BB.out | exact n3.out | trace_state
    · by_cases d0 : f7 / 2 = 0
      · have q0 : (g7 / 2 == 0) = true := by have := e7.out; simp; omega
        have q1 : (g7 / 2 == 16) = false := by have := e7.out; simp; omega
        have hr := Lib.hid (show immN false 5 f7 rd rs1 imm (andL imm 63) = ⟨8, 5, (rd : Nat), (rs1 : Nat), 0, andL imm 63, 0, false, false, false, 0⟩ from by unfold immN; rw [if_neg (by first | omega | (simp; done) | (simp; omega)), if_pos (by first | omega | (simp; done) | (simp; omega))])
        clear e7 A1 b7
        go_wp2_with (refine st_ins rfl _ _ rfl w.heap.size rfl _ (by first | exact r0 | (simp only [rowI_setCell, n1, n2, if_false]; exact r0)) rfl _ rfl rfl (by simp [Value.oneCell']) ?_; intro W1 hW hS)
        refine ret_ins rfl rfl hW rfl rfl ⟨by rw [hr.out]; rfl, hS _ _ (Nat.le_refl _) ?_⟩
        repeat (refine below_setCell ?_ _ _ _ ?_)
        all_goals first | exact BB.out | exact n3.out | trace_state
      · by_cases d1 : f7 / 2 = 16
        · have q0 : (g7 / 2 == 0) = false := by have := e7.out; simp; omega
          have q1 : (g7 / 2 == 16) = true := by have := e7.out; simp; omega
          have hr := Lib.hid (show immN false 5 f7 rd rs1 imm (andL imm 63) = ⟨8, 13, (rd : Nat), (rs1 : Nat), 0, andL imm 63, 0, false, false, false, 0⟩ from by unfold immN; rw [if_neg (by first | omega | (simp; done) | (simp; omega)), if_neg (by first | omega | (simp; done) | (simp; omega)), if_pos (by first | omega | (simp; done) | (simp; omega))])
          clear e7 A1 b7
          go_wp2_with (refine st_ins rfl _ _ rfl w.heap.size rfl _ (by first | exact r0 | (simp only [rowI_setCell, n1, n2, if_false]; exact r0)) rfl _ rfl rfl (by simp [Value.oneCell']) ?_; intro W1 hW hS)
          refine ret_ins rfl rfl hW rfl rfl ⟨by rw [hr.out]; rfl, hS _ _ (Nat.le_refl _) ?_⟩
          repeat (refine below_setCell ?_ _ _ _ ?_)
          all_goals first | exact BB.out | exact n3.out | trace_state
        · have q0 : (g7 / 2 == 0) = false := by have := e7.out; simp; omega
          have q1 : (g7 / 2 == 16) = false := by have := e7.out; simp; omega
          have hr := Lib.hid (show immN false 5 f7 rd rs1 imm (andL imm 63) = noI from by unfold immN; rw [if_neg (by first | omega | (simp; done) | (simp; omega)), if_neg (by first | omega | (simp; done) | (simp; omega)), if_neg (by first | omega | (simp; done) | (simp; omega)), if_neg (by first | omega | (simp; done) | (simp; omega)), if_pos (by first | omega | (simp; done) | (simp; omega))])
          clear e7 A1 b7
          go_wp2_with (refine st_ins rfl _ _ rfl w.heap.size rfl _ (by first | exact r0 | (simp only [rowI_setCell, n1, n2, if_false]; exact r0)) rfl _ rfl rfl (by simp [Value.oneCell']) ?_; intro W1 hW hS)
          refine ret_ins rfl rfl hW rfl rfl ⟨by rw [hr.out]; rfl, hS _ _ (Nat.le_refl _) ?_⟩
          repeat (refine below_setCell ?_ _ _ _ ?_)
          all_goals first | exact BB.out | exact n3.out | trace_state
    · clear e7 A1 b7
      go_wp2_with (refine st_ins rfl _ _ rfl w.heap.size rfl _ (by first | exact r0 | (simp only [rowI_setCell, n1, n2, if_false]; exact r0)) rfl _ rfl rfl (by simp [Value.oneCell']) ?_; intro W1 hW hS)
      refine ret_ins rfl rfl hW rfl rfl ⟨rfl, hS _ _ (Nat.le_refl _) ?_⟩
      repeat (refine below_setCell ?_ _ _ _ ?_)
      all_goals first | exact BB.out | exact n3.out | trace_state
    · clear e7 A1 b7
      go_wp2_with (refine st_ins rfl _ _ rfl w.heap.size rfl _ (by first | exact r0 | (simp only [rowI_setCell, n1, n2, if_false]; exact r0)) rfl _ rfl rfl (by simp [Value.oneCell']) ?_; intro W1 hW hS)
      refine ret_ins rfl rfl hW rfl rfl ⟨rfl, hS _ _ (Nat.le_refl _) ?_⟩
      repeat (refine below_setCell ?_ _ _ _ ?_)
      all_goals first | exact BB.out | exact n3.out | trace_state
  · rcases hf with rfl | rfl | rfl | rfl | rfl | rfl | rfl | rfl
    all_goals
      have e := e3.out
      simp at e
      subst e
      clear e3
    · clear e7 A1 b7
      go_wp2_with fail
      refine (c7.out _).mono ?_
      rintro e w6 ⟨rfl, hq⟩
      obtain ⟨r0, r1, cc, cf, n1, n2, n3, BB⟩ := two_blocks B4.out ((below_drewN (Below.refl _ _) nq).trans (hq.below _))
      replace BB := Lib.hid BB
      replace n3 := Lib.hid n3
      clear B4 c7 hq
      go_wp2_with (refine st_ins rfl _ _ rfl w.heap.size rfl _ (by first | exact r0 | (simp only [rowI_setCell, n1, n2, if_false]; exact r0)) rfl _ rfl rfl (by simp [Value.oneCell']) ?_; intro W1 hW hS)
      refine ret_ins rfl rfl hW rfl rfl ⟨rfl, hS _ _ (Nat.le_refl _) ?_⟩
      repeat (refine below_setCell ?_ _ _ _ ?_)
      all_goals first | exact BB.out | exact n3.out | trace_state
    · by_cases d0 : f7 / 2 = 0
      · by_cases o1 : f7 % 2 = 1
        · have a1 : bits .and .i64 g7 1 = 1 := by rw [A1.out]; omega
          have q0 : (g7 / 2 == 0) = true := by have := e7.out; simp; omega
          have q1 : (g7 / 2 == 16) = false := by have := e7.out; simp; omega
          have hr := Lib.hid (show immN true 1 f7 rd rs1 imm (andL imm 63) = noI from by unfold immN; rw [if_neg (by first | omega | (simp; done) | (simp; omega)), if_neg (by first | omega | (simp; done) | (simp; omega)), if_neg (by first | omega | (simp; done) | (simp; omega)), if_neg (by first | omega | (simp; done) | (simp; omega)), if_pos (by first | omega | (simp; done) | (simp; omega))])
          clear e7 A1 b7
          go_wp2_with fail
          refine (c7.out _).mono ?_
          rintro e w6 ⟨rfl, hq⟩
          obtain ⟨r0, r1, cc, cf, n1, n2, n3, BB⟩ := two_blocks B4.out ((below_drewN (Below.refl _ _) nq).trans (hq.below _))
          replace BB := Lib.hid BB
          replace n3 := Lib.hid n3
          clear B4 c7 hq
          go_wp2_with (refine st_ins rfl _ _ rfl w.heap.size rfl _ (by first | exact r0 | (simp only [rowI_setCell, n1, n2, if_false]; exact r0)) rfl _ rfl rfl (by simp [Value.oneCell']) ?_; intro W1 hW hS)
          refine ret_ins rfl rfl hW rfl rfl ⟨by rw [hr.out]; rfl, hS _ _ (Nat.le_refl _) ?_⟩
          repeat (refine below_setCell ?_ _ _ _ ?_)
          all_goals first | exact BB.out | exact n3.out | trace_state
        · have a1 : bits .and .i64 g7 1 = 0 := by rw [A1.out]; omega
          have q0 : (g7 / 2 == 0) = true := by have := e7.out; simp; omega
          have q1 : (g7 / 2 == 16) = false := by have := e7.out; simp; omega
          have hr := Lib.hid (show immN true 1 f7 rd rs1 imm (andL imm 63) = ⟨8, 1, (rd : Nat), (rs1 : Nat), 0, andL imm 63, 0, false, true, false, 0⟩ from by unfold immN; rw [if_pos (by first | omega | (simp; done) | (simp; omega))])
          clear e7 A1 b7
          go_wp2_with fail
          refine (c7.out _).mono ?_
          rintro e w6 ⟨rfl, hq⟩
          obtain ⟨r0, r1, cc, cf, n1, n2, n3, BB⟩ := two_blocks B4.out ((below_drewN (Below.refl _ _) nq).trans (hq.below _))
          replace BB := Lib.hid BB
          replace n3 := Lib.hid n3
          clear B4 c7 hq
          go_wp2_with (refine st_ins rfl _ _ rfl w.heap.size rfl _ (by first | exact r0 | (simp only [rowI_setCell, n1, n2, if_false]; exact r0)) rfl _ rfl rfl (by simp [Value.oneCell']) ?_; intro W1 hW hS)
          refine ret_ins rfl rfl hW rfl rfl ⟨by rw [hr.out]; rfl, hS _ _ (Nat.le_refl _) ?_⟩
          repeat (refine below_setCell ?_ _ _ _ ?_)
          all_goals first | exact BB.out | exact n3.out | trace_state
      · by_cases d1 : f7 / 2 = 16
        · by_cases o1 : f7 % 2 = 1
          · have a1 : bits .and .i64 g7 1 = 1 := by rw [A1.out]; omega
            have q0 : (g7 / 2 == 0) = false := by have := e7.out; simp; omega
            have q1 : (g7 / 2 == 16) = true := by have := e7.out; simp; omega
            have hr := Lib.hid (show immN true 1 f7 rd rs1 imm (andL imm 63) = noI from by unfold immN; rw [if_neg (by first | omega | (simp; done) | (simp; omega)), if_neg (by first | omega | (simp; done) | (simp; omega)), if_neg (by first | omega | (simp; done) | (simp; omega)), if_neg (by first | omega | (simp; done) | (simp; omega)), if_pos (by first | omega | (simp; done) | (simp; omega))])
            clear e7 A1 b7
            go_wp2_with fail
            refine (c7.out _).mono ?_
            rintro e w6 ⟨rfl, hq⟩
            obtain ⟨r0, r1, cc, cf, n1, n2, n3, BB⟩ := two_blocks B4.out ((below_drewN (Below.refl _ _) nq).trans (hq.below _))
            replace BB := Lib.hid BB
            replace n3 := Lib.hid n3
            clear B4 c7 hq
            go_wp2_with (refine st_ins rfl _ _ rfl w.heap.size rfl _ (by first | exact r0 | (simp only [rowI_setCell, n1, n2, if_false]; exact r0)) rfl _ rfl rfl (by simp [Value.oneCell']) ?_; intro W1 hW hS)
            refine ret_ins rfl rfl hW rfl rfl ⟨by rw [hr.out]; rfl, hS _ _ (Nat.le_refl _) ?_⟩
            repeat (refine below_setCell ?_ _ _ _ ?_)
            all_goals first | exact BB.out | exact n3.out | trace_state
          · have a1 : bits .and .i64 g7 1 = 0 := by rw [A1.out]; omega
            have q0 : (g7 / 2 == 0) = false := by have := e7.out; simp; omega
            have q1 : (g7 / 2 == 16) = true := by have := e7.out; simp; omega
            have hr := Lib.hid (show immN true 1 f7 rd rs1 imm (andL imm 63) = noI from by unfold immN; rw [if_neg (by first | omega | (simp; done) | (simp; omega)), if_neg (by first | omega | (simp; done) | (simp; omega)), if_neg (by first | omega | (simp; done) | (simp; omega)), if_neg (by first | omega | (simp; done) | (simp; omega)), if_pos (by first | omega | (simp; done) | (simp; omega))])
            clear e7 A1 b7
            go_wp2_with fail
            refine (c7.out _).mono ?_
            rintro e w6 ⟨rfl, hq⟩
            obtain ⟨r0, r1, cc, cf, n1, n2, n3, BB⟩ := two_blocks B4.out ((below_drewN (Below.refl _ _) nq).trans (hq.below _))
            replace BB := Lib.hid BB
            replace n3 := Lib.hid n3
            clear B4 c7 hq
            go_wp2_with (refine st_ins rfl _ _ rfl w.heap.size rfl _ (by first | exact r0 | (simp only [rowI_setCell, n1, n2, if_false]; exact r0)) rfl _ rfl rfl (by simp [Value.oneCell']) ?_; intro W1 hW hS)
            refine ret_ins rfl rfl hW rfl rfl ⟨by rw [hr.out]; rfl, hS _ _ (Nat.le_refl _) ?_⟩
            repeat (refine below_setCell ?_ _ _ _ ?_)
            all_goals first | exact BB.out | exact n3.out | trace_state
        · by_cases o1 : f7 % 2 = 1
          · have a1 : bits .and .i64 g7 1 = 1 := by rw [A1.out]; omega
            have q0 : (g7 / 2 == 0) = false := by have := e7.out; simp; omega
            have q1 : (g7 / 2 == 16) = false := by have := e7.out; simp; omega
            have hr := Lib.hid (show immN true 1 f7 rd rs1 imm (andL imm 63) = noI from by unfold immN; rw [if_neg (by first | omega | (simp; done) | (simp; omega)), if_neg (by first | omega | (simp; done) | (simp; omega)), if_neg (by first | omega | (simp; done) | (simp; omega)), if_neg (by first | omega | (simp; done) | (simp; omega)), if_pos (by first | omega | (simp; done) | (simp; omega))])
            clear e7 A1 b7
            go_wp2_with fail
            refine (c7.out _).mono ?_
            rintro e w6 ⟨rfl, hq⟩
            obtain ⟨r0, r1, cc, cf, n1, n2, n3, BB⟩ := two_blocks B4.out ((below_drewN (Below.refl _ _) nq).trans (hq.below _))
            replace BB := Lib.hid BB
            replace n3 := Lib.hid n3
            clear B4 c7 hq
            go_wp2_with (refine st_ins rfl _ _ rfl w.heap.size rfl _ (by first | exact r0 | (simp only [rowI_setCell, n1, n2, if_false]; exact r0)) rfl _ rfl rfl (by simp [Value.oneCell']) ?_; intro W1 hW hS)
            refine ret_ins rfl rfl hW rfl rfl ⟨by rw [hr.out]; rfl, hS _ _ (Nat.le_refl _) ?_⟩
            repeat (refine below_setCell ?_ _ _ _ ?_)
            all_goals first | exact BB.out | exact n3.out | trace_state
          · have a1 : bits .and .i64 g7 1 = 0 := by rw [A1.out]; omega
            have q0 : (g7 / 2 == 0) = false := by have := e7.out; simp; omega
            have q1 : (g7 / 2 == 16) = false := by have := e7.out; simp; omega
            have hr := Lib.hid (show immN true 1 f7 rd rs1 imm (andL imm 63) = noI from by unfold immN; rw [if_neg (by first | omega | (simp; done) | (simp; omega)), if_neg (by first | omega | (simp; done) | (simp; omega)), if_neg (by first | omega | (simp; done) | (simp; omega)), if_neg (by first | omega | (simp; done) | (simp; omega)), if_pos (by first | omega | (simp; done) | (simp; omega))])
            clear e7 A1 b7
            go_wp2_with fail
            refine (c7.out _).mono ?_
            rintro e w6 ⟨rfl, hq⟩
            obtain ⟨r0, r1, cc, cf, n1, n2, n3, BB⟩ := two_blocks B4.out ((below_drewN (Below.refl _ _) nq).trans (hq.below _))
            replace BB := Lib.hid BB
            replace n3 := Lib.hid n3
            clear B4 c7 hq
            go_wp2_with (refine st_ins rfl _ _ rfl w.heap.size rfl _ (by first | exact r0 | (simp only [rowI_setCell, n1, n2, if_false]; exact r0)) rfl _ rfl rfl (by simp [Value.oneCell']) ?_; intro W1 hW hS)
            refine ret_ins rfl rfl hW rfl rfl ⟨by rw [hr.out]; rfl, hS _ _ (Nat.le_refl _) ?_⟩
            repeat (refine below_setCell ?_ _ _ _ ?_)
            all_goals first | exact BB.out | exact n3.out | trace_state
    · clear e7 A1 b7
      go_wp2_with fail
      refine (c7.out _).mono ?_
      rintro e w6 ⟨rfl, hq⟩
      obtain ⟨r0, r1, cc, cf, n1, n2, n3, BB⟩ := two_blocks B4.out ((below_drewN (Below.refl _ _) nq).trans (hq.below _))
      replace BB := Lib.hid BB
      replace n3 := Lib.hid n3
      clear B4 c7 hq
      go_wp2_with (refine st_ins rfl _ _ rfl w.heap.size rfl _ (by first | exact r0 | (simp only [rowI_setCell, n1, n2, if_false]; exact r0)) rfl _ rfl rfl (by simp [Value.oneCell']) ?_; intro W1 hW hS)
      refine ret_ins rfl rfl hW rfl rfl ⟨rfl, hS _ _ (Nat.le_refl _) ?_⟩
      repeat (refine below_setCell ?_ _ _ _ ?_)
      all_goals first | exact BB.out | exact n3.out | trace_state
    · clear e7 A1 b7
      go_wp2_with fail
      refine (c7.out _).mono ?_
      rintro e w6 ⟨rfl, hq⟩
      obtain ⟨r0, r1, cc, cf, n1, n2, n3, BB⟩ := two_blocks B4.out ((below_drewN (Below.refl _ _) nq).trans (hq.below _))
      replace BB := Lib.hid BB
      replace n3 := Lib.hid n3
      clear B4 c7 hq
      go_wp2_with (refine st_ins rfl _ _ rfl w.heap.size rfl _ (by first | exact r0 | (simp only [rowI_setCell, n1, n2, if_false]; exact r0)) rfl _ rfl rfl (by simp [Value.oneCell']) ?_; intro W1 hW hS)
      refine ret_ins rfl rfl hW rfl rfl ⟨rfl, hS _ _ (Nat.le_refl _) ?_⟩
      repeat (refine below_setCell ?_ _ _ _ ?_)
      all_goals first | exact BB.out | exact n3.out | trace_state
    · clear e7 A1 b7
      go_wp2_with fail
      refine (c7.out _).mono ?_
      rintro e w6 ⟨rfl, hq⟩
      obtain ⟨r0, r1, cc, cf, n1, n2, n3, BB⟩ := two_blocks B4.out ((below_drewN (Below.refl _ _) nq).trans (hq.below _))
      replace BB := Lib.hid BB
      replace n3 := Lib.hid n3
      clear B4 c7 hq
      go_wp2_with (refine st_ins rfl _ _ rfl w.heap.size rfl _ (by first | exact r0 | (simp only [rowI_setCell, n1, n2, if_false]; exact r0)) rfl _ rfl rfl (by simp [Value.oneCell']) ?_; intro W1 hW hS)
      refine ret_ins rfl rfl hW rfl rfl ⟨rfl, hS _ _ (Nat.le_refl _) ?_⟩
      repeat (refine below_setCell ?_ _ _ _ ?_)
      all_goals first | exact BB.out | exact n3.out | trace_state
    · by_cases d0 : f7 / 2 = 0
      · by_cases o1 : f7 % 2 = 1
        · have a1 : bits .and .i64 g7 1 = 1 := by rw [A1.out]; omega
          have q0 : (g7 / 2 == 0) = true := by have := e7.out; simp; omega
          have q1 : (g7 / 2 == 16) = false := by have := e7.out; simp; omega
          have hr := Lib.hid (show immN true 5 f7 rd rs1 imm (andL imm 63) = noI from by unfold immN; rw [if_neg (by first | omega | (simp; done) | (simp; omega)), if_neg (by first | omega | (simp; done) | (simp; omega)), if_neg (by first | omega | (simp; done) | (simp; omega)), if_neg (by first | omega | (simp; done) | (simp; omega)), if_pos (by first | omega | (simp; done) | (simp; omega))])
          clear e7 A1 b7
          go_wp2_with fail
          refine (c7.out _).mono ?_
          rintro e w6 ⟨rfl, hq⟩
          obtain ⟨r0, r1, cc, cf, n1, n2, n3, BB⟩ := two_blocks B4.out ((below_drewN (Below.refl _ _) nq).trans (hq.below _))
          replace BB := Lib.hid BB
          replace n3 := Lib.hid n3
          clear B4 c7 hq
          go_wp2_with (refine st_ins rfl _ _ rfl w.heap.size rfl _ (by first | exact r0 | (simp only [rowI_setCell, n1, n2, if_false]; exact r0)) rfl _ rfl rfl (by simp [Value.oneCell']) ?_; intro W1 hW hS)
          refine ret_ins rfl rfl hW rfl rfl ⟨by rw [hr.out]; rfl, hS _ _ (Nat.le_refl _) ?_⟩
          repeat (refine below_setCell ?_ _ _ _ ?_)
          all_goals first | exact BB.out | exact n3.out | trace_state
        · have a1 : bits .and .i64 g7 1 = 0 := by rw [A1.out]; omega
          have q0 : (g7 / 2 == 0) = true := by have := e7.out; simp; omega
          have q1 : (g7 / 2 == 16) = false := by have := e7.out; simp; omega
          have hr := Lib.hid (show immN true 5 f7 rd rs1 imm (andL imm 63) = ⟨8, 5, (rd : Nat), (rs1 : Nat), 0, andL imm 63, 0, false, true, false, 0⟩ from by unfold immN; rw [if_neg (by first | omega | (simp; done) | (simp; omega)), if_pos (by first | omega | (simp; done) | (simp; omega))])
          clear e7 A1 b7
          go_wp2_with fail
          refine (c7.out _).mono ?_
          rintro e w6 ⟨rfl, hq⟩
          obtain ⟨r0, r1, cc, cf, n1, n2, n3, BB⟩ := two_blocks B4.out ((below_drewN (Below.refl _ _) nq).trans (hq.below _))
          replace BB := Lib.hid BB
          replace n3 := Lib.hid n3
          clear B4 c7 hq
          go_wp2_with (refine st_ins rfl _ _ rfl w.heap.size rfl _ (by first | exact r0 | (simp only [rowI_setCell, n1, n2, if_false]; exact r0)) rfl _ rfl rfl (by simp [Value.oneCell']) ?_; intro W1 hW hS)
          refine ret_ins rfl rfl hW rfl rfl ⟨by rw [hr.out]; rfl, hS _ _ (Nat.le_refl _) ?_⟩
          repeat (refine below_setCell ?_ _ _ _ ?_)
          all_goals first | exact BB.out | exact n3.out | trace_state
      · by_cases d1 : f7 / 2 = 16
        · by_cases o1 : f7 % 2 = 1
          · have a1 : bits .and .i64 g7 1 = 1 := by rw [A1.out]; omega
            have q0 : (g7 / 2 == 0) = false := by have := e7.out; simp; omega
            have q1 : (g7 / 2 == 16) = true := by have := e7.out; simp; omega
            have hr := Lib.hid (show immN true 5 f7 rd rs1 imm (andL imm 63) = noI from by unfold immN; rw [if_neg (by first | omega | (simp; done) | (simp; omega)), if_neg (by first | omega | (simp; done) | (simp; omega)), if_neg (by first | omega | (simp; done) | (simp; omega)), if_neg (by first | omega | (simp; done) | (simp; omega)), if_pos (by first | omega | (simp; done) | (simp; omega))])
            clear e7 A1 b7
            go_wp2_with fail
            refine (c7.out _).mono ?_
            rintro e w6 ⟨rfl, hq⟩
            obtain ⟨r0, r1, cc, cf, n1, n2, n3, BB⟩ := two_blocks B4.out ((below_drewN (Below.refl _ _) nq).trans (hq.below _))
            replace BB := Lib.hid BB
            replace n3 := Lib.hid n3
            clear B4 c7 hq
            go_wp2_with (refine st_ins rfl _ _ rfl w.heap.size rfl _ (by first | exact r0 | (simp only [rowI_setCell, n1, n2, if_false]; exact r0)) rfl _ rfl rfl (by simp [Value.oneCell']) ?_; intro W1 hW hS)
            refine ret_ins rfl rfl hW rfl rfl ⟨by rw [hr.out]; rfl, hS _ _ (Nat.le_refl _) ?_⟩
            repeat (refine below_setCell ?_ _ _ _ ?_)
            all_goals first | exact BB.out | exact n3.out | trace_state
          · have a1 : bits .and .i64 g7 1 = 0 := by rw [A1.out]; omega
            have q0 : (g7 / 2 == 0) = false := by have := e7.out; simp; omega
            have q1 : (g7 / 2 == 16) = true := by have := e7.out; simp; omega
            have hr := Lib.hid (show immN true 5 f7 rd rs1 imm (andL imm 63) = ⟨8, 13, (rd : Nat), (rs1 : Nat), 0, andL imm 63, 0, false, true, false, 0⟩ from by unfold immN; rw [if_neg (by first | omega | (simp; done) | (simp; omega)), if_neg (by first | omega | (simp; done) | (simp; omega)), if_pos (by first | omega | (simp; done) | (simp; omega))])
            clear e7 A1 b7
            go_wp2_with fail
            refine (c7.out _).mono ?_
            rintro e w6 ⟨rfl, hq⟩
            obtain ⟨r0, r1, cc, cf, n1, n2, n3, BB⟩ := two_blocks B4.out ((below_drewN (Below.refl _ _) nq).trans (hq.below _))
            replace BB := Lib.hid BB
            replace n3 := Lib.hid n3
            clear B4 c7 hq
            go_wp2_with (refine st_ins rfl _ _ rfl w.heap.size rfl _ (by first | exact r0 | (simp only [rowI_setCell, n1, n2, if_false]; exact r0)) rfl _ rfl rfl (by simp [Value.oneCell']) ?_; intro W1 hW hS)
            refine ret_ins rfl rfl hW rfl rfl ⟨by rw [hr.out]; rfl, hS _ _ (Nat.le_refl _) ?_⟩
            repeat (refine below_setCell ?_ _ _ _ ?_)
            all_goals first | exact BB.out | exact n3.out | trace_state
        · by_cases o1 : f7 % 2 = 1
          · have a1 : bits .and .i64 g7 1 = 1 := by rw [A1.out]; omega
            have q0 : (g7 / 2 == 0) = false := by have := e7.out; simp; omega
            have q1 : (g7 / 2 == 16) = false := by have := e7.out; simp; omega
            have hr := Lib.hid (show immN true 5 f7 rd rs1 imm (andL imm 63) = noI from by unfold immN; rw [if_neg (by first | omega | (simp; done) | (simp; omega)), if_neg (by first | omega | (simp; done) | (simp; omega)), if_neg (by first | omega | (simp; done) | (simp; omega)), if_neg (by first | omega | (simp; done) | (simp; omega)), if_pos (by first | omega | (simp; done) | (simp; omega))])
            clear e7 A1 b7
            go_wp2_with fail
            refine (c7.out _).mono ?_
            rintro e w6 ⟨rfl, hq⟩
            obtain ⟨r0, r1, cc, cf, n1, n2, n3, BB⟩ := two_blocks B4.out ((below_drewN (Below.refl _ _) nq).trans (hq.below _))
            replace BB := Lib.hid BB
            replace n3 := Lib.hid n3
            clear B4 c7 hq
            go_wp2_with (refine st_ins rfl _ _ rfl w.heap.size rfl _ (by first | exact r0 | (simp only [rowI_setCell, n1, n2, if_false]; exact r0)) rfl _ rfl rfl (by simp [Value.oneCell']) ?_; intro W1 hW hS)
            refine ret_ins rfl rfl hW rfl rfl ⟨by rw [hr.out]; rfl, hS _ _ (Nat.le_refl _) ?_⟩
            repeat (refine below_setCell ?_ _ _ _ ?_)
            all_goals first | exact BB.out | exact n3.out | trace_state
          · have a1 : bits .and .i64 g7 1 = 0 := by rw [A1.out]; omega
            have q0 : (g7 / 2 == 0) = false := by have := e7.out; simp; omega
            have q1 : (g7 / 2 == 16) = false := by have := e7.out; simp; omega
            have hr := Lib.hid (show immN true 5 f7 rd rs1 imm (andL imm 63) = noI from by unfold immN; rw [if_neg (by first | omega | (simp; done) | (simp; omega)), if_neg (by first | omega | (simp; done) | (simp; omega)), if_neg (by first | omega | (simp; done) | (simp; omega)), if_neg (by first | omega | (simp; done) | (simp; omega)), if_pos (by first | omega | (simp; done) | (simp; omega))])
            clear e7 A1 b7
            go_wp2_with fail
            refine (c7.out _).mono ?_
            rintro e w6 ⟨rfl, hq⟩
            obtain ⟨r0, r1, cc, cf, n1, n2, n3, BB⟩ := two_blocks B4.out ((below_drewN (Below.refl _ _) nq).trans (hq.below _))
            replace BB := Lib.hid BB
            replace n3 := Lib.hid n3
            clear B4 c7 hq
            go_wp2_with (refine st_ins rfl _ _ rfl w.heap.size rfl _ (by first | exact r0 | (simp only [rowI_setCell, n1, n2, if_false]; exact r0)) rfl _ rfl rfl (by simp [Value.oneCell']) ?_; intro W1 hW hS)
            refine ret_ins rfl rfl hW rfl rfl ⟨by rw [hr.out]; rfl, hS _ _ (Nat.le_refl _) ?_⟩
            repeat (refine below_setCell ?_ _ _ _ ?_)
            all_goals first | exact BB.out | exact n3.out | trace_state
    · clear e7 A1 b7
      go_wp2_with fail
      refine (c7.out _).mono ?_
      rintro e w6 ⟨rfl, hq⟩
      obtain ⟨r0, r1, cc, cf, n1, n2, n3, BB⟩ := two_blocks B4.out ((below_drewN (Below.refl _ _) nq).trans (hq.below _))
      replace BB := Lib.hid BB
      replace n3 := Lib.hid n3
      clear B4 c7 hq
      go_wp2_with (refine st_ins rfl _ _ rfl w.heap.size rfl _ (by first | exact r0 | (simp only [rowI_setCell, n1, n2, if_false]; exact r0)) rfl _ rfl rfl (by simp [Value.oneCell']) ?_; intro W1 hW hS)
      refine ret_ins rfl rfl hW rfl rfl ⟨rfl, hS _ _ (Nat.le_refl _) ?_⟩
      repeat (refine below_setCell ?_ _ _ _ ?_)
      all_goals first | exact BB.out | exact n3.out | trace_state
    · clear e7 A1 b7
      go_wp2_with fail
      refine (c7.out _).mono ?_
      rintro e w6 ⟨rfl, hq⟩
      obtain ⟨r0, r1, cc, cf, n1, n2, n3, BB⟩ := two_blocks B4.out ((below_drewN (Below.refl _ _) nq).trans (hq.below _))
      replace BB := Lib.hid BB
      replace n3 := Lib.hid n3
      clear B4 c7 hq
      go_wp2_with (refine st_ins rfl _ _ rfl w.heap.size rfl _ (by first | exact r0 | (simp only [rowI_setCell, n1, n2, if_false]; exact r0)) rfl _ rfl rfl (by simp [Value.oneCell']) ?_; intro W1 hW hS)
      refine ret_ins rfl rfl hW rfl rfl ⟨rfl, hS _ _ (Nat.le_refl _) ?_⟩
      repeat (refine below_setCell ?_ _ _ _ ?_)
      all_goals first | exact BB.out | exact n3.out | trace_state
theorem immediate_any (v : BitVec 32) : Mk Try.prog 67 #[.int .u32 (v.toNat : Int)] (.agg (insC (immD v))) := by
  intro w
  exact immediate_at (v.toNat : Int) (decide (fieldI v 6 0 = 27)) (fieldI v 6 0 : Nat) (by rw [Bool.eq_iff_iff]; simp; omega) _ _ _ _ _ _ _ (Lib.hid rfl) (Lib.hid rfl) (by have := (small_of v).f3; omega) (by have := (small_of v).f7; omega)
    (Lib.hid (pOpcode_any v).mk) (Lib.hid (pFunct3_any v)) (Lib.hid (pRd_any v).mk) (Lib.hid (pRs1_any v).mk) (Lib.hid (immI_any v)) (Lib.hid (pFunct7_any v)) w
end
section
open Go.RowKit Wd
set_option linter.unusedVariables false
set_option linter.unusedSimpArgs false
attribute [local go_sem] loadI_lit storeI_lit rowI_alloc rowI_drew rowI_setRow rowI_setCell setRow_allocI and_L
attribute [local go_sem ↓] loadI_run storeI_run'
set_option maxRecDepth 8000
attribute [local go_sem ↓] storeK_eq
attribute [local go_sem] storeK_run storeK_one storeF_lit
set_option maxHeartbeats 40000000 in
theorem system_at (n f3 f7 rd rs1 rs2 : Nat) (hn : n < 4294967296) (x g3 g7 : Int) (eX : Hid (x = (n : Int))) (e3 : Hid (g3 = (f3 : Int))) (e7 : Hid (g7 = (f7 : Int))) (h3 : f3 < 8)
    (c3 : Hid (Mk Try.prog 25 #[.int .u32 x] (.int .i64 g3))) (cd : Hid (Mk Try.prog 24 #[.int .u32 x] (.int .i64 (rd : Int)))) (ca : Hid (Mk Try.prog 26 #[.int .u32 x] (.int .i64 (rs1 : Int)))) (cb : Hid (Mk Try.prog 27 #[.int .u32 x] (.int .i64 (rs2 : Int)))) (c7 : Hid (Mk Try.prog 28 #[.int .u32 x] (.int .i64 g7))) (w : World) :
    Calls Try.prog 70 #[.int .u32 x] w fun e w' => e = .returned (.agg (insC (sysN n f3 f7 rd rs1 rs2))) ∧ Below w.heap.size w w' := by
  have bX : 0 ≤ x := by rw [eX.out]; omega
  by_cases k0 : n = 115
  · have hr := Lib.hid (show sysN n f3 f7 rd rs1 rs2 = opOnly 13 from by unfold sysN; rw [if_pos k0])
    have e := eX.out
    rw [k0] at e
    simp at e
    subst e
    clear k0
    go_enter Try.func70, Try.ntmps70
    go_wp2_with fail
    refine ret_ins (cs := insC (opOnly 13)) rfl rfl (by rw [rowI_alloc, if_pos rfl, if_pos rfl]; rfl) rfl rfl ⟨by rw [hr.out], (Below.refl _ _).alloc (Nat.le_refl _) _⟩
  by_cases k1 : n = 1048691
  · have hr := Lib.hid (show sysN n f3 f7 rd rs1 rs2 = opOnly 14 from by unfold sysN; rw [if_neg k0, if_pos k1])
    have e := eX.out
    rw [k1] at e
    simp at e
    subst e
    clear k0 k1
    go_enter Try.func70, Try.ntmps70
    go_wp2_with fail
    refine ret_ins (cs := insC (opOnly 14)) rfl rfl (by rw [rowI_alloc, if_pos rfl, if_pos rfl]; rfl) rfl rfl ⟨by rw [hr.out], (Below.refl _ _).alloc (Nat.le_refl _) _⟩
  by_cases k2 : n = 270532723
  · have hr := Lib.hid (show sysN n f3 f7 rd rs1 rs2 = opOnly 16 from by unfold sysN; rw [if_neg k0, if_neg k1, if_pos k2])
    have e := eX.out
    rw [k2] at e
    simp at e
    subst e
    clear k0 k1 k2
    go_enter Try.func70, Try.ntmps70
    go_wp2_with fail
    refine ret_ins (cs := insC (opOnly 16)) rfl rfl (by rw [rowI_alloc, if_pos rfl, if_pos rfl]; rfl) rfl rfl ⟨by rw [hr.out], (Below.refl _ _).alloc (Nat.le_refl _) _⟩
  by_cases k3 : n = 807403635
  · have hr := Lib.hid (show sysN n f3 f7 rd rs1 rs2 = opOnly 15 from by unfold sysN; rw [if_neg k0, if_neg k1, if_neg k2, if_pos k3])
    have e := eX.out
    rw [k3] at e
    simp at e
    subst e
    clear k0 k1 k2 k3
    go_enter Try.func70, Try.ntmps70
    go_wp2_with fail
    refine ret_ins (cs := insC (opOnly 15)) rfl rfl (by rw [rowI_alloc, if_pos rfl, if_pos rfl]; rfl) rfl rfl ⟨by rw [hr.out], (Below.refl _ _).alloc (Nat.le_refl _) _⟩
  by_cases k4 : n = 273678451
  · have hr := Lib.hid (show sysN n f3 f7 rd rs1 rs2 = opOnly 17 from by unfold sysN; rw [if_neg k0, if_neg k1, if_neg k2, if_neg k3, if_pos k4])
    have e := eX.out
    rw [k4] at e
    simp at e
    subst e
    clear k0 k1 k2 k3 k4
    go_enter Try.func70, Try.ntmps70
    go_wp2_with fail
    refine ret_ins (cs := insC (opOnly 17)) rfl rfl (by rw [rowI_alloc, if_pos rfl, if_pos rfl]; rfl) rfl rfl ⟨by rw [hr.out], (Below.refl _ _).alloc (Nat.le_refl _) _⟩
  have m0 : (x == 115) = false := by have := eX.out; simp; omega
  have m1 : (x == 1048691) = false := by have := eX.out; simp; omega
  have m2 : (x == 270532723) = false := by have := eX.out; simp; omega
  have m3 : (x == 807403635) = false := by have := eX.out; simp; omega
  have m4 : (x == 273678451) = false := by have := eX.out; simp; omega
  have hs : sysN n f3 f7 rd rs1 rs2 = if f3 % 4 ≠ 0 then ⟨19, (f3 % 4 : Nat), rd, rs1, 0, 0#64, 0, false, false, decide (4 ≤ f3), (n / 1048576 : Nat)⟩ else if f3 = 0 ∧ rd = 0 ∧ f7 = 9 then ⟨18, 0, 0, rs1, rs2, 0#64, 0, false, false, false, 0⟩ else noI := by
    unfold sysN
    rw [if_neg k0, if_neg k1, if_neg k2, if_neg k3, if_neg k4]
  replace hs := Lib.hid hs
  clear k0 k1 k2 k3 k4
  go_enter Try.func70, Try.ntmps70
  go_wp2_with fail
  refine (c3.out _).mono ?_
  rintro e w1 ⟨rfl, hb1⟩
  obtain ⟨r0, BB⟩ := one_block hb1
  clear hb1 c3 m0 m1 m2 m3 m4
  replace BB := Lib.hid BB
  replace r0 := Lib.hid r0
  have hf : f3 = 0 ∨ f3 = 1 ∨ f3 = 2 ∨ f3 = 3 ∨ f3 = 4 ∨ f3 = 5 ∨ f3 = 6 ∨ f3 = 7 := by omega
  clear h3
  have hq := Lib.hid (show wrap64 (x / 1048576) = ((n / 1048576 : Nat) : Int) from by unfold wrap64; rw [eX.out]; omega)
  rcases hf with rfl | rfl | rfl | rfl | rfl | rfl | rfl | rfl
  all_goals
    have e := e3.out
    simp at e
    subst e
    clear e3
  · by_cases z : rd = 0
    · subst z
      by_cases y : f7 = 9
      · subst y
        have e := e7.out
        simp at e
        subst e
        have hr := Lib.hid (show sysN n 0 9 0 rs1 rs2 = ⟨18, 0, 0, rs1, rs2, 0#64, 0, false, false, false, 0⟩ from by rw [hs.out]; rfl)
        go_wp2_with fail
        refine (cd.out _).mono ?_
        rintro e w2 ⟨rfl, hb2⟩
        go_wp2_with fail
        refine (c7.out _).mono ?_
        rintro e w3 ⟨rfl, hb3⟩
        go_wp2_with fail
        refine (ca.out _).mono ?_
        rintro e w4 ⟨rfl, hb4⟩
        go_wp2_with fail
        refine (cb.out _).mono ?_
        rintro e w5 ⟨rfl, hb5⟩
        have B3 := hb2.trans (hb3.mono hb2.size)
        have B4 := B3.trans (hb4.mono B3.size)
        have B5 := B4.trans (hb5.mono B4.size)
        have q0 := rowI_below r0.out B5
        have B6 := Lib.hid (BB.out.trans (B5.mono BB.out.size))
        clear hb2 hb3 hb4 hb5 B3 B4 B5
        go_wp2_with fail
        refine ret_ins (cs := insC ⟨18, 0, 0, rs1, rs2, 0#64, 0, false, false, false, 0⟩) rfl rfl (by simp only [rowI_setRow, if_true, q0, Option.map_some]; rfl) rfl rfl ⟨by rw [hr.out], below_row B6.out _ (Nat.le_refl _) _⟩
      · have y7 : (g7 == 9) = false := by have := e7.out; simp; omega
        have hr := Lib.hid (show sysN n 0 f7 0 rs1 rs2 = noI from by rw [hs.out, if_neg (by simp), if_neg (by simp [y])])
        clear y
        go_wp2_with fail
        refine (cd.out _).mono ?_
        rintro e w2 ⟨rfl, hb2⟩
        go_wp2_with fail
        refine (c7.out _).mono ?_
        rintro e w3 ⟨rfl, hb3⟩
        have B3 := hb2.trans (hb3.mono hb2.size)
        have q0 := rowI_below r0.out B3
        have B6 := Lib.hid (BB.out.trans (B3.mono BB.out.size))
        clear hb2 hb3 B3
        go_wp2_with fail
        refine ret_ins (cs := insC noI) rfl rfl (by simp only [rowI_setRow, if_true, q0, Option.map_some]; rfl) rfl rfl ⟨by rw [hr.out], below_row B6.out _ (Nat.le_refl _) _⟩
    · have z7 : ((rd : Int) == 0) = false := by simp; omega
      have hr := Lib.hid (show sysN n 0 f7 rd rs1 rs2 = noI from by rw [hs.out, if_neg (by simp), if_neg (by simp [z])])
      clear z
      go_wp2_with fail
      refine (cd.out _).mono ?_
      rintro e w2 ⟨rfl, hb2⟩
      have q0 := rowI_below r0.out hb2
      have B6 := Lib.hid (BB.out.trans (hb2.mono BB.out.size))
      clear hb2
      go_wp2_with fail
      refine ret_ins (cs := insC noI) rfl rfl (by simp only [rowI_setRow, if_true, q0, Option.map_some]; rfl) rfl rfl ⟨by rw [hr.out], below_row B6.out _ (Nat.le_refl _) _⟩
  · have hr := Lib.hid (show sysN n 1 f7 rd rs1 rs2 = ⟨19, (1 % 4 : Nat), rd, rs1, 0, 0#64, 0, false, false, decide (4 ≤ 1), (n / 1048576 : Nat)⟩ from by rw [hs.out]; rfl)
    go_wp2_with fail
    refine (cd.out _).mono ?_
    rintro e w2 ⟨rfl, hb2⟩
    go_wp2_with fail
    refine (ca.out _).mono ?_
    rintro e w3 ⟨rfl, hb3⟩
    have B3 := hb2.trans (hb3.mono hb2.size)
    have q0 := rowI_below r0.out B3
    have B6 := Lib.hid (BB.out.trans (B3.mono BB.out.size))
    clear hb2 hb3 B3
    go_wp2_with fail
    refine ret_ins (cs := insC ⟨19, (1 % 4 : Nat), rd, rs1, 0, 0#64, 0, false, false, decide (4 ≤ 1), (n / 1048576 : Nat)⟩) rfl rfl (by simp only [rowI_setRow, if_true, q0, Option.map_some]; first | rfl | (rw [hq.out]; rfl) | trace_state) rfl rfl ⟨by rw [hr.out], below_row B6.out _ (Nat.le_refl _) _⟩
  · have hr := Lib.hid (show sysN n 2 f7 rd rs1 rs2 = ⟨19, (2 % 4 : Nat), rd, rs1, 0, 0#64, 0, false, false, decide (4 ≤ 2), (n / 1048576 : Nat)⟩ from by rw [hs.out]; rfl)
    go_wp2_with fail
    refine (cd.out _).mono ?_
    rintro e w2 ⟨rfl, hb2⟩
    go_wp2_with fail
    refine (ca.out _).mono ?_
    rintro e w3 ⟨rfl, hb3⟩
    have B3 := hb2.trans (hb3.mono hb2.size)
    have q0 := rowI_below r0.out B3
    have B6 := Lib.hid (BB.out.trans (B3.mono BB.out.size))
    clear hb2 hb3 B3
    go_wp2_with fail
    refine ret_ins (cs := insC ⟨19, (2 % 4 : Nat), rd, rs1, 0, 0#64, 0, false, false, decide (4 ≤ 2), (n / 1048576 : Nat)⟩) rfl rfl (by simp only [rowI_setRow, if_true, q0, Option.map_some]; first | rfl | (rw [hq.out]; rfl) | trace_state) rfl rfl ⟨by rw [hr.out], below_row B6.out _ (Nat.le_refl _) _⟩
  · have hr := Lib.hid (show sysN n 3 f7 rd rs1 rs2 = ⟨19, (3 % 4 : Nat), rd, rs1, 0, 0#64, 0, false, false, decide (4 ≤ 3), (n / 1048576 : Nat)⟩ from by rw [hs.out]; rfl)
    go_wp2_with fail
    refine (cd.out _).mono ?_
    rintro e w2 ⟨rfl, hb2⟩
    go_wp2_with fail
    refine (ca.out _).mono ?_
    rintro e w3 ⟨rfl, hb3⟩
    have B3 := hb2.trans (hb3.mono hb2.size)
    have q0 := rowI_below r0.out B3
    have B6 := Lib.hid (BB.out.trans (B3.mono BB.out.size))
    clear hb2 hb3 B3
    go_wp2_with fail
    refine ret_ins (cs := insC ⟨19, (3 % 4 : Nat), rd, rs1, 0, 0#64, 0, false, false, decide (4 ≤ 3), (n / 1048576 : Nat)⟩) rfl rfl (by simp only [rowI_setRow, if_true, q0, Option.map_some]; first | rfl | (rw [hq.out]; rfl) | trace_state) rfl rfl ⟨by rw [hr.out], below_row B6.out _ (Nat.le_refl _) _⟩
  · have hr := Lib.hid (show sysN n 4 f7 rd rs1 rs2 = noI from by rw [hs.out]; rfl)
    have q0 := r0.out
    go_wp2_with fail
    refine ret_ins (cs := insC noI) rfl rfl (by simp only [rowI_setRow, if_true, q0, Option.map_some]; rfl) rfl rfl ⟨by rw [hr.out], below_row BB.out _ (Nat.le_refl _) _⟩
  · have hr := Lib.hid (show sysN n 5 f7 rd rs1 rs2 = ⟨19, (5 % 4 : Nat), rd, rs1, 0, 0#64, 0, false, false, decide (4 ≤ 5), (n / 1048576 : Nat)⟩ from by rw [hs.out]; rfl)
    go_wp2_with fail
    refine (cd.out _).mono ?_
    rintro e w2 ⟨rfl, hb2⟩
    go_wp2_with fail
    refine (ca.out _).mono ?_
    rintro e w3 ⟨rfl, hb3⟩
    have B3 := hb2.trans (hb3.mono hb2.size)
    have q0 := rowI_below r0.out B3
    have B6 := Lib.hid (BB.out.trans (B3.mono BB.out.size))
    clear hb2 hb3 B3
    go_wp2_with fail
    refine ret_ins (cs := insC ⟨19, (5 % 4 : Nat), rd, rs1, 0, 0#64, 0, false, false, decide (4 ≤ 5), (n / 1048576 : Nat)⟩) rfl rfl (by simp only [rowI_setRow, if_true, q0, Option.map_some]; first | rfl | (rw [hq.out]; rfl) | trace_state) rfl rfl ⟨by rw [hr.out], below_row B6.out _ (Nat.le_refl _) _⟩
  · have hr := Lib.hid (show sysN n 6 f7 rd rs1 rs2 = ⟨19, (6 % 4 : Nat), rd, rs1, 0, 0#64, 0, false, false, decide (4 ≤ 6), (n / 1048576 : Nat)⟩ from by rw [hs.out]; rfl)
    go_wp2_with fail
    refine (cd.out _).mono ?_
    rintro e w2 ⟨rfl, hb2⟩
    go_wp2_with fail
    refine (ca.out _).mono ?_
    rintro e w3 ⟨rfl, hb3⟩
    have B3 := hb2.trans (hb3.mono hb2.size)
    have q0 := rowI_below r0.out B3
    have B6 := Lib.hid (BB.out.trans (B3.mono BB.out.size))
    clear hb2 hb3 B3
    go_wp2_with fail
    refine ret_ins (cs := insC ⟨19, (6 % 4 : Nat), rd, rs1, 0, 0#64, 0, false, false, decide (4 ≤ 6), (n / 1048576 : Nat)⟩) rfl rfl (by simp only [rowI_setRow, if_true, q0, Option.map_some]; first | rfl | (rw [hq.out]; rfl) | trace_state) rfl rfl ⟨by rw [hr.out], below_row B6.out _ (Nat.le_refl _) _⟩
  · have hr := Lib.hid (show sysN n 7 f7 rd rs1 rs2 = ⟨19, (7 % 4 : Nat), rd, rs1, 0, 0#64, 0, false, false, decide (4 ≤ 7), (n / 1048576 : Nat)⟩ from by rw [hs.out]; rfl)
    go_wp2_with fail
    refine (cd.out _).mono ?_
    rintro e w2 ⟨rfl, hb2⟩
    go_wp2_with fail
    refine (ca.out _).mono ?_
    rintro e w3 ⟨rfl, hb3⟩
    have B3 := hb2.trans (hb3.mono hb2.size)
    have q0 := rowI_below r0.out B3
    have B6 := Lib.hid (BB.out.trans (B3.mono BB.out.size))
    clear hb2 hb3 B3
    go_wp2_with fail
    refine ret_ins (cs := insC ⟨19, (7 % 4 : Nat), rd, rs1, 0, 0#64, 0, false, false, decide (4 ≤ 7), (n / 1048576 : Nat)⟩) rfl rfl (by simp only [rowI_setRow, if_true, q0, Option.map_some]; first | rfl | (rw [hq.out]; rfl) | trace_state) rfl rfl ⟨by rw [hr.out], below_row B6.out _ (Nat.le_refl _) _⟩
theorem system_any (v : BitVec 32) : Mk Try.prog 70 #[.int .u32 (v.toNat : Int)] (.agg (insC (sysD v))) := fun w =>
  system_at v.toNat _ _ _ _ _ v.isLt (v.toNat : Int) _ _ (Lib.hid rfl) (Lib.hid rfl) (Lib.hid rfl) (by have := (small_of v).f3; omega) (Lib.hid (pFunct3_any v).mk) (Lib.hid (pRd_any v).mk) (Lib.hid (pRs1_any v).mk) (Lib.hid (pRs2_any v).mk) (Lib.hid (pFunct7_any v).mk) w
end
end Go.Proofs.Ytnhbekgmameeaaa
