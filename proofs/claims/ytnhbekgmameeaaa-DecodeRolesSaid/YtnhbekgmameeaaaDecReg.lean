/- Contract: package decode's registers. -/
import Derived.Test.YtnhbekgmameeaaaIns
import Derived.Test.YtnhbekgmameeaaaShape
import Derived.Test.YtnhbekgmameeaaaAndL
namespace Go.Proofs.Ytnhbekgmameeaaa
open Go.RowKit Wd
set_option linter.unusedVariables false
set_option linter.unusedSimpArgs false
attribute [local go_sem] loadI_lit storeI_lit rowI_alloc rowI_drew rowI_setRow rowI_setCell setRow_allocI and_L
attribute [local go_sem ↓] loadI_run storeI_run'
set_option maxRecDepth 8000
set_option maxHeartbeats 20000000 in
theorem registers_at (x : Int) (W : Bool) (op : Int) (hX : (op == 59) = W) (f3 f7 rd rs1 rs2 : Nat) (g3 g7 : Int) (e3 : Hid (g3 = (f3 : Int))) (e7 : Hid (g7 = (f7 : Int))) (h3 : f3 < 8)
    (cO : Hid (Mk Try.prog 23 #[.int .u32 x] (.int .i64 op))) (c3 : Hid (Mk Try.prog 25 #[.int .u32 x] (.int .i64 g3))) (cd : Hid (Mk Try.prog 24 #[.int .u32 x] (.int .i64 (rd : Int)))) (ca : Hid (Mk Try.prog 26 #[.int .u32 x] (.int .i64 (rs1 : Int)))) (cb : Hid (Mk Try.prog 27 #[.int .u32 x] (.int .i64 (rs2 : Int)))) (c7 : Hid (Mk Try.prog 28 #[.int .u32 x] (.int .i64 g7))) (w : World) :
    Calls Try.prog 68 #[.int .u32 x] w fun e w' => e = .returned (.agg (insC (regN W f3 f7 rd rs1 rs2))) ∧ Below w.heap.size w w' := by
  go_enter Try.func68, Try.ntmps68
  go_wp2_with fail
  refine (cO.out _).mono ?_
  rintro e w1 ⟨rfl, hb1⟩
  go_wp2_with fail
  refine (c3.out _).mono ?_
  rintro e w2 ⟨rfl, hb2⟩
  go_wp2_with fail
  refine (cd.out _).mono ?_
  rintro e w3 ⟨rfl, hb3⟩
  go_wp2_with fail
  refine (ca.out _).mono ?_
  rintro e w4 ⟨rfl, hb4⟩
  go_wp2_with fail
  refine (cb.out _).mono ?_
  rintro e w5 ⟨rfl, hb5⟩
  have B2 := hb1.trans (hb2.mono hb1.size)
  have B3 := B2.trans (hb3.mono B2.size)
  have B4 := B3.trans (hb4.mono B3.size)
  have B5 := B4.trans (hb5.mono B4.size)
  clear hb1 hb2 hb3 hb4 hb5 B2 B3 B4 cO c3 cd ca cb
  replace B5 := Lib.hid B5
  have hf : f3 = 0 ∨ f3 = 1 ∨ f3 = 2 ∨ f3 = 3 ∨ f3 = 4 ∨ f3 = 5 ∨ f3 = 6 ∨ f3 = 7 := by omega
  clear h3
  rcases hf with rfl | rfl | rfl | rfl | rfl | rfl | rfl | rfl
  all_goals
    have e := e3.out
    simp at e
    subst e
    clear e3
    go_wp2_with fail
    refine (c7.out _).mono ?_
    rintro e w6 ⟨rfl, hb6⟩
    obtain ⟨r0, r1, cc, cf, n1, n2, n3, BB⟩ := two_blocks B5.out hb6
    replace BB := Lib.hid BB
    replace n3 := Lib.hid n3
    clear hb6 B5 c7
    have E := e7.out
    by_cases h0 : f7 = 0
    · subst h0
      simp at E
      subst E
      clear e7
      cases W
      all_goals
        go_wp2_with (refine st_ins rfl _ _ rfl w.heap.size rfl _ (by first | exact r0 | (simp only [rowI_setCell, n1, n2, if_false]; exact r0)) rfl _ rfl rfl (by simp [Value.oneCell']) ?_; intro W hW hS)
        refine ret_ins rfl rfl hW rfl rfl ⟨rfl, hS _ _ (Nat.le_refl _) ?_⟩
        repeat (refine below_setCell ?_ _ _ _ ?_)
        all_goals first | exact BB.out | exact n3.out | trace_state
    · by_cases h1 : f7 = 1
      · subst h1
        simp at E
        subst E
        clear e7 h0
        cases W
        all_goals
          go_wp2_with (refine st_ins rfl _ _ rfl w.heap.size rfl _ (by first | exact r0 | (simp only [rowI_setCell, n1, n2, if_false]; exact r0)) rfl _ rfl rfl (by simp [Value.oneCell']) ?_; intro W hW hS)
          refine ret_ins rfl rfl hW rfl rfl ⟨rfl, hS _ _ (Nat.le_refl _) ?_⟩
          repeat (refine below_setCell ?_ _ _ _ ?_)
          all_goals first | exact BB.out | exact n3.out | trace_state
      · by_cases h32 : f7 = 32
        · subst h32
          simp at E
          subst E
          clear e7 h0 h1
          go_wp2_with (refine st_ins rfl _ _ rfl w.heap.size rfl _ (by first | exact r0 | (simp only [rowI_setCell, n1, n2, if_false]; exact r0)) rfl _ rfl rfl (by simp [Value.oneCell']) ?_; intro W hW hS)
          refine ret_ins rfl rfl hW rfl rfl ⟨rfl, hS _ _ (Nat.le_refl _) ?_⟩
          repeat (refine below_setCell ?_ _ _ _ ?_)
          all_goals first | exact BB.out | exact n3.out | trace_state
        · have q0 : (g7 == 0) = false := by simp; omega
          have q1 : (g7 == 1) = false := by simp; omega
          have q2 : (g7 == 32) = false := by simp; omega
          have hr := Lib.hid (show ∀ k, regN W k f7 rd rs1 rs2 = noI from fun k => by unfold regN; rw [if_neg (by omega), if_neg (by omega), if_neg (by omega), if_neg (by omega)])
          clear E e7 h0 h1 h32
          go_wp2_with (refine st_ins rfl _ _ rfl w.heap.size rfl _ (by first | exact r0 | (simp only [rowI_setCell, n1, n2, if_false]; exact r0)) rfl _ rfl rfl (by simp [Value.oneCell']) ?_; intro W hW hS)
          refine ret_ins rfl rfl hW rfl rfl ⟨by rw [hr.out]; rfl, hS _ _ (Nat.le_refl _) ?_⟩
          repeat (refine below_setCell ?_ _ _ _ ?_)
          all_goals first | exact BB.out | exact n3.out | trace_state
theorem registers_any (v : BitVec 32) : Mk Try.prog 68 #[.int .u32 (v.toNat : Int)] (.agg (insC (regD v))) := by
  intro w
  exact registers_at (v.toNat : Int) (decide (fieldI v 6 0 = 59)) (fieldI v 6 0 : Nat) (by rw [Bool.eq_iff_iff]; simp; omega) _ _ _ _ _ _ _ (Lib.hid rfl) (Lib.hid rfl) (by have := (small_of v).f3; omega)
    (Lib.hid (pOpcode_any v).mk) (Lib.hid (pFunct3_any v).mk) (Lib.hid (pRd_any v).mk) (Lib.hid (pRs1_any v).mk) (Lib.hid (pRs2_any v).mk) (Lib.hid (pFunct7_any v).mk) w
end Go.Proofs.Ytnhbekgmameeaaa
