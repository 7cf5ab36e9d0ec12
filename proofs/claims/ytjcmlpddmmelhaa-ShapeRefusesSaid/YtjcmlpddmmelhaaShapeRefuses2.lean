/- The law ShapeRefuses, walked, for registers out of range; and put together. -/
import Derived.Test.YtjcmlpddmmelhaaShapeRefuses
namespace Go.Proofs.Ytjcmlpddmmelhaa
open Go.RowKit Wd

set_option maxHeartbeats 4000000 in
theorem refuses_low (reg imm : Int) (vI2 vB vJ : BitVec 32) (eI eB eJ : Int) (w : World) (hR : Hid (encR 51 reg 0 1 2 0 = (0#32, 1))) (hI : Hid (encI 19 1 0 reg 5 = (0#32, 1))) (hS : Hid (encS 35 0 1 reg 5 = (0#32, 1)))
    (hI2 : Hid (encI 19 1 0 1 imm = (vI2, eI))) (hB : Hid (encB 99 0 1 2 imm = (vB, eB))) (hJ : Hid (encJ 111 1 imm = (vJ, eJ))) (hE : Hid (ImmEnds imm eI eB eJ)) (F : reg < 0) :
    Calls Try.prog 8 #[.int .i64 reg, .int .i64 imm] w fun e w' => e = .returned (.bool true) ∧ Below w.heap.size w w' := by
  have hb := Below.refl w.heap.size w
  go_enter Try.func8, Try.ntmps8
  go_wp2_with (first
    | (go_at_call 11; refine ((awake_any).at hb).mono ?_; clear hb; rintro e w1 ⟨rfl, hb⟩)
    | (go_at_call 24; refine ((sR_any _ _ _ _ _ _).at hb).mono ?_; clear hb; rintro e w1 ⟨rfl, hb⟩; rw [hR.out]; unfold encV)
    | (go_at_call 28; refine ((sS_any _ _ _ _ _).at hb).mono ?_; clear hb; rintro e w1 ⟨rfl, hb⟩; rw [hS.out]; unfold encV)
    | (go_at_call 26; refine ((sI_any _ _ _ _ _).at hb).mono ?_; clear hb; rintro e w1 ⟨rfl, hb⟩; (first | rw [hI.out] | rw [hI2.out]); unfold encV)
    | (go_at_call 36; refine ((sB_any _ _ _ _ _).at hb).mono ?_; clear hb; rintro e w1 ⟨rfl, hb⟩; rw [hB.out]; unfold encV)
    | (go_at_call 40; refine ((sJ_any _ _ _).at hb).mono ?_; clear hb; rintro e w1 ⟨rfl, hb⟩; rw [hJ.out]; unfold encV))
  all_goals
    go_ret
    obtain ⟨x1, x2, x3, x4⟩ := hE.out
    refine ⟨ret_bool ?_, hb⟩
    simp only [bb, Bool.and_eq_true, Bool.not_eq_true', beq_eq_false_iff_ne, ne_eq, Bool.false_eq_true, decide_eq_true_eq]
    first | omega | (simp only [bbe, bde] at *; omega)

set_option maxHeartbeats 4000000 in
theorem refuses_high (reg imm : Int) (vI2 vB vJ : BitVec 32) (eI eB eJ : Int) (w : World) (hR : Hid (encR 51 reg 0 1 2 0 = (0#32, 1))) (hI : Hid (encI 19 1 0 reg 5 = (0#32, 1))) (hS : Hid (encS 35 0 1 reg 5 = (0#32, 1)))
    (hI2 : Hid (encI 19 1 0 1 imm = (vI2, eI))) (hB : Hid (encB 99 0 1 2 imm = (vB, eB))) (hJ : Hid (encJ 111 1 imm = (vJ, eJ))) (hE : Hid (ImmEnds imm eI eB eJ)) (F : ¬ reg ≤ 31) :
    Calls Try.prog 8 #[.int .i64 reg, .int .i64 imm] w fun e w' => e = .returned (.bool true) ∧ Below w.heap.size w w' := by
  have hb := Below.refl w.heap.size w
  go_enter Try.func8, Try.ntmps8
  go_wp2_with (first
    | (go_at_call 11; refine ((awake_any).at hb).mono ?_; clear hb; rintro e w1 ⟨rfl, hb⟩)
    | (go_at_call 24; refine ((sR_any _ _ _ _ _ _).at hb).mono ?_; clear hb; rintro e w1 ⟨rfl, hb⟩; rw [hR.out]; unfold encV)
    | (go_at_call 28; refine ((sS_any _ _ _ _ _).at hb).mono ?_; clear hb; rintro e w1 ⟨rfl, hb⟩; rw [hS.out]; unfold encV)
    | (go_at_call 26; refine ((sI_any _ _ _ _ _).at hb).mono ?_; clear hb; rintro e w1 ⟨rfl, hb⟩; (first | rw [hI.out] | rw [hI2.out]); unfold encV)
    | (go_at_call 36; refine ((sB_any _ _ _ _ _).at hb).mono ?_; clear hb; rintro e w1 ⟨rfl, hb⟩; rw [hB.out]; unfold encV)
    | (go_at_call 40; refine ((sJ_any _ _ _).at hb).mono ?_; clear hb; rintro e w1 ⟨rfl, hb⟩; rw [hJ.out]; unfold encV))
  all_goals
    go_ret
    obtain ⟨x1, x2, x3, x4⟩ := hE.out
    refine ⟨ret_bool ?_, hb⟩
    simp only [bb, Bool.and_eq_true, Bool.not_eq_true', beq_eq_false_iff_ne, ne_eq, Bool.false_eq_true, decide_eq_true_eq]
    first | omega | (simp only [bbe, bde] at *; omega)

theorem shapeRefuses_walk (reg : Int) (_ : (Lit.int .i64 reg).wf = true) (imm : Int) (_ : (Lit.int .i64 imm).wf = true) (w : World) :
    Calls Try.prog 8 #[.int .i64 reg, .int .i64 imm] w fun e w' => e = .returned (.bool true) ∧ Below w.heap.size w w' := by
  have k1 : Hid (encI 19 1 0 1 imm = ((encI 19 1 0 1 imm).1, nearE imm 2048 1)) := by show _ = _; rw [← enc_immI]
  have k2 : Hid (encB 99 0 1 2 imm = ((encB 99 0 1 2 imm).1, nearE imm 4096 2)) := by show _ = _; rw [← enc_immB]
  have k3 : Hid (encJ 111 1 imm = ((encJ 111 1 imm).1, nearE imm 1048576 2)) := by show _ = _; rw [← enc_immJ]
  by_cases h1 : reg < 0
  · have hf : fitB reg 31 = false := by rw [reg_fit, decide_eq_false (by omega)]; rfl
    exact refuses_low reg imm _ _ _ _ _ _ w (enc_noR reg hf) (enc_noI reg hf) (enc_noS reg hf) k1 k2 k3 (ends_of imm) h1
  · by_cases h2 : reg ≤ 31
    · have hf : fitB reg 31 = true := (fit_iff _ _).2 (by omega)
      obtain ⟨vR, hR⟩ := enc_regR reg hf
      obtain ⟨vI, hI⟩ := enc_regI reg hf
      obtain ⟨vS, hS⟩ := enc_regS reg hf
      exact refuses_in reg imm vR vI vS _ _ _ _ _ _ w hR hI hS k1 k2 k3 (ends_of imm) ⟨by omega, h2⟩
    · have hf : fitB reg 31 = false := by rw [reg_fit, decide_eq_false h2, Bool.and_false]
      exact refuses_high reg imm _ _ _ _ _ _ w (enc_noR reg hf) (enc_noI reg hf) (enc_noS reg hf) k1 k2 k3 (ends_of imm) h2
end Go.Proofs.Ytjcmlpddmmelhaa
