/- The law ShapeRefuses, walked: registers out of range are refused, immediates are let go just between their ends; the call answers true. -/
import Derived.Test.YtjcmlpddmmelhaaShapeLaws
import Derived.Test.YtjcmlpddmmelhaaShapeBits
namespace Go.Proofs.Ytjcmlpddmmelhaa
open Go.RowKit Wd

namespace Wd
theorem reg_fit (reg : Int) : fitB reg 31 = (decide (0 ≤ reg) && decide (reg ≤ 31)) := rfl
theorem enc_regR (reg : Int) (h : fitB reg 31 = true) : ∃ v : BitVec 32, encR 51 reg 0 1 2 0 = (v, 0) := ⟨layW 51 reg 0 1 2 0, by unfold encR encG okI regsB; rw [fit_iff] at h; simp [fitB, h]⟩
theorem enc_regI (reg : Int) (h : fitB reg 31 = true) : ∃ v : BitVec 32, encI 19 1 0 reg 5 = (v, 0) := ⟨sct (layW 19 1 0 reg 0 0) 5 psI, by unfold encI encG okI regsB; rw [fit_iff] at h; simp [fitB, h, nearE]⟩
theorem enc_regS (reg : Int) (h : fitB reg 31 = true) : ∃ v : BitVec 32, encS 35 0 1 reg 5 = (v, 0) := ⟨sct (layW 35 0 0 1 reg 0) 5 psS, by unfold encS encG okI regsB; rw [fit_iff] at h; simp [fitB, h, nearE]⟩
theorem enc_noR (reg : Int) (h : fitB reg 31 = false) : encR 51 reg 0 1 2 0 = (0#32, 1) := by unfold encR encG okI regsB; simp [h]
theorem enc_noI (reg : Int) (h : fitB reg 31 = false) : encI 19 1 0 reg 5 = (0#32, 1) := by unfold encI encG okI regsB; simp [h]
theorem enc_noS (reg : Int) (h : fitB reg 31 = false) : encS 35 0 1 reg 5 = (0#32, 1) := by unfold encS encG okI regsB; simp [h]
theorem enc_immI (imm : Int) : (encI 19 1 0 1 imm).2 = nearE imm 2048 1 := by
  unfold encI encG okI regsB
  simp [fitB]
  split <;> simp_all
theorem enc_immB (imm : Int) : (encB 99 0 1 2 imm).2 = nearE imm 4096 2 := by
  unfold encB encG okI regsB
  simp [fitB]
  split <;> simp_all
theorem enc_immJ (imm : Int) : (encJ 111 1 imm).2 = nearE imm 1048576 2 := by
  unfold encJ encG okI regsB
  simp [fitB]
  split <;> simp_all
theorem bb (a b c d : Int) : ((a == b) == (c == d)) = decide (a = b ↔ c = d) := by
  cases hx : (a == b) <;> cases hy : (c == d) <;> simp_all
theorem bbe (a b c d : Int) : ((a == b) = (c == d)) ↔ (a = b ↔ c = d) := by
  cases hx : (a == b) <;> cases hy : (c == d) <;> simp_all
theorem bde (a b : Int) (p : Prop) [Decidable p] : ((a == b) = decide p) ↔ (a = b ↔ p) := by
  by_cases h : a = b <;> by_cases k : p <;> simp [h, k]
theorem near_fact (imm most m : Int) : nearE imm most m = 0 ↔ (-most ≤ imm ∧ imm < most ∧ imm.tmod m = 0) := by
  unfold nearE
  split
  · constructor <;> intro h <;> omega
  · split
    · constructor
      · intro _; exact ⟨by omega, by omega, by assumption⟩
      · intro _; rfl
    · constructor
      · intro h; omega
      · intro h; exact absurd h.2.2 (by assumption)
/-- The reasons, as facts on the immediate. -/
structure ImmEnds (imm eI eB eJ : Int) : Prop where
  i : eI = 0 ↔ (-2048 ≤ imm ∧ imm ≤ 2047)
  b : eB = 0 ↔ (-4096 ≤ imm ∧ imm ≤ 4094 ∧ imm % 2 = 0)
  j : eJ = 0 ↔ (-1048576 ≤ imm ∧ imm ≤ 1048574 ∧ imm % 2 = 0)
  t : imm.tmod 2 = 0 ↔ imm % 2 = 0
theorem tmod_two (imm : Int) : imm.tmod 2 = 0 ↔ imm % 2 = 0 := by
  rw [← Int.dvd_iff_tmod_eq_zero, ← Int.dvd_iff_emod_eq_zero]
theorem ends_of (imm : Int) : ImmEnds imm (nearE imm 2048 1) (nearE imm 4096 2) (nearE imm 1048576 2) := by
  have t := tmod_two imm
  refine ⟨?_, ?_, ?_, t⟩
  · rw [near_fact _ _ _, Int.tmod_one]
    omega
  · rw [near_fact _ _ _, t]
    omega
  · rw [near_fact _ _ _, t]
    omega
end Wd

set_option maxHeartbeats 4000000 in
theorem refuses_in (reg imm : Int) (vR vI vS vI2 vB vJ : BitVec 32) (eI eB eJ : Int) (w : World) (hR : Hid (encR 51 reg 0 1 2 0 = (vR, 0))) (hI : Hid (encI 19 1 0 reg 5 = (vI, 0))) (hS : Hid (encS 35 0 1 reg 5 = (vS, 0)))
    (hI2 : Hid (encI 19 1 0 1 imm = (vI2, eI))) (hB : Hid (encB 99 0 1 2 imm = (vB, eB))) (hJ : Hid (encJ 111 1 imm = (vJ, eJ))) (hE : Hid (ImmEnds imm eI eB eJ)) (F : 0 ≤ reg ∧ reg ≤ 31) :
    Calls Try.prog 8 #[.int .i64 reg, .int .i64 imm] w fun e w' => e = .returned (.bool true) ∧ Below w.heap.size w w' := by
  have hb := Below.refl w.heap.size w
  obtain ⟨r1, r2⟩ := F
  go_enter Try.func8, Try.ntmps8
  go_wp2_with (first
    | (go_at_call 11; refine ((awake_any).at hb).mono ?_; clear hb; rintro e w1 ⟨rfl, hb⟩)
    | (go_at_call 24; refine ((sR_any _ _ _ _ _ _).at hb).mono ?_; clear hb; rintro e w1 ⟨rfl, hb⟩; rw [hR.out]; unfold encV)
    | (go_at_call 28; refine ((sS_any _ _ _ _ _).at hb).mono ?_; clear hb; rintro e w1 ⟨rfl, hb⟩; rw [hS.out]; unfold encV)
    | (go_at_call 26; refine ((sI_any _ _ _ _ _).at hb).mono ?_; clear hb; rintro e w1 ⟨rfl, hb⟩; (first | rw [hI.out] | rw [hI2.out]); unfold encV)
    | (go_at_call 36; refine ((sB_any _ _ _ _ _).at hb).mono ?_; clear hb; rintro e w1 ⟨rfl, hb⟩; rw [hB.out]; unfold encV)
    | (go_at_call 40; refine ((sJ_any _ _ _).at hb).mono ?_; clear hb; rintro e w1 ⟨rfl, hb⟩; rw [hJ.out]; unfold encV))
  all_goals
    go_ret
    obtain ⟨x1, x2, x3, x4⟩ := hE.out
    refine ⟨ret_bool ?_, hb⟩
    simp only [bb, Bool.and_eq_true, Bool.not_eq_true', beq_eq_false_iff_ne, ne_eq, Bool.false_eq_true, decide_eq_true_eq]
    first | omega | (simp only [bbe, bde] at *; omega)
end Go.Proofs.Ytjcmlpddmmelhaa
