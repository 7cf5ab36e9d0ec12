/- The law ShapeAgain, walked: a word that is laid out of the fields of any word is that word; each call answers true. -/
import Derived.Test.YtjcmlpddmmelhaaShapeLaws
import Derived.Test.YtjcmlpddmmelhaaShapeBackPlain
namespace Go.Proofs.Ytjcmlpddmmelhaa
open Go.RowKit Wd
theorem wrap64_toI (s : BitVec 64) : wrap64 (s.toNat : Int) = s.toInt := by rw [wrap64_bv, of64]
attribute [local go_sem] wrap64_toI
set_option maxHeartbeats 4000000 in
theorem shapeAgain_walk (a : Int) (wa : (Lit.int .u32 a).wf = true) (w : World) :
    Calls Try.prog 10 #[.int .u32 a] w fun e w' => e = .returned (.bool true) ∧ Below w.heap.size w w' := by
  obtain ⟨v, rfl⟩ := u32_bv wa
  clear wa
  have hb := Below.refl w.heap.size w
  have hR := Lib.hid (again_R v)
  have hI := Lib.hid (again_I v)
  have hS := Lib.hid (again_S v)
  have hB := Lib.hid (again_B v)
  have hU := Lib.hid (again_U v)
  have hJ := Lib.hid (again_J v)
  go_enter Try.func10, Try.ntmps10
  go_wp2_with (first
    | (go_at_call 11; refine ((awake_any).at hb).mono ?_; clear hb; rintro e w1 ⟨rfl, hb⟩)
    | (go_at_call 12; refine ((pOpcode_any _).mk.at hb).mono ?_; clear hb; rintro e w1 ⟨rfl, hb⟩)
    | (go_at_call 14; refine ((pRd_any _).mk.at hb).mono ?_; clear hb; rintro e w1 ⟨rfl, hb⟩)
    | (go_at_call 16; refine ((pRs1_any _).mk.at hb).mono ?_; clear hb; rintro e w1 ⟨rfl, hb⟩)
    | (go_at_call 18; refine ((pRs2_any _).mk.at hb).mono ?_; clear hb; rintro e w1 ⟨rfl, hb⟩)
    | (go_at_call 20; refine ((pFunct3_any _).mk.at hb).mono ?_; clear hb; rintro e w1 ⟨rfl, hb⟩)
    | (go_at_call 22; refine ((pFunct7_any _).mk.at hb).mono ?_; clear hb; rintro e w1 ⟨rfl, hb⟩)
    | (go_at_call 30; refine ((immI_any _).at hb).mono ?_; clear hb; rintro e w1 ⟨rfl, hb⟩)
    | (go_at_call 32; refine ((immS_any _).at hb).mono ?_; clear hb; rintro e w1 ⟨rfl, hb⟩)
    | (go_at_call 33; refine ((immB_any _).at hb).mono ?_; clear hb; rintro e w1 ⟨rfl, hb⟩)
    | (go_at_call 34; refine ((immU_any _).at hb).mono ?_; clear hb; rintro e w1 ⟨rfl, hb⟩)
    | (go_at_call 35; refine ((immJ_any _).at hb).mono ?_; clear hb; rintro e w1 ⟨rfl, hb⟩)
    | (go_at_call 24; refine ((sR_any _ _ _ _ _ _).at hb).mono ?_; clear hb; rintro e w1 ⟨rfl, hb⟩; rw [hR.out]; unfold encV)
    | (go_at_call 26; refine ((sI_any _ _ _ _ _).at hb).mono ?_; clear hb; rintro e w1 ⟨rfl, hb⟩; rw [hI.out]; unfold encV)
    | (go_at_call 28; refine ((sS_any _ _ _ _ _).at hb).mono ?_; clear hb; rintro e w1 ⟨rfl, hb⟩; rw [hS.out]; unfold encV)
    | (go_at_call 36; refine ((sB_any _ _ _ _ _).at hb).mono ?_; clear hb; rintro e w1 ⟨rfl, hb⟩; rw [hB.out]; unfold encV)
    | (go_at_call 38; refine ((sU_any _ _ _).at hb).mono ?_; clear hb; rintro e w1 ⟨rfl, hb⟩; rw [hU.out]; unfold encV)
    | (go_at_call 40; refine ((sJ_any _ _ _).at hb).mono ?_; clear hb; rintro e w1 ⟨rfl, hb⟩; rw [hJ.out]; unfold encV))
  go_ret
  exact ⟨rfl, hb⟩
end Go.Proofs.Ytjcmlpddmmelhaa
