/- The law DecodeWords, walked: each call answers true. -/
import Derived.Test.YtnhbekgmameeaaaDecAwake
import Derived.Test.YtnhbekgmameeaaaRdecode
namespace Go.Proofs.Ytnhbekgmameeaaa
open Go.RowKit Wd
set_option linter.unusedVariables false
set_option linter.unusedSimpArgs false
attribute [local go_sem ↓] eq_ins
set_option maxRecDepth 8000
theorem insB_self (i : Ins) : insB i i = true := (insB_iff i i).2 rfl
set_option maxHeartbeats 4000000 in
theorem decodeWords_walk (a : Int) (wa : (Lit.int .u32 a).wf = true) (w : World) :
    Calls Try.prog 5 #[.int .u32 a] w fun e w' => e = .returned (.bool true) ∧ Below w.heap.size w w' := by
  obtain ⟨v, rfl⟩ := u32_bv wa
  clear wa
  have hs := insB_self (decW v)
  have hb := Below.refl w.heap.size w
  go_enter Try.func5, Try.ntmps5
  go_wp2_with (first
    | (go_at_call 39; refine ((awake_any).at hb).mono ?_; clear hb; rintro e w1 ⟨rfl, hb⟩)
    | (go_at_call 40; refine ((decode_any _).at hb).mono ?_; clear hb; rintro e w1 ⟨rfl, hb⟩)
    | (go_at_call 41; refine ((rdecode_any _).at hb).mono ?_; clear hb; rintro e w1 ⟨rfl, hb⟩))
  go_ret
  exact ⟨rfl, hb⟩
end Go.Proofs.Ytnhbekgmameeaaa
