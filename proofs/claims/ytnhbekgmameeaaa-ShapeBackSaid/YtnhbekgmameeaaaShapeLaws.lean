/- awake, and the laws ShapeFields and ShapeImms, walked: each call answers true. -/
import Derived.Test.YtnhbekgmameeaaaShapeRefForms
import Derived.Test.YtnhbekgmameeaaaBox
import Derived.Test.YtnhbekgmameeaaaFlat
namespace Go.Proofs.Ytnhbekgmameeaaa
open Go.RowKit Wd

theorem awakeI : Mk Try.prog 29 #[.int .i64 19, .int .i64 5, .int .i64 0, .int .i64 6, .int .i64 (-1)] (.tuple #[.int .u32 4294115987, .int .i64 0]) := by
  have h := sI_any 19 5 0 6 (-1)
  rw [show encI 19 5 0 6 (-1) = (4294115987#32, 0) by decide +kernel] at h
  exact h
theorem awakeRd : Qt Try.prog 24 #[.int .u32 4294115987] (.int .i64 5) := by
  have h := pRd_any 4294115987#32
  rw [show fieldI 4294115987#32 11 7 = 5 by decide +kernel] at h
  exact h
theorem awake_any : Mk Try.prog 22 #[] (.bool true) := by
  intro w
  have hb := Below.refl w.heap.size w
  go_enter Try.func22, Try.ntmps22
  go_wp2_with (first
    | (go_at_call 29; refine ((awakeI).at hb).mono ?_; clear hb; rintro e w1 ⟨rfl, hb⟩)
    | (go_at_call 24; refine ((awakeRd).mk.at hb).mono ?_; clear hb; rintro e w1 ⟨rfl, hb⟩))
  go_ret
  exact ⟨rfl, hb⟩






end Go.Proofs.Ytnhbekgmameeaaa
