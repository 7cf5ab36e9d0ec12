/- Contract: a way of a TLB is used. -/
import Derived.Test.YthjhcdkbajbpdaaPlru2
import Derived.Test.YthjhcdkbajbpdaaCells
import Derived.BigQuiet
import Derived.Deep.RegionWith
namespace Go.Proofs.Ythjhcdkbajbpdaa
open Go.RowKit Pl
set_option linter.unusedVariables false
set_option linter.unusedSimpArgs false
theorem touch_any (b : Nat) (A : Option Addr) (n c : Nat) (st i : Int) (w : World) (h0 : w.cell? ⟨b, 0, none⟩ = some (.slice A n c)) (h1 : w.cell? ⟨b, 1, none⟩ = some (.int .i64 st)) (hf : w.frozen? ⟨b, 1, none⟩ = false) :
    Calls Try.prog 60 #[.pointer (some ⟨b, 0, none⟩), .int .i64 i] w fun e w' => e = .returned (.tuple #[]) ∧ ∃ k, w' = (w.drewN k).setCell ⟨b, 1, none⟩ (.int .i64 (touch st n i)) := by
  have p := ptouch_any st n i
  generalize touch st n i = T at p
  go_enter Try.func60, Try.ntmps60
  go_wp2_with fail
  go_region_with (go_at_call 81; refine (p _).mono ?_; rintro e w1 ⟨rfl, k, rfl⟩)
  all_goals
    go_wp2_with fail
    refine bodyPost_end (results_none rfl _ _ _) rfl ?_
    exact ⟨rfl, _, rfl⟩
end Go.Proofs.Ythjhcdkbajbpdaa
