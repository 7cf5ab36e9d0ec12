/- Contracts on cores: what amo.Clear makes of one. -/
import Derived.Test.YthijheijognhmaaHart
namespace Go.Proofs.Ythijheijognhmaa
open Go.RowKit Wd
set_option linter.unusedVariables false
set_option linter.unusedSimpArgs false

attribute [local go_sem] zeroH_run hart_size hart_set_res hart_set_resAt0 hart_get_res hart_get_resAt loadR_hart storeR_hart rowAt_alloc rowAt_drew setRow_alloc_if
attribute [local go_sem ↓] load_row store_row
set_option maxRecDepth 4000
/-- A call that computes a value and turns nothing at all. -/
def Pu (P : Program) (f : FuncId) (args : Array Value) (v : Value) : Prop := ∀ w, Calls P f args w fun e w' => e = .returned v ∧ w' = w
theorem clear_any (h : Hart) (w : World) : Calls Try.prog 16 #[.agg (hartC h)] w fun e w' =>
    e = .returned (.agg (hartC { h with res := false, resAt := 0#64 })) ∧
    ∃ c1 c2 : Array Value, w' = (w.alloc (.cells c1 28)).alloc (.cells c2 28) := by
  go_enter Try.func16, Try.ntmps16
  go_wp2_with fail
  exact ret_hart (b := w.heap.size + 1) rfl rfl (by simp [rowAt_alloc]) rfl ⟨rfl, _, _, rfl⟩
end Go.Proofs.Ythijheijognhmaa
