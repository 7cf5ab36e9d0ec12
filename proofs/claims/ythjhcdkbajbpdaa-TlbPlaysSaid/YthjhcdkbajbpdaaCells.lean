/- A block of cells as it was laid: what its cells hold, in each world that has at most turned above it. -/
import Derived.Below
import Derived.Test.YthjhcdkbajbpdaaBase
import Derived.Laws.Rows
namespace Go.Proofs.Ythjhcdkbajbpdaa
open Go.RowKit

def Box (w : World) (b : Nat) (cs : List Value) : Prop := b < w.heap.size ∧ ∀ k, w.cell? ⟨b, k, none⟩ = cs[k]?
theorem Box.new (w : World) (cs : List Value) (t : TypeId) : Box (w.alloc (.cells cs.toArray t)) w.heap.size cs := by
  have hg : (w.alloc (.cells cs.toArray t)).heap[w.heap.size]? = some (.cells cs.toArray t (0, 0)) := by
    show (w.heap.push _)[w.heap.size]? = _
    simp
  refine ⟨by simp, fun k => ?_⟩
  rw [cell_of_row _ _ _ _ _ (0, 0) hg]
  simp
theorem Box.below {w w' : World} {b : Nat} {cs : List Value} (h : Box w b cs) (hb : Below w.heap.size w w') : Box w' b cs :=
  ⟨Nat.lt_of_lt_of_le h.1 hb.size, fun k => (hb.cell (p := ⟨b, k, none⟩) h.1).trans (h.2 k)⟩
theorem Box.quiet {w w' : World} {b : Nat} {cs : List Value} (h : Box w b cs) (hq : Quiet w w') : Box w' b cs := h.below (hq.below _)
theorem Box.get {w : World} {b : Nat} {cs : List Value} (h : Box w b cs) {k : Nat} {v : Value} (hv : cs[k]? = some v) : w.cell? ⟨b, k, none⟩ = some v := (h.2 k).trans hv
theorem Box.seven {w : World} {b : Nat} {x0 x1 x2 x3 x4 x5 x6 : Value} (h : Box w b [x0, x1, x2, x3, x4, x5, x6]) :
    w.cell? ⟨b, 0, none⟩ = some x0 ∧ w.cell? ⟨b, 1, none⟩ = some x1 ∧ w.cell? ⟨b, 2, none⟩ = some x2 ∧ w.cell? ⟨b, 3, none⟩ = some x3 ∧ w.cell? ⟨b, 4, none⟩ = some x4 ∧ w.cell? ⟨b, 5, none⟩ = some x5 ∧ w.cell? ⟨b, 6, none⟩ = some x6 :=
  ⟨h.get rfl, h.get rfl, h.get rfl, h.get rfl, h.get rfl, h.get rfl, h.get rfl⟩
theorem below_alloc {w w' : World} {o : Obj} (hb : Below (w.alloc o).heap.size (w.alloc o) w') : Below w.heap.size w w' :=
  ((Below.refl w.heap.size w).alloc (Nat.le_refl _) o).trans (hb.mono (by simp))
end Go.Proofs.Ythjhcdkbajbpdaa
