/- Cells in a row out of a block, whatever the block's type: as the walk meets them. -/
import Derived.Test.YthjhcdkbajbpdaaBase
import Derived.Deep.WholeRow
namespace Go.Proofs.Ythjhcdkbajbpdaa
open Go.RowKit
set_option linter.unusedVariables false
set_option linter.unusedSimpArgs false
/-- A block's row, where it is one, and may be written. -/
noncomputable def rowC (w : World) (b : Nat) : Option (Array Value) :=
  match w.heap[b]? with
  | some (.cells cs t (0, 0)) => some cs
  | _ => none
theorem rowC_heap {w : World} {b : Nat} {cs : Array Value} (h : rowC w b = some cs) : ∃ t, w.heap[b]? = some (.cells cs t (0, 0)) := by
  unfold rowC at h
  split at h
  · simp_all
  · simp at h
theorem rowC_of {w : World} {b : Nat} {cs : Array Value} {t : TypeId} (h : w.heap[b]? = some (.cells cs t (0, 0))) : rowC w b = some cs := by
  unfold rowC
  rw [h]
  rfl
theorem rowC_alloc (w : World) (cs : Array Value) (t : TypeId) (b : Nat) : rowC (w.alloc (.cells cs t)) b = if b = w.heap.size then some cs else rowC w b := by
  by_cases h : b = w.heap.size
  · subst h
    rw [if_pos rfl]
    exact rowC_of (heap_alloc_last w _)
  · rw [if_neg h]
    unfold rowC
    have e : (w.alloc (.cells cs t)).heap[b]? = w.heap[b]? := by
      show (w.heap.push _)[b]? = _
      rw [Array.getElem?_push, if_neg h]
    rw [e]
theorem rowC_drew (w : World) (b : Nat) : rowC w.drew b = rowC w b := rfl
theorem rowC_drewN (w : World) (b n : Nat) : rowC (w.drewN n) b = rowC w b := by
  unfold rowC
  rfl
theorem rowC_lt {w : World} {b : Nat} {cs : Array Value} (h : rowC w b = some cs) : b < w.heap.size := by
  obtain ⟨t, hh⟩ := rowC_heap h
  by_cases g : b < w.heap.size
  · exact g
  · rw [Array.getElem?_eq_none (by omega)] at hh
    simp at hh
theorem rowC_below {w w' : World} {b : Nat} {cs : Array Value} (h : rowC w b = some cs) (hb : Below w.heap.size w w') : rowC w' b = some cs := by
  obtain ⟨t, hh⟩ := rowC_heap h
  exact rowC_of ((hb.block b (rowC_lt h)).trans hh)
theorem rowC_cell {w : World} {b : Nat} {cs : Array Value} (h : rowC w b = some cs) (o : Nat) : w.cell? ⟨b, o, none⟩ = cs[o]? := by
  obtain ⟨t, hh⟩ := rowC_heap h
  exact cell_of_row w b o cs t (0, 0) hh
/-- So many cells, from one on. -/
noncomputable def loadN (w : World) (b o n : Nat) : Option (Array Value) → Result (Array Value)
  | some cs => if o + n ≤ cs.size then .ok (cs.extract o (o + n)) w else (loadCellsFrom ⟨b, o, none⟩ 0 n #[]).run Try.prog w
  | none => (loadCellsFrom ⟨b, o, none⟩ 0 n #[]).run Try.prog w
theorem loadN_run (w : World) (b o n : Nat) : (loadCellsFrom ⟨b, o, none⟩ 0 n #[]).run Try.prog w = loadN w b o n (rowC w b) := by
  cases hr : rowC w b with
  | none => rfl
  | some cs =>
    by_cases hs : o + n ≤ cs.size
    · have e : loadN w b o n (some cs) = .ok (cs.extract o (o + n)) w := if_pos hs
      rw [e]
      obtain ⟨t, hh⟩ := rowC_heap hr
      have hl := run_loadCells_list (P := Try.prog) w ⟨b, o, none⟩ ((cs.toList.drop o).take n) (fun j v hv => by
        have hadd : (⟨b, o, none⟩ : Addr).add j = ⟨b, o + j, none⟩ := by unfold Addr.add; split <;> simp_all
        rw [hadd, cell_of_row w b (o + j) cs _ (0, 0) hh]
        rw [List.getElem?_take] at hv
        split at hv
        · simpa using hv
        · simp at hv)
      have hn : ((cs.toList.drop o).take n).length = n := by
        simp
        omega
      have hx : cs.extract o (o + n) = ((cs.toList.drop o).take n).toArray := by
        apply Array.toList_inj.1
        rw [Array.toList_extract]
        simp
      rw [hn] at hl
      rw [hx]
      exact hl
    · exact (if_neg hs).symm
theorem loadN_some (w : World) (b o n : Nat) (cs : Array Value) (h : o + n ≤ cs.size) : loadN w b o n (some cs) = .ok (cs.extract o (o + n)) w := if_pos h
noncomputable def storeN (w : World) (b : Nat) (c : Array Value) : Option (Array Value) → Result Unit
  | some cs => if cs.size = c.size ∧ c.all (·.oneCell') = true then .ok () (w.setRow b c) else (storeCells ⟨b, 0, none⟩ c.toList 0).run Try.prog w
  | none => (storeCells ⟨b, 0, none⟩ c.toList 0).run Try.prog w
theorem storeN_run (w : World) (b : Nat) (c : Array Value) : (storeCells ⟨b, 0, none⟩ c.toList 0).run Try.prog w = storeN w b c (rowC w b) := by
  cases hr : rowC w b with
  | none => rfl
  | some cs =>
    by_cases hs : cs.size = c.size ∧ c.all (·.oneCell') = true
    · have e : storeN w b c (some cs) = .ok () (w.setRow b c) := if_pos hs
      rw [e]
      obtain ⟨t, hh⟩ := rowC_heap hr
      have := run_storeCells_from (P := Try.prog) b _ c.toList 0 cs w hh (by simp; omega) (fun v hv => (Array.all_eq_true_iff_forall_mem.1 hs.2) v (by simpa using hv))
      simpa using this
    · exact (if_neg hs).symm
theorem storeN_some (w : World) (b : Nat) (c cs : Array Value) (h : cs.size = c.size) (h1 : c.all (·.oneCell') = true) : storeN w b c (some cs) = .ok () (w.setRow b c) := if_pos ⟨h, h1⟩
end Go.Proofs.Ythjhcdkbajbpdaa
