/- What an instruction reads and writes, as 4 cells: out of a block, and into one. -/
import Derived.Test.YtnhbekgmameeaaaBase
import Derived.Test.YtnhbekgmameeaaaDecFormPlain
import Derived.Deep.WholeRow
import Derived.Laws.Rows
namespace Go.Proofs.Ytnhbekgmameeaaa
open Go.RowKit Wd
set_option linter.unusedVariables false
set_option linter.unusedSimpArgs false
namespace Wd
def rdsC (r : Rds) : Array Value := #[.int .i64 r.rs1, .int .i64 r.rs2, .int .i64 r.rd, .int .i64 r.whn]
end Wd
theorem infoR : (Try.prog.info? 51).map (·.size) = some 4 := by kernel_rfl
def rowQ : Obj → Option (Array Value)
  | .cells cs t fr => if t = 51 ∧ fr = (0, 0) then some cs else none
  | _ => none
noncomputable def rowR (w : World) (b : Nat) : Option (Array Value) := w.heap[b]?.bind rowQ
theorem rowR_heap {w : World} {b : Nat} {cs : Array Value} (h : rowR w b = some cs) : w.heap[b]? = some (.cells cs 51 (0, 0)) := by
  unfold rowR at h
  cases hh : w.heap[b]? with
  | none => rw [hh] at h; simp at h
  | some o =>
    rw [hh] at h
    simp only [Option.bind_some] at h
    unfold rowQ at h
    split at h
    · split at h
      · rename_i c
        obtain ⟨rfl, rfl⟩ := c
        simp at h
        subst h
        rfl
      · simp at h
    · simp at h
theorem rowR_of {w : World} {b : Nat} {cs : Array Value} (h : w.heap[b]? = some (.cells cs 51 (0, 0))) : rowR w b = some cs := by
  unfold rowR
  rw [h]
  simp [rowQ]
theorem rowR_alloc (w : World) (cs : Array Value) (t : TypeId) (b : Nat) : rowR (w.alloc (.cells cs t)) b = if b = w.heap.size then (if t = 51 then some cs else none) else rowR w b := by
  have e : (w.alloc (.cells cs t)).heap[b]? = if b = w.heap.size then some (.cells cs t (0, 0)) else w.heap[b]? := by
    show (w.heap.push _)[b]? = _
    rw [Array.getElem?_push]
  unfold rowR
  rw [e]
  split
  · simp [rowQ]
  · rfl
theorem rowR_lt {w : World} {b : Nat} {cs : Array Value} (h : rowR w b = some cs) : b < w.heap.size := by
  have hh := rowR_heap h
  by_cases g : b < w.heap.size
  · exact g
  · rw [Array.getElem?_eq_none (by omega)] at hh
    simp at hh
theorem rowR_below {w w' : World} {b : Nat} {cs : Array Value} (h : rowR w b = some cs) (hb : Below w.heap.size w w') : rowR w' b = some cs :=
  rowR_of ((hb.block b (rowR_lt h)).trans (rowR_heap h))
theorem rowR_drew (w : World) (b : Nat) : rowR w.drew b = rowR w b := rfl
theorem rowR_setCell (w : World) (b o : Nat) (v : Value) (b' : Nat) : rowR (w.setCell ⟨b, o, none⟩ v) b' = if b' = b then (rowR w b).map (fun cs => cs.setIfInBounds o v) else rowR w b' := by
  by_cases h : b' = b
  · subst h
    rw [if_pos rfl]
    unfold rowR World.setCell
    simp only [Array.getElem?_modify, if_true]
    cases w.heap[b']? with
    | none => rfl
    | some ob =>
      cases ob with
      | cells cs t fr =>
        simp only [Option.map_some, Option.bind_some, rowQ]
        split <;> simp
      | _ => rfl
  · rw [if_neg h]
    unfold rowR
    rw [heap_setCell_other _ _ _ _ h]
/-- The way out of a function that hands such a thing back out of a block. -/
theorem ret_rds {fn : Func} {R : Ending → World → Prop} {a : Act} {w : World} {p : Tmp} {b : Nat} {cs : Array Value} (hf : fn.results = #[.cell p 51]) (hp : a.tmps.getD p undef = .pointer (some ⟨b, 0, none⟩))
    (hr : rowR w b = some cs) (hs : cs.size = 4) (hd : a.defers = []) (hR : R (.returned (.agg cs)) w) : bodyPost Try.prog fn R .ret a w :=
  bodyPost_ret (results_cell_row hf _ _ b _ cs (0, 0) _ hp (rowR_heap hr) Try.underlying51 rfl (by rw [hs]; exact infoR)) hd hR
end Go.Proofs.Ytnhbekgmameeaaa
