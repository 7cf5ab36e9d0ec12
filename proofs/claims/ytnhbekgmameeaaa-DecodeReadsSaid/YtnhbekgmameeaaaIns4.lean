/- A store into a block that is not the last one. -/
import Derived.Test.YtnhbekgmameeaaaIns3
namespace Go.Proofs.Ytnhbekgmameeaaa
open Go.RowKit Wd
theorem setRow_allocJ (w : World) (cs cs' : Array Value) (b : Nat) : (w.alloc (.cells cs 44)).setRow b cs' = if b = w.heap.size then w.alloc (.cells cs' 44) else if b < w.heap.size then (w.setRow b cs').alloc (.cells cs 44) else (w.alloc (.cells cs 44)).setRow b cs' := by
  by_cases h : b = w.heap.size
  · subst h
    rw [if_pos rfl]
    exact World.setRow_alloc_new w cs cs' _
  · rw [if_neg h]
    by_cases g : b < w.heap.size
    · rw [if_pos g]
      simp only [World.setRow, World.alloc]
      congr 1
      apply Array.ext_getElem?
      intro i
      rw [Array.getElem?_modify, Array.getElem?_push, Array.getElem?_push, Array.getElem?_modify, Array.size_modify]
      by_cases e : i = w.heap.size
      · subst e
        have hne : ¬ b = w.heap.size := by omega
        simp [hne]
      · simp [e]
    · rw [if_neg g]
end Go.Proofs.Ytnhbekgmameeaaa
