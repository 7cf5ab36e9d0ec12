/- An instruction, Inst, as 11 cells: the whole of it out of a block, and into one, as the walk meets them. -/
import Derived.Test.YtnhbekgmameeaaaBase
import Derived.Test.YtnhbekgmameeaaaDecPlain
import Derived.Deep.WholeRow
import Derived.Deep.Cut
import Derived.Deep.RegionHeld3
import Derived.Laws.Rows
namespace Go.Proofs.Ytnhbekgmameeaaa
open Go.RowKit Wd
set_option linter.unusedVariables false
set_option linter.unusedSimpArgs false
theorem infoI : (Try.prog.info? 44).map (fun i => (i.zero, i.size)) = some (some (Value.agg (insC noI)), 11) := by kernel_rfl
theorem sizeI (i : Ins) : (Try.prog.info? 44).map (·.size) = some (insC i).size := (zero_of_info infoI).2
/-- An object's row, if it is an instruction's, and may be written. -/
def rowO : Obj → Option (Array Value)
  | .cells cs t fr => if t = 44 ∧ fr = (0, 0) then some cs else none
  | _ => none
noncomputable def rowI (w : World) (b : Nat) : Option (Array Value) := w.heap[b]?.bind rowO
theorem rowI_heap {w : World} {b : Nat} {cs : Array Value} (h : rowI w b = some cs) : w.heap[b]? = some (.cells cs 44 (0, 0)) := by
  unfold rowI at h
  cases hh : w.heap[b]? with
  | none => rw [hh] at h; simp at h
  | some o =>
    rw [hh] at h
    simp only [Option.bind_some] at h
    unfold rowO at h
    split at h
    · split at h
      · rename_i c
        obtain ⟨rfl, rfl⟩ := c
        simp at h
        subst h
        rfl
      · simp at h
    · simp at h
theorem rowI_of {w : World} {b : Nat} {cs : Array Value} (h : w.heap[b]? = some (.cells cs 44 (0, 0))) : rowI w b = some cs := by
  unfold rowI
  rw [h]
  simp [rowO]
theorem rowI_alloc (w : World) (cs : Array Value) (t : TypeId) (b : Nat) : rowI (w.alloc (.cells cs t)) b = if b = w.heap.size then (if t = 44 then some cs else none) else rowI w b := by
  have e : (w.alloc (.cells cs t)).heap[b]? = if b = w.heap.size then some (.cells cs t (0, 0)) else w.heap[b]? := by
    show (w.heap.push _)[b]? = _
    rw [Array.getElem?_push]
  unfold rowI
  rw [e]
  split
  · simp [rowO]
  · rfl
theorem rowI_lt {w : World} {b : Nat} {cs : Array Value} (h : rowI w b = some cs) : b < w.heap.size := by
  have hh := rowI_heap h
  by_cases g : b < w.heap.size
  · exact g
  · rw [Array.getElem?_eq_none (by omega)] at hh
    simp at hh
theorem rowI_below {w w' : World} {b : Nat} {cs : Array Value} (h : rowI w b = some cs) (hb : Below w.heap.size w w') : rowI w' b = some cs :=
  rowI_of ((hb.block b (rowI_lt h)).trans (rowI_heap h))
theorem rowI_drew (w : World) (b : Nat) : rowI w.drew b = rowI w b := rfl
theorem rowI_setCell (w : World) (b o : Nat) (v : Value) (b' : Nat) : rowI (w.setCell ⟨b, o, none⟩ v) b' = if b' = b then (rowI w b).map (fun cs => cs.setIfInBounds o v) else rowI w b' := by
  by_cases h : b' = b
  · subst h
    rw [if_pos rfl]
    unfold rowI World.setCell
    simp only [Array.getElem?_modify, if_true]
    cases w.heap[b']? with
    | none => rfl
    | some ob =>
      cases ob with
      | cells cs t fr =>
        simp only [Option.map_some, Option.bind_some, rowO]
        split <;> simp
      | _ => rfl
  · rw [if_neg h]
    unfold rowI
    rw [heap_setCell_other _ _ _ _ h]
theorem rowI_setRow (w : World) (b : Nat) (c : Array Value) (b' : Nat) : rowI (w.setRow b c) b' = if b' = b then (rowI w b).map (fun _ => c) else rowI w b' := by
  by_cases h : b' = b
  · subst h
    rw [if_pos rfl]
    unfold rowI World.setRow
    simp only [Array.getElem?_modify, if_true]
    cases w.heap[b']? with
    | none => rfl
    | some ob =>
      cases ob with
      | cells cs t fr =>
        simp only [Option.map_some, Option.bind_some, rowO]
        split <;> simp
      | _ => rfl
  · rw [if_neg h]
    unfold rowI
    rw [setRow_other _ _ _ _ h]
/-- The cells of a row out of a block, and into one. -/
noncomputable def loadI (w : World) (b : Nat) : Option (Array Value) → Result (Array Value)
  | some cs => if cs.size = 11 then .ok cs w else (loadCellsFrom ⟨b, 0, none⟩ 0 11 #[]).run Try.prog w
  | none => (loadCellsFrom ⟨b, 0, none⟩ 0 11 #[]).run Try.prog w
noncomputable def storeI (w : World) (b : Nat) (c : Array Value) : Option (Array Value) → Result Unit
  | some cs => if cs.size = c.size ∧ c.all (·.oneCell') = true then .ok () (w.setRow b c) else (storeCells ⟨b, 0, none⟩ c.toList 0).run Try.prog w
  | none => (storeCells ⟨b, 0, none⟩ c.toList 0).run Try.prog w
theorem loadI_run (w : World) (b : Nat) : (loadCellsFrom ⟨b, 0, none⟩ 0 11 #[]).run Try.prog w = loadI w b (rowI w b) := by
  cases hr : rowI w b with
  | none => rfl
  | some cs =>
    by_cases hs : cs.size = 11
    · have e : loadI w b (some cs) = .ok cs w := if_pos hs
      rw [e]
      have hl := run_loadCells_list (P := Try.prog) w ⟨b, 0, none⟩ cs.toList (fun j v hv => by
        have hadd : (⟨b, 0, none⟩ : Addr).add j = ⟨b, j, none⟩ := by unfold Addr.add; split <;> simp_all
        rw [hadd, cell_of_row w b j cs _ (0, 0) (rowI_heap hr)]
        simpa using hv)
      simp only [Array.length_toList, Array.toArray_toList, hs] at hl
      exact hl
    · exact (if_neg hs).symm
theorem storeI_run (w : World) (b : Nat) (c : Array Value) : (storeCells ⟨b, 0, none⟩ c.toList 0).run Try.prog w = storeI w b c (rowI w b) := by
  cases hr : rowI w b with
  | none => rfl
  | some cs =>
    by_cases hs : cs.size = c.size ∧ c.all (·.oneCell') = true
    · have e : storeI w b c (some cs) = .ok () (w.setRow b c) := if_pos hs
      rw [e]
      have := run_storeCells_from (P := Try.prog) b _ c.toList 0 cs w (rowI_heap hr) (by simp; omega) (fun v hv => (Array.all_eq_true_iff_forall_mem.1 hs.2) v (by simpa using hv))
      simpa using this
    · exact (if_neg hs).symm
theorem storeI_run' (w : World) (b : Nat) (l : List Value) : (storeCells ⟨b, 0, none⟩ l 0).run Try.prog w = storeI w b l.toArray (rowI w b) := by
  have := storeI_run w b l.toArray
  simpa using this
theorem loadI_lit (w : World) (b : Nat) (y0 y1 y2 y3 y4 y5 y6 y7 y8 y9 y10 : Value) : loadI w b (some #[y0, y1, y2, y3, y4, y5, y6, y7, y8, y9, y10]) = .ok #[y0, y1, y2, y3, y4, y5, y6, y7, y8, y9, y10] w := rfl
theorem storeI_lit (w : World) (b : Nat) (a0 a1 a2 a3 a4 a5 a6 : Int) (a7 a8 a9 : Bool) (a10 : Int) (y0 y1 y2 y3 y4 y5 y6 y7 y8 y9 y10 : Value) : storeI w b #[.int .i64 a0, .int .i64 a1, .int .i64 a2, .int .i64 a3, .int .i64 a4, .int .u64 a5, .int .i64 a6, .bool a7, .bool a8, .bool a9, .int .i64 a10] (some #[y0, y1, y2, y3, y4, y5, y6, y7, y8, y9, y10]) = .ok () (w.setRow b #[.int .i64 a0, .int .i64 a1, .int .i64 a2, .int .i64 a3, .int .i64 a4, .int .u64 a5, .int .i64 a6, .bool a7, .bool a8, .bool a9, .int .i64 a10]) := if_pos ⟨rfl, by simp [Value.oneCell']⟩
theorem setRow_allocI (w : World) (cs cs' : Array Value) (b : Nat) : (w.alloc (.cells cs 44)).setRow b cs' = if b = w.heap.size then w.alloc (.cells cs' 44) else (w.alloc (.cells cs 44)).setRow b cs' := by
  by_cases h : b = w.heap.size
  · subst h
    rw [if_pos rfl]
    exact World.setRow_alloc_new w cs cs' _
  · rw [if_neg h]
/-- The way out of a function that hands an instruction back out of a block. -/
theorem ret_ins {fn : Func} {R : Ending → World → Prop} {a : Act} {w : World} {p : Tmp} {b : Nat} {cs : Array Value} (hf : fn.results = #[.cell p 44]) (hp : a.tmps.getD p undef = .pointer (some ⟨b, 0, none⟩))
    (hr : rowI w b = some cs) (hs : cs.size = 11) (hd : a.defers = []) (hR : R (.returned (.agg cs)) w) : bodyPost Try.prog fn R .ret a w :=
  bodyPost_ret (results_cell_row hf _ _ b _ cs (0, 0) _ hp (rowI_heap hr) Try.underlying44 rfl (by rw [hs]; exact sizeI noI)) hd hR
theorem below_row {B : Nat} {w0 w : World} (hb : Below B w0 w) (b : Nat) (h : B ≤ b) (cs : Array Value) : Below B w0 (w.setRow b cs) :=
  ⟨hb.os, hb.tape, hb.output, by simpa using hb.size, fun k hk => by rw [setRow_other _ _ _ _ (by omega)]; exact hb.block k hk⟩
/-- Two blocks of instructions, in a world in which nothing old has turned. -/
theorem rows2 {W w' : World} {b c : Nat} {x y : Array Value} (h : rowI W b = some x) (k : rowI W c = some y) (hb : Below W.heap.size W w') :
    rowI w' b = some x ∧ rowI w' c = some y ∧ (∀ o, w'.cell? ⟨c, o, none⟩ = y[o]?) ∧ (∀ o, w'.frozen? ⟨c, o, none⟩ = false) := by
  have h2 := rowI_below h hb
  have k2 := rowI_below k hb
  exact ⟨h2, k2, fun o => cell_of_row w' _ o _ _ (0, 0) (rowI_heap k2), fun o => frozen_of_row w' _ o _ _ (rowI_heap k2)⟩
theorem two_blocks {w w5 w6 : World} {z c : Array Value} (B : Below (w.alloc (.cells z 44)).heap.size (w.alloc (.cells z 44)) w5) (h : Below (w5.alloc (.cells c 44)).heap.size (w5.alloc (.cells c 44)) w6) :
    rowI w6 w.heap.size = some z ∧ rowI w6 w5.heap.size = some c ∧ (∀ o, w6.cell? ⟨w5.heap.size, o, none⟩ = c[o]?) ∧ (∀ o, w6.frozen? ⟨w5.heap.size, o, none⟩ = false) ∧ ¬ w.heap.size = w5.heap.size ∧ ¬ w5.heap.size = w.heap.size ∧ w.heap.size ≤ w5.heap.size ∧ Below w.heap.size w w6 := by
  have z0 : rowI (w.alloc (.cells z 44)) w.heap.size = some z := by rw [rowI_alloc, if_pos rfl, if_pos rfl]
  have z5 := rowI_below z0 B
  have hs : w.heap.size < w5.heap.size := rowI_lt z5
  have z6 : rowI (w5.alloc (.cells c 44)) w.heap.size = some z := by rw [rowI_alloc, if_neg (by omega)]; exact z5
  have c6 : rowI (w5.alloc (.cells c 44)) w5.heap.size = some c := by rw [rowI_alloc, if_pos rfl, if_pos rfl]
  obtain ⟨a1, a2, a3, a4⟩ := rows2 z6 c6 h
  have b0 := (Below.refl w.heap.size w).alloc (Nat.le_refl _) (.cells z 44)
  have b5 := b0.trans (B.mono (by simp))
  have b6 := b5.alloc (by omega) (.cells c 44)
  exact ⟨a1, a2, a3, a4, by omega, by omega, by omega, b6.trans (h.mono (by simp; omega))⟩
theorem one_block {w w1 : World} {z : Array Value} (B : Below (w.alloc (.cells z 44)).heap.size (w.alloc (.cells z 44)) w1) : rowI w1 w.heap.size = some z ∧ Below w.heap.size w w1 := by
  have z0 : rowI (w.alloc (.cells z 44)) w.heap.size = some z := by rw [rowI_alloc, if_pos rfl, if_pos rfl]
  have b0 := (Below.refl w.heap.size w).alloc (Nat.le_refl _) (.cells z 44)
  exact ⟨rowI_below z0 B, b0.trans (B.mono (by simp))⟩
/-- A world that came by a store into a block. -/
def Stored (w : World) (g : Nat) (W : World) : Prop := ∀ (B : Nat) (w0 : World), B ≤ g → Below B w0 w → Below B w0 W
/-- A whole instruction into a block. -/
theorem st_ins {ops : Array Oper} {rest : List Oper} {o : Oper} {a : Act} {w : World} {Q : Exit → Act → World → Prop} (hgd : o.guard = none) (x y : Operand) (ho : o.op = .store 44 x y)
    (g : Nat) (hx : a.eval x = .pointer (some ⟨g, 0, none⟩)) (old : Array Value) (hg : rowI w g = some old) (hold : old.size = 11) (cells : Array Value) (hy : a.eval y = .agg cells) (hs : cells.size = 11) (h1 : cells.all (·.oneCell') = true)
    (h : ∀ W, rowI W g = some cells → Stored w g W → wpList Try.prog ops Q rest (a.put o.dst undef) W) : wpList Try.prog ops Q (o :: rest) a w :=
  wpList_store_row hgd _ x y ho g cells hx hy _ old (rowI_heap hg) (by rw [hs]; exact sizeI noI) (hold.trans hs.symm) h1
    (h _ (by rw [rowI_setRow, if_pos rfl, hg]; rfl) fun _ _ h2 h3 => below_row h3 _ h2 _)
theorem below_setCell {B : Nat} {w0 w : World} (hb : Below B w0 w) (b o : Nat) (v : Value) (h : B ≤ b) : Below B w0 (w.setCell ⟨b, o, none⟩ v) := hb.setCell h v
end Go.Proofs.Ytnhbekgmameeaaa
