/- Further lemmas on blocks of instructions. -/
import Derived.Test.YtnhbekgmameeaaaIns
import Derived.Laws.CopyRow
namespace Go.Proofs.Ytnhbekgmameeaaa
open Go.RowKit Wd
/-- A block of an instruction, cell by cell, in a world in which nothing old has turned. -/
theorem row_facts {W W2 w' : World} {b : Nat} {x : Array Value} (h : rowI W b = some x) (hh : W2.heap = W.heap) (hb : Below W2.heap.size W2 w') :
    rowI w' b = some x ∧ (∀ o, w'.cell? ⟨b, o, none⟩ = x[o]?) ∧ (∀ o, w'.frozen? ⟨b, o, none⟩ = false) := by
  have h2 : rowI W2 b = some x := rowI_of (by rw [hh]; exact rowI_heap h)
  have h3 := rowI_below h2 hb
  exact ⟨h3, fun o => cell_of_row w' _ o _ _ (0, 0) (rowI_heap h3), fun o => frozen_of_row w' _ o _ _ (rowI_heap h3)⟩
theorem row_drew {W w' : World} {b : Nat} {x : Array Value} (h : rowI W b = some x) (hb : Below W.drew.heap.size W.drew w') :
    rowI w' b = some x ∧ (∀ o, w'.cell? ⟨b, o, none⟩ = x[o]?) ∧ (∀ o, w'.frozen? ⟨b, o, none⟩ = false) := row_facts (W2 := W.drew) h rfl hb
theorem two_new {w w5 : World} {z c : Array Value} (B : Below ((w.alloc (.cells z 44)).alloc (.cells c 44)).heap.size ((w.alloc (.cells z 44)).alloc (.cells c 44)) w5) :
    rowI w5 w.heap.size = some z ∧ rowI w5 (w.heap.size + 1) = some c ∧ Below w.heap.size w w5 := by
  have z0 : rowI ((w.alloc (.cells z 44)).alloc (.cells c 44)) w.heap.size = some z := by rw [rowI_alloc, if_neg (by simp), rowI_alloc, if_pos rfl, if_pos rfl]
  have c0 : rowI ((w.alloc (.cells z 44)).alloc (.cells c 44)) (w.heap.size + 1) = some c := by rw [rowI_alloc, if_pos (by simp), if_pos rfl]
  have b0 := ((Below.refl w.heap.size w).alloc (Nat.le_refl _) (.cells z 44)).alloc (by simp) (.cells c 44)
  exact ⟨rowI_below z0 B, rowI_below c0 B, b0.trans (B.mono (by simp; omega))⟩
theorem rowI_drewN (w : World) (n b : Nat) : rowI (w.drewN n) b = rowI w b := by
  unfold rowI
  rfl
theorem loadI_ins (w : World) (b : Nat) (i : Ins) : loadI w b (some (insC i)) = .ok (insC i) w := rfl
theorem ins_one (i : Ins) : (insC i).all (·.oneCell') = true := by simp [insC, Value.oneCell']
/-- A whole instruction into a block; others stay. -/
theorem st_ins2 {ops : Array Oper} {rest : List Oper} {o : Oper} {a : Act} {w : World} {Q : Exit → Act → World → Prop} (hgd : o.guard = none) (x y : Operand) (ho : o.op = .store 44 x y)
    (g : Nat) (hx : a.eval x = .pointer (some ⟨g, 0, none⟩)) (old : Array Value) (hg : rowI w g = some old) (hold : old.size = 11) (cells : Array Value) (hy : a.eval y = .agg cells) (hs : cells.size = 11) (h1 : cells.all (·.oneCell') = true)
    (h : ∀ W, rowI W g = some cells → Stored w g W → (∀ b, b ≠ g → rowI W b = rowI w b) → wpList Try.prog ops Q rest (a.put o.dst undef) W) : wpList Try.prog ops Q (o :: rest) a w :=
  wpList_store_row hgd _ x y ho g cells hx hy _ old (rowI_heap hg) (by rw [hs]; exact sizeI noI) (hold.trans hs.symm) h1
    (h _ (by rw [rowI_setRow, if_pos rfl, hg]; rfl) (fun _ _ h2 h3 => below_row h3 _ h2 _) fun b hb => by rw [rowI_setRow, if_neg hb])
/-- Cells into a block, kept shut till the block is known. -/
def storeK (a : Addr) (l : List Value) (i : Nat) : Sem Unit := storeCells a l i
theorem storeK_eq (a : Addr) (l : List Value) (i : Nat) : storeCells a l i = storeK a l i := rfl
theorem storeK_run (w : World) (b : Nat) (v0 v1 : Value) (l : List Value) : (storeK ⟨b, 0, none⟩ (v0 :: v1 :: l) 0).run Try.prog w = storeI w b (v0 :: v1 :: l).toArray (rowI w b) := storeI_run' w b _
noncomputable def storeF (w : World) (b o : Nat) (v : Value) : Option (Array Value) → Result Unit
  | some cs => if o < cs.size ∧ v.oneCell' = true then .ok () (w.setCell ⟨b, o, none⟩ v) else (storeCells ⟨b, o, none⟩ [v] 0).run Try.prog w
  | none => (storeCells ⟨b, o, none⟩ [v] 0).run Try.prog w
theorem storeK_one (w : World) (b o : Nat) (v : Value) : (storeK ⟨b, o, none⟩ [v] 0).run Try.prog w = storeF w b o v (rowI w b) := by
  cases hr : rowI w b with
  | none => rfl
  | some cs =>
    by_cases hs : o < cs.size ∧ v.oneCell' = true
    · have e : storeF w b o v (some cs) = .ok () (w.setCell ⟨b, o, none⟩ v) := if_pos hs
      rw [e]
      have hh := rowI_heap hr
      have hadd : (⟨b, o, none⟩ : Addr).add 0 = ⟨b, o, none⟩ := by unfold Addr.add; split <;> simp_all
      show (storeCells ⟨b, o, none⟩ [v] 0).run Try.prog w = _
      have hc : w.cell? ⟨b, o, none⟩ = some (cs[o]'hs.1) := by rw [cell_of_row w b o cs _ (0, 0) hh]; simp [hs.1]
      have hf : w.frozen? ⟨b, o, none⟩ = false := frozen_of_row w b o cs _ hh
      simp only [storeCells, Sem.run_bind, hadd]
      rw [run_store Try.prog w _ v _ hs.2, hc]
      simp [hf]
    · exact (if_neg hs).symm
theorem storeF_lit (w : World) (b o : Nat) (v : Value) (y0 y1 y2 y3 y4 y5 y6 y7 y8 y9 y10 : Value) (h : o < 11) (h1 : v.oneCell' = true) : storeF w b o v (some #[y0, y1, y2, y3, y4, y5, y6, y7, y8, y9, y10]) = .ok () (w.setCell ⟨b, o, none⟩ v) := if_pos ⟨h, h1⟩
end Go.Proofs.Ytnhbekgmameeaaa
