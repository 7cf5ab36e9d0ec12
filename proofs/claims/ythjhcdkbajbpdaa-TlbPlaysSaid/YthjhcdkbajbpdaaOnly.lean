/- What stays where some blocks of old memory are turned; a block known whole. -/
import Derived.Test.YthjhcdkbajbpdaaBase
import Derived.Laws.Rows
import Derived.Laws.NewBlocks
namespace Go.Proofs.Ythjhcdkbajbpdaa
open Go.RowKit
set_option linter.unusedVariables false
/-- Of the old blocks only those named have turned. -/
structure Only (S : List Nat) (w w' : World) : Prop where
  os : w'.os = w.os
  tape : w'.tape = w.tape
  output : w'.output = w.output
  size : w.heap.size ≤ w'.heap.size
  block : ∀ k, k < w.heap.size → k ∉ S → w'.heap[k]? = w.heap[k]?
theorem Only.refl (S : List Nat) (w : World) : Only S w w := ⟨rfl, rfl, rfl, Nat.le_refl _, fun _ _ _ => rfl⟩
theorem Only.trans {S T : List Nat} {a b c : World} (h : Only S a b) (k : Only T b c) (hs : ∀ x, x ∈ T → x ∈ S ∨ a.heap.size ≤ x) : Only S a c :=
  ⟨k.os.trans h.os, k.tape.trans h.tape, k.output.trans h.output, Nat.le_trans h.size k.size, fun i hi hn => (k.block i (Nat.lt_of_lt_of_le hi h.size) fun hm => by
    rcases hs i hm with h1 | h1
    · exact hn h1
    · omega).trans (h.block i hi hn)⟩
theorem Only.also {S : List Nat} {a b c : World} (h : Only S a b) (k : Only S b c) : Only S a c := h.trans k fun x hx => .inl hx
theorem Only.mono {S T : List Nat} {a b : World} (h : Only S a b) (hs : ∀ x, x ∈ S → x ∈ T ∨ a.heap.size ≤ x) : Only T a b :=
  ⟨h.os, h.tape, h.output, h.size, fun k hk hn => h.block k hk fun hm => by
    rcases hs k hm with h1 | h1
    · exact hn h1
    · omega⟩
theorem only_below {w w' : World} (h : Below w.heap.size w w') (S : List Nat) : Only S w w' := ⟨h.os, h.tape, h.output, h.size, fun k hk _ => h.block k hk⟩
theorem Only.below {S : List Nat} {w w' : World} {B : Nat} (h : Only S w w') (hs : ∀ x, x ∈ S → B ≤ x) (hB : B ≤ w.heap.size) : Below B w w' :=
  ⟨h.os, h.tape, h.output, h.size, fun k hk => h.block k (by omega) fun hm => by have := hs k hm; omega⟩
theorem Only.drewN {S : List Nat} {w w' : World} (h : Only S w w') (n : Nat) : Only S w (w'.drewN n) := ⟨h.os, h.tape, h.output, h.size, h.block⟩
theorem Only.drew {S : List Nat} {w w' : World} (h : Only S w w') : Only S w w'.drew := ⟨h.os, h.tape, h.output, h.size, h.block⟩
theorem Only.alloc {S : List Nat} {w w' : World} (h : Only S w w') (o : Obj) : Only S w (w'.alloc o) :=
  h.also (only_below ((Below.refl _ _).alloc (Nat.le_refl _) o) S)
theorem Only.quiet {S : List Nat} {w w1 w2 : World} (h : Only S w w1) (q : Quiet w1 w2) : Only S w w2 := h.also (only_below (q.below _) S)
theorem Only.make {S : List Nat} {w w1 w2 : World} (h : Only S w w1) (q : Below w1.heap.size w1 w2) : Only S w w2 := h.also (only_below q S)
theorem setCell_block (w : World) (b o : Nat) (v : Value) (k : Nat) (h : k ≠ b) : (w.setCell ⟨b, o, none⟩ v).heap[k]? = w.heap[k]? := Below.heap_setCell w ⟨b, o, none⟩ v k h
theorem Only.set {S : List Nat} {w w' : World} (h : Only S w w') {b : Nat} (hb : b ∈ S ∨ w.heap.size ≤ b) (o : Nat) (v : Value) : Only S w (w'.setCell ⟨b, o, none⟩ v) :=
  ⟨h.os, h.tape, h.output, by simpa using h.size, fun k hk hn => (setCell_block w' b o v k fun e => by
    rcases hb with h1 | h1
    · exact hn (e ▸ h1)
    · omega).trans (h.block k hk hn)⟩
/-- The block b, whole. -/
def Bk (w : World) (b : Nat) (cs : Array Value) (t : TypeId) : Prop := w.heap[b]? = some (.cells cs t (0, 0))
theorem Bk.lt {w : World} {b : Nat} {cs : Array Value} {t : TypeId} (h : Bk w b cs t) : b < w.heap.size := by
  by_cases g : b < w.heap.size
  · exact g
  · unfold Bk at h
    rw [Array.getElem?_eq_none (by omega)] at h
    simp at h
theorem Bk.new (w : World) (cs : Array Value) (t : TypeId) : Bk (w.alloc (.cells cs t)) w.heap.size cs t := heap_alloc_new w _
theorem Bk.only {w w' : World} {b : Nat} {cs : Array Value} {t : TypeId} {S : List Nat} (h : Bk w b cs t) (k : Only S w w') (hn : b ∉ S) : Bk w' b cs t := (k.block b h.lt hn).trans h
theorem Bk.below {w w' : World} {b : Nat} {cs : Array Value} {t : TypeId} (h : Bk w b cs t) (k : Below w.heap.size w w') : Bk w' b cs t := (k.block b h.lt).trans h
theorem Bk.quiet {w w' : World} {b : Nat} {cs : Array Value} {t : TypeId} (h : Bk w b cs t) (k : Quiet w w') : Bk w' b cs t := h.below (k.below _)
theorem Bk.drewN {w : World} {b : Nat} {cs : Array Value} {t : TypeId} (h : Bk w b cs t) (n : Nat) : Bk (w.drewN n) b cs t := h
theorem Bk.alloc {w : World} {b : Nat} {cs : Array Value} {t : TypeId} (h : Bk w b cs t) (o : Obj) : Bk (w.alloc o) b cs t := h.below ((Below.refl _ _).alloc (Nat.le_refl _) o)
theorem Bk.cell {w : World} {b : Nat} {cs : Array Value} {t : TypeId} (h : Bk w b cs t) (o : Nat) : w.cell? ⟨b, o, none⟩ = cs[o]? := cell_of_row w _ o _ _ (0, 0) h
theorem Bk.free {w : World} {b : Nat} {cs : Array Value} {t : TypeId} (h : Bk w b cs t) (o : Nat) : w.frozen? ⟨b, o, none⟩ = false := frozen_of_row w _ o _ _ h
theorem Bk.set {w : World} {b : Nat} {cs : Array Value} {t : TypeId} (h : Bk w b cs t) (o : Nat) (v : Value) : Bk (w.setCell ⟨b, o, none⟩ v) b (cs.setIfInBounds o v) t := heap_setCell_same w b o cs t v h
theorem Bk.other {w : World} {b : Nat} {cs : Array Value} {t : TypeId} (h : Bk w b cs t) {c : Nat} (hn : b ≠ c) (o : Nat) (v : Value) : Bk (w.setCell ⟨c, o, none⟩ v) b cs t := (setCell_block w c o v b hn).trans h
theorem Bk.get {w : World} {b : Nat} {cs : Array Value} {t : TypeId} (h : Bk w b cs t) {o : Nat} {v : Value} (hv : cs[o]? = some v) : w.cell? ⟨b, o, none⟩ = some v := (h.cell o).trans hv
/-- Just these blocks have turned, and none was made. -/
structure Just (S : List Nat) (w w' : World) : Prop where
  os : w'.os = w.os
  tape : w'.tape = w.tape
  output : w'.output = w.output
  size : w'.heap.size = w.heap.size
  block : ∀ k, k ∉ S → w'.heap[k]? = w.heap[k]?
theorem Just.refl (S : List Nat) (w : World) : Just S w w := ⟨rfl, rfl, rfl, rfl, fun _ _ => rfl⟩
theorem Just.trans {S T : List Nat} {a b c : World} (h : Just S a b) (k : Just T b c) (hs : ∀ x, x ∈ T → x ∈ S ∨ False) : Just S a c :=
  ⟨k.os.trans h.os, k.tape.trans h.tape, k.output.trans h.output, k.size.trans h.size, fun i hn => (k.block i fun hm => by
    rcases hs i hm with h1 | h1
    · exact hn h1
    · exact h1).trans (h.block i hn)⟩
theorem Just.only {S : List Nat} {a b : World} (h : Just S a b) : Only S a b := ⟨h.os, h.tape, h.output, by rw [h.size]; exact Nat.le_refl _, fun k _ hn => h.block k hn⟩
theorem Just.drewN {S : List Nat} {w w' : World} (h : Just S w w') (n : Nat) : Just S w (w'.drewN n) := ⟨h.os, h.tape, h.output, h.size, h.block⟩
theorem Just.drew {S : List Nat} {w w' : World} (h : Just S w w') : Just S w w'.drew := ⟨h.os, h.tape, h.output, h.size, h.block⟩
theorem Just.quiet {S : List Nat} {w w1 w2 : World} (h : Just S w w1) (q : Quiet w1 w2) : Just S w w2 := by
  obtain ⟨n, rfl⟩ := q
  exact h.drewN n
theorem Just.set {S : List Nat} {w w' : World} (h : Just S w w') {b : Nat} (hb : b ∈ S ∨ False) (o : Nat) (v : Value) : Just S w (w'.setCell ⟨b, o, none⟩ v) :=
  ⟨h.os, h.tape, h.output, by simpa using h.size, fun k hn => (setCell_block w' b o v k fun e => by
    rcases hb with h1 | h1
    · exact hn (e ▸ h1)
    · exact h1).trans (h.block k hn)⟩
end Go.Proofs.Ythjhcdkbajbpdaa
