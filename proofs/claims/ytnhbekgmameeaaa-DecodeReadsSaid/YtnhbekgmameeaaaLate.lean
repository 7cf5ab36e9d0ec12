/- A region that draws, over worlds in which at most new memory was made: one walk over all of them. -/
import Derived.Test.YtnhbekgmameeaaaFastLex
import Derived.Test.YtnhbekgmameeaaaBase
import Derived.Test.YtnhbekgmameeaaaBox
namespace Go.Proofs.Ytnhbekgmameeaaa
open Go.RowKit Wd Go.BigFrame
structure Late (w : World) where
  is : World
  below : Below w.heap.size w is
instance (w : World) : Nonempty (Late w) := ⟨⟨w, Below.refl _ _⟩⟩
theorem Mk.late {P : Program} {f : FuncId} {args : Array Value} {v : Value} (h : Mk P f args v) {w : World} {b : Late w} :
    Calls P f args b.is fun e w'' => e = .returned v ∧ ∃ b' : Late w, w'' = b'.is :=
  (h b.is).mono fun _ w' ⟨he, k⟩ => ⟨he, ⟨w', b.below.trans (k.mono b.below.size)⟩, rfl⟩
theorem wp_region_late {P : Program} {id : Nat} {Q : Exit → Act → World → Prop} {a : Act} {w0 w : World} {l : List Oper} (hm : P.follows .mixedOrders = true) (hB : Region.lexB .any l.toArray = true) (hw : Below w0.heap.size w0 w)
    (h : wpQuiet P l.toArray (fun w' => ∃ b : Late w0, w' = b.is) (fun a' => ∀ w', (∃ b : Late w0, w' = b.is) → Q .normal a' w') l a) : (Code.region id l.toArray true).wp P Q a w :=
  wp_region_quiet (C := fun w' => ∃ b : Late w0, w' = b.is) hm hB ⟨⟨_, hw.trans (Below.refl _ _).drew⟩, rfl⟩ (by simpa using h)
/-- Eleven cells of a block. -/
theorem Box.eleven {w : World} {b : Nat} {x0 x1 x2 x3 x4 x5 x6 x7 x8 x9 x10 : Value} (h : Box w b [x0, x1, x2, x3, x4, x5, x6, x7, x8, x9, x10]) :
    w.cell? ⟨b, 0, none⟩ = some x0 ∧ w.cell? ⟨b, 1, none⟩ = some x1 ∧ w.cell? ⟨b, 2, none⟩ = some x2 ∧ w.cell? ⟨b, 3, none⟩ = some x3 ∧ w.cell? ⟨b, 4, none⟩ = some x4 ∧ w.cell? ⟨b, 5, none⟩ = some x5 ∧ w.cell? ⟨b, 6, none⟩ = some x6 ∧ w.cell? ⟨b, 7, none⟩ = some x7 ∧ w.cell? ⟨b, 8, none⟩ = some x8 ∧ w.cell? ⟨b, 9, none⟩ = some x9 ∧ w.cell? ⟨b, 10, none⟩ = some x10 :=
  ⟨h.get rfl, h.get rfl, h.get rfl, h.get rfl, h.get rfl, h.get rfl, h.get rfl, h.get rfl, h.get rfl, h.get rfl, h.get rfl⟩
theorem Box.late {w : World} {b : Nat} {x0 x1 x2 x3 x4 x5 x6 x7 x8 x9 x10 : Value} (h : Box w b [x0, x1, x2, x3, x4, x5, x6, x7, x8, x9, x10]) :
    (∀ g : Late w, g.is.cell? ⟨b, 0, none⟩ = some x0) ∧ (∀ g : Late w, g.is.cell? ⟨b, 1, none⟩ = some x1) ∧ (∀ g : Late w, g.is.cell? ⟨b, 2, none⟩ = some x2) ∧ (∀ g : Late w, g.is.cell? ⟨b, 3, none⟩ = some x3) ∧ (∀ g : Late w, g.is.cell? ⟨b, 4, none⟩ = some x4) ∧ (∀ g : Late w, g.is.cell? ⟨b, 5, none⟩ = some x5) ∧ (∀ g : Late w, g.is.cell? ⟨b, 6, none⟩ = some x6) ∧ (∀ g : Late w, g.is.cell? ⟨b, 7, none⟩ = some x7) ∧ (∀ g : Late w, g.is.cell? ⟨b, 8, none⟩ = some x8) ∧ (∀ g : Late w, g.is.cell? ⟨b, 9, none⟩ = some x9) ∧ (∀ g : Late w, g.is.cell? ⟨b, 10, none⟩ = some x10) :=
  ⟨fun g => (h.below g.below).get rfl, fun g => (h.below g.below).get rfl, fun g => (h.below g.below).get rfl, fun g => (h.below g.below).get rfl, fun g => (h.below g.below).get rfl, fun g => (h.below g.below).get rfl, fun g => (h.below g.below).get rfl, fun g => (h.below g.below).get rfl, fun g => (h.below g.below).get rfl, fun g => (h.below g.below).get rfl, fun g => (h.below g.below).get rfl⟩
end Go.Proofs.Ytnhbekgmameeaaa
