/- Arguments opened: slices of structs of numbers and bools; a struct by value of such a slice and a bool. -/
import Derived.Deep.Slices
import Derived.Carry
import Derived.Test.YthjhcdkbajbpdaaFlat
namespace Go.Proofs.Ythjhcdkbajbpdaa
open Go.RowKit Go.ChangeShapes Go.WideShapes
/-- The slice's elements are rows of such cells. -/
def RowsIn (ls : List Flat.Leaf) (w : World) (A : Option Addr) (len : Nat) : Prop :=
  len ≤ 9223372036854775807 ∧ (0 < len → ∃ b off, A = some ⟨b, off, none⟩ ∧ b < w.heap.size ∧ ∀ i, i < len → ∃ cs : List Value, Flat.All2 ls cs ∧ ∀ j, j < ls.length → w.cell? ⟨b, off + (i * ls.length + j), none⟩ = cs[j]?)
theorem add_off (b off : Nat) (k : Nat) : (⟨b, off, none⟩ : Addr).add k = ⟨b, off + k, none⟩ := by
  unfold Addr.add
  split <;> simp_all
theorem cell_none {w : World} {a : Addr} {v : Value} (h : w.cell? a = some v) : a.spot = none ∧ a.block < w.heap.size := by
  unfold World.cell? at h
  split at h
  · rename_i cs t fr hh
    constructor
    · cases hs : a.spot with
      | none => rfl
      | some q => simp [hs] at h
    · by_cases g : a.block < w.heap.size
      · exact g
      · rw [Array.getElem?_eq_none (by omega)] at hh; simp at hh
  · simp at h
section
variable {H : Type} {enc : TypeId × Value → H} {P : Program} {W : World} {base : Nat} {sp : Nat → Bool} {hd : Bool}
theorem rows_in {t e : TypeId} {ls : List Flat.Leaf} {fuel : Nat} {A : Option Addr} {len cap : Nat} {x : DataW H × List MemPlace} (n : Nat) (ht : P.underlying t = some (.slice e)) (hl : Flat.leaves P n e = some ls) (hC : P.cellsOf e = ls.length) (h0 : 0 < ls.length)
    (h : DataW.trod enc P W base sp hd fuel t [.slice A len cap] = some x) : RowsIn ls W A len := by
  rcases Go.Deep.open_slice ht h with ⟨hcs, _⟩ | ⟨a, len', cap', m, k, D, Pl, hcs, _, hlc, hm, hmm, _, hi⟩
  · simp at hcs
    obtain ⟨rfl, rfl, rfl⟩ := hcs
    exact ⟨by omega, fun h => by omega⟩
  · simp at hcs
    obtain ⟨rfl, rfl, rfl⟩ := hcs
    have hlm : len ≤ m := by rw [hmm]; split <;> omega
    refine ⟨by unfold maxLen at hm; omega, fun hp => ?_⟩
    have hel : ∀ i, i < len → ∃ cs : List Value, Flat.All2 ls cs ∧ ∀ j, j < ls.length → W.cell? (a.add (i * ls.length + j)) = cs[j]? := fun i hil => by
      obtain ⟨cs', hc, htr⟩ := hi i (by omega)
      rw [hC] at hc
      obtain ⟨_, hcl, hat⟩ := World.cells?_some hc
      obtain ⟨ha, _⟩ := Flat.flat_of n k e ls cs' _ hl htr
      refine ⟨cs', ha, fun j hj => ?_⟩
      have := hat j hj
      rw [Go.Deep.add_add] at this
      exact this
    obtain ⟨cs0, ha0, hc0⟩ := hel 0 hp
    have h1 := hc0 0 h0
    have hl0 := ha0.len
    rw [List.getElem?_eq_getElem (by omega)] at h1
    obtain ⟨b, off, sb⟩ := a
    rw [Nat.zero_mul, Nat.add_zero, show (⟨b, off, sb⟩ : Addr).add 0 = ⟨b, off, sb⟩ from rfl] at h1
    have h2 := cell_none h1
    obtain rfl : sb = none := h2.1
    refine ⟨b, off, rfl, h2.2, fun i hil => ?_⟩
    obtain ⟨cs, ha, hc⟩ := hel i hil
    refine ⟨cs, ha, fun j hj => ?_⟩
    have := hc j hj
    rw [add_off] at this
    exact this
theorem open_rows {r : Reach} {b0 : Nat} {t e : TypeId} {ls : List Flat.Leaf} {v : Value} {d : DataW H} {ps : List MemPlace} (n : Nat) (ht : P.underlying t = some (.slice e)) (hl : Flat.leaves P n e = some ls) (hC : P.cellsOf e = ls.length) (h0 : 0 < ls.length)
    (hval : Value.okWide P W r b0 t v) (h : DataW.Trod enc P W base sp hd t v d ps) : ∃ A len cap, v = .slice A len cap ∧ RowsIn ls W A len := by
  obtain ⟨A, len, cap, rfl⟩ := okWide_slice ht hval
  obtain ⟨fuel, hf⟩ := h
  exact ⟨A, len, cap, rfl, rows_in n ht hl hC h0 hf⟩
end
theorem list_of {α : Type} (d : α) (p : Nat → α → Prop) : ∀ n, (∀ i, i < n → ∃ x, p i x) → ∃ l : List α, l.length = n ∧ ∀ i, i < n → p i (l.getD i d)
  | 0, _ => ⟨[], rfl, fun i hi => by omega⟩
  | n + 1, h => by
    obtain ⟨l, hl, hp⟩ := list_of d p n fun i hi => h i (by omega)
    obtain ⟨x, hx⟩ := h n (by omega)
    refine ⟨l ++ [x], by simp [hl], fun i hi => ?_⟩
    by_cases g : i < n
    · have : (l ++ [x]).getD i d = l.getD i d := by simp [List.getD, List.getElem?_append_left (show i < l.length by omega)]
      rw [this]
      exact hp i g
    · obtain rfl : i = n := by omega
      have : (l ++ [x]).getD i d = x := by rw [← hl]; simp [List.getD]
      rw [this]
      exact hx
end Go.Proofs.Ythjhcdkbajbpdaa
