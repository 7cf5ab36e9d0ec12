/- Plain: the walk from table to table, and what a reader is. -/
import Derived.Test.YthjhcdkbajbpdaaWalkFns
namespace Go.Proofs.Ythjhcdkbajbpdaa
open Go.RowKit Wd
set_option linter.unusedVariables false
set_option linter.unusedSimpArgs false
namespace Wd
def mul8 (v : BitVec 64) : BitVec 64 := 8#64 * v
def addW (a b : BitVec 64) : BitVec 64 := a + b
theorem mul8_L (v : BitVec 64) : IntKind.u64.wrap (8 * (v.toNat : Int)) = ((mul8 v).toNat : Int) := by
  rw [w64, BitVec.ofInt_mul, of64]
  rfl
theorem add_L (a b : BitVec 64) : IntKind.u64.wrap ((a.toNat : Int) + (b.toNat : Int)) = ((addW a b).toNat : Int) := by
  rw [w64, BitVec.ofInt_add, of64, of64]
  rfl
def atW (table va : BitVec 64) (l : Nat) : BitVec 64 := zext (addW (shlW table 12) (mul8 (field va (9 * (l : Int) + 20) (9 * (l : Int) + 12)))) 56
def badE (e : BitVec 64) (l : Nat) : Bool :=
  !mayW e || (leafW e && (((zext (field e 53 10) (9 * (l : Int))).toNat : Int) != 0)) || (!leafW e && (decide (l = 0) || (((andL e 208).toNat : Int) != 0)))
abbrev Look := BitVec 64 → BitVec 64 × Bool
/-- From a level and a table on: the leaf, the error, what was asked. -/
def goW (L : Look) (va : BitVec 64) : Nat → BitVec 64 → List (BitVec 64) → Option (Nat × BitVec 64) × Int × List (BitVec 64)
  | 0, table, xs =>
    let a := atW table va 0
    if (L a).2 = false then (none, 6, xs ++ [a]) else if badE (L a).1 0 then (none, 7, xs ++ [a]) else (some (0, (L a).1), 0, xs ++ [a])
  | l + 1, table, xs =>
    let a := atW table va (l + 1)
    if (L a).2 = false then (none, 6, xs ++ [a]) else if badE (L a).1 (l + 1) then (none, 7, xs ++ [a]) else
      if leafW (L a).1 then (some (l + 1, (L a).1), 0, xs ++ [a]) else goW L va l (field (L a).1 53 10) (xs ++ [a])
def walkR (satp va : BitVec 64) (L : Look) : Option (Nat × BitVec 64) × Int × List (BitVec 64) :=
  if sext va 39 = va then goW L va 2 (zext satp 44) [] else (none, 7, [])
def pteOf : Option (Nat × BitVec 64) × Int × List (BitVec 64) → Pte
  | (some (l, e), _, xs) => ⟨l, xs.getD 0 0#64, xs.getD 1 0#64, xs.getD 2 0#64, e⟩
  | (none, _, _) => ⟨0, 0#64, 0#64, 0#64, 0#64⟩
theorem go_hole (L : Look) (va table : BitVec 64) (l : Nat) (xs : List (BitVec 64)) (h : (L (atW table va l)).2 = false) : goW L va l table xs = (none, 6, xs ++ [atW table va l]) := by
  cases l <;> simp only [goW] <;> rw [if_pos h]
theorem go_bad (L : Look) (va table : BitVec 64) (l : Nat) (xs : List (BitVec 64)) (h : (L (atW table va l)).2 = true) (hb : badE (L (atW table va l)).1 l = true) : goW L va l table xs = (none, 7, xs ++ [atW table va l]) := by
  cases l <;> simp only [goW] <;> rw [if_neg (by rw [h]; simp), if_pos hb]
theorem go_leaf (L : Look) (va table : BitVec 64) (l : Nat) (xs : List (BitVec 64)) (h : (L (atW table va l)).2 = true) (hb : badE (L (atW table va l)).1 l = false) (hl : leafW (L (atW table va l)).1 = true) :
    goW L va l table xs = (some (l, (L (atW table va l)).1), 0, xs ++ [atW table va l]) := by
  cases l
  · simp only [goW]
    rw [if_neg (by rw [h]; simp), if_neg (by rw [hb]; simp)]
  · simp only [goW]
    rw [if_neg (by rw [h]; simp), if_neg (by rw [hb]; simp), if_pos hl]
theorem go_down (L : Look) (va table : BitVec 64) (l : Nat) (xs : List (BitVec 64)) (h : (L (atW table va (l + 1))).2 = true) (hb : badE (L (atW table va (l + 1))).1 (l + 1) = false) (hl : leafW (L (atW table va (l + 1))).1 = false) :
    goW L va (l + 1) table xs = goW L va l (field (L (atW table va (l + 1))).1 53 10) (xs ++ [atW table va (l + 1)]) := by
  simp only [goW]
  rw [if_neg (by rw [h]; simp), if_neg (by rw [hb]; simp), if_neg (by rw [hl]; simp)]
theorem leaf_0 (e : BitVec 64) (hb : badE e 0 = false) : leafW e = true := by
  unfold badE at hb
  cases h : leafW e with
  | true => rfl
  | false =>
    rw [h] at hb
    simp at hb
end Wd

/-- But for two blocks, nothing has turned. -/
structure Apart (ba g : Option Nat) (w w' : World) : Prop where
  os : w'.os = w.os
  tape : w'.tape = w.tape
  output : w'.output = w.output
  size : w.heap.size ≤ w'.heap.size
  block : ∀ k, k < w.heap.size → some k ≠ ba → some k ≠ g → w'.heap[k]? = w.heap[k]?
theorem Apart.refl (ba g : Option Nat) (w : World) : Apart ba g w w := ⟨rfl, rfl, rfl, Nat.le_refl _, fun _ _ _ _ => rfl⟩
/-- A row's block: as it was, or a new one. -/
def Newer (w : World) (g g' : Option Nat) : Prop := g' = g ∨ ∃ n, g' = some n ∧ w.heap.size ≤ n
theorem Newer.refl (w : World) (g : Option Nat) : Newer w g g := .inl rfl
theorem Newer.trans {w w1 : World} {g g1 g2 : Option Nat} (h : Newer w g g1) (hs : w.heap.size ≤ w1.heap.size) (k : Newer w1 g1 g2) : Newer w g g2 := by
  rcases k with rfl | ⟨n, rfl, hn⟩
  · exact h
  · exact .inr ⟨n, rfl, by omega⟩
theorem Apart.trans {ba g g1 : Option Nat} {w w1 w2 : World} (h : Apart ba g w w1) (hg : Newer w g g1) (k : Apart ba g1 w1 w2) : Apart ba g w w2 := by
  refine ⟨k.os.trans h.os, k.tape.trans h.tape, k.output.trans h.output, Nat.le_trans h.size k.size, fun i hi h1 h2 => ?_⟩
  have hi1 : i < w1.heap.size := Nat.lt_of_lt_of_le hi h.size
  refine (k.block i hi1 h1 ?_).trans (h.block i hi h1 h2)
  rcases hg with rfl | ⟨n, rfl, hn⟩
  · exact h2
  · intro e
    simp at e
    omega
theorem Below.apart {w w' : World} (h : Below w.heap.size w w') (ba g : Option Nat) : Apart ba g w w' := ⟨h.os, h.tape, h.output, h.size, fun k hk _ _ => h.block k hk⟩
theorem Apart.below {w w' : World} (h : Apart none none w w') : Below w.heap.size w w' := ⟨h.os, h.tape, h.output, h.size, fun k hk => h.block k hk (by simp) (by simp)⟩

/-- A reader: the function that a closure is of, what it has captured, what it answers, and what stays true of the memory behind it. -/
structure ReaderOk (K : FuncId) (c1 c2 : Value) (L : Look) (ba : Option Nat) (n0 : Nat) (R : World → Option Nat → List (BitVec 64) → Prop) : Prop where
  call : ∀ w g xs pa, R w g xs → xs.length < 3 → n0 ≤ w.heap.size → Calls Try.prog K #[.int .u64 ((pa : BitVec 64).toNat : Int), c1, c2] w fun e w' =>
    e = .returned (.tuple #[.int .u64 ((L pa).1.toNat : Int), .bool (L pa).2]) ∧ ∃ g', R w' g' (xs ++ [pa]) ∧ Newer w g g' ∧ Apart ba g w w'
  keep : ∀ w w' g xs, R w g xs → w'.os = w.os → w'.tape = w.tape → w'.output = w.output → w.heap.size ≤ w'.heap.size → (∀ k, (k < n0 ∨ some k = g) → w'.heap[k]? = w.heap[k]?) → R w' g xs
  old : ∀ b, ba = some b → b < n0
  ent : ∀ (a b c : Value) (w : World), (callFunc K #[a, b, c]).run Try.prog w = .ok (.enter K #[a, b, c]) w
end Go.Proofs.Ythjhcdkbajbpdaa
