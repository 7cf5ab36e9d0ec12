/- Structs and arrays of numbers and bools, handed over by value: their cells, and that they read the same behind the call. -/
import Derived.Below
import Derived.OpenShut
import Derived.Deep.Modes
import Derived.Test.YthjhcdkbajbpdaaBase
namespace Go.Proofs.Ythjhcdkbajbpdaa
open Go.RowKit Go.ChangeShapes Go.WideShapes
namespace Flat

inductive Leaf where
  | int (k : IntKind)
  | bool
def Leaf.ok : Leaf → Value → Prop
  | .int k, v => ∃ n, v = .int k n ∧ (Lit.int k n).wf = true
  | .bool, v => ∃ b, v = .bool b
/-- Cell by cell. -/
def All2 : List Leaf → List Value → Prop
  | [], [] => True
  | l :: ls, v :: vs => l.ok v ∧ All2 ls vs
  | _, _ => False
theorem All2.append {a b : List Leaf} {x y : List Value} (h : All2 a x) (k : All2 b y) : All2 (a ++ b) (x ++ y) := by
  induction a generalizing x with
  | nil =>
    cases x with
    | nil => exact k
    | cons v vs => exact False.elim h
  | cons l ls ih =>
    cases x with
    | nil => exact False.elim h
    | cons v vs => exact ⟨h.1, ih h.2⟩
theorem All2.len {a : List Leaf} {x : List Value} (h : All2 a x) : x.length = a.length := by
  induction a generalizing x with
  | nil =>
    cases x with
    | nil => rfl
    | cons v vs => exact False.elim h
  | cons l ls ih =>
    cases x with
    | nil => exact False.elim h
    | cons v vs => simp [ih h.2]
theorem All2.get {a : List Leaf} {x : List Value} (h : All2 a x) : ∀ (i : Nat) (l : Leaf), a[i]? = some l → ∃ v, x[i]? = some v ∧ l.ok v := by
  induction a generalizing x with
  | nil => intro i l hl; simp at hl
  | cons m ls ih =>
    cases x with
    | nil => exact False.elim h
    | cons v vs =>
      intro i l hl
      cases i with
      | zero =>
        simp at hl
        subst hl
        exact ⟨v, by simp, h.1⟩
      | succ i => exact (ih h.2 i l (by simpa using hl)).imp fun u hu => ⟨by simpa using hu.1, hu.2⟩

section
variable {H : Type} {enc : TypeId × Value → H} {P : Program} {W : World} {base : Nat} {sp : Nat → Bool} {hd : Bool}

def row (P : Program) (g : TypeId → Option (List Leaf)) : Nat → List Field → Option (List Leaf)
  | _, [] => some []
  | off, f :: fs => match g f.type with
    | none => none
    | some l => if f.offset = off ∧ P.cellsOf f.type = l.length then (match row P g (off + l.length) fs with
      | none => none
      | some r => some (l ++ r)) else none
/-- The leaves of a type, in order. -/
def leaves (P : Program) : Nat → TypeId → Option (List Leaf)
  | 0, _ => none
  | n + 1, t => match P.underlying t with
    | some (.int k) => some [.int k]
    | some .bool => some [.bool]
    | some (.struct fs) => match row P (leaves P n) 0 fs.toList with
      | none => none
      | some r => if P.cellsOf t = r.length then some r else none
    | some (.array c e) => match leaves P n e with
      | none => none
      | some l => if P.cellsOf e = l.length ∧ P.cellsOf t = c * l.length then some (List.replicate c l).flatten else none
    | _ => none

theorem row_all (g : TypeId → Option (List Leaf)) (m : Nat) (cs : List Value)
    (ih : ∀ (t : TypeId) (l : List Leaf) (c : List Value) (x : DataW H × List MemPlace), g t = some l → DataW.trod enc P W base sp hd m t c = some x → All2 l c ∧ x.2 = []) :
    ∀ (fs : List Field) (off : Nat) (ls : List Leaf) (xs : List (DataW H × List MemPlace)), row P g off fs = some ls → xs.length = fs.length →
      (∀ (i : Nat) (f : Field), fs[i]? = some f → DataW.trod enc P W base sp hd m f.type ((cs.drop f.offset).take (P.cellsOf f.type)) = xs[i]?) →
      All2 ls ((cs.drop off).take ls.length) ∧ xs.flatMap (·.2) = [] := by
  intro fs
  induction fs with
  | nil =>
    intro off ls xs hr hx hf
    simp only [row, Option.some.injEq] at hr
    subst hr
    have : xs = [] := by simpa using hx
    subst this
    exact ⟨by simp [All2], rfl⟩
  | cons f fs ihf =>
    intro off ls xs hr hx hf
    cases xs with
    | nil => simp at hx
    | cons x xs =>
      simp only [row] at hr
      cases hg : g f.type with
      | none => rw [hg] at hr; simp at hr
      | some l =>
        rw [hg] at hr
        simp only at hr
        split at hr
        · rename_i hc
          cases hrr : row P g (off + l.length) fs with
          | none => rw [hrr] at hr; simp at hr
          | some r =>
            rw [hrr] at hr
            simp only [Option.some.injEq] at hr
            subst hr
            have h0 := hf 0 f rfl
            simp only [List.getElem?_cons_zero] at h0
            rw [hc.1, hc.2] at h0
            obtain ⟨a1, e1⟩ := ih _ _ _ _ hg h0
            obtain ⟨a2, e2⟩ := ihf (off + l.length) r xs hrr (by simpa using hx) (fun i f' hf' => by simpa using hf (i + 1) f' (by simpa using hf'))
            refine ⟨?_, by simp [e1, e2]⟩
            rw [List.length_append, List.take_add, List.drop_drop]
            exact a1.append a2
        · simp at hr
theorem array_all (l : List Leaf) (e : TypeId) (m : Nat) (cs : List Value)
    (ih : ∀ (c : List Value) (x : DataW H × List MemPlace), DataW.trod enc P W base sp hd m e c = some x → All2 l c ∧ x.2 = []) :
    ∀ (n k : Nat) (xs : List (DataW H × List MemPlace)), xs.length = n → (∀ i, i < n → DataW.trod enc P W base sp hd m e ((cs.drop ((k + i) * l.length)).take l.length) = xs[i]?) →
      All2 (List.replicate n l).flatten ((cs.drop (k * l.length)).take (n * l.length)) ∧ xs.flatMap (·.2) = [] := by
  intro n
  induction n with
  | zero =>
    intro k xs hx hf
    have : xs = [] := by simpa using hx
    subst this
    exact ⟨by simp [All2], rfl⟩
  | succ n ihn =>
    intro k xs hx hf
    cases xs with
    | nil => simp at hx
    | cons x xs =>
      have h0 := hf 0 (by omega)
      simp only [Nat.add_zero, List.getElem?_cons_zero] at h0
      obtain ⟨a1, e1⟩ := ih _ _ h0
      obtain ⟨a2, e2⟩ := ihn (k + 1) xs (by simpa using hx) (fun i hi => by
        have := hf (i + 1) (by omega)
        rw [show k + (i + 1) = k + 1 + i from by omega] at this
        simpa using this)
      refine ⟨?_, by simp [e1, e2]⟩
      rw [List.replicate_succ, List.flatten_cons, show (n + 1) * l.length = l.length + n * l.length from by rw [Nat.add_mul]; omega, List.take_add, List.drop_drop,
        show k * l.length + l.length = (k + 1) * l.length from by rw [Nat.add_mul]; omega]
      exact a1.append a2
theorem flat_of : ∀ (n fuel : Nat) (t : TypeId) (ls : List Leaf) (cs : List Value) (x : DataW H × List MemPlace), leaves P n t = some ls → DataW.trod enc P W base sp hd fuel t cs = some x → All2 ls cs ∧ x.2 = [] := by
  intro n
  induction n with
  | zero => intro fuel t ls cs x h; simp [leaves] at h
  | succ n ih =>
    intro fuel t ls cs x h hx
    simp only [leaves] at h
    split at h
    · rename_i k hk
      obtain ⟨z, rfl, rfl, hw⟩ := DataW.trod_int hk hx
      simp only [Option.some.injEq] at h
      subst h
      exact ⟨⟨⟨z, rfl, hw⟩, trivial⟩, rfl⟩
    · rename_i hk
      obtain ⟨b, rfl, rfl⟩ := DataW.trod_bool hk hx
      simp only [Option.some.injEq] at h
      subst h
      exact ⟨⟨⟨b, rfl⟩, trivial⟩, rfl⟩
    · rename_i fs hk
      obtain ⟨xs, m, rfl, rfl, hlen, hn, hf⟩ := DataW.trod_struct hk hx
      cases hr : row P (leaves P n) 0 fs.toList with
      | none => rw [hr] at h; simp at h
      | some r =>
        rw [hr] at h
        simp only at h
        split at h
        · rename_i hc
          simp only [Option.some.injEq] at h
          subst h
          obtain ⟨a, e⟩ := row_all (leaves P n) m cs (fun t l c x => ih m t l c x) fs.toList 0 r xs hr (by simpa using hn) (fun i f hi => hf i f (by simpa using hi))
          refine ⟨?_, e⟩
          rw [List.drop_zero, List.take_of_length_le (by omega)] at a
          exact a
        · simp at h
    · rename_i c e hk
      obtain ⟨xs, m, rfl, rfl, hlen, hn, hf⟩ := DataW.trod_array hk hx
      cases hr : leaves P n e with
      | none => rw [hr] at h; simp at h
      | some l =>
        rw [hr] at h
        simp only at h
        split at h
        · rename_i hc
          simp only [Option.some.injEq] at h
          subst h
          obtain ⟨a, e'⟩ := array_all l e m cs (fun c x => ih m e l c x hr) c 0 xs hn (fun i hi => by
            have := hf i hi
            rw [hc.1] at this
            rwa [Nat.zero_add])
          refine ⟨?_, e'⟩
          rw [Nat.zero_mul, List.drop_zero, List.take_of_length_le (by omega)] at a
          exact a
        · simp at h
    · simp at h

/-- A struct by value, opened. -/
theorem open_flat {r : Reach} {b0 : Nat} {t : TypeId} {fs : Array Field} {ls : List Leaf} {v : Value} {d : DataW H} {ps : List MemPlace} (n : Nat) (ht : P.underlying t = some (.struct fs)) (hl : leaves P n t = some ls)
    (hval : Value.okWide P W r b0 t v) (h : DataW.Trod enc P W base sp hd t v d ps) : ∃ cs : Array Value, v = .agg cs ∧ All2 ls cs.toList ∧ ps = [] := by
  obtain ⟨cs, rfl, _⟩ := okWide_struct ht hval
  obtain ⟨fuel, hf⟩ := h
  obtain ⟨a, e⟩ := flat_of n fuel t ls _ _ hl hf
  exact ⟨cs, rfl, a, e⟩
/-- Numbers of one kind. -/
theorem All2.ints {k : IntKind} {n : Nat} {vs : List Value} (h : All2 (List.replicate n (.int k)) vs) : ∃ zs : List Int, zs.length = n ∧ vs = zs.map (Value.int k) ∧ ∀ z ∈ zs, (Lit.int k z).wf = true := by
  induction n generalizing vs with
  | zero =>
    cases vs with
    | nil => exact ⟨[], rfl, rfl, by simp⟩
    | cons v vs => exact False.elim h
  | succ n ih =>
    cases vs with
    | nil => exact False.elim h
    | cons v vs =>
      obtain ⟨⟨z, rfl, hz⟩, h2⟩ := h
      obtain ⟨zs, hl, rfl, hw⟩ := ih h2
      exact ⟨z :: zs, by simp [hl], rfl, by simpa using ⟨hz, hw⟩⟩
/-- What was handed over by value reads the same in every world. -/
theorem keep {t : TypeId} (hl : laidOutB P = true) (hr : P.readableRec t = true) (hrow : t < P.types.size) (hs : P.slicesRec t = false) (hi : P.ifacesRec t = false) (hv : P.veiledRec t = false)
    {W W' : World} {sp sp' : Nat → Bool} {hd hd' : Bool} {v : Value} {d : DataW H} (h : DataW.Trod enc P W base sp hd t v d []) : DataW.Trod enc P W' base sp' hd' t v d [] :=
  Trod_any hl hr hrow hs hi h (fun p hp => by simp at hp) hv
end
end Flat
end Go.Proofs.Ythjhcdkbajbpdaa
