/- A TLB in memory: its block, its ways' row. -/
import Derived.Test.YthjhcdkbajbpdaaOnly
import Derived.Test.YthjhcdkbajbpdaaTlbOf
namespace Go.Proofs.Ythjhcdkbajbpdaa
open Go.RowKit Wd
set_option linter.unusedVariables false
set_option linter.unusedSimpArgs false
namespace Wd
def noWy : Wy := ⟨false, 0#64, 0, 0, 0, 0, 0⟩
instance : Inhabited Wy := ⟨noWy⟩
def wyAt (ws : List Wy) (i : Nat) : Wy := ws.getD i noWy
/-- Its ways' levels are such as Put lets go. -/
def goodW (ws : List Wy) : Prop := ∀ i, (wyAt ws i).is = true → 0 ≤ (wyAt ws i).lv ∧ (wyAt ws i).lv ≤ 2
theorem wyAt_set (ws : List Wy) (i : Nat) (y : Wy) (hi : i < ws.length) (j : Nat) : wyAt (ws.set i y) j = if j = i then y else wyAt ws j := by
  unfold wyAt
  by_cases h : j = i
  · subst h
    simp [List.getD, hi]
  · rw [if_neg h]
    simp [List.getD, List.getElem?_set_ne (Ne.symm h)]
end Wd
/-- A TLB at block p, its ways in block q. -/
structure Tb (w : World) (tT tW : TypeId) (p q : Nat) (ws : List Wy) (st : Int) : Prop where
  len : ws.length = 2 ∨ ws.length = 4 ∨ ws.length = 8
  box : ∃ c, Bk w p #[.slice (some ⟨q, 0, none⟩) ws.length c, .int .i64 st] tT
  row : ∃ cs, Bk w q cs tW ∧ ∀ i, i < ws.length → ∀ j, j < 7 → cs[i * 7 + j]? = (wyC (wyAt ws i))[j]?
  ne : p ≠ q
  ok : goodW ws
theorem Tb.only {w w' : World} {tT tW : TypeId} {p q : Nat} {ws : List Wy} {st : Int} {S : List Nat} (h : Tb w tT tW p q ws st) (k : Only S w w') (h1 : p ∉ S) (h2 : q ∉ S) : Tb w' tT tW p q ws st :=
  ⟨h.len, h.box.imp fun _ hb => hb.only k h1, h.row.imp fun _ hb => ⟨hb.1.only k h2, hb.2⟩, h.ne, h.ok⟩
theorem Tb.below {w w' : World} {tT tW : TypeId} {p q : Nat} {ws : List Wy} {st : Int} (h : Tb w tT tW p q ws st) (k : Below w.heap.size w w') : Tb w' tT tW p q ws st := h.only (only_below k []) (by simp) (by simp)
theorem Tb.quiet {w w' : World} {tT tW : TypeId} {p q : Nat} {ws : List Wy} {st : Int} (h : Tb w tT tW p q ws st) (k : Quiet w w') : Tb w' tT tW p q ws st := h.below (k.below _)
theorem Tb.pl {w : World} {tT tW : TypeId} {p q : Nat} {ws : List Wy} {st : Int} (h : Tb w tT tW p q ws st) : p < w.heap.size := by obtain ⟨_, hb⟩ := h.box; exact hb.lt
theorem Tb.ql {w : World} {tT tW : TypeId} {p q : Nat} {ws : List Wy} {st : Int} (h : Tb w tT tW p q ws st) : q < w.heap.size := by obtain ⟨_, hb⟩ := h.row; exact hb.1.lt
/-- The cells of a way. -/
theorem Tb.way {w : World} {tT tW : TypeId} {p q : Nat} {ws : List Wy} {st : Int} (h : Tb w tT tW p q ws st) (i : Nat) (hi : i < ws.length) :
    w.cell? ⟨q, i * 7, none⟩ = some (.bool (wyAt ws i).is) ∧ w.cell? ⟨q, i * 7 + 1, none⟩ = some (.int .u64 ((wyAt ws i).vpn.toNat : Int)) ∧ w.cell? ⟨q, i * 7 + 2, none⟩ = some (.int .i64 (wyAt ws i).lv) ∧ w.cell? ⟨q, i * 7 + 3, none⟩ = some (.int .u64 (wyAt ws i).p0) ∧
    w.cell? ⟨q, i * 7 + 4, none⟩ = some (.int .u64 (wyAt ws i).p1) ∧ w.cell? ⟨q, i * 7 + 5, none⟩ = some (.int .u64 (wyAt ws i).p2) ∧ w.cell? ⟨q, i * 7 + 6, none⟩ = some (.int .u64 (wyAt ws i).en) := by
  obtain ⟨cs, hb, hc⟩ := h.row
  have g : ∀ j, j < 7 → w.cell? ⟨q, i * 7 + j, none⟩ = (wyC (wyAt ws i))[j]? := fun j hj => (hb.cell _).trans (hc i hi j hj)
  exact ⟨g 0 (by omega), g 1 (by omega), g 2 (by omega), g 3 (by omega), g 4 (by omega), g 5 (by omega), g 6 (by omega)⟩
theorem Tb.free {w : World} {tT tW : TypeId} {p q : Nat} {ws : List Wy} {st : Int} (h : Tb w tT tW p q ws st) : (∀ o, w.frozen? ⟨p, o, none⟩ = false) ∧ (∀ o, w.frozen? ⟨q, o, none⟩ = false) := by
  obtain ⟨_, hb⟩ := h.box
  obtain ⟨_, hr⟩ := h.row
  exact ⟨hb.free, hr.1.free⟩
/-- The state is written. -/
theorem Tb.state {w : World} {tT tW : TypeId} {p q : Nat} {ws : List Wy} {st : Int} (h : Tb w tT tW p q ws st) (s : Int) : Tb (w.setCell ⟨p, 1, none⟩ (.int .i64 s)) tT tW p q ws s := by
  refine ⟨h.len, ?_, h.row.imp fun _ hb => ⟨hb.1.other (Ne.symm h.ne) 1 _, hb.2⟩, h.ne, h.ok⟩
  obtain ⟨c, hb⟩ := h.box
  exact ⟨c, hb.set 1 (.int .i64 s)⟩
/-- A way is written. -/
theorem Tb.put {w : World} {tT tW : TypeId} {p q : Nat} {ws : List Wy} {st : Int} (h : Tb w tT tW p q ws st) (i : Nat) (hi : i < ws.length) (y : Wy) (hy : y.is = true → 0 ≤ y.lv ∧ y.lv ≤ 2) :
    Tb (((((((w.setCell ⟨q, i * 7, none⟩ (.bool y.is)).setCell ⟨q, i * 7 + 1, none⟩ (.int .u64 (y.vpn.toNat : Int))).setCell ⟨q, i * 7 + 2, none⟩ (.int .i64 y.lv)).setCell ⟨q, i * 7 + 3, none⟩ (.int .u64 y.p0)).setCell ⟨q, i * 7 + 4, none⟩ (.int .u64 y.p1)).setCell ⟨q, i * 7 + 5, none⟩ (.int .u64 y.p2)).setCell ⟨q, i * 7 + 6, none⟩ (.int .u64 y.en)) tT tW p q (ws.set i y) st := by
  obtain ⟨c, hb⟩ := h.box
  obtain ⟨cs, hr, hc⟩ := h.row
  have hp := fun (w : World) (k : Bk w p #[.slice (some ⟨q, 0, none⟩) ws.length c, .int .i64 st] tT) (o : Nat) (v : Value) => k.other h.ne o v
  refine ⟨by rw [List.length_set]; exact h.len, ⟨c, by rw [List.length_set]; exact hp _ (hp _ (hp _ (hp _ (hp _ (hp _ (hp _ hb _ _) _ _) _ _) _ _) _ _) _ _) _ _⟩, ⟨_, ((((((hr.set _ _).set _ _).set _ _).set _ _).set _ _).set _ _).set _ _, ?_⟩, h.ne, ?_⟩
  · intro k hk j hj
    rw [List.length_set] at hk
    rw [wyAt_set ws i y hi k]
    have hs : ∀ j, j < 7 → i * 7 + j < cs.size := fun j hj => by
      have := hc i hi j hj
      match j, hj, this with
      | 0, _, t => exact (Array.getElem?_eq_some_iff.1 (t.trans rfl)).1
      | 1, _, t => exact (Array.getElem?_eq_some_iff.1 (t.trans rfl)).1
      | 2, _, t => exact (Array.getElem?_eq_some_iff.1 (t.trans rfl)).1
      | 3, _, t => exact (Array.getElem?_eq_some_iff.1 (t.trans rfl)).1
      | 4, _, t => exact (Array.getElem?_eq_some_iff.1 (t.trans rfl)).1
      | 5, _, t => exact (Array.getElem?_eq_some_iff.1 (t.trans rfl)).1
      | 6, _, t => exact (Array.getElem?_eq_some_iff.1 (t.trans rfl)).1
    simp only [Array.getElem?_setIfInBounds]
    have s0 := hs 0 (by omega)
    have s1 := hs 1 (by omega)
    have s2 := hs 2 (by omega)
    have s3 := hs 3 (by omega)
    have s4 := hs 4 (by omega)
    have s5 := hs 5 (by omega)
    have s6 := hs 6 (by omega)
    by_cases hki : k = i
    · subst hki
      rw [if_pos rfl]
      have h7 : j = 0 ∨ j = 1 ∨ j = 2 ∨ j = 3 ∨ j = 4 ∨ j = 5 ∨ j = 6 := by omega
      rcases h7 with rfl | rfl | rfl | rfl | rfl | rfl | rfl <;> simp [wyC] <;> omega
    · rw [if_neg hki, ← hc k hk j hj]
      rw [if_neg (by omega), if_neg (by omega), if_neg (by omega), if_neg (by omega), if_neg (by omega), if_neg (by omega), if_neg (by omega)]
  · intro k hk
    rw [wyAt_set ws i y hi k] at hk ⊢
    split
    · rename_i e
      rw [if_pos e] at hk
      exact hy hk
    · rename_i e
      rw [if_neg e] at hk
      exact h.ok k hk
end Go.Proofs.Ythjhcdkbajbpdaa
