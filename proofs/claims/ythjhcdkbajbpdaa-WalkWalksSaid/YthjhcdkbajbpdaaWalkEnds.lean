/- Plain: how a walk ends; which entries are bad. -/
import Derived.Test.YthjhcdkbajbpdaaWalkPlain
namespace Go.Proofs.Ythjhcdkbajbpdaa
open Go.RowKit Wd
set_option linter.unusedVariables false
set_option linter.unusedSimpArgs false
namespace Wd
def badB (e : BitVec 64) : Bool :=
  ((((andL e 1).toNat : Int) == 0) || (((andL e 6).toNat : Int) == 4) || ((e.toNat : Int) / 18014398509481984 != 0) || ((((andL e 10).toNat : Int) == 0) && (((andL e 208).toNat : Int) != 0)))
theorem six (e : BitVec 64) (h : ((andL e 6).toNat : Int) = 4) : ((andL e 4).toNat : Int) = 4 ∧ ((andL e 2).toNat : Int) = 0 := by
  have h6 : andL e 6 = 4#64 := by
    apply BitVec.eq_of_toNat_eq
    show (andL e 6).toNat = 4
    omega
  unfold andL at h6 ⊢
  have a4 : e &&& BitVec.ofInt 64 4 = (e &&& BitVec.ofInt 64 6) &&& BitVec.ofInt 64 4 := by rw [BitVec.and_assoc]; rfl
  have a2 : e &&& BitVec.ofInt 64 2 = (e &&& BitVec.ofInt 64 6) &&& BitVec.ofInt 64 2 := by rw [BitVec.and_assoc]; rfl
  rw [a4, a2, h6]
  exact ⟨by decide, by decide⟩
theorem bad_E (e : BitVec 64) (l : Nat) (h : badB e = true) : badE e l = true := by
  unfold badE
  unfold badB at h
  simp only [Bool.or_eq_true, Bool.and_eq_true, beq_iff_eq, bne_iff_ne] at h
  rcases h with ((h | h) | h) | ⟨h, k⟩
  · have : mayW e = false := by unfold mayW; rw [h]; rfl
    rw [this]; rfl
  · obtain ⟨h4, h2⟩ := six e h
    have : mayW e = false := by unfold mayW; rw [h4, h2]; simp
    rw [this]; rfl
  · have : mayW e = false := by unfold mayW; rw [beq_eq_false_iff_ne.2 h]; simp
    rw [this]; rfl
  · have : leafW e = false := by unfold leafW; rw [h]; rfl
    rw [this, bne_iff_ne.2 k]; simp
theorem good_B (e : BitVec 64) (l : Nat) (h : badE e l = false) : badB e = false := by
  cases k : badB e with
  | false => rfl
  | true => rw [bad_E e l k] at h; cases h
/-- How it ends, from a level on. -/
theorem go_ends (L : Look) (va : BitVec 64) : ∀ (l : Nat) (table : BitVec 64) (xs : List (BitVec 64)),
    (∃ l' e xs', goW L va l table xs = (some (l', e), 0, xs') ∧ l' ≤ l ∧ badE e l' = false ∧ leafW e = true ∧ xs'.length = xs.length + (l - l') + 1) ∨
    (∃ c xs', goW L va l table xs = (none, c, xs') ∧ (c = 6 ∨ c = 7) ∧ xs'.length ≤ xs.length + l + 1)
  | l, table, xs => by
    by_cases h : (L (atW table va l)).2 = false
    · exact .inr ⟨6, _, go_hole L va table l xs h, .inl rfl, by simp⟩
    · have h1 : (L (atW table va l)).2 = true := by simpa using h
      by_cases hb : badE (L (atW table va l)).1 l = true
      · exact .inr ⟨7, _, go_bad L va table l xs h1 hb, .inr rfl, by simp⟩
      · have hb1 : badE (L (atW table va l)).1 l = false := by simpa using hb
        by_cases hl : leafW (L (atW table va l)).1 = true
        · exact .inl ⟨l, _, _, go_leaf L va table l xs h1 hb1 hl, Nat.le_refl _, hb1, hl, by simp⟩
        · have hl1 : leafW (L (atW table va l)).1 = false := by simpa using hl
          match l, h1, hb1, hl1 with
          | 0, h1, hb1, hl1 => exact absurd (leaf_0 _ hb1) (by rw [hl1]; simp)
          | l + 1, h1, hb1, hl1 =>
            rw [go_down L va table l xs h1 hb1 hl1]
            rcases go_ends L va l (field (L (atW table va (l + 1))).1 53 10) (xs ++ [atW table va (l + 1)]) with ⟨l', e, xs', h2, h3, h4, h5, h6⟩ | ⟨c, xs', h2, h3, h4⟩
            · exact .inl ⟨l', e, xs', h2, by omega, h4, h5, by simp at h6; omega⟩
            · exact .inr ⟨c, xs', h2, h3, by simp at h4; omega⟩
theorem walk_ends (satp va : BitVec 64) (L : Look) :
    (∃ l e xs, walkR satp va L = (some (l, e), 0, xs) ∧ l ≤ 2 ∧ badE e l = false ∧ leafW e = true ∧ xs.length = 3 - l) ∨
    (∃ c xs, walkR satp va L = (none, c, xs) ∧ (c = 6 ∨ c = 7) ∧ xs.length ≤ 3) := by
  unfold walkR
  by_cases hs : sext va 39 = va
  · rw [if_pos hs]
    rcases go_ends L va 2 (zext satp 44) [] with ⟨l', e, xs', h2, h3, h4, h5, h6⟩ | ⟨c, xs', h2, h3, h4⟩
    · exact .inl ⟨l', e, xs', h2, h3, h4, h5, by simp at h6; omega⟩
    · exact .inr ⟨c, xs', h2, h3, by simpa using h4⟩
  · rw [if_neg hs]
    exact .inr ⟨7, [], rfl, .inr rfl, by simp⟩
theorem walk_bad (satp va entry : BitVec 64) (h : badB entry = true) : ∃ xs, walkR satp va (fun _ => (entry, true)) = (none, 7, xs) ∧ xs.length ≤ 1 := by
  unfold walkR
  by_cases hs : sext va 39 = va
  · rw [if_pos hs]
    exact ⟨_, go_bad _ va _ 2 [] rfl (bad_E entry 2 h), by simp⟩
  · rw [if_neg hs]
    exact ⟨[], rfl, by simp⟩
theorem walk_off (satp va : BitVec 64) (L : Look) (hs : ¬ sext va 39 = va) : walkR satp va L = (none, 7, []) := if_neg hs
end Wd
end Go.Proofs.Ythjhcdkbajbpdaa
