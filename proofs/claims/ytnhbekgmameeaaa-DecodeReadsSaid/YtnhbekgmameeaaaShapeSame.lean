/- The immediates in pieces are the reference's, bit by bit. -/
import Derived.Test.YtnhbekgmameeaaaShapeRef
namespace Go.Proofs.Ytnhbekgmameeaaa
open Go.RowKit
namespace Wd

/-- Which bit of the word a piece lays at place i. -/
def srcP (i : Nat) (p : Piece) : Option Nat := if p.to ≤ i ∧ i - p.to < p.hi - p.lo + 1 then some (p.lo + (i - p.to)) else none
def srcs (ps : List Piece) (i : Nat) : List Nat := ps.filterMap (srcP i)
def srcL (l : List Int) (i : Nat) : List Nat := if i < l.length ∧ 0 ≤ l.getD i (-1) then [(l.getD i (-1)).toNat] else []
theorem orSh_get (a b : BitVec 64) (n i : Nat) (hi : i < 64) : (orSh a b n).getLsbD i = (a.getLsbD i || (decide (n ≤ i) && b.getLsbD (i - n))) := by
  unfold orSh
  rw [BitVec.getLsbD_or, BitVec.getLsbD_shiftLeft]
  by_cases h : n ≤ i
  · have e : decide (i < n) = false := by simp; omega
    rw [e, decide_eq_true h, decide_eq_true hi]
    simp
  · have e : decide (i < n) = true := by simp; omega
    rw [e, decide_eq_false h]
    simp
theorem gat_get (W : BitVec 64) (ps : List Piece) (hok : ps.all Piece.ok = true) (k i : Nat) (hi : i < 64) : (gat W ps k).getLsbD i = ((ps.take k).filterMap (srcP i)).any (W.getLsbD ·) := by
  induction k with
  | zero => simp [gat]
  | succ k ih =>
    rcases hp : ps[k]? with _ | p
    · simp only [gat, hp]
      rw [ih]
      have hl : ps.length ≤ k := by simpa using hp
      rw [List.take_of_length_le hl, List.take_of_length_le (by omega)]
    · have hk := List.all_eq_true.1 hok p (List.mem_of_getElem? hp)
      unfold Piece.ok at hk
      simp only [Bool.and_eq_true, decide_eq_true_eq] at hk
      rw [gat_succ W ps k p hp, orSh_get _ _ _ _ hi, ih, List.take_add_one, hp, List.filterMap_append, List.any_append]
      congr 1
      have hm : may (p.hi : Int) (p.lo : Int) = true := (may_iff _ _).2 (by omega)
      rw [field_get _ _ _ hm]
      simp only [Option.toList, List.filterMap_cons, List.filterMap_nil, srcP]
      by_cases h : p.to ≤ i ∧ i - p.to < p.hi - p.lo + 1
      · rw [if_pos h]
        have e1 : decide (p.to ≤ i) = true := by simp; omega
        have e2 : decide (i - p.to < ((p.hi : Int) - p.lo + 1).toNat) = true := by simp; omega
        simp only [e1, e2, List.any_cons, List.any_nil, Bool.true_and, Bool.or_false]
        rfl
      · rw [if_neg h]
        simp only [List.any_nil]
        by_cases g : p.to ≤ i
        · have e2 : decide (i - p.to < ((p.hi : Int) - p.lo + 1).toNat) = false := by simp; omega
          rw [e2]; simp
        · have e1 : decide (p.to ≤ i) = false := by simp; omega
          rw [e1]; simp
theorem setBit_get (v : BitVec 64) (k i : Nat) (hi : i < 64) : (setBit v k).getLsbD i = (v.getLsbD i || decide (i = k)) := by
  unfold setBit
  rw [BitVec.getLsbD_or, one_shl_get _ _ hi]
theorem refV_get (W : BitVec 64) (l : List Int) (k i : Nat) (hk : k ≤ l.length) (hi : i < 64) : (refV W l k).getLsbD i = (decide (i < k) && (srcL l i).any (W.getLsbD ·)) := by
  induction k with
  | zero => simp [refV]
  | succ k ih =>
    have hs : ∀ j, j < l.length → (srcL l j).any (W.getLsbD ·) = (decide (0 ≤ l.getD j (-1)) && W.getLsbD (l.getD j (-1)).toNat) := by
      intro j hj
      unfold srcL
      by_cases h : 0 ≤ l.getD j (-1)
      · rw [if_pos ⟨hj, h⟩, decide_eq_true h]; simp
      · rw [if_neg (by intro c; exact h c.2), decide_eq_false h]; rfl
    have ih := ih (by omega)
    simp only [refV]
    by_cases h : 0 ≤ l.getD k (-1) ∧ W.getLsbD (l.getD k (-1)).toNat = true
    · rw [if_pos h, setBit_get _ _ _ hi, ih]
      by_cases e : i = k
      · subst e
        rw [hs i (by omega), decide_eq_true h.1, h.2]
        simp
      · by_cases g : i < k
        · have e2 : decide (i < k + 1) = true := by simp; omega
          rw [e2, decide_eq_true g]; simp [e]
        · have e2 : decide (i < k + 1) = false := by simp; omega
          rw [e2, decide_eq_false g]; simp [e]
    · rw [if_neg h, ih]
      by_cases e : i = k
      · subst e
        rw [hs i (by omega)]
        have : (decide (0 ≤ l.getD i (-1)) && W.getLsbD (l.getD i (-1)).toNat) = false := by
          by_cases c : 0 ≤ l.getD i (-1)
          · have : W.getLsbD (l.getD i (-1)).toNat = false := by
              by_cases d : W.getLsbD (l.getD i (-1)).toNat = true
              · exact absurd ⟨c, d⟩ h
              · simpa using d
            rw [this]; simp
          · rw [decide_eq_false c]; rfl
        rw [this]; simp
      · have e2 : decide (i < k + 1) = decide (i < k) := by
          by_cases g : i < k
          · rw [decide_eq_true g, decide_eq_true (by omega)]
          · rw [decide_eq_false g, decide_eq_false (by omega)]
        rw [e2]
theorem imm_same (w : BitVec 32) (ps : List Piece) (l : List Int) (n : Int) (hok : ps.all Piece.ok = true) (hn : (l.length : Int) = n) (hs : ∀ i, i < 64 → srcs ps i = srcL l i) : immP w ps n = immR w l := by
  unfold immP immR
  rw [hn]
  congr 1
  apply BitVec.eq_of_getLsbD_eq
  intro i hi
  rw [gat_get _ _ hok _ _ hi, refV_get _ _ _ _ (Nat.le_refl _) hi, List.take_length]
  have h := hs i hi
  unfold srcs at h
  rw [h]
  by_cases g : i < l.length
  · rw [decide_eq_true g]; simp
  · unfold srcL
    rw [if_neg (by intro c; exact g c.1), decide_eq_false g]; rfl
theorem sameI (w : BitVec 32) : immP w psI 12 = immR w lI := imm_same w psI lI 12 (by decide) (by decide) (by decide)
theorem sameS (w : BitVec 32) : immP w psS 12 = immR w lS := imm_same w psS lS 12 (by decide) (by decide) (by decide)
theorem sameB (w : BitVec 32) : immP w psB 13 = immR w lB := imm_same w psB lB 13 (by decide) (by decide) (by decide)
theorem sameU (w : BitVec 32) : immP w psU 32 = immR w lU := imm_same w psU lU 32 (by decide) (by decide) (by decide)
theorem sameJ (w : BitVec 32) : immP w psJ 21 = immR w lJ := imm_same w psJ lJ 21 (by decide) (by decide) (by decide)
end Wd
end Go.Proofs.Ytnhbekgmameeaaa
