/- Plain lemmas on leaves' rights and marks. -/
import Derived.Test.YthjhcdkbajbpdaaWalkFns
namespace Go.Proofs.Ythjhcdkbajbpdaa
open Go.RowKit Wd
set_option linter.unusedVariables false
set_option linter.unusedSimpArgs false
namespace Wd
def bitR (e : BitVec 64) : Bool := e.getLsbD 1
theorem check_bits (e : BitVec 64) (k p : Int) (sum mxr : Bool) : checkB e k p sum mxr =
    ((if k = 0 then e.getLsbD 3 else if k = 1 then (e.getLsbD 1 || (mxr && e.getLsbD 3)) else if k = 2 then e.getLsbD 2 else false) &&
     (if p = 0 then e.getLsbD 4 else if p = 1 then (!e.getLsbD 4 || (sum && decide (k ≠ 0))) else true)) := by
  unfold checkB kindB privB
  rw [andL_ne e 3 (by omega) 8 (by decide), andL_ne e 1 (by omega) 2 (by decide), andL_ne e 2 (by omega) 4 (by decide), andL_ne e 4 (by omega) 16 (by decide), andL_eq e 4 (by omega) 16 (by decide)]
theorem check_same (e f : BitVec 64) (k p : Int) (sum mxr : Bool) (h : ∀ i, 1 ≤ i → i ≤ 4 → f.getLsbD i = e.getLsbD i) : checkB f k p sum mxr = checkB e k p sum mxr := by
  rw [check_bits, check_bits, h 1 (by omega) (by omega), h 2 (by omega) (by omega), h 3 (by omega) (by omega), h 4 (by omega) (by omega)]
theorem marks_low (e : BitVec 64) (k : Int) (i : Nat) (h : i ≤ 4) : (marksW e k).getLsbD i = e.getLsbD i := by
  have h1 : (orL e 64).getLsbD i = e.getLsbD i := by
    rw [get_or]
    have : (BitVec.ofInt 64 64).getLsbD i = false := (show ∀ i, i ≤ 4 → (BitVec.ofInt 64 64).getLsbD i = false by decide) i h
    rw [this, Bool.or_false]
  unfold marksW
  split
  · rw [get_or, h1]
    have : (BitVec.ofInt 64 128).getLsbD i = false := (show ∀ i, i ≤ 4 → (BitVec.ofInt 64 128).getLsbD i = false by decide) i h
    rw [this, Bool.or_false]
  · exact h1
theorem or_twice (e : BitVec 64) (n : Int) : orL (orL e n) n = orL e n := by
  unfold orL
  rw [BitVec.or_assoc, BitVec.or_self]
theorem or_swap (e : BitVec 64) (n m : Int) : orL (orL e n) m = orL (orL e m) n := by
  unfold orL
  rw [BitVec.or_assoc, BitVec.or_assoc, BitVec.or_comm (BitVec.ofInt 64 n)]
theorem marks_again (e : BitVec 64) (k : Int) : marksW (marksW e k) k = marksW e k := by
  unfold marksW
  by_cases h : k = 2
  · simp only [if_pos h]
    rw [or_swap (orL e 64) 128 64, or_twice, or_twice]
  · simp only [if_neg h]
    exact or_twice _ _
theorem marks_load (e : BitVec 64) (k : Int) : marksW (marksW e k) 1 = marksW e k := by
  have h1 : ∀ f, marksW f 1 = orL f 64 := fun f => if_neg (by omega)
  rw [h1]
  unfold marksW
  split
  · rw [or_swap (orL e 64) 128 64, or_twice]
  · exact or_twice _ _
theorem rights_more (e m : BitVec 64) (k p : Int) (sum mxr : Bool) (h : checkB e k p sum mxr = true) : checkB (orL e ((andL m 14).toNat : Int)) k p sum mxr = true := by
  have h4 : (orL e ((andL m 14).toNat : Int)).getLsbD 4 = e.getLsbD 4 := by
    rw [get_or, of64, get_and, show (BitVec.ofInt 64 14).getLsbD 4 = false from by decide]
    simp
  have hx : ∀ i, e.getLsbD i = true → (orL e ((andL m 14).toNat : Int)).getLsbD i = true := fun i hi => by rw [get_or, hi, Bool.true_or]
  rw [check_bits] at h ⊢
  rw [h4]
  rw [Bool.and_eq_true] at h ⊢
  refine ⟨?_, h.2⟩
  have h1 := h.1
  by_cases k0 : k = 0
  · simp only [if_pos k0] at h1 ⊢
    exact hx 3 h1
  · simp only [if_neg k0] at h1 ⊢
    by_cases k1 : k = 1
    · simp only [if_pos k1] at h1 ⊢
      rw [Bool.or_eq_true] at h1 ⊢
      rcases h1 with h1 | h1
      · exact .inl (hx 1 h1)
      · rw [Bool.and_eq_true] at h1
        right
        rw [h1.1, hx 3 h1.2]
        rfl
    · simp only [if_neg k1] at h1 ⊢
      by_cases k2 : k = 2
      · simp only [if_pos k2] at h1 ⊢
        exact hx 2 h1
      · simp only [if_neg k2] at h1
        simp at h1
theorem rights_let (e : BitVec 64) (k p : Int) (sum mxr : Bool) (h : checkB e k p false false = true) : checkB e k p sum mxr = true := by
  rw [check_bits] at h ⊢
  rw [Bool.and_eq_true] at h ⊢
  obtain ⟨h1, h2⟩ := h
  constructor
  · by_cases k0 : k = 0
    · simp only [if_pos k0] at h1 ⊢
      exact h1
    · simp only [if_neg k0] at h1 ⊢
      by_cases k1 : k = 1
      · simp only [if_pos k1] at h1 ⊢
        simp only [Bool.false_and, Bool.or_false] at h1
        rw [h1, Bool.true_or]
      · simp only [if_neg k1] at h1 ⊢
        exact h1
  · by_cases p0 : p = 0
    · simp only [if_pos p0] at h2 ⊢
      exact h2
    · simp only [if_neg p0] at h2 ⊢
      by_cases p1 : p = 1
      · simp only [if_pos p1] at h2 ⊢
        simp only [Bool.false_and, Bool.or_false] at h2
        rw [h2, Bool.true_or]
      · simp only [if_neg p1]
theorem rights_fetch (e : BitVec 64) (p : Int) (sum mxr : Bool) : checkB e 0 p sum mxr = checkB e 0 p false false := by
  rw [check_bits, check_bits]
  simp
end Wd
end Go.Proofs.Ythjhcdkbajbpdaa
