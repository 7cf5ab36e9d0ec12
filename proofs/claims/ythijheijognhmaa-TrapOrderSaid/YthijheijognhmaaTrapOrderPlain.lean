/- Plain lemmas on the order of interrupts: with one more pending none is taken that comes behind the one that was. -/
import Derived.Test.YthijheijognhmaaTrapSelPlain
namespace Go.Proofs.Ythijheijognhmaa
open Go.RowKit
set_option linter.unusedVariables false
set_option linter.unusedSimpArgs false
namespace Wd
theorem first_at (t : Nat → Bool) : ∀ (f k n : Nat), firstFrom t f k = some n → ∃ j, k ≤ j ∧ j < k + f ∧ n = ordN j ∧ t (ordN j) = true := by
  intro f
  induction f with
  | zero => intro k n h; simp [firstFrom] at h
  | succ f ih =>
    intro k n h
    cases ht : t (ordN k) with
    | true =>
      rw [first_hit _ _ _ ht] at h
      exact ⟨k, by omega, by omega, by simpa using h.symm, ht⟩
    | false =>
      rw [first_step _ _ _ ht] at h
      obtain ⟨j, h1, h2, h3, h4⟩ := ih _ _ h
      exact ⟨j, by omega, by omega, h3, h4⟩
theorem first_le (t : Nat → Bool) : ∀ (f k j : Nat), k ≤ j → j < k + f → t (ordN j) = true → ∃ i, i ≤ j ∧ firstFrom t f k = some (ordN i) := by
  intro f
  induction f with
  | zero => intro k j h1 h2; omega
  | succ f ih =>
    intro k j h1 h2 h3
    cases ht : t (ordN k) with
    | true => exact ⟨k, h1, first_hit _ _ _ ht⟩
    | false =>
      have hne : k ≠ j := by rintro rfl; rw [h3] at ht; simp at ht
      obtain ⟨i, a, b⟩ := ih (k + 1) j (by omega) (by omega) h3
      exact ⟨i, a, (first_step _ _ _ ht).trans b⟩
def rankN (h : Hart) (k : Nat) : Nat := k + 6 * (if bit h.ideleg (ordN k) then 1 else 0)
theorem order_plain (h : Hart) (e f : Env) (hm : ∀ n, bit (onW h e) n = true → bit (onW h f) n = true) (n : Nat) (hs : selO h e = some n) :
    ∃ k i, k < 6 ∧ i < 6 ∧ n = ordN k ∧ selO h f = some (ordN i) ∧ rankN h i ≤ rankN h k ∧ bit (onW h e) (ordN k) = true := by
  cases ho : (if mOK h then firstO (mT h e) else none) with
  | some m =>
    have hsm := (selO_some h e m ho).symm.trans hs
    simp only [Option.some.injEq] at hsm
    subst hsm
    cases hk : mOK h with
    | false => rw [hk] at ho; simp at ho
    | true =>
      rw [hk] at ho
      simp only [if_true] at ho
      obtain ⟨k, h1, h2, h3, h4⟩ := first_at _ 6 0 m ho
      unfold mT at h4
      simp only [Bool.and_eq_true, Bool.not_eq_true'] at h4
      have h5 : mT h f (ordN k) = true := by unfold mT; rw [hm _ h4.1, h4.2]; rfl
      obtain ⟨i, g1, g2⟩ := first_le (mT h f) 6 0 k (by omega) (by omega) h5
      obtain ⟨i2, q1, q2, q3, q4⟩ := first_at _ 6 0 _ g2
      refine ⟨k, i, by omega, by omega, h3, selO_some h f _ (by rw [hk]; exact g2), ?_, h4.1⟩
      unfold mT at q4
      simp only [Bool.and_eq_true, Bool.not_eq_true'] at q4
      unfold rankN
      rw [h4.2, show bit h.ideleg (ordN i) = false by rw [q3]; exact q4.2]
      simp
      exact g1
  | none =>
    have hn := selO_none h e ho
    cases hk : sOK h with
    | false => rw [hn, hk] at hs; simp at hs
    | true =>
      rw [hn, hk] at hs
      simp only [if_true] at hs
      obtain ⟨k, h1, h2, h3, h4⟩ := first_at _ 6 0 n hs
      unfold sT at h4
      simp only [Bool.and_eq_true] at h4
      have h5 : sT h f (ordN k) = true := by unfold sT; rw [hm _ h4.1, h4.2]; rfl
      have hr : rankN h k = k + 6 := by unfold rankN; rw [h4.2]; rfl
      cases hf : (if mOK h then firstO (mT h f) else none) with
      | some m =>
        have hs2 := selO_some h f m hf
        cases hk2 : mOK h with
        | false => rw [hk2] at hf; simp at hf
        | true =>
          rw [hk2] at hf
          simp only [if_true] at hf
          obtain ⟨i, q1, q2, q3, q4⟩ := first_at _ 6 0 m hf
          unfold mT at q4
          simp only [Bool.and_eq_true, Bool.not_eq_true'] at q4
          refine ⟨k, i, by omega, by omega, h3, by rw [hs2, q3], ?_, h4.1⟩
          rw [hr]
          unfold rankN
          rw [q4.2]
          simp
          omega
      | none =>
        obtain ⟨i, g1, g2⟩ := first_le (sT h f) 6 0 k (by omega) (by omega) h5
        refine ⟨k, i, by omega, by omega, h3, by rw [selO_none h f hf, hk]; exact g2, ?_, h4.1⟩
        rw [hr]
        unfold rankN
        split <;> omega
theorem bit_or (v : BitVec 64) (n : Int) (k : Nat) (h : bit v k = true) : bit (orL v n) k = true := by
  unfold bit orL
  rw [BitVec.getLsbD_or, show v.getLsbD k = true from h, Bool.true_or]
def moreE (e : Env) (m : BitVec 64) : Env := { e with lines := orL e.lines (m.toNat : Int) }
theorem on_more (h : Hart) (e : Env) (m : BitVec 64) (n : Nat) (hb : bit (onW h e) n = true) : bit (onW h (moreE e m)) n = true := by
  unfold onW at hb ⊢
  rw [bit_and, Bool.and_eq_true] at hb ⊢
  refine ⟨?_, hb.2⟩
  have h1 := hb.1
  unfold pendW bit orL at h1 ⊢
  rw [of64, BitVec.getLsbD_or, Bool.or_eq_true] at h1 ⊢
  rcases h1 with h1 | h1
  · exact .inl h1
  · right
    unfold moreE
    unfold andL at h1 ⊢
    rw [BitVec.getLsbD_and, Bool.and_eq_true] at h1 ⊢
    refine ⟨?_, h1.2⟩
    unfold orL
    rw [BitVec.getLsbD_or, h1.1, Bool.true_or]
theorem and_cause (k : Nat) : bits .and .u64 (9223372036854775808 + (ordN k : Int)) 63 = (ordN k : Int) := by
  unfold ordN
  split <;> decide
theorem top_cause (k : Nat) : (9223372036854775808 + (ordN k : Int)) / 9223372036854775808 = 1 := by
  have := ordN_lt k
  omega
theorem ord_inj (j k : Nat) (hj : j < 6) (hk : k < 6) (h : ordN j = ordN k) : j = k := by
  have a : j = 0 ∨ j = 1 ∨ j = 2 ∨ j = 3 ∨ j = 4 ∨ j = 5 := by omega
  have b : k = 0 ∨ k = 1 ∨ k = 2 ∨ k = 3 ∨ k = 4 ∨ k = 5 := by omega
  rcases a with rfl | rfl | rfl | rfl | rfl | rfl <;> rcases b with rfl | rfl | rfl | rfl | rfl | rfl <;> first | rfl | (simp [ordN] at h)
theorem wakes_some (h : Hart) (e : Env) (k : Nat) (hb : bit (onW h e) (ordN k) = true) : ((onW h e).toNat : Int) ≠ 0 := by
  intro hz
  have : onW h e = 0#64 := BitVec.eq_of_toNat_eq (by simpa using hz)
  rw [this] at hb
  unfold bit at hb
  simp at hb
end Wd
end Go.Proofs.Ythijheijognhmaa
