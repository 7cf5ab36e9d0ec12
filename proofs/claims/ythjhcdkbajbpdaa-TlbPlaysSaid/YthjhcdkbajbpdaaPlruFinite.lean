/- The plain laws of package plru: what holds of all states, all ways: by going through them. -/
import Derived.Test.YthjhcdkbajbpdaaPlru2
namespace Go.Proofs.Ythjhcdkbajbpdaa
open Go.RowKit
namespace Pl

def allN (p : Nat → Bool) : Nat → Bool
  | 0 => true
  | n + 1 => p n && allN p n
theorem allN_get (p : Nat → Bool) (n : Nat) (h : allN p n = true) (k : Nat) (hk : k < n) : p k = true := by
  induction n with
  | zero => omega
  | succ n ih =>
    simp only [allN, Bool.and_eq_true] at h
    rcases Nat.lt_or_ge k n with e | e
    · exact ih h.2 e
    · rw [show k = n from by omega]; exact h.1

/-- A touch of way y, of state n: the state stays one, y is no victim, once more changes nothing; a way of the left half leaves a victim on the right. -/
def touchOk (w L m n y : Nat) : Bool :=
  let s := up n (y + w) 4
  decide (s < m) && decide (down s L ≠ y + w) && decide (up s (y + w) 4 = s) && (decide (w / 2 ≤ y) || decide (w + w / 2 ≤ down s L))
theorem touch2 : allN (fun n => allN (fun y => touchOk 2 1 2 n y) 2) 2 = true := by decide
theorem touch4 : allN (fun n => allN (fun y => touchOk 4 2 8 n y) 4) 8 = true := by decide
set_option maxRecDepth 100000 in
theorem touch8 : allN (fun n => allN (fun y => touchOk 8 3 128 n y) 8) 128 = true := by decide +kernel

/-- The state behind k rounds of 'touch the victim'. -/
def st (w L n : Nat) : Nat → Nat
  | 0 => n
  | k + 1 => up (st w L n k) (down (st w L n k) L) 4
def vic (w L n k : Nat) : Nat := down (st w L n k) L - w
/-- All rounds: each state is one, no victim comes again, and the last state is the first. -/
def roundOk (w L m n : Nat) : Bool :=
  allN (fun k => decide (st w L n k < m) && allN (fun j => decide (vic w L n j ≠ vic w L n k)) k) w && decide (st w L n w = n)
theorem round2 : allN (fun n => roundOk 2 1 2 n) 2 = true := by decide
theorem round4 : allN (fun n => roundOk 4 2 8 n) 8 = true := by decide +kernel
set_option maxRecDepth 100000 in
theorem round8 : allN (fun n => roundOk 8 3 128 n) 128 = true := by decide +kernel

/-- The three trees. -/
def Tree (w L m : Nat) : Prop := (w = 2 ∧ L = 1 ∧ m = 2) ∨ (w = 4 ∧ L = 2 ∧ m = 8) ∨ (w = 8 ∧ L = 3 ∧ m = 128)
theorem tree_of (s ways : Int) (h : mayB s ways = true) : ∃ w L m n : Nat, Tree w L m ∧ ways = w ∧ s = n ∧ n < m ∧ lev ways = L := by
  obtain ⟨h1, h2, h3⟩ := may_cases s ways h
  obtain ⟨n, rfl⟩ := Int.eq_ofNat_of_zero_le h2
  rcases h1 with rfl | rfl | rfl
  · exact ⟨2, 1, 2, n, .inl ⟨rfl, rfl, rfl⟩, rfl, rfl, by simp at h3; omega, rfl⟩
  · exact ⟨4, 2, 8, n, .inr (.inl ⟨rfl, rfl, rfl⟩), rfl, rfl, by simp at h3; omega, rfl⟩
  · exact ⟨8, 3, 128, n, .inr (.inr ⟨rfl, rfl, rfl⟩), rfl, rfl, by simp at h3; omega, rfl⟩
theorem tree_lev {w L m : Nat} (h : Tree w L m) : lev (w : Int) = L := by
  rcases h with ⟨rfl, rfl, rfl⟩ | ⟨rfl, rfl, rfl⟩ | ⟨rfl, rfl, rfl⟩ <;> rfl
theorem tree_may {w L m n : Nat} (h : Tree w L m) (hn : n < m) : mayB (n : Int) (w : Int) = true := by
  rcases h with ⟨rfl, rfl, rfl⟩ | ⟨rfl, rfl, rfl⟩ | ⟨rfl, rfl, rfl⟩ <;> (unfold mayB; simp; omega)
theorem tree_victim {w L m n : Nat} (h : Tree w L m) (hn : n < m) : victim (n : Int) (w : Int) = (vic w L n 0 : Nat) ∧ vic w L n 0 < w := by
  have hd := down_bd n L
  unfold victim vic st
  rw [if_pos (tree_may h hn), tree_lev h]
  rcases h with ⟨rfl, rfl, rfl⟩ | ⟨rfl, rfl, rfl⟩ | ⟨rfl, rfl, rfl⟩ <;> (simp at hd; simp; omega)
theorem tree_touch {w L m n y : Nat} (h : Tree w L m) (hn : n < m) (hy : y < w) : touch (n : Int) (w : Int) (y : Int) = (up n (y + w) 4 : Nat) := by
  unfold touch
  rw [if_pos (by rw [tree_may h hn]; simp; omega), show ((n : Int)).toNat = n from by omega, show ((y : Int) + (w : Int)).toNat = y + w from by omega]
theorem tree_ok {w L m n y : Nat} (h : Tree w L m) (hn : n < m) (hy : y < w) :
    up n (y + w) 4 < m ∧ down (up n (y + w) 4) L ≠ y + w ∧ up (up n (y + w) 4) (y + w) 4 = up n (y + w) 4 ∧ (y < w / 2 → w + w / 2 ≤ down (up n (y + w) 4) L) := by
  have hc : touchOk w L m n y = true := by
    rcases h with ⟨rfl, rfl, rfl⟩ | ⟨rfl, rfl, rfl⟩ | ⟨rfl, rfl, rfl⟩
    · exact allN_get _ _ (allN_get _ _ touch2 n hn) y hy
    · exact allN_get _ _ (allN_get _ _ touch4 n hn) y hy
    · exact allN_get _ _ (allN_get _ _ touch8 n hn) y hy
  unfold touchOk at hc
  simp only [Bool.and_eq_true, Bool.or_eq_true, decide_eq_true_eq] at hc
  exact ⟨hc.1.1.1, hc.1.1.2, hc.1.2, fun h => by omega⟩
theorem round_ok {w L m n : Nat} (h : Tree w L m) (hn : n < m) : (∀ k, k < w → st w L n k < m ∧ ∀ j, j < k → vic w L n j ≠ vic w L n k) ∧ st w L n w = n := by
  have hc : roundOk w L m n = true := by
    rcases h with ⟨rfl, rfl, rfl⟩ | ⟨rfl, rfl, rfl⟩ | ⟨rfl, rfl, rfl⟩
    · exact allN_get _ _ round2 n hn
    · exact allN_get _ _ round4 n hn
    · exact allN_get _ _ round8 n hn
  unfold roundOk at hc
  simp only [Bool.and_eq_true, decide_eq_true_eq] at hc
  refine ⟨fun k hk => ?_, hc.2⟩
  have := allN_get _ _ hc.1 k hk
  simp only [Bool.and_eq_true, decide_eq_true_eq] at this
  refine ⟨this.1, fun j hj => ?_⟩
  have := allN_get _ _ this.2 j hj
  simpa using this
/-! ### The laws -/
theorem spares (s ways way : Int) (h : mayB s ways = true) (h1 : 0 ≤ way) (h2 : way < ways) :
    mayB (touch s ways way) ways = true ∧ victim (touch s ways way) ways ≠ way ∧ touch (touch s ways way) ways way = touch s ways way ∧ (way < ways / 2 → ways / 2 ≤ victim (touch s ways way) ways) := by
  obtain ⟨w, L, m, n, ht, rfl, rfl, hn, _⟩ := tree_of s ways h
  obtain ⟨y, rfl⟩ := Int.eq_ofNat_of_zero_le h1
  have hy : y < w := by omega
  obtain ⟨o1, o2, o3, o4⟩ := tree_ok ht hn hy
  obtain ⟨v1, v2⟩ := tree_victim ht o1
  have hd := down_bd (up n (y + w) 4) L
  have hw : 2 ^ L = w := by rcases ht with ⟨rfl, rfl, rfl⟩ | ⟨rfl, rfl, rfl⟩ | ⟨rfl, rfl, rfl⟩ <;> rfl
  rw [tree_touch ht hn hy, tree_touch ht o1 hy, v1]
  unfold vic st
  refine ⟨tree_may ht o1, by omega, by rw [o3], fun h => ?_⟩
  have := o4 (by omega)
  omega
/-- Was way j the victim of one of the first k rounds? -/
def visited (w L n : Nat) : Nat → Nat → Bool
  | 0, _ => false
  | k + 1, j => visited w L n k j || decide (vic w L n k = j)
theorem visited_no (w L n k j : Nat) (h : ∀ i, i < k → vic w L n i ≠ j) : visited w L n k j = false := by
  induction k with
  | zero => rfl
  | succ k ih =>
    simp only [visited]
    rw [ih (fun i hi => h i (by omega))]
    simp [h k (by omega)]
theorem st_may {w L m n : Nat} (h : Tree w L m) (hn : n < m) (k : Nat) (hk : k ≤ w) : st w L n k < m := by
  rcases Nat.lt_or_ge k w with e | e
  · exact ((round_ok h hn).1 k e).1
  · rw [show k = w from by omega, (round_ok h hn).2]; exact hn
theorem st_victim {w L m n : Nat} (h : Tree w L m) (hn : n < m) (k : Nat) (hk : k ≤ w) : victim (st w L n k : Int) (w : Int) = (vic w L n k : Nat) ∧ vic w L n k < w := tree_victim h (st_may h hn k hk)
theorem st_touch {w L m n : Nat} (h : Tree w L m) (hn : n < m) (k : Nat) (hk : k ≤ w) : touch (st w L n k : Int) (w : Int) (vic w L n k : Int) = (st w L n (k + 1) : Nat) := by
  have hv := st_victim h hn k hk
  rw [tree_touch h (st_may h hn k hk) hv.2]
  have hd := down_bd (st w L n k) L
  have hw : 2 ^ L = w := by rcases h with ⟨rfl, rfl, rfl⟩ | ⟨rfl, rfl, rfl⟩ | ⟨rfl, rfl, rfl⟩ <;> rfl
  have : vic w L n k + w = down (st w L n k) L := by unfold vic; omega
  rw [this]
  rfl
theorem tree_small {w L m : Nat} (h : Tree w L m) : 2 ≤ w ∧ w ≤ 8 ∧ m ≤ 128 := by
  rcases h with ⟨rfl, rfl, rfl⟩ | ⟨rfl, rfl, rfl⟩ | ⟨rfl, rfl, rfl⟩ <;> omega
end Pl
end Go.Proofs.Ythjhcdkbajbpdaa
