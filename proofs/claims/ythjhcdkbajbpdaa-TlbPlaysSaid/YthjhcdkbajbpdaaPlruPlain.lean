/- Plain lemmas for package plru: bits of small numbers of the kind int; the tree's way down and its touch; no program in sight. -/
import Derived.WalkKit
namespace Go.Proofs.Ythjhcdkbajbpdaa
open Go.RowKit
namespace Pl

theorem wrap_i64 (n : Int) (h : -9223372036854775808 ≤ n ∧ n ≤ 9223372036854775807) : IntKind.i64.wrap n = n := IntWalk.i64_in n h
theorem ofInt_nat (a : Nat) (ha : a < 18446744073709551616) : (BitVec.ofInt 64 (a : Int)).toNat = a := by
  rw [BitVec.ofInt_natCast, BitVec.toNat_ofNat]
  exact Nat.mod_eq_of_lt ha
/-- a without the bits of b. -/
def clr (a b : Nat) : Nat := a ^^^ (a &&& b)
theorem clr_le (a b : Nat) : clr a b ≤ a := by
  have h : clr a b = a &&& clr a b := by
    apply Nat.eq_of_testBit_eq
    intro i
    unfold clr
    simp only [Nat.testBit_and, Nat.testBit_xor]
    cases a.testBit i <;> cases b.testBit i <;> rfl
  rw [h]
  exact Nat.and_le_left
theorem and_i64 (a b : Nat) (ha : a < 9223372036854775808) (hb : b < 9223372036854775808) : bits .and .i64 (a : Int) (b : Int) = ((a &&& b : Nat) : Int) := by
  have hx : a &&& b < 2 ^ 63 := Nat.and_lt_two_pow _ (by omega)
  show IntKind.i64.wrap ((BitVec.ofInt 64 (a : Int) &&& BitVec.ofInt 64 (b : Int)).toNat : Int) = _
  rw [BitVec.toNat_and, ofInt_nat a (by omega), ofInt_nat b (by omega)]
  exact wrap_i64 _ (by omega)
theorem or_i64 (a b : Nat) (ha : a < 9223372036854775808) (hb : b < 9223372036854775808) : bits .or .i64 (a : Int) (b : Int) = ((a ||| b : Nat) : Int) := by
  have hx : a ||| b < 2 ^ 63 := Nat.or_lt_two_pow (by omega) (by omega)
  show IntKind.i64.wrap ((BitVec.ofInt 64 (a : Int) ||| BitVec.ofInt 64 (b : Int)).toNat : Int) = _
  rw [BitVec.toNat_or, ofInt_nat a (by omega), ofInt_nat b (by omega)]
  exact wrap_i64 _ (by omega)
theorem andNot_i64 (a b : Nat) (ha : a < 9223372036854775808) (hb : b < 9223372036854775808) : bits .andNot .i64 (a : Int) (b : Int) = ((clr a b : Nat) : Int) := by
  have hx := clr_le a b
  show IntKind.i64.wrap ((BitVec.ofInt 64 (a : Int) &&& ~~~BitVec.ofInt 64 (b : Int)).toNat : Int) = _
  have e : BitVec.ofInt 64 (a : Int) &&& ~~~BitVec.ofInt 64 (b : Int) = BitVec.ofInt 64 (a : Int) ^^^ (BitVec.ofInt 64 (a : Int) &&& BitVec.ofInt 64 (b : Int)) := by
    apply BitVec.eq_of_getLsbD_eq
    intro i hi
    simp only [BitVec.getLsbD_and, BitVec.getLsbD_xor, BitVec.getLsbD_not, hi, decide_true, Bool.true_and]
    cases (BitVec.ofInt 64 (a : Int)).getLsbD i <;> cases (BitVec.ofInt 64 (b : Int)).getLsbD i <;> rfl
  rw [e, BitVec.toNat_xor, BitVec.toNat_and, ofInt_nat a (by omega), ofInt_nat b (by omega)]
  exact wrap_i64 _ (by unfold clr at hx; omega)

/-- Bit k of s, as a number. -/
def bitN (s k : Nat) : Nat := s / 2 ^ k % 2
theorem bit_i64 (s k : Nat) (hs : s < 9223372036854775808) : bits .and .i64 ((s : Int) / 2 ^ k) 1 = ((bitN s k : Nat) : Int) := by
  have e : ((s : Int) / 2 ^ k) = ((s / 2 ^ k : Nat) : Int) := by simp
  have hl : s / 2 ^ k ≤ s := Nat.div_le_self _ _
  rw [e]
  have h := and_i64 (s / 2 ^ k) 1 (by omega) (by omega)
  rw [Nat.and_one_is_mod] at h
  exact h
theorem or_low (n b : Nat) (hn : n < 4611686018427387904) (hb : b ≤ 1) : bits .or .i64 ((n : Int) * 2) (b : Int) = ((2 * n + b : Nat) : Int) := by
  have e : ((n : Int) * 2) = ((2 * n : Nat) : Int) := by omega
  rw [e, or_i64 (2 * n) b (by omega) (by omega)]
  congr 1
  have := Nat.two_pow_add_eq_or_of_lt (i := 1) (b := b) (by omega) n
  simp at this
  omega

/-- The way down: behind k steps. -/
def down (s : Nat) : Nat → Nat
  | 0 => 1
  | k + 1 => 2 * down s k + bitN s (down s k - 1)
theorem down_bd (s k : Nat) : 2 ^ k ≤ down s k ∧ down s k < 2 ^ (k + 1) := by
  induction k with
  | zero => simp [down]
  | succ k ih =>
    have hb : bitN s (down s k - 1) < 2 := Nat.mod_lt _ (by omega)
    simp only [down]
    rw [Nat.pow_succ, Nat.pow_succ 2 (k + 1)]
    omega
theorem down_small (s k : Nat) (hk : k < 3) : 1 ≤ down s k ∧ down s k ≤ 7 := by
  have h := down_bd s k
  match k, hk with
  | 0, _ => simp at h; omega
  | 1, _ => simp at h; omega
  | 2, _ => simp at h; omega
/-- A touch: from a node up to the root, at most so many steps. -/
def up (s node : Nat) : Nat → Nat
  | 0 => s
  | f + 1 => if node ≤ 1 then s else up (if node % 2 = 0 then clr s (2 ^ (node / 2 - 1)) ||| 2 ^ (node / 2 - 1) else clr s (2 ^ (node / 2 - 1))) (node / 2) f
theorem up_root (s node f : Nat) (h : node ≤ 1) : up s node f = s := by
  cases f with
  | zero => rfl
  | succ f => simp only [up]; rw [if_pos h]
theorem or_clr (s b : Nat) : clr s b ||| b = s ||| b := by
  apply Nat.eq_of_testBit_eq
  intro i
  unfold clr
  simp only [Nat.testBit_and, Nat.testBit_xor, Nat.testBit_or]
  cases s.testBit i <;> cases b.testBit i <;> rfl
/-- So many levels; 0: there are no such ways. -/
def lev (ways : Int) : Nat := if ways = 2 then 1 else if ways = 4 then 2 else if ways = 8 then 3 else 0
def mayB (s ways : Int) : Bool := (ways == 2 || ways == 4 || ways == 8) && decide (0 ≤ s) && decide (s < 2 ^ (ways - 1).toNat)
def victim (s ways : Int) : Int := if mayB s ways then (down s.toNat (lev ways) : Int) - ways else 0
def touch (s ways way : Int) : Int := if mayB s ways && decide (0 ≤ way) && decide (way < ways) then (up s.toNat (way + ways).toNat 4 : Nat) else s
theorem may_cases (s ways : Int) (h : mayB s ways = true) : (ways = 2 ∨ ways = 4 ∨ ways = 8) ∧ 0 ≤ s ∧ s < 2 ^ (ways - 1).toNat := by
  unfold mayB at h
  simp only [Bool.and_eq_true, Bool.or_eq_true, beq_iff_eq, decide_eq_true_eq] at h
  exact ⟨by omega, h.1.2, h.2⟩
theorem may_small (s ways : Int) (h : mayB s ways = true) : 0 ≤ s ∧ s < 128 := by
  obtain ⟨h1, h2, h3⟩ := may_cases s ways h
  rcases h1 with rfl | rfl | rfl
  · simp at h3; omega
  · simp at h3; omega
  · simp at h3; omega
theorem may_def (s ways : Int) (h : ways = 2 ∨ ways = 4 ∨ ways = 8) : mayB s ways = (decide (0 ≤ s) && decide (s < 2 ^ (ways - 1).toNat)) := by
  unfold mayB
  rcases h with rfl | rfl | rfl <;> simp
theorem may_none (s ways : Int) (h : lev ways = 0) : mayB s ways = false := by
  unfold mayB
  unfold lev at h
  by_cases h1 : ways = 2
  · simp [h1] at h
  · by_cases h2 : ways = 4
    · simp [h2] at h
    · by_cases h3 : ways = 8
      · simp [h3] at h
      · simp [h1, h2, h3]
theorem lev_pos (ways : Int) (h : lev ways ≠ 0) : ways = 2 ∨ ways = 4 ∨ ways = 8 := by
  unfold lev at h
  by_cases h1 : ways = 2
  · exact .inl h1
  · by_cases h2 : ways = 4
    · exact .inr (.inl h2)
    · by_cases h3 : ways = 8
      · exact .inr (.inr h3)
      · simp [h1, h2, h3] at h
end Pl
end Go.Proofs.Ythjhcdkbajbpdaa
