/- Plain laws on fields, extensions and counts of words of 64 bits; no program in sight. -/
import Derived.Test.YthjhcdkbajbpdaaWord
namespace Go.Proofs.Ythjhcdkbajbpdaa
open Go.RowKit
namespace Wd

theorem field_get (v : BitVec 64) (hi lo : Int) (h : may hi lo = true) (i : Nat) : (field v hi lo).getLsbD i = (decide (i < (hi - lo + 1).toNat) && v.getLsbD (lo.toNat + i)) := by
  unfold field; rw [if_pos h, fld_get]
theorem put_get (v : BitVec 64) (hi lo : Int) (x : BitVec 64) (h : may hi lo = true) (i : Nat) (hi' : i < 64) :
    (put v hi lo x).getLsbD i = if lo.toNat ≤ i ∧ (i : Int) ≤ hi then x.getLsbD (i - lo.toNat) else v.getLsbD i := by
  unfold put; rw [if_pos h, putN_get _ _ _ _ _ hi']
  have hb := (may_iff _ _).1 h
  by_cases e : lo.toNat ≤ i ∧ (i : Int) ≤ hi
  · rw [if_pos e, if_pos (by omega)]
  · rw [if_neg e, if_neg (by omega)]
theorem field_of_put (v : BitVec 64) (hi lo : Int) (x : BitVec 64) (h : may hi lo = true) : field (put v hi lo x) hi lo = zext x (hi - lo + 1) := by
  have hb := (may_iff _ _).1 h
  apply BitVec.eq_of_getLsbD_eq
  intro i hi'
  rw [field_get _ _ _ h]
  unfold zext
  rw [zextN_get]
  by_cases e : i < (hi - lo + 1).toNat
  · rw [put_get _ _ _ _ h _ (by omega), if_pos (by omega), show lo.toNat + i - lo.toNat = i from by omega]
  · simp [e]
theorem put_of_field (v : BitVec 64) (hi lo : Int) (h : may hi lo = true) : put v hi lo (field v hi lo) = v := by
  have hb := (may_iff _ _).1 h
  apply BitVec.eq_of_getLsbD_eq
  intro i hi'
  rw [put_get _ _ _ _ h _ hi']
  by_cases e : lo.toNat ≤ i ∧ (i : Int) ≤ hi
  · rw [if_pos e, field_get _ _ _ h, show lo.toNat + (i - lo.toNat) = i from by omega]
    have : decide (i - lo.toNat < (hi - lo + 1).toNat) = true := by simp; omega
    rw [this, Bool.true_and]
  · rw [if_neg e]
theorem put_put (v : BitVec 64) (hi lo top low : Int) (x y : BitVec 64) (h : may hi lo = true) (k : may top low = true) (hd : ¬ (low ≤ hi ∧ lo ≤ top)) :
    put (put v hi lo x) top low y = put (put v top low y) hi lo x := by
  have hb := (may_iff _ _).1 h
  have kb := (may_iff _ _).1 k
  apply BitVec.eq_of_getLsbD_eq
  intro i hi'
  rw [put_get _ _ _ _ k _ hi', put_get _ _ _ _ h _ hi', put_get _ _ _ _ h _ hi', put_get _ _ _ _ k _ hi']
  by_cases e : lo.toNat ≤ i ∧ (i : Int) ≤ hi
  · rw [if_neg (show ¬ (low.toNat ≤ i ∧ (i : Int) ≤ top) by omega), if_pos e, if_pos e]
  · rw [if_neg e, if_neg e]
theorem field_of_puts (v : BitVec 64) (hi lo top low : Int) (y : BitVec 64) (h : may hi lo = true) (k : may top low = true) (hd : ¬ (low ≤ hi ∧ lo ≤ top)) :
    field (put v top low y) hi lo = field v hi lo := by
  have hb := (may_iff _ _).1 h
  have kb := (may_iff _ _).1 k
  apply BitVec.eq_of_getLsbD_eq
  intro i hi'
  rw [field_get _ _ _ h, field_get _ _ _ h]
  by_cases e : i < (hi - lo + 1).toNat
  · rw [put_get _ _ _ _ k _ (by omega), if_neg (by omega)]
  · simp [e]

theorem sext_get (v : BitVec 64) (n : Int) (h1 : 1 ≤ n) (h2 : n ≤ 64) (i : Nat) (hi : i < 64) : (sext v n).getLsbD i = v.getLsbD (if i < n.toNat then i else n.toNat - 1) := by
  unfold sext
  rw [if_neg (by omega)]
  by_cases e : 64 ≤ n
  · rw [if_pos e, if_pos (by omega)]
  · rw [if_neg e, sextN_get _ _ _ (by omega) (by omega) hi]
theorem zext_get (v : BitVec 64) (n : Int) (i : Nat) : (zext v n).getLsbD i = (decide (i < n.toNat) && v.getLsbD i) := zextN_get _ _ _
theorem sext_sext (v : BitVec 64) (n m : Int) (h1 : 1 ≤ n) (h2 : n ≤ m) (h3 : m ≤ 64) : sext (sext v n) m = sext v n := by
  apply BitVec.eq_of_getLsbD_eq
  intro i hi
  rw [sext_get _ m (by omega) h3 _ hi, sext_get _ n h1 (by omega) _ (by split <;> omega), sext_get _ n h1 (by omega) _ hi]
  congr 1
  by_cases a : i < m.toNat
  · rw [if_pos a]
  · rw [if_neg a]
    by_cases b : i < n.toNat
    · omega
    · rw [if_neg b]; split <;> omega
theorem sext_zext (v : BitVec 64) (n : Int) (h1 : 1 ≤ n) (h3 : n ≤ 64) : sext (zext v n) n = sext v n := by
  apply BitVec.eq_of_getLsbD_eq
  intro i hi
  rw [sext_get _ n h1 h3 _ hi, sext_get _ n h1 h3 _ hi, zext_get]
  have : decide ((if i < n.toNat then i else n.toNat - 1) < n.toNat) = true := by simp; split <;> omega
  rw [this, Bool.true_and]
theorem zext_sext (v : BitVec 64) (n : Int) (h1 : 1 ≤ n) (h3 : n ≤ 64) : zext (sext v n) n = zext v n := by
  apply BitVec.eq_of_getLsbD_eq
  intro i hi
  rw [zext_get, zext_get, sext_get _ n h1 h3 _ hi]
  by_cases a : i < n.toNat
  · rw [if_pos a]
  · simp [a]
theorem field_one (v : BitVec 64) (n : Int) (h1 : 1 ≤ n) (h3 : n ≤ 64) : field v (n - 1) (n - 1) = if bit v (n.toNat - 1) then 1#64 else 0#64 := by
  apply BitVec.eq_of_getLsbD_eq
  intro i hi
  rw [field_get _ _ _ ((may_iff _ _).2 (by omega)), show (n - 1 - (n - 1) + 1).toNat = 1 from by omega, show (n - 1).toNat = n.toNat - 1 from by omega]
  unfold bit
  by_cases e : i = 0
  · subst e
    cases v.getLsbD (n.toNat - 1) <;> simp [*]
  · have e1 : decide (i < 1) = false := by simp; omega
    rw [e1]
    split
    · rw [BitVec.getLsbD_one]; simp [e]
    · simp
theorem sext_zext_pos (v : BitVec 64) (n : Int) (h1 : 1 ≤ n) (h3 : n ≤ 64) (hb : bit v (n.toNat - 1) = false) : sext v n = zext v n := by
  apply BitVec.eq_of_getLsbD_eq
  intro i hi
  rw [zext_get, sext_get _ n h1 h3 _ hi]
  by_cases a : i < n.toNat
  · rw [if_pos a]; simp [a]
  · rw [if_neg a]
    simp only [a, decide_false, Bool.false_and]
    exact hb
theorem sext_all (v : BitVec 64) (n : Int) (h : 64 ≤ n) : sext v n = v := by unfold sext; rw [if_neg (by omega), if_pos h]
theorem sext_msb (v : BitVec 64) (n : Int) (h1 : 1 ≤ n) (h3 : n ≤ 64) : (sext v n).msb = bit v (n.toNat - 1) := by
  rw [BitVec.msb_eq_getLsbD_last, sext_get _ n h1 h3 _ (by omega)]
  unfold bit
  congr 1
  split <;> omega
theorem sext_neg (v : BitVec 64) (n : Int) (h1 : 1 ≤ n) (h3 : n ≤ 64) (hb : bit v (n.toNat - 1) = true) : (sext v n).toInt < 0 := by
  have h := sext_msb v n h1 h3
  rw [hb] at h
  rw [BitVec.msb_eq_toInt] at h
  simpa using h
theorem sext_sub (v : BitVec 64) (n : Int) (h1 : 1 ≤ n) (h3 : n < 64) (hb : bit v (n.toNat - 1) = true) : sext v n - zext v n = BitVec.allOnes 64 <<< n.toNat := by
  have h : sext v n = zext v n + (BitVec.allOnes 64 <<< n.toNat) := by
    rw [BitVec.add_eq_or_of_and_eq_zero]
    · apply BitVec.eq_of_getLsbD_eq
      intro i hi
      rw [BitVec.getLsbD_or, BitVec.getLsbD_shiftLeft, BitVec.getLsbD_allOnes, zext_get, sext_get _ n h1 (by omega) _ hi]
      by_cases a : i < n.toNat
      · rw [if_pos a]; simp [a]
      · rw [if_neg a]
        have : i - n.toNat < 64 := by omega
        simp only [a, hi, this, decide_true, decide_false, Bool.false_and, Bool.not_false, Bool.true_and, Bool.false_or]
        exact hb
    · apply BitVec.eq_of_getLsbD_eq
      intro i hi
      rw [BitVec.getLsbD_and, BitVec.getLsbD_shiftLeft, zext_get]
      by_cases a : i < n.toNat <;> simp [a]
  rw [h, BitVec.add_comm, BitVec.add_sub_cancel]

/-! ### Counts -/
theorem cnt_not (v : BitVec 64) (k : Nat) (hk : k ≤ 64) : cnt v k + cnt (~~~v) k = k := by
  induction k with
  | zero => rfl
  | succ k ih =>
    have := ih (by omega)
    simp only [cnt]
    have e : bit (~~~v) k = !bit v k := by
      unfold bit
      rw [BitVec.getLsbD_not]
      have : decide (k < 64) = true := by simp; omega
      rw [this, Bool.true_and]
    rw [e]
    cases bit v k <;> simp <;> omega
theorem low_some (v : BitVec 64) (n i l : Nat) (h : low v n i = some l) : i ≤ l ∧ l < i + n ∧ bit v l = true ∧ ∀ j, i ≤ j → j < l → bit v j = false := by
  induction n generalizing i with
  | zero => simp [low] at h
  | succ n ih =>
    simp only [low] at h
    by_cases b : bit v i = true
    · rw [if_pos b] at h
      injection h with h
      subst h
      exact ⟨Nat.le_refl _, by omega, b, fun j h1 h2 => by omega⟩
    · rw [if_neg b] at h
      obtain ⟨h1, h2, h3, h4⟩ := ih _ h
      refine ⟨by omega, by omega, h3, fun j a c => ?_⟩
      rcases Nat.eq_or_lt_of_le a with e | e
      · subst e; simpa using b
      · exact h4 j (by omega) c
theorem low_none (v : BitVec 64) (n i : Nat) (h : low v n i = none) : ∀ j, i ≤ j → j < i + n → bit v j = false := by
  induction n generalizing i with
  | zero => intro j h1 h2; omega
  | succ n ih =>
    simp only [low] at h
    by_cases b : bit v i = true
    · rw [if_pos b] at h; cases h
    · rw [if_neg b] at h
      intro j a c
      rcases Nat.eq_or_lt_of_le a with e | e
      · subst e; simpa using b
      · exact ih _ h j (by omega) (by omega)
theorem high_some (v : BitVec 64) (n l : Nat) (h : high v n = some l) : l < n ∧ bit v l = true ∧ ∀ j, l < j → j < n → bit v j = false := by
  induction n with
  | zero => simp [high] at h
  | succ n ih =>
    simp only [high] at h
    by_cases b : bit v n = true
    · rw [if_pos b] at h
      injection h with h
      subst h
      exact ⟨by omega, b, fun j h1 h2 => by omega⟩
    · rw [if_neg b] at h
      obtain ⟨h1, h3, h4⟩ := ih h
      refine ⟨by omega, h3, fun j a c => ?_⟩
      rcases Nat.lt_or_ge j n with e | e
      · exact h4 j a e
      · obtain rfl : j = n := by omega
        simpa using b
theorem high_none (v : BitVec 64) (n : Nat) (h : high v n = none) : ∀ j, j < n → bit v j = false := by
  induction n with
  | zero => intro j h1; omega
  | succ n ih =>
    simp only [high] at h
    by_cases b : bit v n = true
    · rw [if_pos b] at h; cases h
    · rw [if_neg b] at h
      intro j c
      rcases Nat.lt_or_ge j n with e | e
      · exact ih h j e
      · obtain rfl : j = n := by omega
        simpa using b
theorem cnt_same (v u : BitVec 64) (k : Nat) (h : ∀ j, j < k → bit v j = bit u j) : cnt v k = cnt u k := by
  induction k with
  | zero => rfl
  | succ k ih =>
    simp only [cnt]
    rw [ih (fun j hj => h j (by omega)), h k (by omega)]
theorem bit_clear (v : BitVec 64) (l j : Nat) (hj : j < 64) : bit (v &&& ~~~(1#64 <<< l)) j = (bit v j && !decide (j = l)) := by
  unfold bit
  rw [BitVec.getLsbD_and, BitVec.getLsbD_not, one_shl_get _ _ hj]
  simp [hj]
theorem cnt_clear (v : BitVec 64) (l k : Nat) (hl : l < k) (hk : k ≤ 64) (hb : bit v l = true) : cnt v k = cnt (v &&& ~~~(1#64 <<< l)) k + 1 := by
  induction k with
  | zero => omega
  | succ k ih =>
    simp only [cnt]
    rcases Nat.lt_or_ge l k with e | e
    · rw [ih e (by omega), bit_clear _ _ _ (by omega)]
      have : decide (k = l) = false := by simp; omega
      rw [this]; simp; omega
    · obtain rfl : l = k := by omega
      rw [cnt_same v (v &&& ~~~(1#64 <<< l)) l, hb, bit_clear _ _ _ (by omega), hb]
      · simp
      · intro j hj
        rw [bit_clear _ _ _ (by omega)]
        have : decide (j = l) = false := by simp; omega
        rw [this]; simp
theorem eq_zero_of_bits (v : BitVec 64) (h : ∀ j, j < 64 → bit v j = false) : v = 0#64 := by
  apply BitVec.eq_of_getLsbD_eq
  intro i hi
  rw [show v.getLsbD i = false from h i hi]; simp
/-- The word's two ends. -/
theorem shr_high (v : BitVec 64) (h : Nat) (hh : high v 64 = some h) : v >>> h = 1#64 := by
  obtain ⟨h1, h2, h3⟩ := high_some v 64 h hh
  apply BitVec.eq_of_getLsbD_eq
  intro i hi
  rw [BitVec.getLsbD_ushiftRight, BitVec.getLsbD_one]
  by_cases e : i = 0
  · subst e
    rw [Nat.add_zero, show v.getLsbD h = true from h2]; simp
  · by_cases f : h + i < 64
    · rw [show v.getLsbD (h + i) = false from h3 _ (by omega) f]; simp [e]
    · rw [BitVec.getLsbD_of_ge _ _ (by omega)]; simp [e]
theorem shl_low (v : BitVec 64) (l : Nat) (hl : low v 64 0 = some l) : v <<< (63 - l) = 9223372036854775808#64 := by
  obtain ⟨_, h1, h2, h3⟩ := low_some v 64 0 l hl
  have e0 : 9223372036854775808#64 = 1#64 <<< 63 := by decide
  rw [e0]
  apply BitVec.eq_of_getLsbD_eq
  intro i hi
  rw [one_shl_get _ _ hi, BitVec.getLsbD_shiftLeft]
  by_cases e : i = 63
  · subst e
    rw [show 63 - (63 - l) = l from by omega, show v.getLsbD l = true from h2]
    have : decide (63 < 63 - l) = false := by simp
    rw [this]; simp
  · by_cases f : i < 63 - l
    · simp [f, e]
    · rw [show v.getLsbD (i - (63 - l)) = false from h3 _ (by omega) (by omega)]
      simp [e]

theorem sub64 (a b : BitVec 64) : IntKind.u64.wrap ((a.toNat : Int) - (b.toNat : Int)) = ((a - b).toNat : Int) := by
  rw [IntKind.wrap_u64, BitVec.toNat_sub]
  omega
theorem sub_walk (s z : BitVec 64) (n : Nat) (h : s - z = BitVec.allOnes 64 <<< n) : (IntKind.u64.wrap ((s.toNat : Int) - (z.toNat : Int)) == IntKind.u64.wrap (18446744073709551615 * 2 ^ n)) = true := by
  rw [sub64, h, ← shl64, ← w64]
  have e : (((BitVec.allOnes 64).toNat : Nat) : Int) = 18446744073709551615 := by decide
  rw [e]
  exact beq_self_eq_true _
theorem signed_u64 : IntKind.u64.signed = false := rfl
theorem max_u64 : IntKind.u64.max = (((BitVec.allOnes 64).toNat : Nat) : Int) := by
  rw [BitVec.toNat_allOnes]
  simp [IntKind.max, IntKind.bits, IntKind.signed]
theorem not_walk (v : BitVec 64) : bits .xor .u64 IntKind.u64.max (v.toNat : Int) = ((~~~v).toNat : Int) := by
  rw [max_u64, xor64, of64, of64, BitVec.allOnes_xor]
theorem clear_walk (v : BitVec 64) (l : Nat) : bits .andNot .u64 (v.toNat : Int) (IntKind.u64.wrap (2 ^ l)) = ((v &&& ~~~(1#64 <<< l)).toNat : Int) := by
  rw [one_shl, andNot64, of64, of64]
theorem shr_one (v : BitVec 64) (h : Nat) (e : v >>> h = 1#64) : (v.toNat : Int) / 2 ^ h = 1 := by
  rw [shr64, e]; rfl
theorem shl_top (v : BitVec 64) (k : Nat) (e : v <<< k = 9223372036854775808#64) : (IntKind.u64.wrap ((v.toNat : Int) * 2 ^ k) == 9223372036854775808) = true := by
  rw [w64, shl64, e]
  have : (((9223372036854775808#64 : BitVec 64).toNat : Nat) : Int) = 9223372036854775808 := by decide
  rw [this]
  exact beq_self_eq_true _
theorem neg_walk (s : BitVec 64) (h : s.toInt < 0) : wrap64 (s.toNat : Int) < 0 := by rw [wrap64_bv, of64]; exact h
end Wd
end Go.Proofs.Ythjhcdkbajbpdaa
