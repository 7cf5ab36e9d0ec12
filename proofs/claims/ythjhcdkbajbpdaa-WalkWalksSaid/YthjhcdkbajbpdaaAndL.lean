/- Words and numbers that are written out: what the walk leaves of their bits. -/
import Derived.Test.YthjhcdkbajbpdaaWord
namespace Go.Proofs.Ythjhcdkbajbpdaa
open Go.RowKit
set_option linter.unusedVariables false
set_option linter.unusedSimpArgs false
namespace Wd
/-! ### Words, and numbers that are written out -/
def andL (v : BitVec 64) (n : Int) : BitVec 64 := v &&& BitVec.ofInt 64 n
def orL (v : BitVec 64) (n : Int) : BitVec 64 := v ||| BitVec.ofInt 64 n
def clrL (v : BitVec 64) (n : Int) : BitVec 64 := v &&& ~~~BitVec.ofInt 64 n
theorem and_L (v : BitVec 64) (n : Int) : bits .and .u64 (v.toNat : Int) n = ((andL v n).toNat : Int) := by rw [and64, of64]; rfl
theorem or_L (v : BitVec 64) (n : Int) : bits .or .u64 (v.toNat : Int) n = ((orL v n).toNat : Int) := by rw [or64, of64]; rfl
theorem clr_L (v : BitVec 64) (n : Int) : bits .andNot .u64 (v.toNat : Int) n = ((clrL v n).toNat : Int) := by rw [andNot64, of64]; rfl
theorem ofInt_pow (k i : Nat) (hi : i < 64) (n : Int) (hn : n = ((2 ^ k : Nat) : Int)) : (BitVec.ofInt 64 n).getLsbD i = decide (i = k) := by
  rw [hn, BitVec.ofInt_natCast, BitVec.getLsbD_ofNat, decide_eq_true hi, Bool.true_and, Nat.testBit_two_pow]
  exact decide_eq_decide.2 ⟨fun h => h.symm, fun h => h.symm⟩
theorem andL_pow (v : BitVec 64) (k : Nat) (hk : k < 64) (n : Int) (hn : n = ((2 ^ k : Nat) : Int)) : ((andL v n).toNat : Int) = if v.getLsbD k then n else 0 := by
  have e : andL v n = if v.getLsbD k then BitVec.ofInt 64 n else 0#64 := by
    apply BitVec.eq_of_getLsbD_eq
    intro i hi
    unfold andL
    rw [BitVec.getLsbD_and, ofInt_pow k i hi n hn]
    by_cases c : i = k
    · subst c
      cases hv : v.getLsbD i
      · simp
      · simp only [if_true]
        rw [ofInt_pow i i hi n hn]; simp
    · cases hv : v.getLsbD k
      · simp [c]
      · simp only [if_true]
        rw [ofInt_pow k i hi n hn]; simp [c]
  rw [e]
  cases v.getLsbD k
  · rfl
  · simp only [if_true]
    rw [hn, BitVec.ofInt_natCast, BitVec.toNat_ofNat, Nat.mod_eq_of_lt (Nat.pow_lt_pow_right (by omega) hk)]
theorem andL_mask (v : BitVec 64) (k : Nat) (hk : k ≤ 64) (n : Int) (hn : n = ((2 ^ k - 1 : Nat) : Int)) : (andL v n).toNat = v.toNat % 2 ^ k := by
  unfold andL
  have hp : 2 ^ k ≤ 2 ^ 64 := Nat.pow_le_pow_right (by omega) hk
  rw [hn, BitVec.ofInt_natCast, BitVec.toNat_and, BitVec.toNat_ofNat, Nat.mod_eq_of_lt (by omega), Nat.and_two_pow_sub_one_eq_mod]
theorem top64 (v : BitVec 64) : ((v.toNat : Int) / 9223372036854775808) = if v.getLsbD 63 then 1 else 0 := by
  have hl := v.isLt
  have e : v.getLsbD 63 = decide (9223372036854775808 ≤ v.toNat) := by
    have := BitVec.msb_eq_decide v
    rw [BitVec.msb_eq_getLsbD_last] at this
    simpa using this
  rw [e]
  by_cases h : 9223372036854775808 ≤ v.toNat
  · rw [decide_eq_true h]; simp; omega
  · rw [decide_eq_false h]; simp; omega

theorem get_or (v : BitVec 64) (n : Int) (k : Nat) : (orL v n).getLsbD k = (v.getLsbD k || (BitVec.ofInt 64 n).getLsbD k) := by unfold orL; rw [BitVec.getLsbD_or]
theorem get_clr (v : BitVec 64) (n : Int) (k : Nat) (h : k < 64) : (clrL v n).getLsbD k = (v.getLsbD k && !(BitVec.ofInt 64 n).getLsbD k) := by
  unfold clrL
  rw [BitVec.getLsbD_and, BitVec.getLsbD_not, decide_eq_true h, Bool.true_and]
theorem get_and (v : BitVec 64) (n : Int) (k : Nat) : (andL v n).getLsbD k = (v.getLsbD k && (BitVec.ofInt 64 n).getLsbD k) := by unfold andL; rw [BitVec.getLsbD_and]
theorem andL_ne (v : BitVec 64) (k : Nat) (hk : k < 64) (n : Int) (hn : n = ((2 ^ k : Nat) : Int)) : (((andL v n).toNat : Int) != 0) = v.getLsbD k := by
  rw [andL_pow v k hk n hn]
  cases v.getLsbD k with
  | false => rfl
  | true =>
    have h := Nat.two_pow_pos k
    rw [if_pos rfl, hn]
    generalize 2 ^ k = q at h
    rw [bne_iff_ne]
    omega
theorem andL_eq (v : BitVec 64) (k : Nat) (hk : k < 64) (n : Int) (hn : n = ((2 ^ k : Nat) : Int)) : (((andL v n).toNat : Int) == 0) = !v.getLsbD k := by
  have := andL_ne v k hk n hn
  rw [← this, bne, Bool.not_not]
end Wd
end Go.Proofs.Ythjhcdkbajbpdaa
