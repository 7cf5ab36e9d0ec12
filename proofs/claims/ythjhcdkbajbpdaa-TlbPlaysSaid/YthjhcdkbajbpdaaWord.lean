/- Plain lemmas on words of 64 bits: what the model's integer operations make of them, as operations on bit vectors; fields of words; no program in sight. -/
import Derived.WalkKit
namespace Go.Proofs.Ythjhcdkbajbpdaa
open Go.RowKit
namespace Wd

/-! ### 1. From the model's integers to bit vectors -/
theorem w64 (x : Int) : IntKind.u64.wrap x = ((BitVec.ofInt 64 x).toNat : Int) := by
  rw [IntKind.wrap_u64, BitVec.toNat_ofInt]
  omega
theorem w32 (x : Int) : IntKind.u32.wrap x = ((BitVec.ofInt 32 x).toNat : Int) := by
  rw [IntKind.wrap_u32', BitVec.toNat_ofInt]
  omega
theorem of64 (a : BitVec 64) : BitVec.ofInt 64 (a.toNat : Int) = a := by
  rw [BitVec.ofInt_natCast, BitVec.ofNat_toNat, BitVec.setWidth_eq]
theorem of32 (a : BitVec 32) : BitVec.ofInt 32 (a.toNat : Int) = a := by
  rw [BitVec.ofInt_natCast, BitVec.ofNat_toNat, BitVec.setWidth_eq]
theorem and64 (x y : Int) : bits .and .u64 x y = ((BitVec.ofInt 64 x &&& BitVec.ofInt 64 y).toNat : Int) := by
  show IntKind.u64.wrap ((BitVec.ofInt 64 x &&& BitVec.ofInt 64 y).toNat : Int) = _
  rw [w64, of64]
theorem or64 (x y : Int) : bits .or .u64 x y = ((BitVec.ofInt 64 x ||| BitVec.ofInt 64 y).toNat : Int) := by
  show IntKind.u64.wrap ((BitVec.ofInt 64 x ||| BitVec.ofInt 64 y).toNat : Int) = _
  rw [w64, of64]
theorem xor64 (x y : Int) : bits .xor .u64 x y = ((BitVec.ofInt 64 x ^^^ BitVec.ofInt 64 y).toNat : Int) := by
  show IntKind.u64.wrap ((BitVec.ofInt 64 x ^^^ BitVec.ofInt 64 y).toNat : Int) = _
  rw [w64, of64]
theorem andNot64 (x y : Int) : bits .andNot .u64 x y = ((BitVec.ofInt 64 x &&& ~~~BitVec.ofInt 64 y).toNat : Int) := by
  show IntKind.u64.wrap ((BitVec.ofInt 64 x &&& ~~~BitVec.ofInt 64 y).toNat : Int) = _
  rw [w64, of64]
theorem and32 (x y : Int) : bits .and .u32 x y = ((BitVec.ofInt 32 x &&& BitVec.ofInt 32 y).toNat : Int) := by
  show IntKind.u32.wrap ((BitVec.ofInt 32 x &&& BitVec.ofInt 32 y).toNat : Int) = _
  rw [w32, of32]
theorem or32 (x y : Int) : bits .or .u32 x y = ((BitVec.ofInt 32 x ||| BitVec.ofInt 32 y).toNat : Int) := by
  show IntKind.u32.wrap ((BitVec.ofInt 32 x ||| BitVec.ofInt 32 y).toNat : Int) = _
  rw [w32, of32]
theorem andNot32 (x y : Int) : bits .andNot .u32 x y = ((BitVec.ofInt 32 x &&& ~~~BitVec.ofInt 32 y).toNat : Int) := by
  show IntKind.u32.wrap ((BitVec.ofInt 32 x &&& ~~~BitVec.ofInt 32 y).toNat : Int) = _
  rw [w32, of32]

/-- A shift to the left, before the wrap. -/
theorem shl64 (a : BitVec 64) (n : Nat) : BitVec.ofInt 64 ((a.toNat : Int) * 2 ^ n) = a <<< n := by
  apply BitVec.eq_of_toNat_eq
  rw [BitVec.toNat_ofInt, BitVec.toNat_shiftLeft, Nat.shiftLeft_eq]
  have h : ((a.toNat : Int) * 2 ^ n) = ((a.toNat * 2 ^ n : Nat) : Int) := by simp
  rw [h]
  omega
theorem shr64 (a : BitVec 64) (n : Nat) : ((a.toNat : Int) / 2 ^ n) = ((a >>> n).toNat : Int) := by
  rw [BitVec.toNat_ushiftRight, Nat.shiftRight_eq_div_pow]
  simp
theorem shl64_cap (a : BitVec 64) (n : Nat) : a <<< (min n 64) = a <<< n := by
  rcases Nat.lt_or_ge n 64 with h | h
  · rw [Nat.min_eq_left (by omega)]
  · rw [Nat.min_eq_right h]
    apply BitVec.eq_of_getLsbD_eq
    intro i hi
    simp only [BitVec.getLsbD_shiftLeft]
    have h1 : decide (i < 64) = true := by simpa using hi
    have h2 : decide (i < n) = true := by simp; omega
    simp [h1, h2]
theorem shr64_cap (a : BitVec 64) (n : Nat) : a >>> (min n 64) = a >>> n := by
  rcases Nat.lt_or_ge n 64 with h | h
  · rw [Nat.min_eq_left (by omega)]
  · rw [Nat.min_eq_right h]
    apply BitVec.eq_of_getLsbD_eq
    intro i hi
    simp only [BitVec.getLsbD_ushiftRight]
    rw [BitVec.getLsbD_of_ge _ _ (by omega), BitVec.getLsbD_of_ge _ _ (by omega)]

/-- Equality and order of the numbers are those of the words. -/
theorem eq64 (a b : BitVec 64) : (((a.toNat : Int)) == (b.toNat : Int)) = (a == b) := by
  rw [Bool.eq_iff_iff]
  simp [Int.ofNat_inj, BitVec.toNat_inj]
theorem ne64 (a b : BitVec 64) : (((a.toNat : Int)) != (b.toNat : Int)) = (a != b) := by
  simp only [bne, eq64]

/-- Is bit k set? -/
def bit (v : BitVec 64) (k : Nat) : Bool := v.getLsbD k

/-! ### 2. The lowest n bits -/
def ones (n : Nat) : BitVec 64 := BitVec.ofNat 64 (2 ^ n - 1)
theorem ones_get (n i : Nat) : (ones n).getLsbD i = (decide (i < 64) && decide (i < n)) := by
  unfold ones
  rw [BitVec.getLsbD_ofNat, Nat.testBit_two_pow_sub_one]
theorem ones_toNat (n : Nat) (h : n ≤ 64) : (ones n).toNat = 2 ^ n - 1 := by
  unfold ones
  rw [BitVec.toNat_ofNat]
  apply Nat.mod_eq_of_lt
  have := Nat.pow_le_pow_right (n := 2) (by omega) h
  have := Nat.two_pow_pos n
  omega
theorem ones_all (n : Nat) (h : 64 ≤ n) : ones n = BitVec.allOnes 64 := by
  apply BitVec.eq_of_getLsbD_eq
  intro i hi
  rw [ones_get, BitVec.getLsbD_allOnes]
  simp [hi]; omega

/-! ### 3. Fields -/
/-- n bits of v, from bit lo on. -/
def fld (v : BitVec 64) (lo n : Nat) : BitVec 64 := (v >>> lo) &&& ones n
theorem fld_get (v : BitVec 64) (lo n i : Nat) : (fld v lo n).getLsbD i = (decide (i < n) && v.getLsbD (lo + i)) := by
  unfold fld
  rw [BitVec.getLsbD_and, BitVec.getLsbD_ushiftRight, ones_get]
  by_cases h : i < 64
  · simp [h, Bool.and_comm]
  · rw [BitVec.getLsbD_of_ge v (lo + i) (by omega)]; simp
theorem fld_toNat (v : BitVec 64) (lo n : Nat) (h : n ≤ 64) : (fld v lo n).toNat = v.toNat / 2 ^ lo % 2 ^ n := by
  unfold fld
  rw [BitVec.toNat_and, BitVec.toNat_ushiftRight, ones_toNat n h, Nat.shiftRight_eq_div_pow, Nat.and_two_pow_sub_one_eq_mod]
theorem fld_zero (v : BitVec 64) (lo : Nat) : fld v lo 0 = 0#64 := by
  apply BitVec.eq_of_getLsbD_eq
  intro i hi
  rw [fld_get]; simp
/-- One bit more, from below. -/
theorem fld_succ (v : BitVec 64) (lo n : Nat) (h : n < 64) : fld v lo (n + 1) = fld v (lo + 1) n * 2#64 + (if v.getLsbD lo then 1#64 else 0#64) := by
  apply BitVec.eq_of_toNat_eq
  have hm : (fld v lo (n + 1)).toNat = 2 * (fld v (lo + 1) n).toNat + v.toNat / 2 ^ lo % 2 := by
    rw [fld_toNat v lo (n + 1) (by omega), fld_toNat v (lo + 1) n (by omega), Nat.pow_succ, Nat.mul_comm (2 ^ n) 2, Nat.mod_mul, Nat.div_div_eq_div_mul, ← Nat.pow_succ, Nat.succ_eq_add_one]
    omega
  have hb : (if v.getLsbD lo then 1#64 else 0#64).toNat = v.toNat / 2 ^ lo % 2 := by
    have : v.getLsbD lo = decide (v.toNat / 2 ^ lo % 2 = 1) := by
      rw [BitVec.getLsbD, Nat.testBit_eq_decide_div_mod_eq]
    rw [this]
    by_cases h1 : v.toNat / 2 ^ lo % 2 = 1
    · simp [h1]
    · simp [h1]; omega
  rw [BitVec.toNat_add, BitVec.toNat_mul, hb, hm]
  have h3 : (fld v (lo + 1) n).toNat < 2 ^ n := by
    rw [fld_toNat v (lo + 1) n (by omega)]
    exact Nat.mod_lt _ (Nat.two_pow_pos n)
  have h4 : 2 ^ n ≤ 2 ^ 63 := Nat.pow_le_pow_right (by omega) (by omega)
  have h5 : (2#64).toNat = 2 := rfl
  rw [h5]
  omega

/-- Is there such a field? -/
def may (hi lo : Int) : Bool := decide (0 ≤ lo ∧ lo ≤ hi ∧ hi < 64)
def field (v : BitVec 64) (hi lo : Int) : BitVec 64 := if may hi lo then fld v lo.toNat (hi - lo + 1).toNat else 0#64

/-- v with n bits from lo on put in from x's lowest. -/
def putN (v : BitVec 64) (lo n : Nat) (x : BitVec 64) : BitVec 64 := (v &&& ~~~(ones n <<< lo)) ||| ((x <<< lo) &&& (ones n <<< lo))
theorem putN_get (v : BitVec 64) (lo n : Nat) (x : BitVec 64) (i : Nat) (hi : i < 64) :
    (putN v lo n x).getLsbD i = if lo ≤ i ∧ i < lo + n then x.getLsbD (i - lo) else v.getLsbD i := by
  unfold putN
  simp only [BitVec.getLsbD_or, BitVec.getLsbD_and, BitVec.getLsbD_not, BitVec.getLsbD_shiftLeft, ones_get]
  by_cases h1 : i < lo
  · simp [h1, hi]; intro; omega
  · by_cases h2 : i - lo < n
    · have : i - lo < 64 := by omega
      rw [if_pos (by omega)]
      simp [h1, h2, hi, this]
    · rw [if_neg (by omega)]
      simp [h1, h2, hi]
def put (v : BitVec 64) (hi lo : Int) (x : BitVec 64) : BitVec 64 := if may hi lo then putN v lo.toNat (hi - lo + 1).toNat x else v

/-! ### 4. Extensions -/
def zextN (v : BitVec 64) (n : Nat) : BitVec 64 := v &&& ones n
theorem zextN_get (v : BitVec 64) (n i : Nat) : (zextN v n).getLsbD i = (decide (i < n) && v.getLsbD i) := by
  unfold zextN
  rw [BitVec.getLsbD_and, ones_get]
  by_cases h : i < 64
  · simp [h, Bool.and_comm]
  · rw [BitVec.getLsbD_of_ge v i (by omega)]; simp
def zext (v : BitVec 64) (n : Int) : BitVec 64 := zextN v n.toNat
def sextN (v : BitVec 64) (n : Nat) : BitVec 64 := (v <<< (64 - n)).sshiftRight (64 - n)
theorem sextN_get (v : BitVec 64) (n i : Nat) (h1 : 1 ≤ n) (h2 : n ≤ 64) (hi : i < 64) : (sextN v n).getLsbD i = v.getLsbD (if i < n then i else n - 1) := by
  unfold sextN
  rw [BitVec.getLsbD_sshiftRight]
  have h0 : decide (64 ≤ i) = false := by simp; omega
  simp only [h0, Bool.not_false, Bool.true_and]
  by_cases h : i < n
  · rw [if_pos (by omega), if_pos h, BitVec.getLsbD_shiftLeft]
    have e1 : decide (64 - n + i < 64) = true := by simp; omega
    have e2 : decide (64 - n + i < 64 - n) = false := by simp
    have e3 : 64 - n + i - (64 - n) = i := by omega
    simp only [e1, e2, e3, Bool.not_false, Bool.true_and]
  · rw [if_neg (by omega), if_neg h, BitVec.msb_eq_getLsbD_last, BitVec.getLsbD_shiftLeft]
    have e1 : decide (64 - 1 < 64) = true := by decide
    have e2 : decide (64 - 1 < 64 - n) = false := by simp; omega
    have e3 : 64 - 1 - (64 - n) = n - 1 := by omega
    simp only [e1, e2, e3, Bool.not_false, Bool.true_and]
def sext (v : BitVec 64) (n : Int) : BitVec 64 := if n < 1 then 0#64 else if 64 ≤ n then v else sextN v n.toNat

/-! ### 5. What the walk leaves, in words -/
theorem ones_walk (n : Nat) (h : n < 64) : IntKind.u64.wrap (IntKind.u64.wrap (2 ^ n) - 1) = ((ones n).toNat : Int) := by
  rw [ones_toNat n (by omega), IntKind.wrap_u64, IntKind.wrap_u64]
  have h1 : (2 : Nat) ^ n ≤ 2 ^ 63 := Nat.pow_le_pow_right (by omega) (by omega)
  have h2 := Nat.two_pow_pos n
  have h3 : ((2 : Int) ^ n) = ((2 ^ n : Nat) : Int) := by simp
  rw [h3]
  omega
theorem ones_walk' : (18446744073709551615 : Int) = ((ones 64).toNat : Int) := by
  rw [ones_toNat 64 (by omega)]
  omega
theorem may_iff (hi lo : Int) : may hi lo = true ↔ 0 ≤ lo ∧ lo ≤ hi ∧ hi < 64 := by unfold may; simp
theorem field_walk (v : BitVec 64) (lo n : Nat) : bits .and .u64 ((v.toNat : Int) / 2 ^ lo) ((ones n).toNat : Int) = ((fld v lo n).toNat : Int) := by
  rw [shr64, and64, of64, of64]
  rfl
theorem wrap64_bv (x : Int) : wrap64 x = (BitVec.ofInt 64 x).toInt := by
  rw [BitVec.toInt_ofInt, Int.bmod_def]
  unfold wrap64
  omega
theorem sext_walk (v : BitVec 64) (m n : Nat) (h : m + n = 64) : IntKind.u64.wrap (wrap64 (IntKind.u64.wrap ((v.toNat : Int) * 2 ^ m)) / 2 ^ m) = ((sextN v n).toNat : Int) := by
  rw [w64, w64, wrap64_bv, of64, shl64]
  unfold sextN
  rw [BitVec.sshiftRight_eq, Int.shiftRight_eq_div_pow]
  have : 64 - n = m := by omega
  rw [this]
  simp
theorem put_walk (v x : BitVec 64) (lo n : Nat) :
    bits .or .u64 (bits .andNot .u64 (v.toNat : Int) (IntKind.u64.wrap (((ones n).toNat : Int) * 2 ^ lo))) (bits .and .u64 (IntKind.u64.wrap ((x.toNat : Int) * 2 ^ lo)) (IntKind.u64.wrap (((ones n).toNat : Int) * 2 ^ lo))) = ((putN v lo n x).toNat : Int) := by
  simp only [w64, shl64, and64, or64, andNot64, of64]
  rfl
theorem zext_walk (v : BitVec 64) (n : Nat) : bits .and .u64 (v.toNat : Int) ((ones n).toNat : Int) = ((zextN v n).toNat : Int) := by
  rw [and64, of64, of64]
  rfl
def aligned (v : BitVec 64) (n : Int) : Bool := decide (1 ≤ n) && ((v.toNat : Int) % n == 0)

/-- One bit of a word, as the program asks it. -/
theorem bit_walk (v : BitVec 64) (k : Nat) : (bits .and .u64 ((v.toNat : Int) / 2 ^ k) 1 == 1) = bit v k := by
  unfold bit
  rw [shr64, and64, of64]
  rw [show (1 : Int) = (((1#64 : BitVec 64).toNat : Nat) : Int) from rfl, of64, eq64]
  have h : v >>> k &&& 1#64 = if v.getLsbD k then 1#64 else 0#64 := by
    apply BitVec.eq_of_getLsbD_eq
    intro i hi
    rw [BitVec.getLsbD_and, BitVec.getLsbD_ushiftRight]
    rcases Nat.eq_zero_or_pos i with h0 | h0
    · subst h0
      cases v.getLsbD k <;> simp
    · have : (1#64).getLsbD i = false := by
        rw [BitVec.getLsbD_one]
        have : ¬ i = 0 := by omega
        simp [this]
      rw [this]
      split <;> simp [*] <;> omega
  rw [h]
  cases v.getLsbD k <;> rfl
theorem fld_step (v : BitVec 64) (p j : Nat) (h : j < 64) : (if v.getLsbD p then IntKind.u64.wrap (IntKind.u64.wrap (((fld v (p + 1) j).toNat : Int) * 2) + 1) else IntKind.u64.wrap (((fld v (p + 1) j).toNat : Int) * 2)) = ((fld v p (j + 1)).toNat : Int) := by
  rw [fld_succ v p j h]
  have e : IntKind.u64.wrap (((fld v (p + 1) j).toNat : Int) * 2) = ((fld v (p + 1) j * 2#64).toNat : Int) := by
    rw [w64]
    congr 2
  rw [e]
  by_cases hb : v.getLsbD p = true
  · rw [if_pos hb, if_pos hb, w64]
    congr 2
  · rw [if_neg hb, if_neg hb]
    congr 2
    exact (BitVec.add_zero _).symm
theorem fld_step1 (v : BitVec 64) (p j : Nat) (h : j < 64) (hb : bit v p = true) : IntKind.u64.wrap (IntKind.u64.wrap (((fld v (p + 1) j).toNat : Int) * 2) + 1) = ((fld v p (j + 1)).toNat : Int) := by
  have := fld_step v p j h
  rwa [if_pos (show v.getLsbD p = true from hb)] at this
theorem fld_step0 (v : BitVec 64) (p j : Nat) (h : j < 64) (hb : bit v p = false) : IntKind.u64.wrap (((fld v (p + 1) j).toNat : Int) * 2) = ((fld v p (j + 1)).toNat : Int) := by
  have := fld_step v p j h
  rwa [if_neg (show ¬ v.getLsbD p = true from by rw [show v.getLsbD p = false from hb]; exact Bool.false_ne_true)] at this

theorem and1_walk (v : BitVec 64) (k : Nat) : bits .and .u64 ((v.toNat : Int) / 2 ^ k) 1 = if bit v k then 1 else 0 := by
  have h := bit_walk v k
  have h2 : bits .and .u64 ((v.toNat : Int) / 2 ^ k) 1 = 0 ∨ bits .and .u64 ((v.toNat : Int) / 2 ^ k) 1 = 1 := by
    rw [shr64, and64, of64]
    rw [show (1 : Int) = (((1#64 : BitVec 64).toNat : Nat) : Int) from rfl, of64, BitVec.toNat_and, BitVec.toNat_one (by omega), Nat.and_one_is_mod]
    omega
  rcases h2 with h2 | h2
  · rw [h2] at h ⊢
    rw [← h]; rfl
  · rw [h2] at h ⊢
    rw [← h]; rfl
theorem bitne_walk (v : BitVec 64) (k : Nat) : (bits .and .u64 ((v.toNat : Int) / 2 ^ k) 1 != 0) = bit v k := by
  rw [and1_walk]
  cases bit v k <;> rfl

/-! ### 6. Counts, the highest bit, the lowest -/
/-- How many of the lowest k bits are set. -/
def cnt (v : BitVec 64) : Nat → Nat
  | 0 => 0
  | k + 1 => cnt v k + (if bit v k then 1 else 0)
theorem cnt_le (v : BitVec 64) (k : Nat) : cnt v k ≤ k := by
  induction k with
  | zero => exact Nat.le_refl _
  | succ k ih => simp only [cnt]; split <;> omega
/-- The highest of the lowest k bits that is set. -/
def high (v : BitVec 64) : Nat → Option Nat
  | 0 => none
  | k + 1 => if bit v k then some k else high v k
/-- The lowest bit that is set, of the n bits from i on. -/
def low (v : BitVec 64) : Nat → Nat → Option Nat
  | 0, _ => none
  | n + 1, i => if bit v i then some i else low v n (i + 1)
def found : Option Nat → Value
  | none => .tuple #[.int .i64 0, .bool false]
  | some k => .tuple #[.int .i64 (k : Int), .bool true]

/-! ### 7. Extensions and fields -/
theorem zext_low (v : BitVec 64) (n : Int) (h : n < 1) : zext v n = 0#64 := by
  unfold zext
  rw [show n.toNat = 0 from by omega]
  apply BitVec.eq_of_getLsbD_eq
  intro i hi
  rw [zextN_get]; simp
theorem zext_all (v : BitVec 64) (n : Int) (h : 64 ≤ n) : zext v n = v := by
  unfold zext
  apply BitVec.eq_of_getLsbD_eq
  intro i hi
  rw [zextN_get]
  have : decide (i < n.toNat) = true := by simp; omega
  rw [this]; simp
theorem zext_field (v : BitVec 64) (n : Int) (h1 : 1 ≤ n) (h2 : n < 64) : zext v n = field v (n - 1) 0 := by
  unfold zext field
  rw [if_pos ((may_iff _ _).2 (by omega))]
  apply BitVec.eq_of_getLsbD_eq
  intro i hi
  rw [zextN_get, fld_get, show (n - 1 - 0 + 1).toNat = n.toNat from by omega]
  simp
theorem putN_zero (v x : BitVec 64) (lo : Nat) : putN v lo 0 x = v := by
  apply BitVec.eq_of_getLsbD_eq
  intro i hi
  rw [putN_get _ _ _ _ _ hi, if_neg (by omega)]
theorem one_shl (k : Nat) : IntKind.u64.wrap (2 ^ k) = ((1#64 <<< k).toNat : Int) := by
  have h := shl64 1#64 k
  rw [← h, ← w64]
  congr 1
  have : ((1#64).toNat : Int) = 1 := rfl
  rw [this]; omega
theorem one_shl_get (k i : Nat) (hi : i < 64) : (1#64 <<< k).getLsbD i = decide (i = k) := by
  rw [BitVec.getLsbD_shiftLeft, BitVec.getLsbD_one]
  by_cases h : i = k
  · subst h; simp [hi]
  · simp [h, hi]; omega
theorem put_step1 (v x : BitVec 64) (l j : Nat) (_ : l + j < 64) (hb : bit x j = true) :
    bits .or .u64 (bits .andNot .u64 ((putN v l j x).toNat : Int) (IntKind.u64.wrap (2 ^ (l + j)))) (IntKind.u64.wrap (2 ^ (l + j))) = ((putN v l (j + 1) x).toNat : Int) := by
  simp only [one_shl, or64, andNot64, of64]
  congr 2
  apply BitVec.eq_of_getLsbD_eq
  intro i hi
  rw [BitVec.getLsbD_or, BitVec.getLsbD_and, BitVec.getLsbD_not, one_shl_get _ _ hi, putN_get _ _ _ _ _ hi, putN_get _ _ _ _ _ hi]
  by_cases e : i = l + j
  · subst e
    rw [if_pos (show l ≤ l + j ∧ l + j < l + (j + 1) by omega), show l + j - l = j from by omega, show x.getLsbD j = true from hb]
    simp
  · have : decide (i = l + j) = false := by simp [e]
    rw [this]
    by_cases e2 : l ≤ i ∧ i < l + j
    · rw [if_pos e2, if_pos (by omega)]; simp [hi]
    · rw [if_neg e2, if_neg (by omega)]; simp [hi]
theorem put_step0 (v x : BitVec 64) (l j : Nat) (_ : l + j < 64) (hb : bit x j = false) :
    bits .andNot .u64 ((putN v l j x).toNat : Int) (IntKind.u64.wrap (2 ^ (l + j))) = ((putN v l (j + 1) x).toNat : Int) := by
  simp only [one_shl, andNot64, of64]
  congr 2
  apply BitVec.eq_of_getLsbD_eq
  intro i hi
  rw [BitVec.getLsbD_and, BitVec.getLsbD_not, one_shl_get _ _ hi, putN_get _ _ _ _ _ hi, putN_get _ _ _ _ _ hi]
  by_cases e : i = l + j
  · subst e
    rw [if_pos (show l ≤ l + j ∧ l + j < l + (j + 1) by omega), show l + j - l = j from by omega, show x.getLsbD j = false from hb]
    simp
  · have : decide (i = l + j) = false := by simp [e]
    rw [this]
    by_cases e2 : l ≤ i ∧ i < l + j
    · rw [if_pos e2, if_pos (by omega)]; simp [hi]
    · rw [if_neg e2, if_neg (by omega)]; simp [hi]
/-- n bits of v, with copies of bit n - 1 in the places n to k - 1. -/
def sextK (v : BitVec 64) (n k : Nat) : BitVec 64 := fld v 0 n ||| (if bit v (n - 1) then ones k &&& ~~~ones n else 0#64)
theorem sextK_get (v : BitVec 64) (n k i : Nat) (hi : i < 64) : (sextK v n k).getLsbD i = if i < n then v.getLsbD i else (decide (i < k) && bit v (n - 1)) := by
  unfold sextK
  rw [BitVec.getLsbD_or, fld_get, Nat.zero_add]
  by_cases hb : bit v (n - 1) = true
  · rw [if_pos hb, hb, BitVec.getLsbD_and, BitVec.getLsbD_not, ones_get, ones_get]
    by_cases h : i < n <;> simp [h, hi]
  · rw [if_neg hb]
    have hb' : bit v (n - 1) = false := by simpa using hb
    rw [hb']
    by_cases h : i < n <;> simp [h]
theorem sextK_start (v : BitVec 64) (n : Nat) : sextK v n n = fld v 0 n := by
  apply BitVec.eq_of_getLsbD_eq
  intro i hi
  rw [sextK_get _ _ _ _ hi, fld_get, Nat.zero_add]
  by_cases h : i < n <;> simp [h]
theorem sextK_none (v : BitVec 64) (n k : Nat) (h : bit v (n - 1) = false) : sextK v n k = fld v 0 n := by
  unfold sextK
  rw [h]; simp
theorem sextK_end (v : BitVec 64) (n : Nat) (h1 : 1 ≤ n) (h2 : n ≤ 64) : sextK v n 64 = sextN v n := by
  apply BitVec.eq_of_getLsbD_eq
  intro i hi
  rw [sextK_get _ _ _ _ hi, sextN_get _ _ _ h1 h2 hi]
  have : decide (i < 64) = true := by simpa using hi
  rw [this, Bool.true_and]
  split <;> rfl
theorem sext_step (v : BitVec 64) (n k : Nat) (_ : k < 64) (hn : n ≤ k) (hb : bit v (n - 1) = true) :
    bits .or .u64 ((sextK v n k).toNat : Int) (IntKind.u64.wrap (2 ^ k)) = ((sextK v n (k + 1)).toNat : Int) := by
  simp only [one_shl, or64, of64]
  congr 2
  apply BitVec.eq_of_getLsbD_eq
  intro i hi
  rw [BitVec.getLsbD_or, one_shl_get _ _ hi, sextK_get _ _ _ _ hi, sextK_get _ _ _ _ hi, hb]
  by_cases e : i = k
  · subst e
    rw [if_neg (by omega), if_neg (by omega)]
    simp
  · by_cases e2 : i < n
    · rw [if_pos e2, if_pos e2]; simp [e]
    · rw [if_neg e2, if_neg e2]
      simp [e]; omega

/-! ### 8. Bytes -/
def byteAt (v : BitVec 64) (i : Nat) : Int := ((v >>> (8 * i)).toNat % 256 : Nat)
def bytesOf (v : BitVec 64) (k : Nat) : List Value := (List.range k).map fun i => .int .u8 (byteAt v i)
theorem byte_walk (v : BitVec 64) (k : Nat) : IntKind.u8.wrap ((v.toNat : Int) / 2 ^ (8 * k)) = byteAt v k := by
  rw [shr64, IntKind.wrap_u8']
  unfold byteAt
  omega
theorem byteAt_eq (v : BitVec 64) (k : Nat) : (v.toNat : Int) / 2 ^ (8 * k) % 256 = byteAt v k := by
  rw [shr64]
  unfold byteAt
  omega
theorem byte_field (v : BitVec 64) (k : Nat) (h : k < 8) : ((field v (8 * (k : Int) + 7) (8 * (k : Int))).toNat : Int) % 256 = byteAt v k := by
  unfold field
  rw [if_pos ((may_iff _ _).2 (by omega)), show (8 * (k : Int) + 7 - 8 * (k : Int) + 1).toNat = 8 from by omega, show (8 * (k : Int)).toNat = 8 * k from by omega, fld_toNat _ _ _ (by omega)]
  unfold byteAt
  rw [BitVec.toNat_ushiftRight, Nat.shiftRight_eq_div_pow]
  omega
theorem bytesOf_succ (v : BitVec 64) (k : Nat) : bytesOf v (k + 1) = bytesOf v k ++ [.int .u8 (byteAt v k)] := by
  unfold bytesOf
  rw [List.range_succ, List.map_append]
  rfl
theorem bytesOf_length (v : BitVec 64) (k : Nat) : (bytesOf v k).length = k := by simp [bytesOf]

end Wd
end Go.Proofs.Ythjhcdkbajbpdaa
