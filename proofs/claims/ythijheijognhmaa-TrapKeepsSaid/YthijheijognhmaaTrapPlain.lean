/- Plain definitions and lemmas on traps: what a trap makes of a core; no program in sight. -/
import Derived.Test.YthijheijognhmaaHart
namespace Go.Proofs.Ythijheijognhmaa
open Go.RowKit
namespace Wd

/-! ### Words, and numbers that are written out -/
def andL (v : BitVec 64) (n : Int) : BitVec 64 := v &&& BitVec.ofInt 64 n
def orL (v : BitVec 64) (n : Int) : BitVec 64 := v ||| BitVec.ofInt 64 n
def clrL (v : BitVec 64) (n : Int) : BitVec 64 := v &&& ~~~BitVec.ofInt 64 n
theorem and_L (v : BitVec 64) (n : Int) : bits .and .u64 (v.toNat : Int) n = ((andL v n).toNat : Int) := by rw [and64, of64]; rfl
theorem or_L (v : BitVec 64) (n : Int) : bits .or .u64 (v.toNat : Int) n = ((orL v n).toNat : Int) := by rw [or64, of64]; rfl
theorem clr_L (v : BitVec 64) (n : Int) : bits .andNot .u64 (v.toNat : Int) n = ((clrL v n).toNat : Int) := by rw [andNot64, of64]; rfl
theorem ofInt_pow (k i : Nat) (hi : i < 64) (n : Int) (hn : n = ((2 ^ k : Nat) : Int)) : (BitVec.ofInt 64 n).getLsbD i = decide (i = k) := by
  rw [hn, BitVec.ofInt_natCast, BitVec.getLsbD_ofNat, decide_eq_true hi, Bool.true_and, Nat.testBit_two_pow]
  exact decide_eq_decide.2 ⟨fun h => h.symm, fun h => h.symm⟩
theorem andL_pow (v : BitVec 64) (k : Nat) (hk : k < 64) (n : Int) (hn : n = ((2 ^ k : Nat) : Int)) : ((andL v n).toNat : Int) = if v.getLsbD k then n else 0 := by
  have e : andL v n = if v.getLsbD k then BitVec.ofInt 64 n else 0#64 := by
    apply BitVec.eq_of_getLsbD_eq
    intro i hi
    unfold andL
    rw [BitVec.getLsbD_and, ofInt_pow k i hi n hn]
    by_cases c : i = k
    · subst c
      cases hv : v.getLsbD i
      · simp
      · simp only [if_true]
        rw [ofInt_pow i i hi n hn]; simp
    · cases hv : v.getLsbD k
      · simp [c]
      · simp only [if_true]
        rw [ofInt_pow k i hi n hn]; simp [c]
  rw [e]
  cases v.getLsbD k
  · rfl
  · simp only [if_true]
    rw [hn, BitVec.ofInt_natCast, BitVec.toNat_ofNat, Nat.mod_eq_of_lt (Nat.pow_lt_pow_right (by omega) hk)]
theorem andL_mask (v : BitVec 64) (k : Nat) (hk : k ≤ 64) (n : Int) (hn : n = ((2 ^ k - 1 : Nat) : Int)) : (andL v n).toNat = v.toNat % 2 ^ k := by
  unfold andL
  have hp : 2 ^ k ≤ 2 ^ 64 := Nat.pow_le_pow_right (by omega) hk
  rw [hn, BitVec.ofInt_natCast, BitVec.toNat_and, BitVec.toNat_ofNat, Nat.mod_eq_of_lt (by omega), Nat.and_two_pow_sub_one_eq_mod]
theorem top64 (v : BitVec 64) : ((v.toNat : Int) / 9223372036854775808) = if v.getLsbD 63 then 1 else 0 := by
  have hl := v.isLt
  have e : v.getLsbD 63 = decide (9223372036854775808 ≤ v.toNat) := by
    have := BitVec.msb_eq_decide v
    rw [BitVec.msb_eq_getLsbD_last] at this
    simpa using this
  rw [e]
  by_cases h : 9223372036854775808 ≤ v.toNat
  · rw [decide_eq_true h]; simp; omega
  · rw [decide_eq_false h]; simp; omega

/-! ### A trap -/
def moveW (s : BitVec 64) (x y : Int) : BitVec 64 := if andL s x = 0#64 then clrL s y else orL s y
def numC (c : BitVec 64) : Nat := c.toNat % 64
theorem numC_lt (c : BitVec 64) : numC c < 64 := Nat.mod_lt _ (by omega)
theorem andL_63 (c : BitVec 64) : ((andL c 63).toNat : Int) = (numC c : Int) := by rw [andL_mask c 6 (by omega) 63 (by decide)]; rfl
/-- So many words on. -/
def addK (a : BitVec 64) (n : Nat) : BitVec 64 := a + BitVec.ofNat 64 (4 * n)
theorem addK_walk (a : BitVec 64) (n : Nat) : IntKind.u64.wrap ((a.toNat : Int) + IntKind.u64.wrap (4 * (n : Int))) = ((addK a n).toNat : Int) := by
  unfold addK
  rw [w64, w64, BitVec.ofInt_add, of64, of64, show 4 * (n : Int) = ((4 * n : Nat) : Int) from by omega, BitVec.ofInt_natCast]
theorem addK_walk2 (a : BitVec 64) (n : Nat) : IntKind.u64.wrap ((a.toNat : Int) + 4 * (n : Int)) = ((addK a n).toNat : Int) := by
  unfold addK
  rw [w64, BitVec.ofInt_add, of64, show 4 * (n : Int) = ((4 * n : Nat) : Int) from by omega, BitVec.ofInt_natCast]
def placeW (vec c : BitVec 64) : BitVec 64 := if vec.getLsbD 0 && c.getLsbD 63 then addK (clrL vec 3) (numC c) else clrL vec 3
def degW (h : Hart) (c : BitVec 64) : BitVec 64 := if c.getLsbD 63 then h.ideleg else h.edeleg
def goesB (h : Hart) (c : BitVec 64) : Bool := (decide (h.priv = 0) || decide (h.priv = 1)) && bit (degW h c) (numC c)
/-- A privilege, where a status has it. -/
def mppI (p : Int) : Int := bits .and .u64 (IntKind.u64.wrap (IntKind.u64.wrap p * 2048)) 6144
def enterS (h : Hart) (c t : BitVec 64) : Hart :=
  { h with res := false, resAt := 0#64, scause := andL c 9223372036854775871, sepc := clrL h.pc 3, stval := t,
           status := if h.priv = 1 then orL (clrL (moveW h.status 2 32) 258) 256 else clrL (moveW h.status 2 32) 258, priv := 1, pc := placeW h.stvec c }
def enterM (h : Hart) (c t : BitVec 64) : Hart :=
  { h with res := false, resAt := 0#64, cause := andL c 9223372036854775871, epc := clrL h.pc 3, tval := t,
           status := orL (clrL (moveW h.status 8 128) 6152) (mppI h.priv), priv := 3, pc := placeW h.tvec c }
def enterH (h : Hart) (c t : BitVec 64) : Hart := if goesB h c then enterS h c t else enterM h c t
/-- The privilege that a status has. -/
def backI (s : BitVec 64) : Int := if s.toNat / 2048 % 4 = 2 then 3 else ((s.toNat / 2048 % 4 : Nat) : Int)
/-! ### The document's way -/
def putW (s : BitVec 64) (y : Int) (on : Bool) : BitVec 64 := if on then orL s y else clrL s y
theorem putW_move (s : BitVec 64) (x y : Int) : putW s y (((andL s x).toNat : Int) != 0) = moveW s x y := by
  unfold putW moveW
  by_cases h : andL s x = 0#64
  · rw [h]; simp
  · have e : ¬ ((andL s x).toNat : Int) = 0 := fun k => h (BitVec.eq_of_toNat_eq (by simpa using k))
    rw [if_neg h, if_pos (by simpa using e)]
theorem clr_two (s : BitVec 64) (a b c : Int) (h : ~~~BitVec.ofInt 64 c = ~~~BitVec.ofInt 64 a &&& ~~~BitVec.ofInt 64 b) : clrL s c = clrL (clrL s a) b := by
  unfold clrL
  rw [h, BitVec.and_assoc]
theorem clr_or (s : BitVec 64) (b : Int) : orL (clrL s b) b = orL s b := by
  unfold orL clrL
  apply BitVec.eq_of_getLsbD_eq
  intro i hi
  rw [BitVec.getLsbD_or, BitVec.getLsbD_and, BitVec.getLsbD_not, decide_eq_true hi, BitVec.getLsbD_or]
  cases s.getLsbD i <;> cases (BitVec.ofInt 64 b).getLsbD i <;> rfl
theorem andI3 (x : Int) : bits .and .i64 x 3 = ((BitVec.ofInt 64 x &&& 3#64).toNat : Int) := by
  show IntKind.i64.wrap ((BitVec.ofInt 64 x &&& BitVec.ofInt 64 3).toNat : Int) = _
  rw [show BitVec.ofInt 64 3 = 3#64 from rfl]
  refine IntWalk.i64_in _ ?_
  have : (BitVec.ofInt 64 x &&& 3#64).toNat < 4 := by
    rw [BitVec.toNat_and, show (3#64 : BitVec 64).toNat = 2 ^ 2 - 1 from rfl, Nat.and_two_pow_sub_one_eq_mod]
    exact Nat.mod_lt _ (by omega)
  omega
theorem mpp_same (p : Int) : IntKind.u64.wrap (IntKind.u64.wrap (bits .and .i64 p 3) * 2048) = mppI p := by
  unfold mppI
  rw [andI3, w64, w64, w64, w64, of64, show ((2048 : Int)) = 2 ^ 11 from by decide, shl64, shl64, and64, of64, show BitVec.ofInt 64 6144 = 3#64 <<< 11 from by decide, ← BitVec.shiftLeft_and_distrib]
end Wd
end Go.Proofs.Ythijheijognhmaa
