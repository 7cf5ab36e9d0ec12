/- Plain lemmas on atomic operations: order with signs by way of the highest bit; what an operation makes of two words. -/
import Derived.Test.YthijheijognhmaaBitsPlain
namespace Go.Proofs.Ythijheijognhmaa
open Go.RowKit
namespace Wd

theorem wrap64_toInt (s : BitVec 64) : wrap64 (s.toNat : Int) = s.toInt := by rw [wrap64_bv, of64]
theorem xor_top (x : BitVec 64) : x ^^^ 9223372036854775808#64 = x + 9223372036854775808#64 := by
  have hM : ∀ i, i < 64 → (9223372036854775808#64 : BitVec 64).getLsbD i = decide (i = 63) := by
    intro i hi
    rw [show (9223372036854775808#64 : BitVec 64) = 1#64 <<< 63 from by decide, one_shl_get _ _ hi]
  by_cases h : x.getLsbD 63 = true
  · have hy : x = (x ^^^ 9223372036854775808#64) + 9223372036854775808#64 := by
      rw [BitVec.add_eq_or_of_and_eq_zero]
      · apply BitVec.eq_of_getLsbD_eq
        intro i hi
        rw [BitVec.getLsbD_or, BitVec.getLsbD_xor, hM i hi]
        by_cases e : i = 63
        · subst e; simp [h]
        · simp [e]
      · apply BitVec.eq_of_getLsbD_eq
        intro i hi
        rw [BitVec.getLsbD_and, BitVec.getLsbD_xor, hM i hi]
        by_cases e : i = 63
        · subst e; simp [h]
        · simp [e]
    have hz : (9223372036854775808#64 : BitVec 64) + 9223372036854775808#64 = 0#64 := by decide
    calc x ^^^ 9223372036854775808#64 = (x ^^^ 9223372036854775808#64) + 0#64 := (BitVec.add_zero _).symm
      _ = (x ^^^ 9223372036854775808#64) + (9223372036854775808#64 + 9223372036854775808#64) := by rw [hz]
      _ = ((x ^^^ 9223372036854775808#64) + 9223372036854775808#64) + 9223372036854775808#64 := (BitVec.add_assoc _ _ _).symm
      _ = x + 9223372036854775808#64 := by rw [← hy]
  · have h' : x.getLsbD 63 = false := by simpa using h
    rw [BitVec.add_eq_or_of_and_eq_zero]
    · apply BitVec.eq_of_getLsbD_eq
      intro i hi
      rw [BitVec.getLsbD_or, BitVec.getLsbD_xor, hM i hi]
      by_cases e : i = 63
      · subst e; rw [h']; rfl
      · simp [e]
    · apply BitVec.eq_of_getLsbD_eq
      intro i hi
      rw [BitVec.getLsbD_and, hM i hi]
      by_cases e : i = 63
      · subst e; rw [h']; rfl
      · simp [e]
theorem xor_lt (s t : BitVec 64) : (bits .xor .u64 (s.toNat : Int) 9223372036854775808 < bits .xor .u64 (t.toNat : Int) 9223372036854775808) = (s.toInt < t.toInt) := by
  have e : BitVec.ofInt 64 9223372036854775808 = 9223372036854775808#64 := by decide
  rw [xor64, xor64, of64, of64, e, xor_top, xor_top, BitVec.toNat_add, BitVec.toNat_add, BitVec.toInt_eq_toNat_cond, BitVec.toInt_eq_toNat_cond]
  have h3 : (9223372036854775808#64 : BitVec 64).toNat = 9223372036854775808 := by decide
  rw [h3]
  apply propext
  have h1 := s.isLt
  have h2 := t.isLt
  split <;> split <;> omega

/-- Sums and bits of words, behind names (the walk writes a word's operations out as numbers'). -/
def addW (a b : BitVec 64) : BitVec 64 := a + b
def xorW (a b : BitVec 64) : BitVec 64 := a ^^^ b
def orW (a b : BitVec 64) : BitVec 64 := a ||| b
def andW (a b : BitVec 64) : BitVec 64 := a &&& b
/-- What the operation makes of two words, cut to size; none: there is no such operation. -/
def amoF (op : Int) (u v : BitVec 64) (below : Bool) : Option (BitVec 64) :=
  if op = 1 then some v else if op = 0 then some (addW u v) else if op = 4 then some (xorW u v) else if op = 8 then some (orW u v) else if op = 12 then some (andW u v)
  else if op = 16 then some (if below then u else v) else if op = 20 then some (if below then v else u)
  else if op = 24 then some (if u.toNat ≤ v.toNat then u else v) else if op = 28 then some (if u.toNat < v.toNat then v else u) else none
def amoNew (op size : Int) (old x : BitVec 64) : Option (BitVec 64) :=
  if size = 4 ∨ size = 8 then (amoF op (zext old (8 * size)) (zext x (8 * size)) (decide ((sext old (8 * size)).toInt < (sext x (8 * size)).toInt))).map (zext · (8 * size)) else none
def amoVal : Option (BitVec 64) → Value
  | none => .tuple #[.int .u64 0, .int .i64 1]
  | some r => .tuple #[.int .u64 (r.toNat : Int), .int .i64 0]
theorem amoNew_none (op size : Int) (old x : BitVec 64) (h1 : ¬ size = 4) (h2 : ¬ size = 8) : amoNew op size old x = none := by
  unfold amoNew
  rw [if_neg (by omega)]
theorem amoNew_at (op size : Int) (old x : BitVec 64) (h : size = 4 ∨ size = 8) (r : Option (BitVec 64)) (hr : amoF op (zext old (8 * size)) (zext x (8 * size)) (decide ((sext old (8 * size)).toInt < (sext x (8 * size)).toInt)) = r) :
    amoNew op size old x = r.map (zext · (8 * size)) := by
  unfold amoNew
  rw [if_pos h, hr]
theorem amoF_none (op : Int) (u v : BitVec 64) (b : Bool) (h1 : ¬ op = 1) (h0 : ¬ op = 0) (h4 : ¬ op = 4) (h8 : ¬ op = 8) (h12 : ¬ op = 12) (h16 : ¬ op = 16) (h20 : ¬ op = 20) (h24 : ¬ op = 24) (h28 : ¬ op = 28) : amoF op u v b = none := by
  unfold amoF
  simp [h1, h0, h4, h8, h12, h16, h20, h24, h28]
theorem add64 (a b : BitVec 64) : IntKind.u64.wrap ((a.toNat : Int) + (b.toNat : Int)) = ((addW a b).toNat : Int) := by
  unfold addW
  rw [IntKind.wrap_u64, BitVec.toNat_add]
  omega
theorem xor64' (a b : BitVec 64) : bits .xor .u64 (a.toNat : Int) (b.toNat : Int) = ((xorW a b).toNat : Int) := by rw [xor64, of64, of64]; rfl
theorem or64' (a b : BitVec 64) : bits .or .u64 (a.toNat : Int) (b.toNat : Int) = ((orW a b).toNat : Int) := by rw [or64, of64, of64]; rfl
theorem and64' (a b : BitVec 64) : bits .and .u64 (a.toNat : Int) (b.toNat : Int) = ((andW a b).toNat : Int) := by rw [and64, of64, of64]; rfl
end Wd
end Go.Proofs.Ythijheijognhmaa
