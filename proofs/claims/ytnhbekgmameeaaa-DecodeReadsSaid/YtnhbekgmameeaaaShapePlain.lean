/- Plain definitions and lemmas on instruction words: fields, immediates in pieces, and which bit of the word each bit of an immediate is; no program in sight. -/
import Derived.Test.YtnhbekgmameeaaaBitsPlain
namespace Go.Proofs.Ytnhbekgmameeaaa
open Go.RowKit
namespace Wd

/-- A word of 32 bits, as one of 64. -/
def W64 (w : BitVec 32) : BitVec 64 := w.setWidth 64
theorem W64_nat (w : BitVec 32) : ((W64 w).toNat : Int) = (w.toNat : Int) := by
  unfold W64
  rw [BitVec.toNat_setWidth]
  have := w.isLt
  omega
theorem W64_get (w : BitVec 32) (i : Nat) : (W64 w).getLsbD i = w.getLsbD i := by
  unfold W64
  rw [BitVec.getLsbD_setWidth]
  by_cases h : i < 64
  · simp [h]
  · rw [BitVec.getLsbD_of_ge w i (by omega)]; simp
/-- A field of a word of 32 bits, as a number. -/
def fieldI (w : BitVec 32) (hi lo : Int) : Nat := (field (W64 w) hi lo).toNat
theorem fieldI_lt (w : BitVec 32) (hi lo : Int) : fieldI w hi lo < 4294967296 := by
  unfold fieldI
  have h : (field (W64 w) hi lo).toNat ≤ (W64 w).toNat := by
    unfold field
    split
    · rename_i hm
      have hb := (may_iff _ _).1 hm
      rw [fld_toNat _ _ _ (by omega)]
      exact Nat.le_trans (Nat.mod_le _ _) (Nat.div_le_self _ _)
    · simp
  have h2 := W64_nat w
  have := w.isLt
  omega

/-- A field of a word, and where its lowest bit stands in an immediate. -/
structure Piece where
  hi : Nat
  lo : Nat
  to : Nat
def Piece.ok (p : Piece) : Bool := decide (p.lo ≤ p.hi) && decide (p.hi < 32) && decide (p.to < 64)
/-- One more piece. -/
def orSh (a b : BitVec 64) (n : Nat) : BitVec 64 := a ||| b <<< n
theorem orSh_walk (a b : BitVec 64) (n : Nat) : bits .or .u64 (a.toNat : Int) (IntKind.u64.wrap ((b.toNat : Int) * 2 ^ n)) = ((orSh a b n).toNat : Int) := by
  rw [w64, shl64, or64, of64, of64]
  rfl
def gat (W : BitVec 64) (ps : List Piece) : Nat → BitVec 64
  | 0 => 0#64
  | k + 1 => match ps[k]? with
    | some p => orSh (gat W ps k) (field W p.hi p.lo) p.to
    | none => gat W ps k
theorem gat_succ (W : BitVec 64) (ps : List Piece) (k : Nat) (p : Piece) (h : ps[k]? = some p) : gat W ps (k + 1) = orSh (gat W ps k) (field W p.hi p.lo) p.to := by
  simp only [gat, h]
theorem fieldI_one (w : BitVec 32) (s : Nat) (h : s < 32) : fieldI w (s : Int) (s : Int) = if (W64 w).getLsbD s then 1 else 0 := by
  unfold fieldI
  have e := field_one (W64 w) ((s : Int) + 1) (by omega) (by omega)
  rw [show ((s : Int) + 1 - 1) = (s : Int) from by omega, show (((s : Int) + 1).toNat - 1) = s from by omega] at e
  rw [e]
  unfold bit
  cases (W64 w).getLsbD s <;> rfl

/-- The immediate as the reference gathers it: bit k is bit l[k] of the word, where that is no -1. -/
def setBit (v : BitVec 64) (k : Nat) : BitVec 64 := v ||| 1#64 <<< k
theorem setBit_walk (v : BitVec 64) (k : Nat) : bits .or .u64 (v.toNat : Int) (IntKind.u64.wrap (2 ^ k)) = ((setBit v k).toNat : Int) := by
  rw [one_shl, or64, of64, of64]
  rfl
def refV (W : BitVec 64) (l : List Int) : Nat → BitVec 64
  | 0 => 0#64
  | k + 1 => if 0 ≤ l.getD k (-1) ∧ W.getLsbD (l.getD k (-1)).toNat = true then setBit (refV W l k) k else refV W l k
def immR (w : BitVec 32) (l : List Int) : BitVec 64 := sext (refV (W64 w) l l.length) (l.length : Int)
end Wd
end Go.Proofs.Ytnhbekgmameeaaa
