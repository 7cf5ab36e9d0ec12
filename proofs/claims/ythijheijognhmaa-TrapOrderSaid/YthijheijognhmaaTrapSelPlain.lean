/- Plain definitions on interrupts: what is pending, which comes first, which is taken. -/
import Derived.Test.YthijheijognhmaaTrapPlain
import Derived.Test.YthijheijognhmaaHartC
namespace Go.Proofs.Ythijheijognhmaa
open Go.RowKit
set_option linter.unusedVariables false
set_option linter.unusedSimpArgs false
namespace Wd
structure Env where
  cycle : BitVec 64
  time : BitVec 64
  lines : BitVec 64
  hpm : Nat → BitVec 64
  int : Bool
  dev : BitVec 64
  devErr : Bool
def envL (e : Env) : List Value := [.int .u64 (e.cycle.toNat : Int), .int .u64 (e.time.toNat : Int), .int .u64 (e.lines.toNat : Int), .int .u64 ((e.hpm 0).toNat : Int), .int .u64 ((e.hpm 1).toNat : Int), .int .u64 ((e.hpm 2).toNat : Int), .int .u64 ((e.hpm 3).toNat : Int), .bool e.int, .int .u64 (e.dev.toNat : Int), .bool e.devErr]
def envC (e : Env) : Array Value := (envL e).toArray
theorem env_size (e : Env) : (envC e).size = 10 := rfl
theorem env_one (e : Env) : (envC e).all (·.oneCell') = true := by simp [envC, envL, Value.oneCell']
theorem env_get_lines (e : Env) : (envC e)[2]? = some (.int .u64 (e.lines.toNat : Int)) := rfl
theorem env_set_lines (e : Env) (v : BitVec 64) : (envC e).setIfInBounds 2 (.int .u64 (v.toNat : Int)) = envC { e with lines := v } := rfl

def pendW (h : Hart) (e : Env) : BitVec 64 := orL h.ip ((andL e.lines 2696).toNat : Int)
def onW (h : Hart) (e : Env) : BitVec 64 := andL (pendW h e) (h.ie.toNat : Int)
def ordN : Nat → Nat
  | 0 => 11
  | 1 => 3
  | 2 => 7
  | 3 => 9
  | 4 => 1
  | _ => 5
theorem ordN_lt (k : Nat) : ordN k < 64 := by unfold ordN; split <;> omega
/-- The first that a test lets go, from the k-th on. -/
def firstFrom (t : Nat → Bool) : Nat → Nat → Option Nat
  | 0, _ => none
  | f + 1, k => if t (ordN k) then some (ordN k) else firstFrom t f (k + 1)
def firstO (t : Nat → Bool) : Option Nat := firstFrom t 6 0
def causeV : Option Nat → Int
  | some n => 9223372036854775808 + (n : Int)
  | none => 0
theorem first_step (t : Nat → Bool) (f k : Nat) (h : t (ordN k) = false) : firstFrom t (f + 1) k = firstFrom t f (k + 1) := if_neg (by simp [h])
theorem first_hit (t : Nat → Bool) (f k : Nat) (h : t (ordN k) = true) : firstFrom t (f + 1) k = some (ordN k) := if_pos h
theorem first_congr (t u : Nat → Bool) (h : ∀ k, t (ordN k) = u (ordN k)) : ∀ f k, firstFrom t f k = firstFrom u f k := by
  intro f
  induction f with
  | zero => intro k; rfl
  | succ f ih => intro k; simp only [firstFrom, h, ih]
theorem or_top (k : Nat) : bits .or .u64 9223372036854775808 (ordN k : Int) = 9223372036854775808 + (ordN k : Int) := by
  unfold ordN
  split <;> decide
theorem bit_and (v u : BitVec 64) (k : Nat) : bit (andL v (u.toNat : Int)) k = (bit v k && bit u k) := by
  unfold bit andL
  rw [of64, BitVec.getLsbD_and]
theorem bit_clr (v u : BitVec 64) (k : Nat) (h : k < 64) : bit (clrL v (u.toNat : Int)) k = (bit v k && !bit u k) := by
  unfold bit clrL
  rw [of64, BitVec.getLsbD_and, BitVec.getLsbD_not, decide_eq_true h, Bool.true_and]
/-- May Machine's interrupts be taken? Super's? -/
def mOK (h : Hart) : Bool := decide (h.priv ≠ 3) || bit h.status 3
def sOK (h : Hart) : Bool := decide (h.priv = 0) || (decide (h.priv = 1) && bit h.status 1)
def mT (h : Hart) (e : Env) (n : Nat) : Bool := bit (onW h e) n && !bit h.ideleg n
def sT (h : Hart) (e : Env) (n : Nat) : Bool := bit (onW h e) n && bit h.ideleg n
def selO (h : Hart) (e : Env) : Option Nat :=
  match (if mOK h then firstO (mT h e) else none) with
  | some n => some n
  | none => if sOK h then firstO (sT h e) else none
theorem selO_none (h : Hart) (e : Env) (a : (if mOK h then firstO (mT h e) else none) = none) : selO h e = if sOK h then firstO (sT h e) else none := by unfold selO; rw [a]
theorem selO_some (h : Hart) (e : Env) (n : Nat) (a : (if mOK h then firstO (mT h e) else none) = some n) : selO h e = some n := by unfold selO; rw [a]
theorem first_and (h : Hart) (e : Env) : firstO (bit (andL (onW h e) (h.ideleg.toNat : Int))) = firstO (sT h e) := first_congr _ _ (fun k => bit_and _ _ _) 6 0
theorem first_clr (h : Hart) (e : Env) : firstO (bit (clrL (onW h e) (h.ideleg.toNat : Int))) = firstO (mT h e) := first_congr _ _ (fun k => bit_clr _ _ _ (ordN_lt k)) 6 0
end Wd
end Go.Proofs.Ythijheijognhmaa
