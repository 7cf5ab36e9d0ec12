/- Plain: what a TLB does. -/
import Derived.Test.YthjhcdkbajbpdaaTlbFind
import Derived.Test.YthjhcdkbajbpdaaPlruFinite
namespace Go.Proofs.Ythjhcdkbajbpdaa
open Go.RowKit Wd Pl
set_option linter.unusedVariables false
set_option linter.unusedSimpArgs false
namespace Wd
/-- The lowest way without an entry, from k on; how many there are if none is. -/
def freF (ws : List Wy) : Nat → Nat → Nat
  | 0, k => k
  | f + 1, k => if (wyAt ws k).is = false then k else freF ws f (k + 1)
def freI (ws : List Wy) : Nat := freF ws ws.length 0
theorem freF_hit (ws : List Wy) : ∀ f k i, k ≤ i → i < k + f → (∀ j, k ≤ j → j < i → (wyAt ws j).is = true) → (wyAt ws i).is = false → freF ws f k = i
  | 0, k, i, h1, h2, _, _ => by omega
  | f + 1, k, i, h1, h2, h3, h4 => by
    unfold freF
    by_cases e : k = i
    · subst e
      rw [if_pos h4]
    · rw [if_neg (by rw [h3 k (by omega) (by omega)]; simp)]
      exact freF_hit ws f (k + 1) i (by omega) (by omega) (fun j a b => h3 j (by omega) b) h4
theorem freF_miss (ws : List Wy) : ∀ f k, (∀ j, k ≤ j → j < k + f → (wyAt ws j).is = true) → freF ws f k = k + f
  | 0, k, _ => rfl
  | f + 1, k, h => by
    unfold freF
    rw [if_neg (by rw [h k (by omega) (by omega)]; simp), freF_miss ws f (k + 1) (fun j a b => h j (by omega) (by omega))]
    omega
theorem fre_hit (ws : List Wy) (i : Nat) (h : i < ws.length) (h3 : ∀ j, j < i → (wyAt ws j).is = true) (h4 : (wyAt ws i).is = false) : freI ws = i :=
  freF_hit ws ws.length 0 i (by omega) (by omega) (fun j _ b => h3 j b) h4
theorem fre_miss (ws : List Wy) (h : ∀ j, j < ws.length → (wyAt ws j).is = true) : freI ws = ws.length := by
  have := freF_miss ws ws.length 0 (fun j _ b => h j (by omega))
  unfold freI
  omega
theorem victim_range (s : Int) (n : Nat) (h : n = 2 ∨ n = 4 ∨ n = 8) : 0 ≤ victim s n ∧ victim s n < n := by
  unfold victim
  by_cases hm : mayB s n = true
  · rw [if_pos hm]
    have hd := down_bd s.toNat (lev n)
    rcases h with rfl | rfl | rfl
    · rw [show lev ((2 : Nat) : Int) = 1 from rfl] at *
      omega
    · rw [show lev ((4 : Nat) : Int) = 2 from rfl] at *
      omega
    · rw [show lev ((8 : Nat) : Int) = 3 from rfl] at *
      omega
  · rw [if_neg hm]
    omega
/-- The way in which an entry of an address stands then. -/
def roomN (ws : List Wy) (st : Int) (va : BitVec 64) : Nat := if fndI ws va < ws.length then fndI ws va else if freI ws < ws.length then freI ws else (victim st ws.length).toNat
theorem room_lt (ws : List Wy) (st : Int) (va : BitVec 64) (h : ws.length = 2 ∨ ws.length = 4 ∨ ws.length = 8) : roomN ws st va < ws.length := by
  unfold roomN
  split
  · assumption
  · split
    · assumption
    · have := victim_range st ws.length h
      omega
/-- A leaf, as it is handed over. -/
structure Lf where
  lv : Int
  p0 : Int
  p1 : Int
  p2 : Int
  en : Int
def lfC (f : Lf) : Array Value := #[.int .i64 f.lv, .int .u64 f.p0, .int .u64 f.p1, .int .u64 f.p2, .int .u64 f.en]
def newY (va : BitVec 64) (f : Lf) : Wy := ⟨true, vpnW va f.lv.toNat, f.lv, f.p0, f.p1, f.p2, f.en⟩
def mayP (va : BitVec 64) (f : Lf) : Bool := decide (0 ≤ f.lv) && decide (f.lv ≤ 2) && properB va
def putWs (ws : List Wy) (st : Int) (va : BitVec 64) (f : Lf) : List Wy := if mayP va f then ws.set (roomN ws st va) (newY va f) else ws
def putSt (ws : List Wy) (st : Int) (va : BitVec 64) (f : Lf) : Int := if mayP va f then touch st ws.length (roomN ws st va) else st
end Wd
end Go.Proofs.Ythjhcdkbajbpdaa
