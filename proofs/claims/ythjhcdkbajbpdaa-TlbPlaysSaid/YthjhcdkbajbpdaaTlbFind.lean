/- Contract: the lowest way whose entry is of an address. -/
import Derived.Test.YthjhcdkbajbpdaaTb
import Derived.Deep.Cut
import Derived.Outline
namespace Go.Proofs.Ythjhcdkbajbpdaa
open Go.RowKit Wd
set_option linter.unusedVariables false
set_option linter.unusedSimpArgs false
set_option maxRecDepth 8000
namespace Wd
/-- The lowest way of an address, from k on; how many there are if none is. -/
def fndF (ws : List Wy) (va : BitVec 64) : Nat → Nat → Nat
  | 0, k => k
  | f + 1, k => if ofB (wyAt ws k) va = true then k else fndF ws va f (k + 1)
def fndI (ws : List Wy) (va : BitVec 64) : Nat := fndF ws va ws.length 0
theorem fndF_hit (ws : List Wy) (va : BitVec 64) : ∀ f k i, k ≤ i → i < k + f → (∀ j, k ≤ j → j < i → ofB (wyAt ws j) va = false) → ofB (wyAt ws i) va = true → fndF ws va f k = i
  | 0, k, i, h1, h2, _, _ => by omega
  | f + 1, k, i, h1, h2, h3, h4 => by
    unfold fndF
    by_cases e : k = i
    · subst e
      rw [if_pos h4]
    · rw [if_neg (by rw [h3 k (by omega) (by omega)]; simp)]
      exact fndF_hit ws va f (k + 1) i (by omega) (by omega) (fun j a b => h3 j (by omega) b) h4
theorem fndF_miss (ws : List Wy) (va : BitVec 64) : ∀ f k, (∀ j, k ≤ j → j < k + f → ofB (wyAt ws j) va = false) → fndF ws va f k = k + f
  | 0, k, _ => rfl
  | f + 1, k, h => by
    unfold fndF
    rw [if_neg (by rw [h k (by omega) (by omega)]; simp), fndF_miss ws va f (k + 1) (fun j a b => h j (by omega) (by omega))]
    omega
theorem fnd_hit (ws : List Wy) (va : BitVec 64) (i : Nat) (h : i < ws.length) (h3 : ∀ j, j < i → ofB (wyAt ws j) va = false) (h4 : ofB (wyAt ws i) va = true) : fndI ws va = i :=
  fndF_hit ws va ws.length 0 i (by omega) (by omega) (fun j _ b => h3 j b) h4
theorem fnd_miss (ws : List Wy) (va : BitVec 64) (h : ∀ j, j < ws.length → ofB (wyAt ws j) va = false) : fndI ws va = ws.length := by
  have := fndF_miss ws va ws.length 0 (fun j _ b => h j (by omega))
  unfold fndI
  omega
/-- What find hands back. -/
def fndAt (ws : List Wy) (va : BitVec 64) : Int := if fndI ws va < ws.length then (fndI ws va : Int) else 0
def fndIs (ws : List Wy) (va : BitVec 64) : Bool := decide (fndI ws va < ws.length)
end Wd
set_option maxHeartbeats 2000000 in
theorem find_any (p q : Nat) (ws : List Wy) (st : Int) (va : BitVec 64) (w : World) (h : Tb w 94 99 p q ws st) : Calls Try.prog 59 #[.pointer (some ⟨p, 0, none⟩), .int .u64 (va.toNat : Int)] w fun e w' =>
    e = .returned (.tuple #[.int .i64 (fndAt ws va), .bool (fndIs ws va)]) ∧ Below w.heap.size w w' := by
  obtain ⟨c, hb⟩ := h.box
  have hlen := h.len
  have c0 := hb.get (o := 0) rfl
  have H := Lib.hid h
  have hmx : (ws.length : Int) ≤ 8 := by omega
  clear h hb hlen
  go_enter Try.func59, Try.ntmps59
  go_wp2_with fail
  go_step3
  go_wp2_with fail
  go_step3
  go_wp2_with fail
  go_loopw [6, 7, 15] (fun a b i wr => ∃ k : Nat, k ≤ ws.length ∧ i = .int .i64 (k : Int) ∧ a = .int .i64 0 ∧ b = .bool false ∧ Below w.heap.size w wr ∧ ∀ j, j < k → ofB (wyAt ws j) va = false) (fun _ _ i _ => ws.length - (intOf i).toNat)
  case atStart => exact ⟨0, Nat.zero_le _, rfl, rfl, rfl, Below.refl _ _, fun j hj => by omega⟩
  case round =>
    obtain ⟨k, hk, rfl, rfl, rfl, hbe, hno⟩ := hrel
    have HN := Lib.hid hno
    have HB := Lib.hid hbe
    have hT := Lib.hid (H.out.below hbe)
    clear hno hbe
    by_cases hlt : k < ws.length
    · obtain ⟨d0, d1, d2, d3, d4, d5, d6⟩ := hT.out.way k hlt
      have cO := Lib.hid (of_any (wyAt ws k) va (H.out.ok k))
      go_wp2_with fail
      refine (cO.out _).mono ?_
      rintro e w1 ⟨rfl, hb1⟩
      have HB1 := Lib.hid (HB.out.trans ((below_alloc hb1).mono HB.out.size))
      clear hb1 d0 d1 d2 d3 d4 d5 d6
      cases hof : ofB (wyAt ws k) va with
      | true =>
        have hf := Lib.hid (fnd_hit ws va k hlt HN.out hof)
        clear hof
        go_wp2_with fail
        rw [Exit.noGoto_ret]
        go_ret2
        exact ⟨by unfold fndAt fndIs; rw [hf.out, if_pos hlt, decide_eq_true hlt]; rfl, HB1.out⟩
      | false =>
        have HF := Lib.hid hof
        clear hof
        go_wp2_with fail
        go_roundw
        case rel => exact ⟨k + 1, by omega, by go_num, rfl, rfl, HB1.out, fun j hj => by
          rcases Nat.lt_or_ge j k with h1 | h1
          · exact HN.out j h1
          · obtain rfl : j = k := by omega
            exact HF.out⟩
        case measure => simp [intOf]; omega
    · have hf := Lib.hid (fnd_miss ws va (fun j hj => HN.out j (by omega)))
      go_wp2_with fail
      rw [Exit.noGoto_ret]
      go_ret2
      exact ⟨by unfold fndAt fndIs; rw [hf.out, if_neg (by omega), decide_eq_false (by omega)]; rfl, HB.out⟩
end Go.Proofs.Ythjhcdkbajbpdaa
