/- Plain: what was put is found, at each address of its page; forgotten by an entry that it came by. -/
import Derived.Test.YthjhcdkbajbpdaaTlbStart
import Derived.Test.YthjhcdkbajbpdaaBitsPlain
namespace Go.Proofs.Ythjhcdkbajbpdaa
open Go.RowKit Wd Pl
set_option linter.unusedVariables false
set_option linter.unusedSimpArgs false
namespace Wd
theorem entL_mono (ws : List Wy) (k : Nat) : ∀ m, k ≤ m → (entL ws k).length ≤ (entL ws m).length
  | 0, h => by
    obtain rfl : k = 0 := by omega
    exact Nat.le_refl _
  | m + 1, h => by
    by_cases e : k = m + 1
    · rw [e]
      exact Nat.le_refl _
    · have ih := entL_mono ws k m (by omega)
      cases his : (wyAt ws m).is with
      | true => rw [entL_yes ws m his, List.length_append]; omega
      | false => rw [entL_no ws m his]; exact ih
theorem entL_one (ws : List Wy) (i k : Nat) (hi : i < k) (h : (wyAt ws i).is = true) : 1 ≤ (entL ws k).length := by
  have := entL_mono ws (i + 1) k (by omega)
  rw [entL_yes ws i h, List.length_append] at this
  simp at this
  omega
theorem entL_two (ws : List Wy) (i j k : Nat) (hij : i < j) (hj : j < k) (h1 : (wyAt ws i).is = true) (h2 : (wyAt ws j).is = true) : 2 ≤ (entL ws k).length := by
  have := entL_mono ws (j + 1) k (by omega)
  rw [entL_yes ws j h2, List.length_append] at this
  have := entL_one ws i j hij h1
  simp at *
  omega
/-- Where a way fits, one is found. -/
theorem fnd_some (ws : List Wy) (va : BitVec 64) : (fndI ws va < ws.length ∧ ofB (wyAt ws (fndI ws va)) va = true) ∨ (fndI ws va = ws.length ∧ ∀ j, j < ws.length → ofB (wyAt ws j) va = false) := by
  have key : ∀ f k, k + f = ws.length → (∀ j, j < k → ofB (wyAt ws j) va = false) → (fndF ws va f k < ws.length ∧ ofB (wyAt ws (fndF ws va f k)) va = true) ∨ (fndF ws va f k = ws.length ∧ ∀ j, j < ws.length → ofB (wyAt ws j) va = false) := by
    intro f
    induction f with
    | zero =>
      intro k hk hj
      right
      exact ⟨by unfold fndF; omega, fun j h => hj j (by omega)⟩
    | succ f ih =>
      intro k hk hj
      unfold fndF
      by_cases h : ofB (wyAt ws k) va = true
      · rw [if_pos h]
        exact .inl ⟨by omega, h⟩
      · rw [if_neg h]
        refine ih (k + 1) (by omega) fun j hj2 => ?_
        by_cases e : j = k
        · rw [e]; simpa using h
        · exact hj j (by omega)
  exact key ws.length 0 (by omega) (fun j hj => by omega)
theorem fnd_found (ws : List Wy) (va : BitVec 64) (r : Nat) (hr : r < ws.length) (h : ofB (wyAt ws r) va = true) : fndI ws va < ws.length ∧ (wyAt ws (fndI ws va)).is = true ∧ ((entL ws ws.length).length = 1 → fndI ws va = r) := by
  rcases fnd_some ws va with ⟨h1, h2⟩ | ⟨_, h2⟩
  · have his : (wyAt ws (fndI ws va)).is = true := by
      unfold ofB at h2
      simp only [Bool.and_eq_true] at h2
      exact h2.1.1
    have hisr : (wyAt ws r).is = true := by
      unfold ofB at h
      simp only [Bool.and_eq_true] at h
      exact h.1.1
    refine ⟨h1, his, fun hone => ?_⟩
    rcases Nat.lt_trichotomy (fndI ws va) r with g | g | g
    · have := entL_two ws _ _ ws.length g hr his hisr
      omega
    · exact g
    · have := entL_two ws _ _ ws.length g h1 hisr his
      omega
  · rw [h2 r hr] at h
    cases h
theorem new_of (va near : BitVec 64) (f : Lf) (hp : properB near = true) (hv : vpnW near f.lv.toNat = vpnW va f.lv.toNat) : ofB (newY va f) near = true := by
  unfold ofB newY
  rw [hp]
  simp [hv]
theorem hit_new (va : BitVec 64) (f : Lf) (l j : Nat) (hl : f.lv = (l : Int)) (hj : j < 3 - l) : hitB (newY va f) (pathY (newY va f) j) = true := by
  unfold hitB
  show (true && byF (newY va f) (pathY (newY va f) j) (3 - f.lv).toNat) = true
  rw [Bool.true_and]
  refine byF_mono _ _ (j + 1) ?_ _ (by rw [hl]; omega)
  unfold byF
  simp
theorem forN_one (ws : List Wy) (pa : Int) (r : Nat) (h : hitB (wyAt ws r) pa = true) : ∀ m, r < m → 1 ≤ forN ws pa m
  | 0, hm => by omega
  | m + 1, hm => by
    unfold forN
    by_cases e : r = m
    · rw [← e, if_pos h]
      omega
    · have := forN_one ws pa r h m (by omega)
      split <;> omega
theorem fnd_none (n : Nat) (va : BitVec 64) : fndI (mkW n) va = (mkW n).length :=
  fnd_miss _ _ fun j hj => by rw [mkW_at]; rfl
theorem ent_none (n : Nat) : ∀ k, entL (mkW n) k = []
  | 0 => rfl
  | k + 1 => by rw [entL_no _ _ (by rw [mkW_at]; rfl), ent_none n k]
theorem field_27 (x : BitVec 64) : (field x 38 12).toNat = x.toNat / 4096 % 134217728 := by
  unfold field
  rw [if_pos (by decide)]
  show (fld x 12 27).toNat = _
  rw [fld_toNat _ _ _ (by omega)]
theorem vpn_nat (x : BitVec 64) (l : Nat) : ((vpnW x l).toNat : Int) = (((x.toNat / 4096 % 134217728 : Nat) : Int)) / 2 ^ (9 * l) * 2 ^ (9 * l) := by
  unfold vpnW
  rw [shr_shl, field_27]
/-- An address of the page: the page's own, and so far in it. -/
def nearT (va other : BitVec 64) (l : Nat) : BitVec 64 := BitVec.ofNat 64 (va.toNat / 2 ^ (12 + 9 * l) * 2 ^ (12 + 9 * l) + other.toNat % 2 ^ (12 + 9 * l))
theorem nearT_nat (va other : BitVec 64) (l : Nat) (h : l = 0 ∨ l = 1 ∨ l = 2) : (nearT va other l).toNat = va.toNat / 2 ^ (12 + 9 * l) * 2 ^ (12 + 9 * l) + other.toNat % 2 ^ (12 + 9 * l) := by
  unfold nearT
  rw [BitVec.toNat_ofNat]
  have := va.isLt
  rcases h with rfl | rfl | rfl
  · simp only [Nat.mul_zero, Nat.add_zero]; omega
  · omega
  · omega
theorem nearT_vpn (va other : BitVec 64) (l : Nat) (h : l = 0 ∨ l = 1 ∨ l = 2) : vpnW (nearT va other l) l = vpnW va l := by
  apply BitVec.eq_of_toNat_eq
  have e : ((vpnW (nearT va other l) l).toNat : Int) = ((vpnW va l).toNat : Int) := by
    rw [vpn_nat, vpn_nat, nearT_nat va other l h]
    rcases h with rfl | rfl | rfl
    · simp only [Nat.mul_zero, Nat.add_zero, Int.pow_zero, Int.ediv_one, Int.mul_one]; omega
    · show (((_ : Nat) : Int)) / 512 * 512 = (((_ : Nat) : Int)) / 512 * 512
      omega
    · show (((_ : Nat) : Int)) / 262144 * 262144 = (((_ : Nat) : Int)) / 262144 * 262144
      omega
  omega
theorem nearT_proper (va other : BitVec 64) (l : Nat) (h : l = 0 ∨ l = 1 ∨ l = 2) : properB (nearT va other l) = properB va := by
  rw [proper_iff, proper_iff]
  have e : ((nearT va other l).toNat : Int) / 274877906944 = (va.toNat : Int) / 274877906944 := by
    rw [nearT_nat va other l h]
    rcases h with rfl | rfl | rfl
    · simp only [Nat.mul_zero, Nat.add_zero]; omega
    · omega
    · omega
  rw [e]
end Wd
end Go.Proofs.Ythjhcdkbajbpdaa
