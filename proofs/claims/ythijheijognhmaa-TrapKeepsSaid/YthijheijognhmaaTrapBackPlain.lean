/- Plain lemmas on a trap and the way back from where it came: bits of the status. -/
import Derived.Test.YthijheijognhmaaTrapRets
namespace Go.Proofs.Ythijheijognhmaa
open Go.RowKit
set_option linter.unusedVariables false
set_option linter.unusedSimpArgs false
namespace Wd
theorem get_or (v : BitVec 64) (n : Int) (k : Nat) : (orL v n).getLsbD k = (v.getLsbD k || (BitVec.ofInt 64 n).getLsbD k) := by unfold orL; rw [BitVec.getLsbD_or]
theorem get_clr (v : BitVec 64) (n : Int) (k : Nat) (h : k < 64) : (clrL v n).getLsbD k = (v.getLsbD k && !(BitVec.ofInt 64 n).getLsbD k) := by
  unfold clrL
  rw [BitVec.getLsbD_and, BitVec.getLsbD_not, decide_eq_true h, Bool.true_and]
theorem get_move (s : BitVec 64) (a b : Nat) (x y : Int) (ha : a < 64) (hb : b < 64) (hx : x = ((2 ^ a : Nat) : Int)) (hy : y = ((2 ^ b : Nat) : Int)) (k : Nat) (hk : k < 64) :
    (moveW s x y).getLsbD k = if k = b then s.getLsbD a else s.getLsbD k := by
  have ho := ofInt_pow b k hk y hy
  have hz : andL s x = 0#64 ↔ s.getLsbD a = false := by
    have h1 := andL_pow s a ha x hx
    constructor
    · intro h
      rw [h] at h1
      cases hc : s.getLsbD a with
      | false => rfl
      | true =>
        rw [hc, hx] at h1
        have hq := Nat.two_pow_pos a
        have h0 : ((0#64 : BitVec 64).toNat : Int) = 0 := rfl
        simp only [if_true] at h1
        generalize 2 ^ a = q at h1 hq
        omega
    · intro h
      rw [h] at h1
      exact BitVec.eq_of_toNat_eq (by simpa using h1)
  unfold moveW
  by_cases h : andL s x = 0#64
  · rw [if_pos h, get_clr _ _ _ hk, ho]
    by_cases e : k = b
    · rw [if_pos e, hz.1 h, decide_eq_true e]; simp
    · rw [if_neg e, decide_eq_false e]; simp
  · rw [if_neg h, get_or, ho]
    have h1 : s.getLsbD a = true := by
      cases hc : s.getLsbD a with
      | true => rfl
      | false => exact absurd (hz.2 hc) h
    by_cases e : k = b
    · rw [if_pos e, h1, decide_eq_true e]; simp
    · rw [if_neg e, decide_eq_false e]; simp
theorem and_same (v u : BitVec 64) (k : Nat) (hk : k < 64) (n : Int) (hn : n = ((2 ^ k : Nat) : Int)) (h : v.getLsbD k = u.getLsbD k) : ((andL v n).toNat : Int) = ((andL u n).toNat : Int) := by
  rw [andL_pow v k hk n hn, andL_pow u k hk n hn, h]
theorem clr_none (v : BitVec 64) (h : ((andL v 3).toNat : Int) = 0) : clrL v 3 = v := by
  have hz : andL v 3 = 0#64 := BitVec.eq_of_toNat_eq (by simpa using h)
  apply BitVec.eq_of_getLsbD_eq
  intro i hi
  rw [get_clr _ _ _ hi]
  have := congrArg (fun x => x.getLsbD i) hz
  unfold andL at this
  simp only [BitVec.getLsbD_and] at this
  cases hv : v.getLsbD i with
  | false => rfl
  | true =>
    rw [hv, Bool.true_and] at this
    rw [this]
    simp
theorem back_bits (s : BitVec 64) (p : Nat) (hp : p < 4) (h : ∀ i, i < 2 → s.getLsbD (11 + i) = p.testBit i) : s.toNat / 2048 % 4 = p := by
  have e : fld s 11 2 = BitVec.ofNat 64 p := by
    apply BitVec.eq_of_getLsbD_eq
    intro i hi
    rw [fld_get, BitVec.getLsbD_ofNat, decide_eq_true hi, Bool.true_and]
    by_cases c : i < 2
    · rw [decide_eq_true c, Bool.true_and, h i c]
    · rw [decide_eq_false c, Bool.false_and]
      refine (Nat.testBit_lt_two_pow ?_).symm
      have : 2 ^ 2 ≤ 2 ^ i := Nat.pow_le_pow_right (by omega) (by omega)
      omega
  have h2 := fld_toNat s 11 2 (by omega)
  rw [e, BitVec.toNat_ofNat, Nat.mod_eq_of_lt (by omega)] at h2
  exact h2.symm
theorem mpp_0 : mppI 0 = 0 := by decide
theorem mpp_1 : mppI 1 = 2048 := by decide
theorem mpp_3 : mppI 3 = 6144 := by decide
theorem back_M (s : BitVec 64) (p : Int) (hp : p = 0 ∨ p = 1 ∨ p = 3) : backI (orL (clrL s 6152) (mppI p)) = p := by
  have hc : ∀ i, i < 2 → (clrL s 6152).getLsbD (11 + i) = false := fun i hi => by
    rw [get_clr _ _ _ (by omega)]
    rcases (by omega : i = 0 ∨ i = 1) with rfl | rfl
    · rw [show (BitVec.ofInt 64 6152).getLsbD (11 + 0) = true from by decide]; simp
    · rw [show (BitVec.ofInt 64 6152).getLsbD (11 + 1) = true from by decide]; simp
  unfold backI
  rcases hp with rfl | rfl | rfl
  · rw [mpp_0, back_bits _ 0 (by omega) (fun i hi => by rw [get_or, hc i hi]; rcases (by omega : i = 0 ∨ i = 1) with rfl | rfl <;> decide)]
    rfl
  · rw [mpp_1, back_bits _ 1 (by omega) (fun i hi => by rw [get_or, hc i hi]; rcases (by omega : i = 0 ∨ i = 1) with rfl | rfl <;> decide)]
    rfl
  · rw [mpp_3, back_bits _ 3 (by omega) (fun i hi => by rw [get_or, hc i hi]; rcases (by omega : i = 0 ∨ i = 1) with rfl | rfl <;> decide)]
    rfl
/-! ### By way of Super -/
theorem S_low (h : Hart) (c t : BitVec 64) : (enterS h c t).status.getLsbD 1 = false := by
  show (if h.priv = 1 then orL (clrL (moveW h.status 2 32) 258) 256 else clrL (moveW h.status 2 32) 258).getLsbD 1 = false
  have h1 : (clrL (moveW h.status 2 32) 258).getLsbD 1 = false := by rw [get_clr _ _ _ (by omega), show (BitVec.ofInt 64 258).getLsbD 1 = true from by decide]; simp
  split
  · rw [get_or, h1]; decide
  · exact h1
theorem S_five (h : Hart) (c t : BitVec 64) : (enterS h c t).status.getLsbD 5 = h.status.getLsbD 1 := by
  show (if h.priv = 1 then orL (clrL (moveW h.status 2 32) 258) 256 else clrL (moveW h.status 2 32) 258).getLsbD 5 = _
  have h1 : (clrL (moveW h.status 2 32) 258).getLsbD 5 = h.status.getLsbD 1 := by
    rw [get_clr _ _ _ (by omega), show (BitVec.ofInt 64 258).getLsbD 5 = false from by decide, get_move _ 1 5 2 32 (by omega) (by omega) (by decide) (by decide) 5 (by omega)]
    simp
  split
  · rw [get_or, h1, show (BitVec.ofInt 64 256).getLsbD 5 = false from by decide]; simp
  · exact h1
theorem S_eight (h : Hart) (c t : BitVec 64) : (enterS h c t).status.getLsbD 8 = decide (h.priv = 1) := by
  show (if h.priv = 1 then orL (clrL (moveW h.status 2 32) 258) 256 else clrL (moveW h.status 2 32) 258).getLsbD 8 = _
  by_cases p : h.priv = 1
  · rw [if_pos p, get_or, show (BitVec.ofInt 64 256).getLsbD 8 = true from by decide, decide_eq_true p]; simp
  · rw [if_neg p, get_clr _ _ _ (by omega), show (BitVec.ofInt 64 258).getLsbD 8 = true from by decide, decide_eq_false p]; simp
theorem S_back (x : Hart) : (sretH x).status.getLsbD 1 = x.status.getLsbD 5 := by
  show (orL (clrL (moveW x.status 32 2) 131328) 32).getLsbD 1 = _
  rw [get_or, get_clr _ _ _ (by omega), get_move _ 5 1 32 2 (by omega) (by omega) (by decide) (by decide) 1 (by omega)]
  rw [show (BitVec.ofInt 64 131328).getLsbD 1 = false from by decide, show (BitVec.ofInt 64 32).getLsbD 1 = false from by decide]
  simp
/-! ### By way of Machine -/
theorem mpp_bit (p : Int) (hp : p = 0 ∨ p = 1 ∨ p = 3) (k : Nat) (hk : k = 3 ∨ k = 7) : (BitVec.ofInt 64 (mppI p)).getLsbD k = false := by
  rcases hp with rfl | rfl | rfl <;> rcases hk with rfl | rfl <;> decide
theorem M_low (h : Hart) (c t : BitVec 64) (hp : h.priv = 0 ∨ h.priv = 1 ∨ h.priv = 3) : (enterM h c t).status.getLsbD 3 = false := by
  show (orL (clrL (moveW h.status 8 128) 6152) (mppI h.priv)).getLsbD 3 = false
  rw [get_or, mpp_bit _ hp 3 (.inl rfl), get_clr _ _ _ (by omega), show (BitVec.ofInt 64 6152).getLsbD 3 = true from by decide]
  simp
theorem M_seven (h : Hart) (c t : BitVec 64) (hp : h.priv = 0 ∨ h.priv = 1 ∨ h.priv = 3) : (enterM h c t).status.getLsbD 7 = h.status.getLsbD 3 := by
  show (orL (clrL (moveW h.status 8 128) 6152) (mppI h.priv)).getLsbD 7 = _
  rw [get_or, mpp_bit _ hp 7 (.inr rfl), get_clr _ _ _ (by omega), show (BitVec.ofInt 64 6152).getLsbD 7 = false from by decide,
    get_move _ 3 7 8 128 (by omega) (by omega) (by decide) (by decide) 7 (by omega)]
  simp
theorem M_back (x : Hart) : (mretH x).status.getLsbD 3 = x.status.getLsbD 7 := by
  have h1 : (mretS x).getLsbD 3 = x.status.getLsbD 7 := by
    show (orL (clrL (moveW x.status 128 8) 6144) 128).getLsbD 3 = _
    rw [get_or, get_clr _ _ _ (by omega), get_move _ 7 3 128 8 (by omega) (by omega) (by decide) (by decide) 3 (by omega)]
    rw [show (BitVec.ofInt 64 6144).getLsbD 3 = false from by decide, show (BitVec.ofInt 64 128).getLsbD 3 = false from by decide]
    simp
  show (if backI x.status = 3 then mretS x else clrL (mretS x) 131072).getLsbD 3 = _
  split
  · exact h1
  · rw [get_clr _ _ _ (by omega), h1, show (BitVec.ofInt 64 131072).getLsbD 3 = false from by decide]; simp
theorem goes_priv (h : Hart) (c : BitVec 64) (hg : goesB h c = true) : h.priv = 0 ∨ h.priv = 1 := by
  unfold goesB at hg
  simp only [Bool.and_eq_true, Bool.or_eq_true, decide_eq_true_eq] at hg
  exact hg.1
end Wd
end Go.Proofs.Ythijheijognhmaa
