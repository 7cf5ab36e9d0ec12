/- Plain laws on atomic operations: in either order the same; done twice as once. -/
import Derived.Test.YtnkmcjnjlbddfaaAmoPlain
namespace Go.Proofs.Ytnkmcjnjlbddfaa
open Go.RowKit
namespace Wd

theorem zext_zext (v : BitVec 64) (n : Int) : zext (zext v n) n = zext v n := by
  apply BitVec.eq_of_getLsbD_eq
  intro i hi
  rw [zext_get, zext_get]
  cases decide (i < n.toNat) <;> simp
theorem zext_or (u v : BitVec 64) (n : Int) : zext (orW (zext u n) (zext v n)) n = orW (zext u n) (zext v n) := by
  apply BitVec.eq_of_getLsbD_eq
  intro i hi
  unfold orW
  rw [zext_get, BitVec.getLsbD_or, zext_get, zext_get]
  cases decide (i < n.toNat) <;> simp
theorem zext_and (u v : BitVec 64) (n : Int) : zext (andW (zext u n) (zext v n)) n = andW (zext u n) (zext v n) := by
  apply BitVec.eq_of_getLsbD_eq
  intro i hi
  unfold andW
  rw [zext_get, BitVec.getLsbD_and, zext_get, zext_get]
  cases decide (i < n.toNat) <;> simp
theorem zext_xor (u v : BitVec 64) (n : Int) : zext (xorW (zext u n) (zext v n)) n = xorW (zext u n) (zext v n) := by
  apply BitVec.eq_of_getLsbD_eq
  intro i hi
  unfold xorW
  rw [zext_get, BitVec.getLsbD_xor, zext_get, zext_get]
  cases decide (i < n.toNat) <;> simp
theorem or_again (u v : BitVec 64) : orW (orW u v) v = orW u v := by unfold orW; rw [BitVec.or_assoc, BitVec.or_self]
theorem and_again (u v : BitVec 64) : andW (andW u v) v = andW u v := by unfold andW; rw [BitVec.and_assoc, BitVec.and_self]
theorem xor_again (u v : BitVec 64) : xorW (xorW u v) v = u := by unfold xorW; rw [BitVec.xor_assoc, BitVec.xor_self, BitVec.xor_zero]
theorem sext_inj (a b : BitVec 64) (n : Int) (h1 : 1 ≤ n) (h2 : n ≤ 64) (h : ¬ (sext a n).toInt < (sext b n).toInt) (k : ¬ (sext b n).toInt < (sext a n).toInt) : zext a n = zext b n := by
  have e : sext a n = sext b n := BitVec.eq_of_toInt_eq (by omega)
  rw [← zext_sext a n h1 h2, ← zext_sext b n h1 h2, e]

/-- What New stores, where there is such an operation. -/
def slt (a b : BitVec 64) (n : Int) : Bool := decide ((sext a n).toInt < (sext b n).toInt)
theorem new_at (op size n : Int) (a b r : BitVec 64) (h : size = 4 ∨ size = 8) (hn : 8 * size = n) (hr : amoF op (zext a n) (zext b n) (slt a b n) = some r) : amoNew op size a b = some (zext r n) := by
  subst hn
  exact amoNew_at op size a b h (some r) hr
theorem slt_zl (a b : BitVec 64) (n : Int) (h1 : 1 ≤ n) (h2 : n ≤ 64) : slt (zext a n) b n = slt a b n := by unfold slt; rw [sext_zext a n h1 h2]
theorem slt_self (_ b : BitVec 64) (n : Int) (h1 : 1 ≤ n) (h2 : n ≤ 64) : slt (zext b n) b n = false := by
  unfold slt
  rw [sext_zext b n h1 h2]
  simp

/-- In either order; and once more with the second word. -/
structure Orders (op size : Int) (a b v x : BitVec 64) : Prop where
  one : amoNew op size a b = some v
  two : amoNew op size b a = some v
  again : amoNew op size v b = some x
section
variable (size n : Int) (a b : BitVec 64) (hs : size = 4 ∨ size = 8) (hn : 8 * size = n)
include hs hn
theorem o_add : ∃ v x, Orders 0 size a b v x ∧ zext v n = v :=
  ⟨_, _, ⟨new_at 0 size n a b _ hs hn rfl, new_at 0 size n b a (addW (zext a n) (zext b n)) hs hn (by show some (addW (zext b n) (zext a n)) = _; unfold addW; rw [BitVec.add_comm]), new_at 0 size n _ b _ hs hn rfl⟩, zext_zext _ _⟩
theorem o_xor : ∃ v, Orders 4 size a b v (zext a n) ∧ zext v n = v := by
  refine ⟨_, ⟨new_at 4 size n a b _ hs hn rfl, new_at 4 size n b a (xorW (zext a n) (zext b n)) hs hn (by show some (xorW (zext b n) (zext a n)) = _; unfold xorW; rw [BitVec.xor_comm]), ?_⟩, zext_zext _ _⟩
  have h := new_at 4 size n (zext (xorW (zext a n) (zext b n)) n) b (zext a n) hs hn (by show some (xorW _ _) = _; rw [zext_xor, zext_xor, xor_again])
  rw [zext_zext] at h
  exact h
theorem o_or : ∃ v, Orders 8 size a b v v ∧ zext v n = v :=
  ⟨_, ⟨new_at 8 size n a b _ hs hn rfl, new_at 8 size n b a (orW (zext a n) (zext b n)) hs hn (by show some (orW (zext b n) (zext a n)) = _; unfold orW; rw [BitVec.or_comm]),
    new_at 8 size n _ b (orW (zext a n) (zext b n)) hs hn (by show some (orW _ _) = _; rw [zext_or, zext_or, or_again])⟩, zext_zext _ _⟩
theorem o_and : ∃ v, Orders 12 size a b v v ∧ zext v n = v :=
  ⟨_, ⟨new_at 12 size n a b _ hs hn rfl, new_at 12 size n b a (andW (zext a n) (zext b n)) hs hn (by show some (andW (zext b n) (zext a n)) = _; unfold andW; rw [BitVec.and_comm]),
    new_at 12 size n _ b (andW (zext a n) (zext b n)) hs hn (by show some (andW _ _) = _; rw [zext_and, zext_and, and_again])⟩, zext_zext _ _⟩
theorem o_min : ∃ v, Orders 16 size a b v v ∧ zext v n = v := by
  have h1 : 1 ≤ n := by omega
  have h2 : n ≤ 64 := by omega
  by_cases h : (sext a n).toInt < (sext b n).toInt
  · have e : slt a b n = true := decide_eq_true h
    have e' : slt b a n = false := decide_eq_false (by omega)
    refine ⟨zext (zext a n) n, ⟨new_at 16 size n a b _ hs hn (by show some (if slt a b n then _ else _) = _; rw [e]; rfl), new_at 16 size n b a _ hs hn (by show some (if slt b a n then _ else _) = _; rw [e']; rfl), ?_⟩, zext_zext _ _⟩
    have k := new_at 16 size n (zext (zext a n) n) b (zext a n) hs hn (by show some (if slt _ b n then _ else _) = _; rw [slt_zl _ _ _ h1 h2, slt_zl _ _ _ h1 h2, e, zext_zext, zext_zext]; rfl)
    exact k
  · have e : slt a b n = false := decide_eq_false h
    have hv : (if slt b a n then zext b n else zext a n) = zext b n := by
      by_cases k : (sext b n).toInt < (sext a n).toInt
      · rw [show slt b a n = true from decide_eq_true k]; rfl
      · rw [sext_inj a b n h1 h2 h k]; simp
    refine ⟨zext (zext b n) n, ⟨new_at 16 size n a b _ hs hn (by show some (if slt a b n then _ else _) = _; rw [e]; rfl), new_at 16 size n b a _ hs hn (by show some (if slt b a n then _ else _) = _; rw [hv]), ?_⟩, zext_zext _ _⟩
    exact new_at 16 size n (zext (zext b n) n) b (zext b n) hs hn (by show some (if slt _ b n then _ else _) = _; rw [slt_zl _ b _ h1 h2, slt_self b b _ h1 h2]; rfl)
theorem o_max : ∃ v, Orders 20 size a b v v ∧ zext v n = v := by
  have h1 : 1 ≤ n := by omega
  have h2 : n ≤ 64 := by omega
  by_cases h : (sext a n).toInt < (sext b n).toInt
  · have e : slt a b n = true := decide_eq_true h
    have e' : slt b a n = false := decide_eq_false (by omega)
    refine ⟨zext (zext b n) n, ⟨new_at 20 size n a b _ hs hn (by show some (if slt a b n then _ else _) = _; rw [e]; rfl), new_at 20 size n b a _ hs hn (by show some (if slt b a n then _ else _) = _; rw [e']; rfl), ?_⟩, zext_zext _ _⟩
    exact new_at 20 size n (zext (zext b n) n) b (zext b n) hs hn (by show some (if slt _ b n then _ else _) = _; rw [slt_zl _ b _ h1 h2, slt_self b b _ h1 h2, zext_zext, zext_zext]; rfl)
  · have e : slt a b n = false := decide_eq_false h
    have hv : (if slt b a n then zext a n else zext b n) = zext a n := by
      by_cases k : (sext b n).toInt < (sext a n).toInt
      · rw [show slt b a n = true from decide_eq_true k]; rfl
      · rw [sext_inj a b n h1 h2 h k]; simp
    refine ⟨zext (zext a n) n, ⟨new_at 20 size n a b _ hs hn (by show some (if slt a b n then _ else _) = _; rw [e]; rfl), new_at 20 size n b a _ hs hn (by show some (if slt b a n then _ else _) = _; rw [hv]), ?_⟩, zext_zext _ _⟩
    exact new_at 20 size n (zext (zext a n) n) b (zext a n) hs hn (by show some (if slt _ b n then _ else _) = _; rw [slt_zl _ _ _ h1 h2, slt_zl _ _ _ h1 h2, e, zext_zext, zext_zext]; rfl)
theorem o_minu : ∃ v, Orders 24 size a b v v ∧ zext v n = v := by
  by_cases h : (zext a n).toNat ≤ (zext b n).toNat
  · have hv : (if (zext b n).toNat ≤ (zext a n).toNat then zext b n else zext a n) = zext a n := by
      by_cases k : (zext b n).toNat ≤ (zext a n).toNat
      · rw [if_pos k]; exact BitVec.eq_of_toNat_eq (by omega)
      · rw [if_neg k]
    refine ⟨zext (zext a n) n, ⟨new_at 24 size n a b _ hs hn (by show some (if _ ≤ _ then _ else _) = _; rw [if_pos h]), new_at 24 size n b a _ hs hn (by show some (if _ ≤ _ then _ else _) = _; rw [hv]), ?_⟩, zext_zext _ _⟩
    exact new_at 24 size n (zext (zext a n) n) b (zext a n) hs hn (by show some (if _ ≤ _ then _ else _) = _; rw [zext_zext, zext_zext, if_pos h])
  · refine ⟨zext (zext b n) n, ⟨new_at 24 size n a b _ hs hn (by show some (if _ ≤ _ then _ else _) = _; rw [if_neg h]), new_at 24 size n b a _ hs hn (by show some (if _ ≤ _ then _ else _) = _; rw [if_pos (by omega)]), ?_⟩, zext_zext _ _⟩
    exact new_at 24 size n (zext (zext b n) n) b (zext b n) hs hn (by show some (if _ ≤ _ then _ else _) = _; rw [zext_zext, zext_zext]; simp)
theorem o_maxu : ∃ v, Orders 28 size a b v v ∧ zext v n = v := by
  by_cases h : (zext a n).toNat < (zext b n).toNat
  · refine ⟨zext (zext b n) n, ⟨new_at 28 size n a b _ hs hn (by show some (if _ < _ then _ else _) = _; rw [if_pos h]), new_at 28 size n b a _ hs hn (by show some (if _ < _ then _ else _) = _; rw [if_neg (by omega)]), ?_⟩, zext_zext _ _⟩
    exact new_at 28 size n (zext (zext b n) n) b (zext b n) hs hn (by show some (if _ < _ then _ else _) = _; rw [zext_zext, zext_zext]; simp)
  · have hv : (if (zext b n).toNat < (zext a n).toNat then zext a n else zext b n) = zext a n := by
      by_cases k : (zext b n).toNat < (zext a n).toNat
      · rw [if_pos k]
      · rw [if_neg k]; exact BitVec.eq_of_toNat_eq (by omega)
    refine ⟨zext (zext a n) n, ⟨new_at 28 size n a b _ hs hn (by show some (if _ < _ then _ else _) = _; rw [if_neg h]), new_at 28 size n b a _ hs hn (by show some (if _ < _ then _ else _) = _; rw [hv]), ?_⟩, zext_zext _ _⟩
    exact new_at 28 size n (zext (zext a n) n) b (zext a n) hs hn (by show some (if _ < _ then _ else _) = _; rw [zext_zext, zext_zext, if_neg h])
end
end Wd
end Go.Proofs.Ytnkmcjnjlbddfaa
