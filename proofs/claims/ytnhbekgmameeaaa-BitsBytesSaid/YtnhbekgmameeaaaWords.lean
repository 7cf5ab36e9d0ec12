/- Contracts: Word of package bits and of package tappetref01. -/
import Derived.Test.YtnhbekgmameeaaaSame
namespace Go.Proofs.Ytnhbekgmameeaaa
open Go.RowKit Wd
set_option linter.unusedVariables false
set_option linter.unusedSimpArgs false
namespace Wd
def xn (xs : List Int) (i : Nat) : Nat := (xs.getD i 0).toNat
def wordN (xs : List Int) (i : Nat) : Nat → Nat
  | 0 => 0
  | j + 1 => wordN xs (i + 1) j * 256 + xn xs i
theorem wordN_last (xs : List Int) (j : Nat) : ∀ i, wordN xs i (j + 1) = wordN xs i j + xn xs (i + j) * 256 ^ j := by
  induction j with
  | zero => intro i; simp [wordN]
  | succ j ih =>
    intro i
    rw [wordN, ih (i + 1), wordN, show i + 1 + j = i + (j + 1) by omega, Nat.pow_succ]
    rw [Nat.add_mul, Nat.mul_assoc]
    omega
def Small (xs : List Int) : Prop := ∀ i, 0 ≤ xs.getD i 0 ∧ xs.getD i 0 < 256
theorem xn_lt {xs : List Int} (h : Small xs) (i : Nat) : xn xs i < 256 := by have := h i; unfold xn; omega
theorem xn_cast {xs : List Int} (h : Small xs) (i : Nat) : ((xn xs i : Nat) : Int) = xs.getD i 0 := by have := h i; unfold xn; omega
theorem wordN_lt {xs : List Int} (h : Small xs) (j : Nat) : ∀ i, wordN xs i j < 256 ^ j := by
  induction j with
  | zero => intro i; simp [wordN]
  | succ j ih =>
    intro i
    have h1 := ih (i + 1)
    have h2 := xn_lt h i
    rw [wordN, Nat.pow_succ]
    omega
theorem pow256 (k : Nat) : (256 : Nat) ^ k = 2 ^ (8 * k) := by rw [show (256 : Nat) = 2 ^ 8 from rfl, ← Nat.pow_mul]
theorem or_step (N x k : Nat) (hN : N < 2 ^ (8 * k)) (hx : x < 256) (hk : k < 8) : bits .or .u64 (N : Int) (IntKind.u64.wrap ((x : Int) * 2 ^ (8 * k))) = ((N + x * 2 ^ (8 * k) : Nat) : Int) := by
  have hp : (2 : Nat) ^ (8 * k) ≤ 2 ^ 56 := Nat.pow_le_pow_right (by omega) (by omega)
  have hb : x * 2 ^ (8 * k) < 2 ^ 64 := by
    have : x * 2 ^ (8 * k) ≤ 255 * 2 ^ 56 := Nat.mul_le_mul (by omega) hp
    omega
  have hN64 : N < 2 ^ 64 := by omega
  have e1 : IntKind.u64.wrap ((x : Int) * 2 ^ (8 * k)) = ((x * 2 ^ (8 * k) : Nat) : Int) := by
    have : ((x : Int) * 2 ^ (8 * k)) = ((x * 2 ^ (8 * k) : Nat) : Int) := by simp
    rw [this, w64]
    simp [BitVec.toNat_ofInt]
    omega
  rw [e1, or64]
  have t (a : Nat) (ha : a < 2 ^ 64) : (BitVec.ofInt 64 (a : Int)).toNat = a := by
    simp [BitVec.toNat_ofInt]
    omega
  rw [BitVec.toNat_or, t _ hN64, t _ hb]
  have := Nat.two_pow_add_eq_or_of_lt hN x
  rw [Nat.or_comm, Nat.mul_comm x, ← this, Nat.add_comm]
theorem mul_step (N x j : Nat) (hN : N < 256 ^ j) (hx : x < 256) (hj : j < 8) : IntKind.u64.wrap (IntKind.u64.wrap ((N : Int) * 256) + (x : Int)) = ((N * 256 + x : Nat) : Int) := by
  have hp : (256 : Nat) ^ j ≤ 256 ^ 7 := Nat.pow_le_pow_right (by omega) (by omega)
  rw [w64, w64]
  simp only [BitVec.toNat_ofInt]
  omega
theorem wrap_xn {xs : List Int} (h : Small xs) (i : Nat) : IntKind.u64.wrap ((xn xs i : Nat) : Int) = ((xn xs i : Nat) : Int) := by
  have := xn_lt h i
  rw [w64]
  simp only [BitVec.toNat_ofInt]
  omega
end Wd
theorem pword_any (A : Option Addr) (n c m : Nat) (xs : List Int) (hm : m = min n 8) (hs : Small xs) (w : World) (ho : Octets w A n xs) :
    Calls Try.prog 17 #[.slice A n c] w fun e w' => e = .returned (.int .u64 ((wordN xs 0 m : Nat) : Int)) ∧ Below w.heap.size w w' := by
  have HS := Lib.hid hs
  have HM := Lib.hid hm
  have HO := Lib.hid ho
  clear hs hm ho
  go_enter Try.func17, Try.ntmps17
  by_cases h8 : (n : Int) ≤ 8
  · go_wp2_with fail
    go_loopw [3, 8] (fun sv i wr => ∃ k : Nat, k ≤ m ∧ i = .int .i64 (k : Int) ∧ sv = .int .u64 ((wordN xs 0 k : Nat) : Int) ∧ Below w.heap.size w wr) (fun _ i _ => m - (intOf i).toNat)
    case atStart => exact ⟨0, Nat.zero_le _, rfl, rfl, Below.refl _ _⟩
    case round =>
      obtain ⟨k, hk, rfl, rfl, hb⟩ := hrel
      by_cases hlt : k < m
      · have hkn : k < n := by have := HM.out; omega
        have hk8 : k < 8 := by have := HM.out; omega
        obtain ⟨b, off, rfl, _, hc0⟩ := (HO.out.below hb).2 (by omega)
        have hc := hc0 k hkn
        rw [← xn_cast HS.out] at hc
        clear hc0
        have st := or_step (wordN xs 0 k) (xn xs k) k (by rw [← pow256]; exact wordN_lt HS.out k 0) (xn_lt HS.out k) hk8
        rw [← pow256, show wordN xs 0 k + xn xs k * 256 ^ k = wordN xs 0 (k + 1) from by rw [wordN_last, Nat.zero_add]] at st
        go_wp2
        go_roundw
        case rel => exact ⟨k + 1, by omega, by go_num, by rw [wrap_xn HS.out, st], hb⟩
        case measure => simp [intOf]; omega
      · have hkn : ¬ k < n := by have := HM.out; omega
        go_wp2
        go_ret
        obtain rfl : k = m := by omega
        exact ⟨rfl, hb⟩
  · go_wp2_with fail
    go_loopw [3, 8] (fun sv i wr => ∃ k : Nat, k ≤ m ∧ i = .int .i64 (k : Int) ∧ sv = .int .u64 ((wordN xs 0 k : Nat) : Int) ∧ Below w.heap.size w wr) (fun _ i _ => m - (intOf i).toNat)
    case atStart => exact ⟨0, Nat.zero_le _, rfl, rfl, Below.refl _ _⟩
    case round =>
      obtain ⟨k, hk, rfl, rfl, hb⟩ := hrel
      by_cases hlt : k < m
      · have hkn : k < n := by have := HM.out; omega
        have hk8 : k < 8 := by have := HM.out; omega
        obtain ⟨b, off, rfl, _, hc0⟩ := (HO.out.below hb).2 (by omega)
        have hc := hc0 k hkn
        rw [← xn_cast HS.out] at hc
        clear hc0
        have st := or_step (wordN xs 0 k) (xn xs k) k (by rw [← pow256]; exact wordN_lt HS.out k 0) (xn_lt HS.out k) hk8
        rw [← pow256, show wordN xs 0 k + xn xs k * 256 ^ k = wordN xs 0 (k + 1) from by rw [wordN_last, Nat.zero_add]] at st
        go_wp2
        go_roundw
        case rel => exact ⟨k + 1, by omega, by go_num, by rw [wrap_xn HS.out, st], hb⟩
        case measure => simp [intOf]; omega
      · have hkn : ¬ k < 8 := by have := HM.out; omega
        go_wp2
        go_ret
        obtain rfl : k = m := by omega
        exact ⟨rfl, hb⟩
theorem rword_any (A : Option Addr) (n c m : Nat) (xs : List Int) (hm : m = min n 8) (hs : Small xs) (w : World) (ho : Octets w A n xs) :
    Calls Try.prog 18 #[.slice A n c] w fun e w' => e = .returned (.int .u64 ((wordN xs 0 m : Nat) : Int)) ∧ Below w.heap.size w w' := by
  have HS := Lib.hid hs
  have HM := Lib.hid hm
  have HO := Lib.hid ho
  clear hs hm ho
  go_enter Try.func18, Try.ntmps18
  by_cases h8 : (n : Int) ≤ 8
  · obtain rfl : n = m := by have := HM.out; omega
    go_wp2_with fail
    go_loopw [3, 4] (fun sv i wr => ∃ k : Nat, k ≤ n ∧ i = .int .i64 ((k : Int) - 1) ∧ sv = .int .u64 ((wordN xs k (n - k) : Nat) : Int) ∧ Below w.heap.size w wr) (fun _ i _ => (intOf i + 1).toNat)
    case atStart => exact ⟨n, Nat.le_refl _, rfl, by rw [Nat.sub_self]; rfl, Below.refl _ _⟩
    case round =>
      obtain ⟨k, hk, rfl, rfl, hb⟩ := hrel
      by_cases hlt : 0 < k
      · obtain ⟨k, rfl⟩ : ∃ k', k = k' + 1 := ⟨k - 1, by omega⟩
        rw [show (((k + 1 : Nat) : Int) - 1) = (k : Int) by omega]
        have hkn : k < n := by have := HM.out; omega
        have hk8 : k < 8 := by have := HM.out; omega
        obtain ⟨b, off, rfl, _, hc0⟩ := (HO.out.below hb).2 (by omega)
        have hc := hc0 k hkn
        rw [← xn_cast HS.out] at hc
        clear hc0
        have st := mul_step (wordN xs (k + 1) (n - (k + 1))) (xn xs k) (n - (k + 1)) (wordN_lt HS.out _ _) (xn_lt HS.out k) (by have := HM.out; omega)
        rw [show wordN xs (k + 1) (n - (k + 1)) * 256 + xn xs k = wordN xs k (n - k) from by rw [show n - k = (n - (k + 1)) + 1 by omega, wordN]] at st
        generalize wordN xs (k + 1) (n - (k + 1)) = N at st ⊢
        generalize hN : wordN xs k (n - k) = N' at st
        replace hN := Lib.hid hN
        go_wp2
        go_roundw
        case rel => exact ⟨k, by omega, by go_num, by rw [wrap_xn HS.out, st, hN.out], hb⟩
        case measure => simp [intOf]
      · obtain rfl : k = 0 := by omega
        go_wp2
        go_ret
        exact ⟨rfl, hb⟩
  · obtain rfl : m = 8 := by have := HM.out; omega
    go_wp2_with fail
    go_loopw [3, 4] (fun sv i wr => ∃ k : Nat, k ≤ 8 ∧ i = .int .i64 ((k : Int) - 1) ∧ sv = .int .u64 ((wordN xs k (8 - k) : Nat) : Int) ∧ Below w.heap.size w wr) (fun _ i _ => (intOf i + 1).toNat)
    case atStart => exact ⟨8, Nat.le_refl _, by go_num, by rw [Nat.sub_self]; rfl, Below.refl _ _⟩
    case round =>
      obtain ⟨k, hk, rfl, rfl, hb⟩ := hrel
      by_cases hlt : 0 < k
      · obtain ⟨k, rfl⟩ : ∃ k', k = k' + 1 := ⟨k - 1, by omega⟩
        rw [show (((k + 1 : Nat) : Int) - 1) = (k : Int) by omega]
        have hkn : k < n := by have := HM.out; omega
        have hk8 : k < 8 := by have := HM.out; omega
        obtain ⟨b, off, rfl, _, hc0⟩ := (HO.out.below hb).2 (by omega)
        have hc := hc0 k hkn
        rw [← xn_cast HS.out] at hc
        clear hc0
        have st := mul_step (wordN xs (k + 1) (8 - (k + 1))) (xn xs k) (8 - (k + 1)) (wordN_lt HS.out _ _) (xn_lt HS.out k) (by have := HM.out; omega)
        rw [show wordN xs (k + 1) (8 - (k + 1)) * 256 + xn xs k = wordN xs k (8 - k) from by rw [show 8 - k = (8 - (k + 1)) + 1 by omega, wordN]] at st
        generalize wordN xs (k + 1) (8 - (k + 1)) = N at st ⊢
        generalize hN : wordN xs k (8 - k) = N' at st
        replace hN := Lib.hid hN
        go_wp2
        go_roundw
        case rel => exact ⟨k, by omega, by go_num, by rw [wrap_xn HS.out, st, hN.out], hb⟩
        case measure => simp [intOf]
      · obtain rfl : k = 0 := by omega
        go_wp2
        go_ret
        exact ⟨rfl, hb⟩
end Go.Proofs.Ytnhbekgmameeaaa
