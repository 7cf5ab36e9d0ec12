/- Contracts: the small ones of a TLB: may an address be translated, and its page of a level; of both packages. -/
import Derived.Test.YthjhcdkbajbpdaaBits
namespace Go.Proofs.Ythjhcdkbajbpdaa
open Go.RowKit Wd
set_option linter.unusedVariables false
set_option linter.unusedSimpArgs false
namespace Wd
def properB (va : BitVec 64) : Bool := sext va 39 == va
def vpnW (va : BitVec 64) (l : Nat) : BitVec 64 := field va 38 12 >>> (9 * l) <<< (9 * l)
theorem shr_shl (f : BitVec 64) (k : Nat) : ((f >>> k <<< k).toNat : Int) = (f.toNat : Int) / 2 ^ k * 2 ^ k := by
  rw [BitVec.toNat_shiftLeft, BitVec.toNat_ushiftRight, Nat.shiftLeft_eq, Nat.shiftRight_eq_div_pow]
  have h1 : f.toNat / 2 ^ k * 2 ^ k ≤ f.toNat := Nat.div_mul_le_self _ _
  have h2 := f.isLt
  rw [Nat.mod_eq_of_lt (by omega)]
  simp
theorem proper_iff (va : BitVec 64) : properB va = (((va.toNat : Int) / 274877906944 == 0) || ((va.toNat : Int) / 274877906944 == 67108863)) := by
  unfold properB sext
  rw [if_neg (by decide), if_neg (by decide)]
  have e := sext_walk va 25 39 rfl
  rw [← eq64]
  show (((sextN va 39).toNat : Int) == _) = _
  rw [← e, IntKind.wrap_u64, IntKind.wrap_u64]
  have h0 : 0 ≤ (va.toNat : Int) ∧ (va.toNat : Int) < 18446744073709551616 := by have := va.isLt; omega
  unfold wrap64
  clear e
  generalize (va.toNat : Int) = V at *
  rw [Bool.eq_iff_iff]
  simp only [beq_iff_eq, Bool.or_eq_true]
  omega
theorem field_page (va : BitVec 64) : bits .and .u64 ((va.toNat : Int) / 4096) 134217727 = ((field va 38 12).toNat : Int) := by
  have e : field va 38 12 = fld va 12 27 := by
    unfold field
    rw [if_pos (by decide)]
    rfl
  rw [e]
  have h := field_walk va 12 27
  have o : ((ones 27).toNat : Int) = 134217727 := by rw [ones_toNat _ (by omega)]; rfl
  rw [o] at h
  exact h
end Wd
theorem proper_any (va : BitVec 64) : Qt Try.prog 61 #[.int .u64 (va.toNat : Int)] (.bool (properB va)) := by
  intro w
  go_enter Try.func61, Try.ntmps61
  go_wp2_with (go_at_call 44; refine (sext_any va 39 _).mono ?_; rintro e w1 ⟨rfl, hq⟩)
  go_ret
  exact ⟨ret_bool (eq64 _ _), hq⟩
theorem vpn_any (va : BitVec 64) (l : Nat) (hl : l ≤ 2) : Qt Try.prog 63 #[.int .u64 (va.toNat : Int), .int .i64 (l : Int)] (.int .u64 ((vpnW va l).toNat : Int)) := by
  intro w
  have c := field_any va 38 12
  unfold vpnW
  generalize field va 38 12 = f at c ⊢
  have C := Lib.hid c
  clear c
  match l, hl with
  | 0, _ =>
    go_enter Try.func63, Try.ntmps63
    go_wp2_with (go_at_call 46; refine (C.out _).mono ?_; rintro e w1 ⟨rfl, hq⟩)
    go_ret
    exact ⟨ret_int (by rw [shr_shl] <;> simp), hq⟩
  | 1, _ =>
    go_enter Try.func63, Try.ntmps63
    go_wp2_with (go_at_call 46; refine (C.out _).mono ?_; rintro e w1 ⟨rfl, hq⟩)
    go_ret
    exact ⟨ret_int (by rw [shr_shl] <;> simp), hq⟩
  | 2, _ =>
    go_enter Try.func63, Try.ntmps63
    go_wp2_with (go_at_call 46; refine (C.out _).mono ?_; rintro e w1 ⟨rfl, hq⟩)
    go_ret
    exact ⟨ret_int (by rw [shr_shl] <;> simp), hq⟩
theorem tright_any (va : BitVec 64) : Qt Try.prog 83 #[.int .u64 (va.toNat : Int)] (.bool (properB va)) := by
  intro w
  have P := Lib.hid (proper_iff va)
  by_cases h : (va.toNat : Int) / 274877906944 = 0
  · go_enter Try.func83, Try.ntmps83
    go_wp2
    go_ret
    exact ⟨ret_bool (by rw [P.out, h]; rfl), Quiet.refl _⟩
  · go_enter Try.func83, Try.ntmps83
    go_wp2
    go_ret
    exact ⟨ret_bool (by rw [P.out] <;> simp [h]), Quiet.refl _⟩
theorem tpage_any (va : BitVec 64) (l : Nat) (hl : l ≤ 2) : Qt Try.prog 86 #[.int .u64 (va.toNat : Int), .int .i64 (l : Int)] (.int .u64 ((vpnW va l).toNat : Int)) := by
  intro w
  have c := field_page va
  unfold vpnW
  generalize field va 38 12 = f at c ⊢
  match l, hl with
  | 0, _ =>
    go_enter Try.func86, Try.ntmps86
    go_wp2
    go_ret
    exact ⟨ret_int (by rw [shr_shl] <;> simp), Quiet.refl _⟩
  | 1, _ =>
    go_enter Try.func86, Try.ntmps86
    go_wp2
    go_ret
    exact ⟨ret_int (by rw [shr_shl] <;> simp), Quiet.refl _⟩
  | 2, _ =>
    go_enter Try.func86, Try.ntmps86
    go_wp2
    go_ret
    exact ⟨ret_int (by rw [shr_shl] <;> simp), Quiet.refl _⟩
end Go.Proofs.Ythjhcdkbajbpdaa
