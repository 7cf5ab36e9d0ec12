/- The laws AmoMakes, AmoExtends, AmoLoads and AmoOrders, walked: each call answers true. -/
import Derived.Test.YthijheijognhmaaAmo
namespace Go.Proofs.Ythijheijognhmaa
open Go.RowKit Wd

namespace Wd
def ext (v : BitVec 64) (size : Int) (s : Bool) : BitVec 64 :=
  if size = 1 ∨ size = 2 ∨ size = 4 ∨ size = 8 then (if s then sext v (8 * size) else zext v (8 * size)) else 0#64
theorem ext_s (v : BitVec 64) (size : Int) (h : size = 1 ∨ size = 2 ∨ size = 4 ∨ size = 8) : ext v size true = sext v (8 * size) := by unfold ext; rw [if_pos h]; rfl
theorem ext_z (v : BitVec 64) (size : Int) (h : size = 1 ∨ size = 2 ∨ size = 4 ∨ size = 8) : ext v size false = zext v (8 * size) := by unfold ext; rw [if_pos h]; rfl
theorem ext_no (v : BitVec 64) (size : Int) (s : Bool) (h1 : ¬ size = 1) (h2 : ¬ size = 2) (h4 : ¬ size = 4) (h8 : ¬ size = 8) : ext v size s = 0#64 := by unfold ext; rw [if_neg (by omega)]
theorem and3 (x : Int) : bits .and .i64 x 3 = 0 ∨ bits .and .i64 x 3 = 1 ∨ bits .and .i64 x 3 = 2 ∨ bits .and .i64 x 3 = 3 := by
  have h : bits .and .i64 x 3 = (((BitVec.ofInt 64 x).toNat % 4 : Nat) : Int) := by
    show IntKind.i64.wrap ((BitVec.ofInt 64 x &&& BitVec.ofInt 64 3).toNat : Int) = _
    have e : (BitVec.ofInt 64 3).toNat = 3 := by decide
    rw [BitVec.toNat_and, e, Nat.and_two_pow_sub_one_eq_mod (BitVec.ofInt 64 x).toNat 2]
    exact IntWalk.i64_in _ (by omega)
  rw [h]
  omega
theorem zext_div (v : BitVec 64) (n : Nat) (hn : n ≤ 64) : ((zext v (n : Int)).toNat : Int) / 2 ^ n = 0 := by
  have h : (zext v (n : Int)).toNat < 2 ^ n := by
    unfold zext zextN
    rw [show ((n : Int)).toNat = n from by omega, BitVec.toNat_and, ones_toNat n hn, Nat.and_two_pow_sub_one_eq_mod]
    exact Nat.mod_lt _ (Nat.two_pow_pos n)
  rw [shr64, BitVec.toNat_ushiftRight, Nat.shiftRight_eq_div_pow, Nat.div_eq_of_lt h]
  rfl
end Wd





theorem granule_lit : Qt Try.prog 18 #[.int .u64 15] (.int .u64 8) := by
  intro w
  go_enter Try.func18, Try.ntmps18
  go_wp2
  go_ret
  exact ⟨ret_int (by decide), Quiet.refl _⟩

theorem awake_any : Qt Try.prog 17 #[] (.bool true) := by
  intro w
  have hq := Quiet.refl w
  have h1 : Qt Try.prog 42 #[.int .i64 0, .int .i64 8, .int .u64 2, .int .u64 3] (.tuple #[.int .u64 5, .int .i64 0]) := pnew_any 0 8 2#64 3#64 (by omega)
  have H1 := Lib.hid h1
  clear h1
  go_enter Try.func17, Try.ntmps17
  go_wp2_with (first
    | (go_at_call 42; refine (H1.out.at hq).mono ?_; clear hq; rintro e w1 ⟨rfl, hq⟩)
    | (go_at_call 18; refine (granule_lit.at hq).mono ?_; clear hq; rintro e w1 ⟨rfl, hq⟩))
  go_ret
  exact ⟨rfl, hq⟩














end Go.Proofs.Ythijheijognhmaa
