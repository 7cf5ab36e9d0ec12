/- Contracts of the functions of package bits: Field, Put, Sext, Zext, Aligned, as functions on bit vectors. -/
import Derived.Test.YthijheijognhmaaBase
namespace Go.Proofs.Ythijheijognhmaa
open Go.RowKit Wd

theorem ones_any (n : Int) (h0 : 0 ≤ n) : Qt Try.prog 51 #[.int .i64 n] (.int .u64 ((ones n.toNat).toNat : Int)) := by
  intro w
  by_cases h : n < 64
  · go_enter Try.func51, Try.ntmps51
    go_wp2
    go_ret
    exact ⟨ret_int (ones_walk _ (by omega)), Quiet.refl _⟩
  · have hf : Hid (ones n.toNat = ones 64) := by rw [ones_all n.toNat (by omega), ones_all 64 (by omega)]; exact rfl
    go_enter Try.func51, Try.ntmps51
    go_wp2
    go_ret
    exact ⟨ret_int (by rw [hf.out]; exact ones_walk'), Quiet.refl _⟩







theorem sext_any (v : BitVec 64) (n : Int) :
    Qt Try.prog 48 #[.int .u64 (v.toNat : Int), .int .i64 n] (.int .u64 ((sext v n).toNat : Int)) := by
  intro w
  by_cases h1 : n < 1
  · have hf : Hid (sext v n = 0#64) := by unfold sext; rw [if_pos h1]; exact rfl
    go_enter Try.func48, Try.ntmps48
    go_wp2
    go_ret
    exact ⟨ret_int (by rw [hf.out]; rfl), Quiet.refl _⟩
  · by_cases h2 : 64 ≤ n
    · have hf : Hid (sext v n = v) := by unfold sext; rw [if_neg h1, if_pos h2]; exact rfl
      go_enter Try.func48, Try.ntmps48
      go_wp2
      go_ret
      exact ⟨ret_int (by rw [hf.out]), Quiet.refl _⟩
    · have hf : Hid (sext v n = sextN v n.toNat) := by unfold sext; rw [if_neg h1, if_neg h2]; exact rfl
      go_enter Try.func48, Try.ntmps48
      go_wp2
      go_ret
      exact ⟨ret_int (by rw [hf.out]; exact sext_walk v (64 - n).toNat n.toNat (by omega)), Quiet.refl _⟩

theorem zext_any (v : BitVec 64) (n : Int) :
    Qt Try.prog 49 #[.int .u64 (v.toNat : Int), .int .i64 n] (.int .u64 ((zext v n).toNat : Int)) := by
  intro w
  by_cases h : 0 ≤ n
  · have hf : Hid (zext v n = zextN v n.toNat) := by exact rfl
    go_enter Try.func49, Try.ntmps49
    go_wp2_with (go_at_call 51; refine (ones_any _ (by omega) _).mono ?_; rintro e w'' ⟨rfl, hq⟩)
    go_ret
    exact ⟨ret_int (by rw [hf.out]; exact zext_walk _ _), hq⟩
  · have hf : Hid (zext v n = zextN v 0) := by unfold zext; rw [show n.toNat = 0 from by omega]; exact rfl
    go_enter Try.func49, Try.ntmps49
    go_wp2_with (go_at_call 51; refine (ones_any _ (by omega) _).mono ?_; rintro e w'' ⟨rfl, hq⟩)
    go_ret
    exact ⟨ret_int (by rw [hf.out]; exact zext_walk _ _), hq⟩


end Go.Proofs.Ythijheijognhmaa
