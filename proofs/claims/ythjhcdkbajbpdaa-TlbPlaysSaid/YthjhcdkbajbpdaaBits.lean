/- Contracts of the functions of package bits: Field, Put, Sext, Zext, Aligned, as functions on bit vectors. -/
import Derived.Test.YthjhcdkbajbpdaaBase
namespace Go.Proofs.Ythjhcdkbajbpdaa
open Go.RowKit Wd

theorem ones_any (n : Int) (h0 : 0 ≤ n) : Qt Try.prog 70 #[.int .i64 n] (.int .u64 ((ones n.toNat).toNat : Int)) := by
  intro w
  by_cases h : n < 64
  · go_enter Try.func70, Try.ntmps70
    go_wp2
    go_ret
    exact ⟨ret_int (ones_walk _ (by omega)), Quiet.refl _⟩
  · have hf : Hid (ones n.toNat = ones 64) := by rw [ones_all n.toNat (by omega), ones_all 64 (by omega)]; exact rfl
    go_enter Try.func70, Try.ntmps70
    go_wp2
    go_ret
    exact ⟨ret_int (by rw [hf.out]; exact ones_walk'), Quiet.refl _⟩

theorem may_any (hi lo : Int) : Qt Try.prog 71 #[.int .i64 hi, .int .i64 lo] (.bool (may hi lo)) := by
  intro w
  have hm : may hi lo = (decide (0 ≤ lo) && (decide (lo ≤ hi) && decide (hi < 64))) := by unfold may; simp [Bool.decide_and]
  by_cases h1 : 0 ≤ lo
  · by_cases h2 : lo ≤ hi
    · by_cases h3 : hi < 64
      all_goals
        have H : Hid (may hi lo = _) := hm
        clear hm
        go_enter Try.func71, Try.ntmps71
        go_wp2
        go_ret
        exact ⟨ret_bool (by rw [H.out]; simp [h1, h2, h3]), Quiet.refl _⟩
    · have H : Hid (may hi lo = _) := hm
      clear hm
      go_enter Try.func71, Try.ntmps71
      go_wp2
      go_ret
      exact ⟨ret_bool (by rw [H.out]; simp [h1]; try omega), Quiet.refl _⟩
  · have H : Hid (may hi lo = _) := hm
    clear hm
    go_enter Try.func71, Try.ntmps71
    go_wp2
    go_ret
    exact ⟨ret_bool (by rw [H.out]; simp; try omega), Quiet.refl _⟩

theorem field_any (v : BitVec 64) (hi lo : Int) : Qt Try.prog 46 #[.int .u64 (v.toNat : Int), .int .i64 hi, .int .i64 lo] (.int .u64 ((field v hi lo).toNat : Int)) := by
  intro w
  by_cases hm : may hi lo = true
  · have hb := (may_iff _ _).1 hm
    have hf : Hid (field v hi lo = fld v lo.toNat (hi - lo + 1).toNat) := by unfold field; rw [if_pos hm]; exact rfl
    go_enter Try.func46, Try.ntmps46
    go_wp2_with (go_at_call 71; refine (may_any _ _ _).mono ?_; rintro e w' ⟨rfl, hq⟩)
    go_quiet ((go_at_call 70; exact (ones_any _ (by omega)).quiet))
    go_wp2
    go_ret
    exact ⟨ret_int (by rw [hf.out]; exact field_walk _ _ _), hq.drewN _⟩
  · have hm' : may hi lo = false := by simpa using hm
    have hf : Hid (field v hi lo = 0#64) := by unfold field; rw [if_neg hm]; exact rfl
    clear hm
    go_enter Try.func46, Try.ntmps46
    go_wp2_with (go_at_call 71; refine (may_any _ _ _).mono ?_; rintro e w' ⟨rfl, hq⟩)
    go_ret
    exact ⟨ret_int (by rw [hf.out]; rfl), hq⟩



theorem sext_any (v : BitVec 64) (n : Int) :
    Qt Try.prog 44 #[.int .u64 (v.toNat : Int), .int .i64 n] (.int .u64 ((sext v n).toNat : Int)) := by
  intro w
  by_cases h1 : n < 1
  · have hf : Hid (sext v n = 0#64) := by unfold sext; rw [if_pos h1]; exact rfl
    go_enter Try.func44, Try.ntmps44
    go_wp2
    go_ret
    exact ⟨ret_int (by rw [hf.out]; rfl), Quiet.refl _⟩
  · by_cases h2 : 64 ≤ n
    · have hf : Hid (sext v n = v) := by unfold sext; rw [if_neg h1, if_pos h2]; exact rfl
      go_enter Try.func44, Try.ntmps44
      go_wp2
      go_ret
      exact ⟨ret_int (by rw [hf.out]), Quiet.refl _⟩
    · have hf : Hid (sext v n = sextN v n.toNat) := by unfold sext; rw [if_neg h1, if_neg h2]; exact rfl
      go_enter Try.func44, Try.ntmps44
      go_wp2
      go_ret
      exact ⟨ret_int (by rw [hf.out]; exact sext_walk v (64 - n).toNat n.toNat (by omega)), Quiet.refl _⟩

theorem zext_any (v : BitVec 64) (n : Int) :
    Qt Try.prog 45 #[.int .u64 (v.toNat : Int), .int .i64 n] (.int .u64 ((zext v n).toNat : Int)) := by
  intro w
  by_cases h : 0 ≤ n
  · have hf : Hid (zext v n = zextN v n.toNat) := by exact rfl
    go_enter Try.func45, Try.ntmps45
    go_wp2_with (go_at_call 70; refine (ones_any _ (by omega) _).mono ?_; rintro e w'' ⟨rfl, hq⟩)
    go_ret
    exact ⟨ret_int (by rw [hf.out]; exact zext_walk _ _), hq⟩
  · have hf : Hid (zext v n = zextN v 0) := by unfold zext; rw [show n.toNat = 0 from by omega]; exact rfl
    go_enter Try.func45, Try.ntmps45
    go_wp2_with (go_at_call 70; refine (ones_any _ (by omega) _).mono ?_; rintro e w'' ⟨rfl, hq⟩)
    go_ret
    exact ⟨ret_int (by rw [hf.out]; exact zext_walk _ _), hq⟩


end Go.Proofs.Ythjhcdkbajbpdaa
