/- Contracts of Ones, High and Low of package bits and of package tappetref01. -/
import Derived.Test.YtbaegflfcjcbeaaRefBits
namespace Go.Proofs.Ytbaegflfcjcbeaa
open Go.RowKit Wd
attribute [local go_sem] bitne_walk

theorem pones_any (v : BitVec 64) : Qt Try.prog 28 #[.int .u64 (v.toNat : Int)] (.int .i64 (cnt v 64 : Nat)) := by
  intro w
  go_enter Try.func28, Try.ntmps28
  go_wp2_with fail
  go_loop [3, 5] (fun n i => ∃ k : Nat, k ≤ 64 ∧ i = .int .i64 (k : Int) ∧ n = .int .i64 (cnt v k : Nat)) (fun _ i => 64 - (intOf i).toNat)
  case atStart => exact ⟨0, by omega, rfl, rfl⟩
  case round =>
    obtain ⟨k, hk, rfl, rfl⟩ := hrel
    have hc := cnt_le v k
    by_cases hlt : k < 64
    · go_wp2
      go_round
      case rel => exact ⟨k + 1, by omega, by go_num, val_int (by rw [and1_walk]; simp only [cnt]; split <;> (simp [wrap64]; omega))⟩
      case measure => simp [intOf]; omega
    · go_wp2
      go_ret
      exact ⟨ret_int (by rw [show k = 64 from by omega]), Quiet.refl _⟩

theorem rones_any (v : BitVec 64) : Qt Try.prog 29 #[.int .u64 (v.toNat : Int)] (.int .i64 (cnt v 64 : Nat)) := by
  intro w
  go_enter Try.func29, Try.ntmps29
  go_wp2_with fail
  go_loopw [3, 4] (fun n i wr => ∃ k : Nat, k ≤ 64 ∧ i = .int .i64 (k : Int) ∧ n = .int .i64 (cnt v k : Nat) ∧ Quiet w wr) (fun _ i _ => 64 - (intOf i).toNat)
  case atStart => exact ⟨0, by omega, rfl, rfl, Quiet.refl _⟩
  case round =>
    obtain ⟨k, hk, rfl, rfl, hq⟩ := hrel
    have hc := cnt_le v k
    by_cases hlt : k < 64
    · by_cases hb : bit v k = true
      all_goals
        go_wp2_with (go_at_call 38; refine (rbit_any _ _ (by omega) _).mono ?_; rintro e w'' ⟨rfl, hq2⟩)
        go_roundw
        case rel => exact ⟨k + 1, by omega, by go_num, val_int (by simp [cnt, hb]), hq.trans hq2⟩
        case measure => simp [intOf]; omega
    · go_wp2
      go_ret
      exact ⟨ret_int (by rw [show k = 64 from by omega]), hq⟩

theorem phigh_any (v : BitVec 64) : Qt Try.prog 24 #[.int .u64 (v.toNat : Int)] (found (high v 64)) := by
  intro w
  go_enter Try.func24, Try.ntmps24
  go_wp2_with fail
  go_loop [6] (fun i => ∃ k j : Nat, k + j ≤ 64 ∧ 64 ≤ k + j ∧ i = .int .i64 (k : Int) ∧ high v 64 = high v j) (fun i => 64 - (intOf i).toNat)
  case atStart => exact ⟨0, 64, by omega, by omega, rfl, rfl⟩
  case round =>
    obtain ⟨k, j, hk1, hk2, rfl, hh⟩ := hrel
    have H := Lib.hid hh
    clear hh
    by_cases hlt : k < 64
    · obtain ⟨p, rfl⟩ : ∃ p, j = p + 1 := ⟨j - 1, by omega⟩
      have hp := Lib.hid (show 63 - k = p by omega)
      by_cases hb : bit v (63 - k) = true
      · go_wp2
        go_ret2
        refine ⟨?_, Quiet.refl _⟩
        rw [H.out, high, if_pos (by rw [← hp.out]; exact hb)]
        exact ret_two (val_int (by omega)) rfl
      · go_wp2
        go_round
        case rel => exact ⟨k + 1, p, by omega, by omega, by go_num, by rw [H.out, high, if_neg (by rw [← hp.out]; exact hb)]⟩
        case measure => simp [intOf]; omega
    · go_wp2
      go_ret2
      refine ⟨?_, Quiet.refl _⟩
      rw [H.out, show j = 0 from by omega]
      exact ret_two rfl rfl

theorem rhigh_any (v : BitVec 64) : Qt Try.prog 25 #[.int .u64 (v.toNat : Int)] (found (high v 64)) := by
  intro w
  go_enter Try.func25, Try.ntmps25
  go_wp2_with fail
  go_loopw [4] (fun i wr => ∃ (k : Int) (j : Nat), k + 1 ≤ j ∧ (j : Int) ≤ k + 1 ∧ j ≤ 64 ∧ i = .int .i64 k ∧ high v 64 = high v j ∧ Quiet w wr) (fun i _ => (intOf i + 1).toNat)
  case atStart => exact ⟨63, 64, by omega, by omega, by omega, rfl, rfl, Quiet.refl _⟩
  case round =>
    obtain ⟨k, j, hk1, hk2, hk3, rfl, hh, hq⟩ := hrel
    have H := Lib.hid hh
    clear hh
    by_cases hlt : 0 ≤ k
    · obtain ⟨p, rfl⟩ := Int.eq_ofNat_of_zero_le hlt
      have hp := Lib.hid (show j = p + 1 by omega)
      by_cases hb : bit v p = true
      · go_wp2_with (go_at_call 38; refine (rbit_any _ _ (by omega) _).mono ?_; rintro e w'' ⟨rfl, hq2⟩)
        go_ret2
        refine ⟨?_, hq.trans hq2⟩
        rw [H.out, hp.out, high, if_pos hb]
        exact ret_two rfl rfl
      · go_wp2_with (go_at_call 38; refine (rbit_any _ _ (by omega) _).mono ?_; rintro e w'' ⟨rfl, hq2⟩)
        go_roundw
        case rel => exact ⟨(p : Int) - 1, p, by omega, by omega, by omega, rfl, by rw [H.out, hp.out, high, if_neg hb], hq.trans hq2⟩
        case measure => simp [intOf]
    · go_wp2
      go_ret2
      refine ⟨?_, hq⟩
      rw [H.out, show j = 0 from by omega]
      exact ret_two rfl rfl

theorem plow_any (v : BitVec 64) : Qt Try.prog 26 #[.int .u64 (v.toNat : Int)] (found (low v 64 0)) := by
  intro w
  go_enter Try.func26, Try.ntmps26
  go_wp2_with fail
  go_loop [5] (fun i => ∃ k j : Nat, k + j ≤ 64 ∧ 64 ≤ k + j ∧ i = .int .i64 (k : Int) ∧ low v 64 0 = low v j k) (fun i => 64 - (intOf i).toNat)
  case atStart => exact ⟨0, 64, by omega, by omega, rfl, rfl⟩
  case round =>
    obtain ⟨k, j, hk1, hk2, rfl, hh⟩ := hrel
    have H := Lib.hid hh
    clear hh
    by_cases hlt : k < 64
    · obtain ⟨p, rfl⟩ : ∃ p, j = p + 1 := ⟨j - 1, by omega⟩
      by_cases hb : bit v k = true
      · go_wp2
        go_ret2
        refine ⟨?_, Quiet.refl _⟩
        rw [H.out, low, if_pos hb]
        exact ret_two rfl rfl
      · go_wp2
        go_round
        case rel => exact ⟨k + 1, p, by omega, by omega, by go_num, by rw [H.out, low, if_neg hb]⟩
        case measure => simp [intOf]; omega
    · go_wp2
      go_ret2
      refine ⟨?_, Quiet.refl _⟩
      rw [H.out, show j = 0 from by omega]
      exact ret_two rfl rfl

theorem rlow_any (v : BitVec 64) : Qt Try.prog 27 #[.int .u64 (v.toNat : Int)] (found (low v 64 0)) := by
  intro w
  go_enter Try.func27, Try.ntmps27
  go_wp2_with fail
  go_loopw [4] (fun i wr => ∃ k j : Nat, k + j ≤ 64 ∧ 64 ≤ k + j ∧ i = .int .i64 (k : Int) ∧ low v 64 0 = low v j k ∧ Quiet w wr) (fun i _ => 64 - (intOf i).toNat)
  case atStart => exact ⟨0, 64, by omega, by omega, rfl, rfl, Quiet.refl _⟩
  case round =>
    obtain ⟨k, j, hk1, hk2, rfl, hh, hq⟩ := hrel
    have H := Lib.hid hh
    clear hh
    by_cases hlt : k < 64
    · obtain ⟨p, rfl⟩ : ∃ p, j = p + 1 := ⟨j - 1, by omega⟩
      by_cases hb : bit v k = true
      · go_wp2_with (go_at_call 38; refine (rbit_any _ _ (by omega) _).mono ?_; rintro e w'' ⟨rfl, hq2⟩)
        go_ret2
        refine ⟨?_, hq.trans hq2⟩
        rw [H.out, low, if_pos hb]
        exact ret_two rfl rfl
      · go_wp2_with (go_at_call 38; refine (rbit_any _ _ (by omega) _).mono ?_; rintro e w'' ⟨rfl, hq2⟩)
        go_roundw
        case rel => exact ⟨k + 1, p, by omega, by omega, by go_num, by rw [H.out, low, if_neg hb], hq.trans hq2⟩
        case measure => simp [intOf]; omega
    · go_wp2
      go_ret2
      refine ⟨?_, hq⟩
      rw [H.out, show j = 0 from by omega]
      exact ret_two rfl rfl
end Go.Proofs.Ytbaegflfcjcbeaa
