/- Contracts of the functions of package tappetref01: Field, Put, Sext, Zext, Aligned, as functions on bit vectors. -/
import Derived.Test.YthjhcdkbajbpdaaBase
import Derived.Handy
namespace Go.Proofs.Ythjhcdkbajbpdaa
open Go.RowKit Wd

theorem rbit_any (v : BitVec 64) (k : Nat) (h1 : k < 64) : Qt Try.prog 78 #[.int .u64 (v.toNat : Int), .int .i64 (k : Int)] (.bool (bit v k)) := by
  intro w
  go_enter Try.func78, Try.ntmps78
  go_wp2
  go_ret
  exact ⟨ret_bool (bit_walk _ _), Quiet.refl _⟩

theorem rbit_at (v : BitVec 64) (k : Int) (m : Nat) (h : k = m) (h1 : m < 64) : Qt Try.prog 78 #[.int .u64 (v.toNat : Int), .int .i64 k] (.bool (bit v m)) := by
  subst h
  exact rbit_any v m h1

theorem rmay_any (hi lo : Int) : Qt Try.prog 77 #[.int .i64 hi, .int .i64 lo] (.bool (may hi lo)) := by
  intro w
  have hm : may hi lo = (decide (0 ≤ lo) && (decide (lo ≤ hi) && decide (hi < 64))) := by unfold may; simp [Bool.decide_and]
  by_cases h1 : 0 ≤ lo
  · by_cases h2 : lo ≤ hi
    · by_cases h3 : hi < 64
      all_goals
        have H : Hid (may hi lo = _) := hm
        clear hm
        go_enter Try.func77, Try.ntmps77
        go_wp2
        go_ret
        exact ⟨ret_bool (by rw [H.out]; simp [h1, h2, h3]; try omega), Quiet.refl _⟩
    · have H : Hid (may hi lo = _) := hm
      clear hm
      go_enter Try.func77, Try.ntmps77
      go_wp2
      go_ret
      exact ⟨ret_bool (by rw [H.out]; simp [h1]; try omega), Quiet.refl _⟩
  · have H : Hid (may hi lo = _) := hm
    clear hm
    go_enter Try.func77, Try.ntmps77
    go_wp2
    go_ret
    exact ⟨ret_bool (by rw [H.out]; simp; try omega), Quiet.refl _⟩

theorem rfield_any (v : BitVec 64) (hi lo : Int) : Qt Try.prog 72 #[.int .u64 (v.toNat : Int), .int .i64 hi, .int .i64 lo] (.int .u64 ((field v hi lo).toNat : Int)) := by
  intro w
  by_cases hm : may hi lo = true
  · obtain ⟨hb1, hb2, hb3⟩ := (may_iff _ _).1 hm
    obtain ⟨l, rfl⟩ := Int.eq_ofNat_of_zero_le hb1
    obtain ⟨m, hm2⟩ := Int.eq_ofNat_of_zero_le (show 0 ≤ hi - l by omega)
    obtain rfl : hi = (l : Int) + (m : Int) := by omega
    have hf : Hid (field v ((l : Int) + (m : Int)) l = fld v l (m + 1)) := by
      unfold field
      rw [if_pos hm, show ((l : Int)).toNat = l from by omega, show ((l : Int) + (m : Int) - l + 1).toNat = m + 1 from by omega]
      exact rfl
    clear hm2 hb2 hb1
    go_enter Try.func72, Try.ntmps72
    go_wp2_with fail
    go_loopw [7, 8] (fun out k wr => ∃ (kk : Int) (j : Nat), kk + j ≤ l + m ∧ (l : Int) + m ≤ kk + j ∧ j ≤ m + 1 ∧ k = .int .i64 kk ∧ out = .int .u64 ((fld v (kk + 1).toNat j).toNat : Int) ∧ Quiet w wr) (fun _ k _ => (intOf k + 1).toNat)
    case atStart => exact ⟨(l : Int) + (m : Int), 0, by omega, by omega, by omega, rfl, by rw [fld_zero]; rfl, Quiet.refl _⟩
    case round =>
      obtain ⟨kk, j, hk1, hk2, hj, rfl, rfl, hq⟩ := hrel
      by_cases hlt : j ≤ m
      · obtain ⟨p, rfl⟩ := Int.eq_ofNat_of_zero_le (show 0 ≤ kk by omega)
        have hp : ((p : Int) + 1).toNat = p + 1 := by omega
        by_cases hbit : bit v p = true
        all_goals
          go_wp2_with (first
            | (go_at_call 77; refine (rmay_any _ _ _).mono ?_; rintro e w' ⟨rfl, hq1⟩)
            | (go_at_call 78; refine (rbit_any _ _ (by omega) _).mono ?_; rintro e w'' ⟨rfl, hq2⟩))
          go_roundw
          case rel => exact ⟨(p : Int) - 1, j + 1, by omega, by omega, by omega, rfl, val_int (by rw [show ((p : Int) - 1 + 1).toNat = p from by omega]; first | exact fld_step1 _ _ _ (by omega) hbit | exact fld_step0 _ _ _ (by omega) (by simpa using hbit)), (hq.trans hq1).trans hq2⟩
          case measure => simp [intOf]
      · go_wp2_with (first
          | (go_at_call 77; refine (rmay_any _ _ _).mono ?_; rintro e w' ⟨rfl, hq1⟩))
        go_ret
        exact ⟨ret_int (by rw [hf.out, show (kk + 1).toNat = l from by omega, show j = m + 1 from by omega]), hq.trans hq1⟩
  · have hm' : may hi lo = false := by simpa using hm
    have hf : Hid (field v hi lo = 0#64) := by unfold field; rw [if_neg hm]; exact rfl
    clear hm
    go_enter Try.func72, Try.ntmps72
    go_wp2_with fail
    refine wp_loop_rounds 1 ?_
    rw [rounds_succ]
    go_wp2_with (go_at_call 77; refine (rmay_any _ _ _).mono ?_; rintro e w' ⟨rfl, hq1⟩)
    go_ret
    exact ⟨ret_int (by rw [hf.out]; rfl), hq1⟩

theorem rput_any (v x : BitVec 64) (hi lo : Int) : Qt Try.prog 56 #[.int .u64 (v.toNat : Int), .int .i64 hi, .int .i64 lo, .int .u64 (x.toNat : Int)] (.int .u64 ((put v hi lo x).toNat : Int)) := by
  intro w
  by_cases hm : may hi lo = true
  · obtain ⟨hb1, hb2, hb3⟩ := (may_iff _ _).1 hm
    obtain ⟨l, rfl⟩ := Int.eq_ofNat_of_zero_le hb1
    obtain ⟨m, hm2⟩ := Int.eq_ofNat_of_zero_le (show 0 ≤ hi - l by omega)
    obtain rfl : hi = (l : Int) + (m : Int) := by omega
    have hf : Hid (put v ((l : Int) + (m : Int)) l x = putN v l (m + 1) x) := by
      unfold put
      rw [if_pos hm, show ((l : Int)).toNat = l from by omega, show ((l : Int) + (m : Int) - l + 1).toNat = m + 1 from by omega]
      exact rfl
    clear hm2 hb2 hb1
    go_enter Try.func56, Try.ntmps56
    go_wp2_with fail
    go_loopw [0, 9] (fun out k wr => ∃ j : Nat, j ≤ m + 1 ∧ k = .int .i64 ((l : Int) + (j : Int)) ∧ out = .int .u64 ((putN v l j x).toNat : Int) ∧ Quiet w wr) (fun _ k _ => ((l : Int) + m + 1 - intOf k).toNat)
    case atStart => exact ⟨0, by omega, by simp, by rw [putN_zero], Quiet.refl _⟩
    case round =>
      obtain ⟨j, hj, rfl, rfl, hq⟩ := hrel
      by_cases hlt : j ≤ m
      · by_cases hbit : bit x j = true
        all_goals
          go_wp2_with (first
            | (go_at_call 77; refine (rmay_any _ _ _).mono ?_; rintro e w' ⟨rfl, hq1⟩)
            | (go_at_call 78; refine (rbit_at _ _ j (by omega) (by omega) _).mono ?_; rintro e w'' ⟨rfl, hq2⟩))
          go_roundw
          case rel => exact ⟨j + 1, by omega, by simp; omega, val_int (by first | exact put_step1 _ _ _ _ (by omega) hbit | exact put_step0 _ _ _ _ (by omega) (by simpa using hbit)), (hq.trans hq1).trans hq2⟩
          case measure => simp [intOf]; omega
      · go_wp2_with (first
          | (go_at_call 77; refine (rmay_any _ _ _).mono ?_; rintro e w' ⟨rfl, hq1⟩))
        go_ret
        exact ⟨ret_int (by rw [hf.out, show j = m + 1 from by omega]), hq.trans hq1⟩
  · have hm' : may hi lo = false := by simpa using hm
    have hf : Hid (put v hi lo x = v) := by unfold put; rw [if_neg hm]; exact rfl
    clear hm
    go_enter Try.func56, Try.ntmps56
    go_wp2_with fail
    refine wp_loop_rounds 1 ?_
    rw [rounds_succ]
    go_wp2_with (go_at_call 77; refine (rmay_any _ _ _).mono ?_; rintro e w' ⟨rfl, hq1⟩)
    go_ret
    exact ⟨ret_int (by rw [hf.out]), hq1⟩

theorem rzext_any (v : BitVec 64) (n : Int) : Qt Try.prog 75 #[.int .u64 (v.toNat : Int), .int .i64 n] (.int .u64 ((zext v n).toNat : Int)) := by
  intro w
  by_cases h1 : n < 1
  · have hf : Hid (zext v n = 0#64) := zext_low v n h1
    go_enter Try.func75, Try.ntmps75
    go_wp2
    go_ret
    exact ⟨ret_int (by rw [hf.out]; rfl), Quiet.refl _⟩
  · by_cases h2 : 64 ≤ n
    · have hf : Hid (zext v n = v) := zext_all v n h2
      go_enter Try.func75, Try.ntmps75
      go_wp2
      go_ret
      exact ⟨ret_int (by rw [hf.out]), Quiet.refl _⟩
    · have hf : Hid (zext v n = field v (n - 1) 0) := zext_field v n (by omega) (by omega)
      go_enter Try.func75, Try.ntmps75
      go_wp2_with (go_at_call 72; refine (rfield_any _ _ _ _).mono ?_; rintro e w' ⟨rfl, hq1⟩)
      go_ret
      exact ⟨ret_int (by rw [hf.out]), hq1⟩



theorem rsext_any (v : BitVec 64) (n : Int) : Qt Try.prog 90 #[.int .u64 (v.toNat : Int), .int .i64 n] (.int .u64 ((sext v n).toNat : Int)) := by
  intro w
  by_cases h1 : n < 1
  · have hf : Hid (sext v n = 0#64) := by unfold sext; rw [if_pos h1]; exact rfl
    go_enter Try.func90, Try.ntmps90
    go_wp2
    go_ret
    exact ⟨ret_int (by rw [hf.out]; rfl), Quiet.refl _⟩
  · by_cases h2 : 64 ≤ n
    · have hf : Hid (sext v n = v) := by unfold sext; rw [if_neg h1, if_pos h2]; exact rfl
      go_enter Try.func90, Try.ntmps90
      go_wp2
      go_ret
      exact ⟨ret_int (by rw [hf.out]), Quiet.refl _⟩
    · have hf : Hid (sext v n = sextN v n.toNat) := by unfold sext; rw [if_neg h1, if_neg h2]; exact rfl
      have h3 : decide (63 < n) = false := by simp; omega
      go_enter Try.func90, Try.ntmps90
      go_wp2_with (go_at_call 72; refine (rfield_any _ _ _ _).mono ?_; rintro e w' ⟨rfl, hq1⟩)
      go_loopw [5, 6] (fun out k wr => ∃ kk : Nat, n ≤ kk ∧ kk ≤ 64 ∧ k = .int .i64 (kk : Int) ∧ out = .int .u64 ((sextK v n.toNat kk).toNat : Int) ∧ Quiet w' wr) (fun _ k _ => (64 - intOf k).toNat)
      case atStart => exact ⟨n.toNat, by omega, by omega, by rw [show ((n.toNat : Nat) : Int) = n from by omega], by rw [sextK_start, show field v (n - 1) 0 = fld v 0 n.toNat from by unfold field; rw [if_pos ((may_iff _ _).2 (by omega)), show (n - 1 - 0 + 1) = n from by omega]; rfl], Quiet.refl _⟩
      case round =>
        obtain ⟨kk, hj1, hj2, rfl, rfl, hq⟩ := hrel
        obtain ⟨m, hm⟩ := Int.eq_ofNat_of_zero_le (show 0 ≤ n - 1 by omega)
        have hm1 := Lib.hid hm
        have hm2 := Lib.hid (show n.toNat - 1 = m by omega)
        have hm3 : m < 64 := by omega
        clear hm
        by_cases hbit : bit v m = true
        · by_cases hlt : kk < 64
          · go_wp2_with (first
              | (go_at_call 78; refine (rbit_at _ _ m hm1.out hm3 _).mono ?_; rintro e w'' ⟨rfl, hq2⟩))
            go_roundw
            case rel => exact ⟨kk + 1, by omega, by omega, by go_num, val_int (sext_step _ _ _ hlt (by omega) (by rw [hm2.out]; exact hbit)), hq.trans hq2⟩
            case measure => simp [intOf]; omega
          · go_wp2_with (first
              | (go_at_call 78; refine (rbit_at _ _ m hm1.out hm3 _).mono ?_; rintro e w'' ⟨rfl, hq2⟩))
            go_ret
            exact ⟨ret_int (by rw [hf.out, show kk = 64 from by omega, sextK_end _ _ (by omega) (by omega)]), hq1.trans (hq.trans hq2)⟩
        · go_wp2_with (first
            | (go_at_call 78; refine (rbit_at _ _ m hm1.out hm3 _).mono ?_; rintro e w'' ⟨rfl, hq2⟩))
          go_ret
          exact ⟨ret_int (by rw [hf.out, ← sextK_end _ _ (by omega) (by omega), sextK_none _ _ _ (by rw [hm2.out]; simpa using hbit), sextK_none _ _ _ (by rw [hm2.out]; simpa using hbit)]), hq1.trans (hq.trans hq2)⟩
end Go.Proofs.Ythjhcdkbajbpdaa
