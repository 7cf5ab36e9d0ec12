/- Contracts of Victim and Touch of package plru and of its reference. -/
import Derived.Test.YthjhcdkbajbpdaaPlru
namespace Go.Proofs.Ythjhcdkbajbpdaa
open Go.RowKit Pl
namespace Pl
theorem lev_le (ways : Int) : lev ways ≤ 3 := by
  unfold lev
  split
  · omega
  · split
    · omega
    · split <;> omega
theorem victim_yes (n : Nat) (ways : Int) (h : mayB (n : Int) ways = true) : victim (n : Int) ways = (down n (lev ways) : Int) - ways := by
  unfold victim
  rw [if_pos h]
  rfl
theorem victim_no (s ways : Int) (h : mayB s ways = false) : victim s ways = 0 := by
  unfold victim
  rw [h]
  rfl
theorem pow_small (u : Nat) (hu : u ≤ 6) : 1 ≤ 2 ^ u ∧ 2 ^ u ≤ 64 := by
  have h1 := Nat.two_pow_pos u
  have h2 : (2 : Nat) ^ u ≤ 2 ^ 6 := Nat.pow_le_pow_right (by omega) hu
  omega
theorem wrap_pow (u : Nat) (hu : u ≤ 6) : wrap64 (2 ^ u) = ((2 ^ u : Nat) : Int) := by
  have h := pow_small u hu
  have e : ((2 : Int) ^ u) = ((2 ^ u : Nat) : Int) := by simp
  rw [e, IntWalk.wrap64_in _ ⟨by omega, by omega⟩]
theorem side_i64 (d : Nat) (hd : d < 16) : bits .and .i64 (d : Int) 1 = ((d % 2 : Nat) : Int) := by
  have h := and_i64 d 1 (by omega) (by omega)
  rw [Nat.and_one_is_mod] at h
  exact h
theorem clr_lt (s b : Nat) (h : s < 128) : clr s b < 128 := Nat.lt_of_le_of_lt (clr_le s b) h
theorem or_lt (s u : Nat) (h : s < 128) (hu : u ≤ 6) : s ||| 2 ^ u < 128 := by
  have := pow_small u hu
  exact Nat.or_lt_two_pow (n := 7) h (by omega)
theorem set_walk (s u : Nat) (h : s < 128) (hu : u ≤ 6) : bits .or .i64 (bits .andNot .i64 (s : Int) (wrap64 (2 ^ u))) (wrap64 (2 ^ u)) = ((s ||| 2 ^ u : Nat) : Int) := by
  have hp := pow_small u hu
  have hc := clr_lt s (2 ^ u) h
  rw [wrap_pow u hu, andNot_i64 _ _ (by omega) (by omega), or_i64 _ _ (by omega) (by omega), or_clr]
theorem set_walk' (s u : Nat) (h : s < 128) (hu : u ≤ 6) : bits .or .i64 (s : Int) (wrap64 (2 ^ u)) = ((s ||| 2 ^ u : Nat) : Int) := by
  have hp := pow_small u hu
  rw [wrap_pow u hu, or_i64 _ _ (by omega) (by omega)]
theorem clr_walk (s u : Nat) (h : s < 128) (hu : u ≤ 6) : bits .andNot .i64 (s : Int) (wrap64 (2 ^ u)) = ((clr s (2 ^ u) : Nat) : Int) := by
  have hp := pow_small u hu
  rw [wrap_pow u hu, andNot_i64 _ _ (by omega) (by omega)]
theorem up_even (s d f : Nat) (h : 1 < d) (e : d % 2 = 0) : up s d (f + 1) = up (s ||| 2 ^ (d / 2 - 1)) (d / 2) f := by
  simp only [up]
  rw [if_neg (by omega), if_pos e, or_clr]
theorem up_odd (s d f : Nat) (h : 1 < d) (e : d % 2 ≠ 0) : up s d (f + 1) = up (clr s (2 ^ (d / 2 - 1))) (d / 2) f := by
  simp only [up]
  rw [if_neg (by omega), if_neg e]
theorem touch_yes (n : Nat) (ways way : Int) (nd : Nat) (h : mayB (n : Int) ways = true) (h1 : 0 ≤ way) (h2 : way < ways) (hn : way + ways = nd) : touch (n : Int) ways way = (up n nd 4 : Nat) := by
  unfold touch
  rw [if_pos (by simp [h, h1, h2]), hn]
  rfl
theorem touch_no (s ways way : Int) (h : (mayB s ways && decide (0 ≤ way) && decide (way < ways)) = false) : touch s ways way = s := by
  unfold touch
  rw [h]
  rfl
theorem down_step (n k : Nat) (hn : n < 128) (hk : k < 3) : bits .or .i64 ((down n k : Int) * 2) (bits .and .i64 ((n : Int) / 2 ^ (down n k - 1)) 1) = ((down n (k + 1) : Nat) : Int) := by
  have h := down_small n k hk
  rw [bit_i64 _ _ (by omega), or_low _ _ (by omega) (by have := Nat.mod_lt (n / 2 ^ (down n k - 1)) (show 0 < 2 by omega); unfold bitN; omega)]
  rfl
theorem down_step' (n k : Nat) (hn : n < 128) : 2 * (down n k : Int) + bits .and .i64 ((n : Int) / 2 ^ (down n k - 1)) 1 = ((down n (k + 1) : Nat) : Int) := by
  rw [bit_i64 _ _ (by omega)]
  simp only [down]
  omega
theorem bit_le (n k : Nat) (hn : n < 128) : 0 ≤ bits .and .i64 ((n : Int) / 2 ^ k) 1 ∧ bits .and .i64 ((n : Int) / 2 ^ k) 1 ≤ 1 := by
  rw [bit_i64 _ _ (by omega)]
  have := Nat.mod_lt (n / 2 ^ k) (show 0 < 2 by omega)
  unfold bitN
  omega
end Pl

theorem pvictim_any (s ways : Int) : Qt Try.prog 82 #[.int .i64 s, .int .i64 ways] (.int .i64 (victim s ways)) := by
  intro w
  have hq := Quiet.refl w
  by_cases hm : mayB s ways = true
  · have hs := may_small s ways hm
    obtain ⟨n, rfl⟩ := Int.eq_ofNat_of_zero_le hs.1
    have hn : n < 128 := by omega
    have hw := (may_cases _ _ hm).1
    have hl3 := lev_le ways
    have hv := Lib.hid (victim_yes n ways hm)
    have hw1 : 0 ≤ ways ∧ ways ≤ 8 := by omega
    obtain ⟨L, hL⟩ : ∃ L, lev ways = L := ⟨_, rfl⟩
    rw [hL] at hl3
    have HL := Lib.hid hL
    clear hs hw hL
    go_enter Try.func82, Try.ntmps82
    go_wp2_with (first
      | (go_at_call 58; refine ((pmay_any _ _).at hq).mono ?_; clear hq; rintro e w1 ⟨rfl, hq⟩)
      | (go_at_call 79; refine ((plev_any _).at hq).mono ?_; clear hq; rintro e w1 ⟨rfl, hq⟩; rw [HL.out]))
    go_loop [5, 12] (fun d i => ∃ k : Nat, k ≤ L ∧ i = .int .i64 (k : Int) ∧ d = .int .i64 (down n k : Nat)) (fun _ i => L - (intOf i).toNat)
    case atStart => exact ⟨0, by omega, rfl, rfl⟩
    case round =>
      obtain ⟨k, hk, rfl, rfl⟩ := hrel
      by_cases hlt : k < L
      · have hd := down_small n k (by omega)
        have hst := Lib.hid (down_step n k hn (by omega))
        go_wp2
        go_round
        case rel => exact ⟨k + 1, by omega, by go_num, val_int hst.out⟩
        case measure => simp [intOf]; omega
      · have hd := down_bd n L
        have hp : (2 : Nat) ^ (L + 1) ≤ 2 ^ 4 := Nat.pow_le_pow_right (by omega) (by omega)
        have hkL : k = L := by omega
        subst hkL
        have hd2 : down n k < 16 := by omega
        clear hd hp
        go_wp2
        go_ret
        exact ⟨ret_int (by rw [hv.out, HL.out]), hq⟩
  · have hm' : mayB s ways = false := by simpa using hm
    have hv := Lib.hid (victim_no s ways hm')
    clear hm
    go_enter Try.func82, Try.ntmps82
    go_wp2_with (go_at_call 58; refine ((pmay_any _ _).at hq).mono ?_; clear hq; rintro e w1 ⟨rfl, hq⟩)
    go_ret
    exact ⟨ret_int hv.out.symm, hq⟩

theorem rvictim_any (s ways : Int) : Qt Try.prog 85 #[.int .i64 s, .int .i64 ways] (.int .i64 (victim s ways)) := by
  intro w
  have hq := Quiet.refl w
  by_cases hm : mayB s ways = true
  · have hs := may_small s ways hm
    obtain ⟨n, rfl⟩ := Int.eq_ofNat_of_zero_le hs.1
    have hn : n < 128 := by omega
    have hw := (may_cases _ _ hm).1
    have hl3 := lev_le ways
    have hv := Lib.hid (victim_yes n ways hm)
    have hw1 : 0 ≤ ways ∧ ways ≤ 8 := by omega
    obtain ⟨L, hL⟩ : ∃ L, lev ways = L := ⟨_, rfl⟩
    rw [hL] at hl3
    have HL := Lib.hid hL
    clear hs hw hL
    go_enter Try.func85, Try.ntmps85
    go_wp2_with (first
      | (go_at_call 91; refine ((rmay_any _ _).at hq).mono ?_; clear hq; rintro e w1 ⟨rfl, hq⟩))
    go_loopw [5, 6] (fun d i wr => ∃ k : Nat, k ≤ L ∧ i = .int .i64 (k : Int) ∧ d = .int .i64 (down n k : Nat) ∧ Quiet w wr) (fun _ i _ => L - (intOf i).toNat)
    case atStart => exact ⟨0, by omega, rfl, rfl, hq⟩
    case round =>
      obtain ⟨k, hk, rfl, rfl, hqr⟩ := hrel
      by_cases hlt : k < L
      · have hd := down_small n k (by omega)
        have hbl := bit_le n (down n k - 1) hn
        have hst := Lib.hid (down_step' n k hn)
        go_wp2_with (go_at_call 92; refine ((rlev_any _).at hqr).mono ?_; clear hqr; rintro e w2 ⟨rfl, hqr⟩; rw [HL.out])
        go_roundw
        case rel => exact ⟨k + 1, by omega, by go_num, val_int hst.out, hqr⟩
        case measure => simp [intOf]; omega
      · have hd := down_bd n L
        have hp : (2 : Nat) ^ (L + 1) ≤ 2 ^ 4 := Nat.pow_le_pow_right (by omega) (by omega)
        have hkL : k = L := by omega
        subst hkL
        have hd2 : down n k < 16 := by omega
        clear hd hp
        go_wp2_with (go_at_call 92; refine ((rlev_any _).at hqr).mono ?_; clear hqr; rintro e w2 ⟨rfl, hqr⟩; rw [HL.out])
        go_ret
        exact ⟨ret_int (by rw [hv.out, HL.out]), hqr⟩
  · have hm' : mayB s ways = false := by simpa using hm
    have hv := Lib.hid (victim_no s ways hm')
    clear hm
    go_enter Try.func85, Try.ntmps85
    go_wp2_with (go_at_call 91; refine ((rmay_any _ _).at hq).mono ?_; clear hq; rintro e w1 ⟨rfl, hq⟩)
    go_ret
    exact ⟨ret_int hv.out.symm, hq⟩

theorem ptouch_any (s ways way : Int) : Qt Try.prog 81 #[.int .i64 s, .int .i64 ways, .int .i64 way] (.int .i64 (touch s ways way)) := by
  intro w
  have hq := Quiet.refl w
  by_cases hm : mayB s ways = true
  · by_cases hy : 0 ≤ way ∧ way < ways
    · obtain ⟨hy1, hy2⟩ := hy
      have hs := may_small s ways hm
      obtain ⟨n, rfl⟩ := Int.eq_ofNat_of_zero_le hs.1
      have hn : n < 128 := by omega
      have hw := (may_cases _ _ hm).1
      have hw1 : 0 ≤ ways ∧ ways ≤ 8 := by omega
      obtain ⟨nd0, hnd⟩ := Int.eq_ofNat_of_zero_le (show 0 ≤ way + ways by omega)
      have hv := Lib.hid (touch_yes n ways way nd0 hm hy1 hy2 hnd)
      have hnb : nd0 < 16 := by omega
      have HND := Lib.hid hnd
      clear hs hw hnd
      go_enter Try.func81, Try.ntmps81
      go_wp2_with (first
        | (go_at_call 58; refine ((pmay_any _ _).at hq).mono ?_; clear hq; rintro e w1 ⟨rfl, hq⟩))
      go_loop [0, 7] (fun st nd => ∃ (s' d f : Nat), s' < 128 ∧ d < 2 ^ f ∧ f ≤ 4 ∧ st = .int .i64 (s' : Int) ∧ nd = .int .i64 (d : Int) ∧ up n nd0 4 = up s' d f) (fun _ nd => (intOf nd).toNat)
      case atStart => exact ⟨n, nd0, 4, hn, hnb, by omega, rfl, by rw [HND.out], rfl⟩
      case round =>
        obtain ⟨s', d, f, hs', hd, hf, rfl, rfl, hu⟩ := hrel
        have HU := Lib.hid hu
        clear hu
        by_cases hlt : 1 < d
        · have hd16 : d < 16 := by have : (2:Nat) ^ f ≤ 2 ^ 4 := Nat.pow_le_pow_right (by omega) hf
                                   omega
          obtain ⟨g, rfl⟩ : ∃ g, f = g + 1 := ⟨f - 1, by
            rcases f with _ | f
            · simp at hd; omega
            · omega⟩
          have hdg : d / 2 < 2 ^ g := by rw [Nat.pow_succ] at hd; omega
          have hu6 : d / 2 - 1 ≤ 6 := by omega
          have hsd := Lib.hid (side_i64 d hd16)
          by_cases hev : d % 2 = 0
          · have ht : (bits .and .i64 (d : Int) 1 == 0) = true := by rw [hsd.out, hev]; rfl
            have hx := Lib.hid (set_walk s' (d / 2 - 1) hs' hu6)
            have HE := Lib.hid hev
            clear hev
            go_wp2
            go_round
            case rel => exact ⟨s' ||| 2 ^ (d / 2 - 1), d / 2, g, or_lt _ _ hs' hu6, hdg, by omega, val_int hx.out, val_int (by omega), by rw [HU.out, up_even _ _ _ hlt HE.out]⟩
            case measure => simp [intOf]; omega
          · have ht : (bits .and .i64 (d : Int) 1 == 0) = false := by rw [hsd.out, show d % 2 = 1 from by omega]; rfl
            have hx := Lib.hid (clr_walk s' (d / 2 - 1) hs' hu6)
            have HE := Lib.hid hev
            clear hev
            go_wp2
            go_round
            case rel => exact ⟨clr s' (2 ^ (d / 2 - 1)), d / 2, g, clr_lt _ _ hs', hdg, by omega, val_int hx.out, val_int (by omega), by rw [HU.out, up_odd _ _ _ hlt HE.out]⟩
            case measure => simp [intOf]; omega
        · go_wp2
          go_ret
          exact ⟨ret_int (by rw [hv.out, HU.out, up_root _ _ _ (by omega)]), hq⟩
    · have hv := Lib.hid (touch_no s ways way (by rw [hm]; simp; omega))
      by_cases hy1 : 0 ≤ way
      · have hy2 : ways ≤ way := by omega
        clear hy
        go_enter Try.func81, Try.ntmps81
        go_wp2_with (first
          | (go_at_call 58; refine ((pmay_any _ _).at hq).mono ?_; clear hq; rintro e w1 ⟨rfl, hq⟩))
        go_ret
        exact ⟨ret_int (by rw [hv.out]), hq⟩
      · clear hy
        go_enter Try.func81, Try.ntmps81
        go_wp2_with (first
          | (go_at_call 58; refine ((pmay_any _ _).at hq).mono ?_; clear hq; rintro e w1 ⟨rfl, hq⟩))
        go_ret
        exact ⟨ret_int (by rw [hv.out]), hq⟩
  · have hm' : mayB s ways = false := by simpa using hm
    have hv := Lib.hid (touch_no s ways way (by rw [hm']; rfl))
    clear hm
    go_enter Try.func81, Try.ntmps81
    go_wp2_with (first
      | (go_at_call 58; refine ((pmay_any _ _).at hq).mono ?_; clear hq; rintro e w1 ⟨rfl, hq⟩))
    go_ret
    exact ⟨ret_int (by rw [hv.out]), hq⟩

theorem rtouch_any (s ways way : Int) : Qt Try.prog 93 #[.int .i64 s, .int .i64 ways, .int .i64 way] (.int .i64 (touch s ways way)) := by
  intro w
  have hq := Quiet.refl w
  by_cases hm : mayB s ways = true
  · by_cases hy : 0 ≤ way ∧ way < ways
    · obtain ⟨hy1, hy2⟩ := hy
      have hs := may_small s ways hm
      obtain ⟨n, rfl⟩ := Int.eq_ofNat_of_zero_le hs.1
      have hn : n < 128 := by omega
      have hw := (may_cases _ _ hm).1
      have hw1 : 0 ≤ ways ∧ ways ≤ 8 := by omega
      obtain ⟨nd0, hnd⟩ := Int.eq_ofNat_of_zero_le (show 0 ≤ way + ways by omega)
      have hv := Lib.hid (touch_yes n ways way nd0 hm hy1 hy2 hnd)
      have hnb : nd0 < 16 := by omega
      have HND := Lib.hid hnd
      clear hs hw hnd
      go_enter Try.func93, Try.ntmps93
      go_wp2_with (first
        | (go_at_call 91; refine ((rmay_any _ _).at hq).mono ?_; clear hq; rintro e w1 ⟨rfl, hq⟩))
      go_loop [0, 7] (fun st nd => ∃ (s' d f : Nat), s' < 128 ∧ d < 2 ^ f ∧ f ≤ 4 ∧ st = .int .i64 (s' : Int) ∧ nd = .int .i64 (d : Int) ∧ up n nd0 4 = up s' d f) (fun _ nd => (intOf nd).toNat)
      case atStart => exact ⟨n, nd0, 4, hn, hnb, by omega, rfl, by rw [HND.out], rfl⟩
      case round =>
        obtain ⟨s', d, f, hs', hd, hf, rfl, rfl, hu⟩ := hrel
        have HU := Lib.hid hu
        clear hu
        by_cases hlt : 1 < d
        · have hd16 : d < 16 := by have : (2:Nat) ^ f ≤ 2 ^ 4 := Nat.pow_le_pow_right (by omega) hf
                                   omega
          obtain ⟨g, rfl⟩ : ∃ g, f = g + 1 := ⟨f - 1, by
            rcases f with _ | f
            · simp at hd; omega
            · omega⟩
          have hdg : d / 2 < 2 ^ g := by rw [Nat.pow_succ] at hd; omega
          have hu6 : d / 2 - 1 ≤ 6 := by omega
          by_cases hev : d % 2 = 0
          · have ht : ((d : Int) % 2 == 0) = true := by simp; omega
            have hx := Lib.hid (set_walk' s' (d / 2 - 1) hs' hu6)
            have HE := Lib.hid hev
            clear hev
            go_wp2
            go_round
            case rel => exact ⟨s' ||| 2 ^ (d / 2 - 1), d / 2, g, or_lt _ _ hs' hu6, hdg, by omega, val_int hx.out, val_int (by omega), by rw [HU.out, up_even _ _ _ hlt HE.out]⟩
            case measure => simp [intOf]; omega
          · have ht : ((d : Int) % 2 == 0) = false := by simp; omega
            have hx := Lib.hid (clr_walk s' (d / 2 - 1) hs' hu6)
            have HE := Lib.hid hev
            clear hev
            go_wp2
            go_round
            case rel => exact ⟨clr s' (2 ^ (d / 2 - 1)), d / 2, g, clr_lt _ _ hs', hdg, by omega, val_int hx.out, val_int (by omega), by rw [HU.out, up_odd _ _ _ hlt HE.out]⟩
            case measure => simp [intOf]; omega
        · go_wp2
          go_ret
          exact ⟨ret_int (by rw [hv.out, HU.out, up_root _ _ _ (by omega)]), hq⟩
    · have hv := Lib.hid (touch_no s ways way (by rw [hm]; simp; omega))
      by_cases hy1 : 0 ≤ way
      · have hy2 : ways ≤ way := by omega
        clear hy
        go_enter Try.func93, Try.ntmps93
        go_wp2_with (first
          | (go_at_call 91; refine ((rmay_any _ _).at hq).mono ?_; clear hq; rintro e w1 ⟨rfl, hq⟩))
        go_ret
        exact ⟨ret_int (by rw [hv.out]), hq⟩
      · clear hy
        go_enter Try.func93, Try.ntmps93
        go_wp2_with (first
          | (go_at_call 91; refine ((rmay_any _ _).at hq).mono ?_; clear hq; rintro e w1 ⟨rfl, hq⟩))
        go_ret
        exact ⟨ret_int (by rw [hv.out]), hq⟩
  · have hm' : mayB s ways = false := by simpa using hm
    have hv := Lib.hid (touch_no s ways way (by rw [hm']; rfl))
    clear hm
    go_enter Try.func93, Try.ntmps93
    go_wp2_with (first
      | (go_at_call 91; refine ((rmay_any _ _).at hq).mono ?_; clear hq; rintro e w1 ⟨rfl, hq⟩))
    go_ret
    exact ⟨ret_int (by rw [hv.out]), hq⟩
end Go.Proofs.Ythjhcdkbajbpdaa
