/- Contracts of the functions of package plru. -/
import Derived.Test.YthjhcdkbajbpdaaBase
import Derived.Test.YthjhcdkbajbpdaaPlruPlain
namespace Go.Proofs.Ythjhcdkbajbpdaa
open Go.RowKit Pl

theorem plev_any (ways : Int) : Qt Try.prog 79 #[.int .i64 ways] (.int .i64 (lev ways : Nat)) := by
  intro w
  by_cases h1 : ways = 2
  · subst h1
    go_enter Try.func79, Try.ntmps79
    go_wp2_with fail
    refine wp_loop_rounds 4 ?_
    repeat any_goals (rw [rounds_succ]; go_wp2)
    go_ret
    exact ⟨rfl, Quiet.refl _⟩
  · by_cases h2 : ways = 4
    · subst h2
      go_enter Try.func79, Try.ntmps79
      go_wp2_with fail
      refine wp_loop_rounds 4 ?_
      repeat any_goals (rw [rounds_succ]; go_wp2)
      go_ret
      exact ⟨rfl, Quiet.refl _⟩
    · by_cases h3 : ways = 8
      · subst h3
        go_enter Try.func79, Try.ntmps79
        go_wp2_with fail
        refine wp_loop_rounds 4 ?_
        repeat any_goals (rw [rounds_succ]; go_wp2)
        go_ret
        exact ⟨rfl, Quiet.refl _⟩
      · have e1 : (ways == 2) = false := by simpa using h1
        have e2 : (ways == 4) = false := by simpa using h2
        have e3 : (ways == 8) = false := by simpa using h3
        have hl := Lib.hid (show lev ways = 0 by unfold lev; rw [if_neg h1, if_neg h2, if_neg h3])
        go_enter Try.func79, Try.ntmps79
        go_wp2_with fail
        refine wp_loop_rounds 4 ?_
        repeat any_goals (rw [rounds_succ]; go_wp2)
        go_ret
        exact ⟨ret_int (by rw [hl.out]; rfl), Quiet.refl _⟩

theorem rlev_any (ways : Int) : Qt Try.prog 92 #[.int .i64 ways] (.int .i64 (lev ways : Nat)) := by
  intro w
  by_cases h1 : ways = 2
  · subst h1
    go_enter Try.func92, Try.ntmps92
    go_wp2
    go_ret
    exact ⟨rfl, Quiet.refl _⟩
  · by_cases h2 : ways = 4
    · subst h2
      go_enter Try.func92, Try.ntmps92
      go_wp2
      go_ret
      exact ⟨rfl, Quiet.refl _⟩
    · by_cases h3 : ways = 8
      · subst h3
        go_enter Try.func92, Try.ntmps92
        go_wp2
        go_ret
        exact ⟨rfl, Quiet.refl _⟩
      · have e1 : (ways == 2) = false := by simpa using h1
        have e2 : (ways == 4) = false := by simpa using h2
        have e3 : (ways == 8) = false := by simpa using h3
        have hl := Lib.hid (show lev ways = 0 by unfold lev; rw [if_neg h1, if_neg h2, if_neg h3])
        go_enter Try.func92, Try.ntmps92
        go_wp2
        go_ret
        exact ⟨ret_int (by rw [hl.out]; rfl), Quiet.refl _⟩

theorem pmay_any (s ways : Int) : Qt Try.prog 58 #[.int .i64 s, .int .i64 ways] (.bool (mayB s ways)) := by
  intro w
  have hq := Quiet.refl w
  by_cases hl : lev ways = 0
  · have hm := Lib.hid (may_none s ways hl)
    have HL := Lib.hid (show ((lev ways : Nat) : Int) = 0 by omega)
    clear hl
    go_enter Try.func58, Try.ntmps58
    go_wp2_with (go_at_call 79; refine ((plev_any _).at hq).mono ?_; clear hq; rintro e w1 ⟨rfl, hq⟩; rw [HL.out])
    go_ret
    exact ⟨ret_bool (by rw [hm.out]), hq⟩
  · have hw := lev_pos ways hl
    clear hl
    rcases hw with rfl | rfl | rfl
    · have hm := Lib.hid (show mayB s 2 = (decide (0 ≤ s) && decide (s < 2)) from may_def s 2 (by omega))
      by_cases h0 : 0 ≤ s
      · by_cases h1 : s < 2
        all_goals
          go_enter Try.func58, Try.ntmps58
          go_wp2_with (go_at_call 79; refine ((plev_any _).at hq).mono ?_; clear hq; rintro e w1 ⟨rfl, hq⟩; rw [show lev 2 = 1 from rfl])
          go_ret
          exact ⟨ret_bool (by rw [hm.out]; simp [h0, h1]), hq⟩
      · go_enter Try.func58, Try.ntmps58
        go_wp2_with (go_at_call 79; refine ((plev_any _).at hq).mono ?_; clear hq; rintro e w1 ⟨rfl, hq⟩; rw [show lev 2 = 1 from rfl])
        go_ret
        exact ⟨ret_bool (by rw [hm.out]; simp; omega), hq⟩
    · have hm := Lib.hid (show mayB s 4 = (decide (0 ≤ s) && decide (s < 8)) from may_def s 4 (by omega))
      by_cases h0 : 0 ≤ s
      · by_cases h1 : s < 8
        all_goals
          go_enter Try.func58, Try.ntmps58
          go_wp2_with (go_at_call 79; refine ((plev_any _).at hq).mono ?_; clear hq; rintro e w1 ⟨rfl, hq⟩; rw [show lev 4 = 2 from rfl])
          go_ret
          exact ⟨ret_bool (by rw [hm.out]; simp [h0, h1]), hq⟩
      · go_enter Try.func58, Try.ntmps58
        go_wp2_with (go_at_call 79; refine ((plev_any _).at hq).mono ?_; clear hq; rintro e w1 ⟨rfl, hq⟩; rw [show lev 4 = 2 from rfl])
        go_ret
        exact ⟨ret_bool (by rw [hm.out]; simp; omega), hq⟩
    · have hm := Lib.hid (show mayB s 8 = (decide (0 ≤ s) && decide (s < 128)) from may_def s 8 (by omega))
      by_cases h0 : 0 ≤ s
      · by_cases h1 : s < 128
        all_goals
          go_enter Try.func58, Try.ntmps58
          go_wp2_with (go_at_call 79; refine ((plev_any _).at hq).mono ?_; clear hq; rintro e w1 ⟨rfl, hq⟩; rw [show lev 8 = 3 from rfl])
          go_ret
          exact ⟨ret_bool (by rw [hm.out]; simp [h0, h1]), hq⟩
      · go_enter Try.func58, Try.ntmps58
        go_wp2_with (go_at_call 79; refine ((plev_any _).at hq).mono ?_; clear hq; rintro e w1 ⟨rfl, hq⟩; rw [show lev 8 = 3 from rfl])
        go_ret
        exact ⟨ret_bool (by rw [hm.out]; simp; omega), hq⟩

theorem rmay_any (s ways : Int) : Qt Try.prog 91 #[.int .i64 s, .int .i64 ways] (.bool (mayB s ways)) := by
  intro w
  have hq := Quiet.refl w
  by_cases hl : lev ways = 0
  · have hm := Lib.hid (may_none s ways hl)
    have HL := Lib.hid (show ((lev ways : Nat) : Int) = 0 by omega)
    clear hl
    go_enter Try.func91, Try.ntmps91
    go_wp2_with (go_at_call 92; refine ((rlev_any _).at hq).mono ?_; clear hq; rintro e w1 ⟨rfl, hq⟩; rw [HL.out])
    go_ret
    exact ⟨ret_bool (by rw [hm.out]), hq⟩
  · have hw := lev_pos ways hl
    clear hl
    rcases hw with rfl | rfl | rfl
    · have hm := Lib.hid (show mayB s 2 = (decide (0 ≤ s) && decide (s < 2)) from may_def s 2 (by omega))
      by_cases h0 : 0 ≤ s
      · by_cases h1 : s < 2
        all_goals
          go_enter Try.func91, Try.ntmps91
          go_wp2_with (go_at_call 92; refine ((rlev_any _).at hq).mono ?_; clear hq; rintro e w1 ⟨rfl, hq⟩; rw [show lev 2 = 1 from rfl])
          go_ret
          exact ⟨ret_bool (by rw [hm.out]; simp [h0, h1]), hq⟩
      · go_enter Try.func91, Try.ntmps91
        go_wp2_with (go_at_call 92; refine ((rlev_any _).at hq).mono ?_; clear hq; rintro e w1 ⟨rfl, hq⟩; rw [show lev 2 = 1 from rfl])
        go_ret
        exact ⟨ret_bool (by rw [hm.out]; simp; omega), hq⟩
    · have hm := Lib.hid (show mayB s 4 = (decide (0 ≤ s) && decide (s < 8)) from may_def s 4 (by omega))
      by_cases h0 : 0 ≤ s
      · by_cases h1 : s < 8
        all_goals
          go_enter Try.func91, Try.ntmps91
          go_wp2_with (go_at_call 92; refine ((rlev_any _).at hq).mono ?_; clear hq; rintro e w1 ⟨rfl, hq⟩; rw [show lev 4 = 2 from rfl])
          go_ret
          exact ⟨ret_bool (by rw [hm.out]; simp [h0, h1]), hq⟩
      · go_enter Try.func91, Try.ntmps91
        go_wp2_with (go_at_call 92; refine ((rlev_any _).at hq).mono ?_; clear hq; rintro e w1 ⟨rfl, hq⟩; rw [show lev 4 = 2 from rfl])
        go_ret
        exact ⟨ret_bool (by rw [hm.out]; simp; omega), hq⟩
    · have hm := Lib.hid (show mayB s 8 = (decide (0 ≤ s) && decide (s < 128)) from may_def s 8 (by omega))
      by_cases h0 : 0 ≤ s
      · by_cases h1 : s < 128
        all_goals
          go_enter Try.func91, Try.ntmps91
          go_wp2_with (go_at_call 92; refine ((rlev_any _).at hq).mono ?_; clear hq; rintro e w1 ⟨rfl, hq⟩; rw [show lev 8 = 3 from rfl])
          go_ret
          exact ⟨ret_bool (by rw [hm.out]; simp [h0, h1]), hq⟩
      · go_enter Try.func91, Try.ntmps91
        go_wp2_with (go_at_call 92; refine ((rlev_any _).at hq).mono ?_; clear hq; rintro e w1 ⟨rfl, hq⟩; rw [show lev 8 = 3 from rfl])
        go_ret
        exact ⟨ret_bool (by rw [hm.out]; simp; omega), hq⟩
end Go.Proofs.Ythjhcdkbajbpdaa
