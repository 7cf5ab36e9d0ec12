/- The laws on fields, extensions and counts, walked: each call answers true. -/
import Derived.Test.YtbaegflfcjcbeaaBits
import Derived.Test.YtbaegflfcjcbeaaRefBits
import Derived.Test.YtbaegflfcjcbeaaCounts
import Derived.Test.YtbaegflfcjcbeaaBitsPlain
namespace Go.Proofs.Ytbaegflfcjcbeaa
open Go.RowKit Wd

theorem awake_any : Qt Try.prog 11 #[] (.bool true) := by
  intro w
  have h1 : Qt Try.prog 12 #[.int .u64 43981, .int .i64 11, .int .i64 4] (.int .u64 188) := field_any 43981#64 11 4
  have h2 : Qt Try.prog 28 #[.int .u64 7] (.int .i64 3) := pones_any 7#64
  have H1 := Lib.hid h1
  have H2 := Lib.hid h2
  clear h1 h2
  go_enter Try.func11, Try.ntmps11
  go_wp2_with (first
    | (go_at_call 12; refine (H1.out _).mono ?_; rintro e w1 ⟨rfl, hq1⟩)
    | (go_at_call 28; refine (H2.out _).mono ?_; rintro e w2 ⟨rfl, hq2⟩))
  go_ret
  exact ⟨rfl, hq1.trans hq2⟩

theorem bitsFields_bv (v x : BitVec 64) (hi lo : Int) : Qt Try.prog 3 #[.int .u64 (v.toNat : Int), .int .i64 hi, .int .i64 lo, .int .u64 (x.toNat : Int)] (.bool true) := by
  intro w
  go_enter Try.func3, Try.ntmps3
  go_wp2_with (first
    | (go_at_call 11; refine (awake_any _).mono ?_; rintro e w1 ⟨rfl, hq1⟩)
    | (go_at_call 12; refine (field_any _ _ _ _).mono ?_; rintro e w2 ⟨rfl, hq2⟩)
    | (go_at_call 13; refine (rfield_any _ _ _ _).mono ?_; rintro e w3 ⟨rfl, hq3⟩)
    | (go_at_call 14; refine (put_any _ _ _ _ _).mono ?_; rintro e w4 ⟨rfl, hq4⟩)
    | (go_at_call 15; refine (rput_any _ _ _ _ _).mono ?_; rintro e w5 ⟨rfl, hq5⟩))
  go_ret
  exact ⟨rfl, hq1.trans (hq2.trans (hq3.trans (hq4.trans hq5)))⟩

theorem bitsFields_walk (a0 a1 a2 a3 : Int) (w0 : (Lit.int .u64 a0).wf = true) (_ : (Lit.int .i64 a1).wf = true) (_ : (Lit.int .i64 a2).wf = true) (w3 : (Lit.int .u64 a3).wf = true) (w : World) :
    Calls Try.prog 3 #[.int .u64 a0, .int .i64 a1, .int .i64 a2, .int .u64 a3] w fun e w' => e = .returned (.bool true) ∧ Grown w w' := by
  obtain ⟨v, rfl⟩ := u64_bv w0
  obtain ⟨x, rfl⟩ := u64_bv w3
  exact (bitsFields_bv v x a1 a2 w).mono fun _ _ ⟨h, q⟩ => ⟨h, q.grown⟩

theorem bitsExtends_walk (a0 a1 : Int) (w0 : (Lit.int .u64 a0).wf = true) (w1 : (Lit.int .i64 a1).wf = true) (w : World) :
    Calls Try.prog 7 #[.int .u64 a0, .int .i64 a1] w fun e w' => e = .returned (.bool true) ∧ Grown w w' := by
  obtain ⟨v, rfl⟩ := u64_bv w0
  have hb := (i64_bd w1).2
  have hq := Quiet.refl w
  clear w0 w1
  go_enter Try.func7, Try.ntmps7
  go_wp2_with (first
    | (go_at_call 11; refine (awake_any.at hq).mono ?_; clear hq; rintro e w1 ⟨rfl, hq⟩)
    | (go_at_call 19; refine ((sext_any _ _).at hq).mono ?_; clear hq; rintro e w1 ⟨rfl, hq⟩)
    | (go_at_call 20; refine ((rsext_any _ _).at hq).mono ?_; clear hq; rintro e w1 ⟨rfl, hq⟩)
    | (go_at_call 18; refine ((zext_any _ _).at hq).mono ?_; clear hq; rintro e w1 ⟨rfl, hq⟩)
    | (go_at_call 21; refine ((rzext_any _ _).at hq).mono ?_; clear hq; rintro e w1 ⟨rfl, hq⟩)
    | (go_at_call 22; refine ((aligned_any _ _ hb).at hq).mono ?_; clear hq; rintro e w1 ⟨rfl, hq⟩)
    | (go_at_call 23; refine ((raligned_any _ _ hb).at hq).mono ?_; clear hq; rintro e w1 ⟨rfl, hq⟩))
  go_ret
  exact ⟨ret_bool (by simp), hq.grown⟩

theorem bitsCounts_walk (a0 : Int) (w0 : (Lit.int .u64 a0).wf = true) (w : World) :
    Calls Try.prog 8 #[.int .u64 a0] w fun e w' => e = .returned (.bool true) ∧ Grown w w' := by
  obtain ⟨v, rfl⟩ := u64_bv w0
  have hq := Quiet.refl w
  have H1 := Lib.hid (phigh_any v)
  have H2 := Lib.hid (rhigh_any v)
  have H3 := Lib.hid (plow_any v)
  have H4 := Lib.hid (rlow_any v)
  clear w0
  go_enter Try.func8, Try.ntmps8
  go_wp2_with (first
    | (go_at_call 11; refine (awake_any.at hq).mono ?_; clear hq; rintro e w1 ⟨rfl, hq⟩)
    | (go_at_call 24; refine (H1.out.at hq).mono ?_; clear hq; rintro e w1 ⟨rfl, hq⟩; unfold found)
    | (go_at_call 25; refine (H2.out.at hq).mono ?_; clear hq; rintro e w1 ⟨rfl, hq⟩; unfold found)
    | (go_at_call 26; refine (H3.out.at hq).mono ?_; clear hq; rintro e w1 ⟨rfl, hq⟩; unfold found)
    | (go_at_call 27; refine (H4.out.at hq).mono ?_; clear hq; rintro e w1 ⟨rfl, hq⟩; unfold found)
    | (go_at_call 28; refine ((pones_any _).at hq).mono ?_; clear hq; rintro e w1 ⟨rfl, hq⟩)
    | (go_at_call 29; refine ((rones_any _).at hq).mono ?_; clear hq; rintro e w1 ⟨rfl, hq⟩))
  all_goals
    go_ret
    exact ⟨ret_bool (by simp), hq.grown⟩

/-- Two fields of one word, and what is put. -/
theorem bitsBack_no (v x y : BitVec 64) (hi lo top low : Int) (h : ¬ (0 ≤ lo ∧ lo ≤ hi ∧ hi < 64)) (w : World) :
    Calls Try.prog 5 #[.int .u64 (v.toNat : Int), .int .i64 hi, .int .i64 lo, .int .u64 (x.toNat : Int), .int .i64 top, .int .i64 low, .int .u64 (y.toNat : Int)] w fun e w' => e = .returned (.bool true) ∧ Quiet w w' := by
  have hq := Quiet.refl w
  by_cases h1 : 0 ≤ lo
  · by_cases h2 : lo ≤ hi
    · have h3 : 63 < hi := by omega
      clear h
      go_enter Try.func5, Try.ntmps5
      go_wp2_with (first
          | (go_at_call 11; refine (awake_any.at hq).mono ?_; clear hq; rintro e w1 ⟨rfl, hq⟩)
          | (go_at_call 14; refine ((put_any _ _ _ _).at hq).mono ?_; clear hq; rintro e w1 ⟨rfl, hq⟩)
          | (go_at_call 12; refine ((field_any _ _ _).at hq).mono ?_; clear hq; rintro e w1 ⟨rfl, hq⟩)
          | (go_at_call 19; refine ((sext_any _ _).at hq).mono ?_; clear hq; rintro e w1 ⟨rfl, hq⟩)
          | (go_at_call 18; refine ((zext_any _ _).at hq).mono ?_; clear hq; rintro e w1 ⟨rfl, hq⟩))
      go_ret
      exact ⟨rfl, hq⟩
    · clear h
      go_enter Try.func5, Try.ntmps5
      go_wp2_with (first
          | (go_at_call 11; refine (awake_any.at hq).mono ?_; clear hq; rintro e w1 ⟨rfl, hq⟩)
          | (go_at_call 14; refine ((put_any _ _ _ _).at hq).mono ?_; clear hq; rintro e w1 ⟨rfl, hq⟩)
          | (go_at_call 12; refine ((field_any _ _ _).at hq).mono ?_; clear hq; rintro e w1 ⟨rfl, hq⟩)
          | (go_at_call 19; refine ((sext_any _ _).at hq).mono ?_; clear hq; rintro e w1 ⟨rfl, hq⟩)
          | (go_at_call 18; refine ((zext_any _ _).at hq).mono ?_; clear hq; rintro e w1 ⟨rfl, hq⟩))
      go_ret
      exact ⟨rfl, hq⟩
  · clear h
    go_enter Try.func5, Try.ntmps5
    go_wp2_with (first
          | (go_at_call 11; refine (awake_any.at hq).mono ?_; clear hq; rintro e w1 ⟨rfl, hq⟩)
          | (go_at_call 14; refine ((put_any _ _ _ _).at hq).mono ?_; clear hq; rintro e w1 ⟨rfl, hq⟩)
          | (go_at_call 12; refine ((field_any _ _ _).at hq).mono ?_; clear hq; rintro e w1 ⟨rfl, hq⟩)
          | (go_at_call 19; refine ((sext_any _ _).at hq).mono ?_; clear hq; rintro e w1 ⟨rfl, hq⟩)
          | (go_at_call 18; refine ((zext_any _ _).at hq).mono ?_; clear hq; rintro e w1 ⟨rfl, hq⟩))
    go_ret
    exact ⟨rfl, hq⟩

theorem bitsBack_one (v x y : BitVec 64) (hi lo top low : Int) (h1 : 0 ≤ lo) (h2 : lo ≤ hi) (h3 : hi < 64) (h : ¬ (0 ≤ low ∧ low ≤ top ∧ top < 64) ∨ (low ≤ hi ∧ lo ≤ top)) (w : World) :
    Calls Try.prog 5 #[.int .u64 (v.toNat : Int), .int .i64 hi, .int .i64 lo, .int .u64 (x.toNat : Int), .int .i64 top, .int .i64 low, .int .u64 (y.toNat : Int)] w fun e w' => e = .returned (.bool true) ∧ Quiet w w' := by
  have hq := Quiet.refl w
  have e1 := field_of_put v hi lo x ((may_iff _ _).2 ⟨h1, h2, h3⟩)
  have e2 := put_of_field v hi lo ((may_iff _ _).2 ⟨h1, h2, h3⟩)
  by_cases k1 : 0 ≤ low
  · by_cases k2 : low ≤ top
    · by_cases k3 : top < 64
      · have k4 : low ≤ hi := by omega
        have k5 : lo ≤ top := by omega
        clear h
        go_enter Try.func5, Try.ntmps5
        go_wp2_with (first
          | (go_at_call 11; refine (awake_any.at hq).mono ?_; clear hq; rintro e w1 ⟨rfl, hq⟩)
          | (go_at_call 14; refine ((put_any _ _ _ _).at hq).mono ?_; clear hq; rintro e w1 ⟨rfl, hq⟩)
          | (go_at_call 12; refine ((field_any _ _ _).at hq).mono ?_; clear hq; rintro e w1 ⟨rfl, hq⟩)
          | (go_at_call 19; refine ((sext_any _ _).at hq).mono ?_; clear hq; rintro e w1 ⟨rfl, hq⟩)
          | (go_at_call 18; refine ((zext_any _ _).at hq).mono ?_; clear hq; rintro e w1 ⟨rfl, hq⟩))
        go_ret
        exact ⟨rfl, hq⟩
      · clear h
        go_enter Try.func5, Try.ntmps5
        go_wp2_with (first
          | (go_at_call 11; refine (awake_any.at hq).mono ?_; clear hq; rintro e w1 ⟨rfl, hq⟩)
          | (go_at_call 14; refine ((put_any _ _ _ _).at hq).mono ?_; clear hq; rintro e w1 ⟨rfl, hq⟩)
          | (go_at_call 12; refine ((field_any _ _ _).at hq).mono ?_; clear hq; rintro e w1 ⟨rfl, hq⟩)
          | (go_at_call 19; refine ((sext_any _ _).at hq).mono ?_; clear hq; rintro e w1 ⟨rfl, hq⟩)
          | (go_at_call 18; refine ((zext_any _ _).at hq).mono ?_; clear hq; rintro e w1 ⟨rfl, hq⟩))
        go_ret
        exact ⟨rfl, hq⟩
    · clear h
      go_enter Try.func5, Try.ntmps5
      go_wp2_with (first
          | (go_at_call 11; refine (awake_any.at hq).mono ?_; clear hq; rintro e w1 ⟨rfl, hq⟩)
          | (go_at_call 14; refine ((put_any _ _ _ _).at hq).mono ?_; clear hq; rintro e w1 ⟨rfl, hq⟩)
          | (go_at_call 12; refine ((field_any _ _ _).at hq).mono ?_; clear hq; rintro e w1 ⟨rfl, hq⟩)
          | (go_at_call 19; refine ((sext_any _ _).at hq).mono ?_; clear hq; rintro e w1 ⟨rfl, hq⟩)
          | (go_at_call 18; refine ((zext_any _ _).at hq).mono ?_; clear hq; rintro e w1 ⟨rfl, hq⟩))
      go_ret
      exact ⟨rfl, hq⟩
  · clear h
    go_enter Try.func5, Try.ntmps5
    go_wp2_with (first
          | (go_at_call 11; refine (awake_any.at hq).mono ?_; clear hq; rintro e w1 ⟨rfl, hq⟩)
          | (go_at_call 14; refine ((put_any _ _ _ _).at hq).mono ?_; clear hq; rintro e w1 ⟨rfl, hq⟩)
          | (go_at_call 12; refine ((field_any _ _ _).at hq).mono ?_; clear hq; rintro e w1 ⟨rfl, hq⟩)
          | (go_at_call 19; refine ((sext_any _ _).at hq).mono ?_; clear hq; rintro e w1 ⟨rfl, hq⟩)
          | (go_at_call 18; refine ((zext_any _ _).at hq).mono ?_; clear hq; rintro e w1 ⟨rfl, hq⟩))
    go_ret
    exact ⟨rfl, hq⟩

theorem bitsBack_two (v x y : BitVec 64) (hi lo top low : Int) (h1 : 0 ≤ lo) (h2 : lo ≤ hi) (h3 : hi < 64) (k1 : 0 ≤ low) (k2 : low ≤ top) (k3 : top < 64) (hd : ¬ (low ≤ hi ∧ lo ≤ top)) (w : World) :
    Calls Try.prog 5 #[.int .u64 (v.toNat : Int), .int .i64 hi, .int .i64 lo, .int .u64 (x.toNat : Int), .int .i64 top, .int .i64 low, .int .u64 (y.toNat : Int)] w fun e w' => e = .returned (.bool true) ∧ Quiet w w' := by
  have hq := Quiet.refl w
  have m1 := (may_iff _ _).2 ⟨h1, h2, h3⟩
  have m2 := (may_iff _ _).2 ⟨k1, k2, k3⟩
  have e1 := field_of_put v hi lo x m1
  have e2 := put_of_field v hi lo m1
  have e3 := put_put v hi lo top low x y m1 m2 hd
  have e4 := field_of_puts (put v hi lo x) hi lo top low y m1 m2 hd
  have e5 : field (put (put v top low y) hi lo x) hi lo = field (put v hi lo x) hi lo := by rw [← e3, e4]
  clear m1 m2 e4
  rw [e1] at e5
  by_cases k4 : low ≤ hi
  · have k5 : top < lo := by omega
    clear hd
    go_enter Try.func5, Try.ntmps5
    go_wp2_with (first
          | (go_at_call 11; refine (awake_any.at hq).mono ?_; clear hq; rintro e w1 ⟨rfl, hq⟩)
          | (go_at_call 14; refine ((put_any _ _ _ _).at hq).mono ?_; clear hq; rintro e w1 ⟨rfl, hq⟩)
          | (go_at_call 12; refine ((field_any _ _ _).at hq).mono ?_; clear hq; rintro e w1 ⟨rfl, hq⟩)
          | (go_at_call 19; refine ((sext_any _ _).at hq).mono ?_; clear hq; rintro e w1 ⟨rfl, hq⟩)
          | (go_at_call 18; refine ((zext_any _ _).at hq).mono ?_; clear hq; rintro e w1 ⟨rfl, hq⟩))
    go_ret
    exact ⟨rfl, hq⟩
  · clear hd
    go_enter Try.func5, Try.ntmps5
    go_wp2_with (first
          | (go_at_call 11; refine (awake_any.at hq).mono ?_; clear hq; rintro e w1 ⟨rfl, hq⟩)
          | (go_at_call 14; refine ((put_any _ _ _ _).at hq).mono ?_; clear hq; rintro e w1 ⟨rfl, hq⟩)
          | (go_at_call 12; refine ((field_any _ _ _).at hq).mono ?_; clear hq; rintro e w1 ⟨rfl, hq⟩)
          | (go_at_call 19; refine ((sext_any _ _).at hq).mono ?_; clear hq; rintro e w1 ⟨rfl, hq⟩)
          | (go_at_call 18; refine ((zext_any _ _).at hq).mono ?_; clear hq; rintro e w1 ⟨rfl, hq⟩))
    go_ret
    exact ⟨rfl, hq⟩

theorem bitsBack_walk (a0 a1 a2 a3 a4 a5 a6 : Int) (w0 : (Lit.int .u64 a0).wf = true) (_ : (Lit.int .i64 a1).wf = true) (_ : (Lit.int .i64 a2).wf = true) (w3 : (Lit.int .u64 a3).wf = true)
    (_ : (Lit.int .i64 a4).wf = true) (_ : (Lit.int .i64 a5).wf = true) (w6 : (Lit.int .u64 a6).wf = true) (w : World) :
    Calls Try.prog 5 #[.int .u64 a0, .int .i64 a1, .int .i64 a2, .int .u64 a3, .int .i64 a4, .int .i64 a5, .int .u64 a6] w fun e w' => e = .returned (.bool true) ∧ Grown w w' := by
  obtain ⟨v, rfl⟩ := u64_bv w0
  obtain ⟨x, rfl⟩ := u64_bv w3
  obtain ⟨y, rfl⟩ := u64_bv w6
  by_cases h : 0 ≤ a2 ∧ a2 ≤ a1 ∧ a1 < 64
  · obtain ⟨h1, h2, h3⟩ := h
    by_cases k : ¬ (0 ≤ a5 ∧ a5 ≤ a4 ∧ a4 < 64) ∨ (a5 ≤ a1 ∧ a2 ≤ a4)
    · exact (bitsBack_one v x y a1 a2 a4 a5 h1 h2 h3 k w).mono fun _ _ ⟨e, q⟩ => ⟨e, q.grown⟩
    · exact (bitsBack_two v x y a1 a2 a4 a5 h1 h2 h3 (by omega) (by omega) (by omega) (by omega) w).mono fun _ _ ⟨e, q⟩ => ⟨e, q.grown⟩
  · exact (bitsBack_no v x y a1 a2 a4 a5 h w).mono fun _ _ ⟨e, q⟩ => ⟨e, q.grown⟩

end Go.Proofs.Ytbaegflfcjcbeaa
