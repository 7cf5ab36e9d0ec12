/- The laws on signs and on a word and its other one, walked: each call answers true. -/
import Derived.Test.YtbaegflfcjcbeaaBitsLaws
namespace Go.Proofs.Ytbaegflfcjcbeaa
open Go.RowKit Wd

theorem bitsSigns_no (v : BitVec 64) (n m : Int) (h : ¬ (1 ≤ n ∧ n ≤ 64)) (w : World) :
    Calls Try.prog 6 #[.int .u64 (v.toNat : Int), .int .i64 n, .int .i64 m] w fun e w' => e = .returned (.bool true) ∧ Quiet w w' := by
  have hq := Quiet.refl w
  by_cases h1 : n < 1
  · clear h
    go_enter Try.func6, Try.ntmps6
    go_wp2_with (go_at_call 11; refine (awake_any.at hq).mono ?_; clear hq; rintro e w1 ⟨rfl, hq⟩)
    go_ret
    exact ⟨rfl, hq⟩
  · have h2 : 64 < n := by omega
    clear h
    go_enter Try.func6, Try.ntmps6
    go_wp2_with (go_at_call 11; refine (awake_any.at hq).mono ?_; clear hq; rintro e w1 ⟨rfl, hq⟩)
    go_ret
    exact ⟨rfl, hq⟩

theorem bitsSigns_pos (v s z : BitVec 64) (n m : Int) (h1 : 1 ≤ n) (h2 : n ≤ 64) (hs : sext v n = s) (hz : zext v n = z) (e1 : sext s n = s) (e2 : sext z n = s) (e3 : zext s n = z) (e4 : n ≤ m → m ≤ 64 → sext s m = s) (hb : field v (n - 1) (n - 1) = 0#64) (hp : s = z) (w : World) :
    Calls Try.prog 6 #[.int .u64 (v.toNat : Int), .int .i64 n, .int .i64 m] w fun e w' => e = .returned (.bool true) ∧ Quiet w w' := by
  have hq := Quiet.refl w
  subst hp
  by_cases k1 : n ≤ m
  · by_cases k2 : m ≤ 64
    · replace e4 := e4 k1 k2
      go_enter Try.func6, Try.ntmps6
      go_wp2_with (first
              | (go_at_call 11; refine (awake_any.at hq).mono ?_; clear hq; rintro e w1 ⟨rfl, hq⟩)
              | (go_at_call 12; refine ((field_any _ _ _).at hq).mono ?_; clear hq; rintro e w1 ⟨rfl, hq⟩)
              | (go_at_call 19; refine ((sext_any _ _).at hq).mono ?_; clear hq; rintro e w1 ⟨rfl, hq⟩)
              | (go_at_call 18; refine ((zext_any _ _).at hq).mono ?_; clear hq; rintro e w1 ⟨rfl, hq⟩))
      go_ret
      exact ⟨rfl, hq⟩
    · clear e4
      go_enter Try.func6, Try.ntmps6
      go_wp2_with (first
              | (go_at_call 11; refine (awake_any.at hq).mono ?_; clear hq; rintro e w1 ⟨rfl, hq⟩)
              | (go_at_call 12; refine ((field_any _ _ _).at hq).mono ?_; clear hq; rintro e w1 ⟨rfl, hq⟩)
              | (go_at_call 19; refine ((sext_any _ _).at hq).mono ?_; clear hq; rintro e w1 ⟨rfl, hq⟩)
              | (go_at_call 18; refine ((zext_any _ _).at hq).mono ?_; clear hq; rintro e w1 ⟨rfl, hq⟩))
      go_ret
      exact ⟨rfl, hq⟩
  · clear e4
    go_enter Try.func6, Try.ntmps6
    go_wp2_with (first
            | (go_at_call 11; refine (awake_any.at hq).mono ?_; clear hq; rintro e w1 ⟨rfl, hq⟩)
            | (go_at_call 12; refine ((field_any _ _ _).at hq).mono ?_; clear hq; rintro e w1 ⟨rfl, hq⟩)
            | (go_at_call 19; refine ((sext_any _ _).at hq).mono ?_; clear hq; rintro e w1 ⟨rfl, hq⟩)
            | (go_at_call 18; refine ((zext_any _ _).at hq).mono ?_; clear hq; rintro e w1 ⟨rfl, hq⟩))
    go_ret
    exact ⟨rfl, hq⟩

theorem bitsSigns_all (v s z : BitVec 64) (m : Int) (hs : sext v 64 = s) (hz : zext v 64 = z) (e1 : sext s 64 = s) (e2 : sext z 64 = s) (e3 : zext s 64 = z) (e4 : 64 ≤ m → m ≤ 64 → sext s m = s) (hb : field v 63 63 = 1#64) (hp : s = z) (w : World) :
    Calls Try.prog 6 #[.int .u64 (v.toNat : Int), .int .i64 64, .int .i64 m] w fun e w' => e = .returned (.bool true) ∧ Quiet w w' := by
  have hq := Quiet.refl w
  subst hp
  by_cases k1 : 64 ≤ m
  · by_cases k2 : m ≤ 64
    · replace e4 := e4 k1 k2
      go_enter Try.func6, Try.ntmps6
      go_wp2_with (first
              | (go_at_call 11; refine (awake_any.at hq).mono ?_; clear hq; rintro e w1 ⟨rfl, hq⟩)
              | (go_at_call 12; refine ((field_any _ _ _).at hq).mono ?_; clear hq; rintro e w1 ⟨rfl, hq⟩)
              | (go_at_call 19; refine ((sext_any _ _).at hq).mono ?_; clear hq; rintro e w1 ⟨rfl, hq⟩)
              | (go_at_call 18; refine ((zext_any _ _).at hq).mono ?_; clear hq; rintro e w1 ⟨rfl, hq⟩))
      go_ret
      exact ⟨rfl, hq⟩
    · clear e4
      go_enter Try.func6, Try.ntmps6
      go_wp2_with (first
              | (go_at_call 11; refine (awake_any.at hq).mono ?_; clear hq; rintro e w1 ⟨rfl, hq⟩)
              | (go_at_call 12; refine ((field_any _ _ _).at hq).mono ?_; clear hq; rintro e w1 ⟨rfl, hq⟩)
              | (go_at_call 19; refine ((sext_any _ _).at hq).mono ?_; clear hq; rintro e w1 ⟨rfl, hq⟩)
              | (go_at_call 18; refine ((zext_any _ _).at hq).mono ?_; clear hq; rintro e w1 ⟨rfl, hq⟩))
      go_ret
      exact ⟨rfl, hq⟩
  · clear e4
    go_enter Try.func6, Try.ntmps6
    go_wp2_with (first
            | (go_at_call 11; refine (awake_any.at hq).mono ?_; clear hq; rintro e w1 ⟨rfl, hq⟩)
            | (go_at_call 12; refine ((field_any _ _ _).at hq).mono ?_; clear hq; rintro e w1 ⟨rfl, hq⟩)
            | (go_at_call 19; refine ((sext_any _ _).at hq).mono ?_; clear hq; rintro e w1 ⟨rfl, hq⟩)
            | (go_at_call 18; refine ((zext_any _ _).at hq).mono ?_; clear hq; rintro e w1 ⟨rfl, hq⟩))
    go_ret
    exact ⟨rfl, hq⟩

theorem bitsSigns_neg (v s z : BitVec 64) (n m : Int) (h1 : 1 ≤ n) (h2 : n ≤ 64) (hs : sext v n = s) (hz : zext v n = z) (e1 : sext s n = s) (e2 : sext z n = s) (e3 : zext s n = z) (e4 : n ≤ m → m ≤ 64 → sext s m = s) (hb : field v (n - 1) (n - 1) = 1#64) (h3 : n < 64) (hn : wrap64 (s.toNat : Int) < 0) (hk : s - z = BitVec.allOnes 64 <<< n.toNat) (w : World) :
    Calls Try.prog 6 #[.int .u64 (v.toNat : Int), .int .i64 n, .int .i64 m] w fun e w' => e = .returned (.bool true) ∧ Quiet w w' := by
  have hq := Quiet.refl w
  have HK := Lib.hid hk
  clear hk
  by_cases k1 : n ≤ m
  · by_cases k2 : m ≤ 64
    · replace e4 := e4 k1 k2
      go_enter Try.func6, Try.ntmps6
      go_wp2_with (first
              | (go_at_call 11; refine (awake_any.at hq).mono ?_; clear hq; rintro e w1 ⟨rfl, hq⟩)
              | (go_at_call 12; refine ((field_any _ _ _).at hq).mono ?_; clear hq; rintro e w1 ⟨rfl, hq⟩)
              | (go_at_call 19; refine ((sext_any _ _).at hq).mono ?_; clear hq; rintro e w1 ⟨rfl, hq⟩)
              | (go_at_call 18; refine ((zext_any _ _).at hq).mono ?_; clear hq; rintro e w1 ⟨rfl, hq⟩))
      go_ret
      exact ⟨ret_bool (sub_walk _ _ _ HK.out), hq⟩
    · clear e4
      go_enter Try.func6, Try.ntmps6
      go_wp2_with (first
              | (go_at_call 11; refine (awake_any.at hq).mono ?_; clear hq; rintro e w1 ⟨rfl, hq⟩)
              | (go_at_call 12; refine ((field_any _ _ _).at hq).mono ?_; clear hq; rintro e w1 ⟨rfl, hq⟩)
              | (go_at_call 19; refine ((sext_any _ _).at hq).mono ?_; clear hq; rintro e w1 ⟨rfl, hq⟩)
              | (go_at_call 18; refine ((zext_any _ _).at hq).mono ?_; clear hq; rintro e w1 ⟨rfl, hq⟩))
      go_ret
      exact ⟨ret_bool (sub_walk _ _ _ HK.out), hq⟩
  · clear e4
    go_enter Try.func6, Try.ntmps6
    go_wp2_with (first
            | (go_at_call 11; refine (awake_any.at hq).mono ?_; clear hq; rintro e w1 ⟨rfl, hq⟩)
            | (go_at_call 12; refine ((field_any _ _ _).at hq).mono ?_; clear hq; rintro e w1 ⟨rfl, hq⟩)
            | (go_at_call 19; refine ((sext_any _ _).at hq).mono ?_; clear hq; rintro e w1 ⟨rfl, hq⟩)
            | (go_at_call 18; refine ((zext_any _ _).at hq).mono ?_; clear hq; rintro e w1 ⟨rfl, hq⟩))
    go_ret
    exact ⟨ret_bool (sub_walk _ _ _ HK.out), hq⟩

theorem bitsSigns_walk (a0 a1 a2 : Int) (w0 : (Lit.int .u64 a0).wf = true) (_ : (Lit.int .i64 a1).wf = true) (_ : (Lit.int .i64 a2).wf = true) (w : World) :
    Calls Try.prog 6 #[.int .u64 a0, .int .i64 a1, .int .i64 a2] w fun e w' => e = .returned (.bool true) ∧ Grown w w' := by
  obtain ⟨v, rfl⟩ := u64_bv w0
  by_cases h : 1 ≤ a1 ∧ a1 ≤ 64
  · obtain ⟨h1, h2⟩ := h
    have e1 := sext_sext v a1 a1 h1 (by omega) h2
    have e2 := sext_zext v a1 h1 h2
    have e3 := zext_sext v a1 h1 h2
    have e4 : a1 ≤ a2 → a2 ≤ 64 → sext (sext v a1) a2 = sext v a1 := fun k1 k2 => sext_sext v a1 a2 h1 k1 k2
    have hf := field_one v a1 h1 h2
    by_cases hb : bit v (a1.toNat - 1) = true
    · rw [if_pos hb] at hf
      by_cases h3 : a1 = 64
      · subst h3
        exact (bitsSigns_all v _ _ a2 rfl rfl e1 e2 e3 e4 hf (by rw [sext_all _ _ (by omega), zext_all _ _ (by omega)]) w).mono fun _ _ ⟨e, q⟩ => ⟨e, q.grown⟩
      · exact (bitsSigns_neg v _ _ a1 a2 h1 h2 rfl rfl e1 e2 e3 e4 hf (by omega) (neg_walk _ (sext_neg v a1 h1 h2 hb)) (sext_sub v a1 h1 (by omega) hb) w).mono fun _ _ ⟨e, q⟩ => ⟨e, q.grown⟩
    · rw [if_neg hb] at hf
      exact (bitsSigns_pos v _ _ a1 a2 h1 h2 rfl rfl e1 e2 e3 e4 hf (sext_zext_pos v a1 h1 h2 (by simpa using hb)) w).mono fun _ _ ⟨e, q⟩ => ⟨e, q.grown⟩
  · exact (bitsSigns_no v a1 a2 h w).mono fun _ _ ⟨e, q⟩ => ⟨e, q.grown⟩

theorem pones_at (x : Int) (u : BitVec 64) (h : x = (u.toNat : Int)) : Qt Try.prog 28 #[.int .u64 x] (.int .i64 (cnt u 64 : Nat)) := by
  subst h
  exact pones_any u
attribute [local go_sem] signed_u64
theorem bitsTurned_some (v : BitVec 64) (l h : Nat) (h1 : l < 64) (h2 : h < 64) (h3 : l ≤ h) (H1 : Qt Try.prog 24 #[.int .u64 (v.toNat : Int)] (.tuple #[.int .i64 (h : Int), .bool true]))
    (H3 : Qt Try.prog 26 #[.int .u64 (v.toNat : Int)] (.tuple #[.int .i64 (l : Int), .bool true])) (hv : ((v.toNat : Int) != 0) = true)
    (f1 : (cnt v 64 : Int) + cnt (~~~v) 64 ≤ 64) (f2 : 64 ≤ (cnt v 64 : Int) + cnt (~~~v) 64) (f3 : (cnt (v &&& ~~~(1#64 <<< l)) 64 : Int) + 1 ≤ cnt v 64) (f4 : (cnt v 64 : Int) ≤ cnt (v &&& ~~~(1#64 <<< l)) 64 + 1)
    (f5 : (v.toNat : Int) / 2 ^ h = 1) (f6 : (IntKind.u64.wrap ((v.toNat : Int) * 2 ^ (63 - l)) == 9223372036854775808) = true) (w : World) :
    Calls Try.prog 9 #[.int .u64 (v.toNat : Int)] w fun e w' => e = .returned (.bool true) ∧ Quiet w w' := by
  have hq := Quiet.refl w
  have K1 := Lib.hid H1
  have K3 := Lib.hid H3
  have K6 := Lib.hid f6
  clear H1 H3 f6
  go_enter Try.func9, Try.ntmps9
  go_wp2_with (first
    | (go_at_call 11; refine (awake_any.at hq).mono ?_; clear hq; rintro e w1 ⟨rfl, hq⟩)
    | (go_at_call 24; refine (K1.out.at hq).mono ?_; clear hq; rintro e w1 ⟨rfl, hq⟩)
    | (go_at_call 26; refine (K3.out.at hq).mono ?_; clear hq; rintro e w1 ⟨rfl, hq⟩)
    | (go_at_call 28; refine ((pones_at _ _ (by first | (with_reducible rfl) | exact not_walk _ | exact clear_walk _ _)).at hq).mono ?_; clear hq; rintro e w1 ⟨rfl, hq⟩))
  go_ret
  exact ⟨ret_bool K6.out, hq⟩

theorem bitsTurned_none (w : World) :
    Calls Try.prog 9 #[.int .u64 0] w fun e w' => e = .returned (.bool true) ∧ Quiet w w' := by
  have hq := Quiet.refl w
  have H1 : Qt Try.prog 24 #[.int .u64 0] (.tuple #[.int .i64 0, .bool false]) := by
    have h := phigh_any 0#64
    rw [show high 0#64 64 = none from by decide] at h
    exact h
  have H3 : Qt Try.prog 26 #[.int .u64 0] (.tuple #[.int .i64 0, .bool false]) := by
    have h := plow_any 0#64
    rw [show low 0#64 64 0 = none from by decide] at h
    exact h
  have H4 : Qt Try.prog 28 #[.int .u64 0] (.int .i64 0) := by
    have h := pones_any 0#64
    rw [show cnt 0#64 64 = 0 from by decide] at h
    exact h
  have H5 : Qt Try.prog 28 #[.int .u64 (bits .xor .u64 IntKind.u64.max 0)] (.int .i64 64) := by
    have h := pones_at (bits .xor .u64 IntKind.u64.max 0) (~~~0#64) (not_walk 0#64)
    rw [show cnt (~~~0#64) 64 = 64 from by decide] at h
    exact h
  have K1 := Lib.hid H1
  have K3 := Lib.hid H3
  have K4 := Lib.hid H4
  have K5 := Lib.hid H5
  clear H1 H3 H4 H5
  go_enter Try.func9, Try.ntmps9
  go_wp2_with (first
    | (go_at_call 11; refine (awake_any.at hq).mono ?_; clear hq; rintro e w1 ⟨rfl, hq⟩)
    | (go_at_call 24; refine (K1.out.at hq).mono ?_; clear hq; rintro e w1 ⟨rfl, hq⟩)
    | (go_at_call 26; refine (K3.out.at hq).mono ?_; clear hq; rintro e w1 ⟨rfl, hq⟩)
    | (go_at_call 28; (with_reducible refine (K4.out.at hq).mono ?_); clear hq; rintro e w1 ⟨rfl, hq⟩)
    | (go_at_call 28; (with_reducible refine (K5.out.at hq).mono ?_); clear hq; rintro e w1 ⟨rfl, hq⟩))
  go_ret
  exact ⟨rfl, hq⟩

theorem bitsTurned_walk (a0 : Int) (w0 : (Lit.int .u64 a0).wf = true) (w : World) :
    Calls Try.prog 9 #[.int .u64 a0] w fun e w' => e = .returned (.bool true) ∧ Grown w w' := by
  obtain ⟨v, rfl⟩ := u64_bv w0
  have H1 := phigh_any v
  have H3 := plow_any v
  rcases hl : low v 64 0 with _ | l
  · have := eq_zero_of_bits v (fun j hj => low_none v 64 0 hl j (by omega) (by omega))
    subst this
    exact (bitsTurned_none w).mono fun _ _ ⟨e, q⟩ => ⟨e, q.grown⟩
  · obtain ⟨_, h1, h2, _⟩ := low_some v 64 0 l hl
    rcases hh : high v 64 with _ | h
    · have := high_none v 64 hh l (by omega)
      rw [this] at h2
      cases h2
    · obtain ⟨h4, h5, h6⟩ := high_some v 64 h hh
      rw [hl] at H3
      rw [hh] at H1
      have hle : l ≤ h := by
        rcases Nat.lt_or_ge h l with e | e
        · have := h6 l e (by omega)
          rw [this] at h2
          cases h2
        · exact e
      have hv : ((v.toNat : Int) != 0) = true := by
        rw [bne_iff_ne]
        intro e
        have : v = 0#64 := BitVec.eq_of_toNat_eq (by simpa using e)
        rw [this] at h2
        simp [bit] at h2
      have c1 := cnt_not v 64 (by omega)
      have c2 := cnt_clear v l 64 (by omega) (by omega) h2
      exact (bitsTurned_some v l h (by omega) h4 hle H1 H3 hv (by omega) (by omega) (by omega) (by omega) (shr_one v h (shr_high v h hh)) (shl_top v _ (shl_low v l hl)) w).mono fun _ _ ⟨e, q⟩ => ⟨e, q.grown⟩
end Go.Proofs.Ytbaegflfcjcbeaa
