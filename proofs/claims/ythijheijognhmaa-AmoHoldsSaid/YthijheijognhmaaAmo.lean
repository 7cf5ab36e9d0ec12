/- Contracts of New of package amo and of its reference: what any operation makes of any words. -/
import Derived.Test.YthijheijognhmaaBits
import Derived.Test.YthijheijognhmaaRefBits
import Derived.Test.YthijheijognhmaaAmoPlain
namespace Go.Proofs.Ythijheijognhmaa
open Go.RowKit Wd
attribute [local go_sem] wrap64_toInt xor_lt add64 xor64' or64' and64'

theorem better_any (a b : BitVec 64) (f : Bool) : Qt Try.prog 50 #[.int .u64 (a.toNat : Int), .int .u64 (b.toNat : Int), .bool f] (.int .u64 ((if f then a else b).toNat : Int)) := by
  intro w
  cases f with
  | true =>
    go_enter Try.func50, Try.ntmps50
    go_wp2
    go_ret
    exact ⟨rfl, Quiet.refl _⟩
  | false =>
    go_enter Try.func50, Try.ntmps50
    go_wp2
    go_ret
    exact ⟨rfl, Quiet.refl _⟩

theorem pnew_1_4 (old x : BitVec 64) : Qt Try.prog 42 #[.int .i64 1, .int .i64 4, .int .u64 (old.toNat : Int), .int .u64 (x.toNat : Int)] (amoVal (amoNew 1 4 old x)) := by
  intro w
  have hq := Quiet.refl w
  have hf := Lib.hid (amoNew_at 1 4 old x (by omega) (some (zext x 32)) (by rfl))
  go_enter Try.func42, Try.ntmps42
  go_wp2_with (first
        | (go_at_call 48; refine ((sext_any _ _).at hq).mono ?_; clear hq; rintro e w1 ⟨rfl, hq⟩)
        | (go_at_call 49; refine ((zext_any _ _).at hq).mono ?_; clear hq; rintro e w1 ⟨rfl, hq⟩)
        | (go_at_call 50; refine ((better_any _ _ _).at hq).mono ?_; clear hq; rintro e w1 ⟨rfl, hq⟩))
  go_ret2
  refine ⟨?_, hq⟩
  rw [hf.out]
  exact ret_two rfl rfl

theorem pnew_1_8 (old x : BitVec 64) : Qt Try.prog 42 #[.int .i64 1, .int .i64 8, .int .u64 (old.toNat : Int), .int .u64 (x.toNat : Int)] (amoVal (amoNew 1 8 old x)) := by
  intro w
  have hq := Quiet.refl w
  have hf := Lib.hid (amoNew_at 1 8 old x (by omega) (some (zext x 64)) (by rfl))
  go_enter Try.func42, Try.ntmps42
  go_wp2_with (first
        | (go_at_call 48; refine ((sext_any _ _).at hq).mono ?_; clear hq; rintro e w1 ⟨rfl, hq⟩)
        | (go_at_call 49; refine ((zext_any _ _).at hq).mono ?_; clear hq; rintro e w1 ⟨rfl, hq⟩)
        | (go_at_call 50; refine ((better_any _ _ _).at hq).mono ?_; clear hq; rintro e w1 ⟨rfl, hq⟩))
  go_ret2
  refine ⟨?_, hq⟩
  rw [hf.out]
  exact ret_two rfl rfl

theorem pnew_0_4 (old x : BitVec 64) : Qt Try.prog 42 #[.int .i64 0, .int .i64 4, .int .u64 (old.toNat : Int), .int .u64 (x.toNat : Int)] (amoVal (amoNew 0 4 old x)) := by
  intro w
  have hq := Quiet.refl w
  have hf := Lib.hid (amoNew_at 0 4 old x (by omega) (some (addW (zext old 32) (zext x 32))) (by rfl))
  go_enter Try.func42, Try.ntmps42
  go_wp2_with (first
        | (go_at_call 48; refine ((sext_any _ _).at hq).mono ?_; clear hq; rintro e w1 ⟨rfl, hq⟩)
        | (go_at_call 49; refine ((zext_any _ _).at hq).mono ?_; clear hq; rintro e w1 ⟨rfl, hq⟩)
        | (go_at_call 50; refine ((better_any _ _ _).at hq).mono ?_; clear hq; rintro e w1 ⟨rfl, hq⟩))
  go_ret2
  refine ⟨?_, hq⟩
  rw [hf.out]
  exact ret_two rfl rfl

theorem pnew_0_8 (old x : BitVec 64) : Qt Try.prog 42 #[.int .i64 0, .int .i64 8, .int .u64 (old.toNat : Int), .int .u64 (x.toNat : Int)] (amoVal (amoNew 0 8 old x)) := by
  intro w
  have hq := Quiet.refl w
  have hf := Lib.hid (amoNew_at 0 8 old x (by omega) (some (addW (zext old 64) (zext x 64))) (by rfl))
  go_enter Try.func42, Try.ntmps42
  go_wp2_with (first
        | (go_at_call 48; refine ((sext_any _ _).at hq).mono ?_; clear hq; rintro e w1 ⟨rfl, hq⟩)
        | (go_at_call 49; refine ((zext_any _ _).at hq).mono ?_; clear hq; rintro e w1 ⟨rfl, hq⟩)
        | (go_at_call 50; refine ((better_any _ _ _).at hq).mono ?_; clear hq; rintro e w1 ⟨rfl, hq⟩))
  go_ret2
  refine ⟨?_, hq⟩
  rw [hf.out]
  exact ret_two rfl rfl

theorem pnew_4_4 (old x : BitVec 64) : Qt Try.prog 42 #[.int .i64 4, .int .i64 4, .int .u64 (old.toNat : Int), .int .u64 (x.toNat : Int)] (amoVal (amoNew 4 4 old x)) := by
  intro w
  have hq := Quiet.refl w
  have hf := Lib.hid (amoNew_at 4 4 old x (by omega) (some (xorW (zext old 32) (zext x 32))) (by rfl))
  go_enter Try.func42, Try.ntmps42
  go_wp2_with (first
        | (go_at_call 48; refine ((sext_any _ _).at hq).mono ?_; clear hq; rintro e w1 ⟨rfl, hq⟩)
        | (go_at_call 49; refine ((zext_any _ _).at hq).mono ?_; clear hq; rintro e w1 ⟨rfl, hq⟩)
        | (go_at_call 50; refine ((better_any _ _ _).at hq).mono ?_; clear hq; rintro e w1 ⟨rfl, hq⟩))
  go_ret2
  refine ⟨?_, hq⟩
  rw [hf.out]
  exact ret_two rfl rfl

theorem pnew_4_8 (old x : BitVec 64) : Qt Try.prog 42 #[.int .i64 4, .int .i64 8, .int .u64 (old.toNat : Int), .int .u64 (x.toNat : Int)] (amoVal (amoNew 4 8 old x)) := by
  intro w
  have hq := Quiet.refl w
  have hf := Lib.hid (amoNew_at 4 8 old x (by omega) (some (xorW (zext old 64) (zext x 64))) (by rfl))
  go_enter Try.func42, Try.ntmps42
  go_wp2_with (first
        | (go_at_call 48; refine ((sext_any _ _).at hq).mono ?_; clear hq; rintro e w1 ⟨rfl, hq⟩)
        | (go_at_call 49; refine ((zext_any _ _).at hq).mono ?_; clear hq; rintro e w1 ⟨rfl, hq⟩)
        | (go_at_call 50; refine ((better_any _ _ _).at hq).mono ?_; clear hq; rintro e w1 ⟨rfl, hq⟩))
  go_ret2
  refine ⟨?_, hq⟩
  rw [hf.out]
  exact ret_two rfl rfl

theorem pnew_8_4 (old x : BitVec 64) : Qt Try.prog 42 #[.int .i64 8, .int .i64 4, .int .u64 (old.toNat : Int), .int .u64 (x.toNat : Int)] (amoVal (amoNew 8 4 old x)) := by
  intro w
  have hq := Quiet.refl w
  have hf := Lib.hid (amoNew_at 8 4 old x (by omega) (some (orW (zext old 32) (zext x 32))) (by rfl))
  go_enter Try.func42, Try.ntmps42
  go_wp2_with (first
        | (go_at_call 48; refine ((sext_any _ _).at hq).mono ?_; clear hq; rintro e w1 ⟨rfl, hq⟩)
        | (go_at_call 49; refine ((zext_any _ _).at hq).mono ?_; clear hq; rintro e w1 ⟨rfl, hq⟩)
        | (go_at_call 50; refine ((better_any _ _ _).at hq).mono ?_; clear hq; rintro e w1 ⟨rfl, hq⟩))
  go_ret2
  refine ⟨?_, hq⟩
  rw [hf.out]
  exact ret_two rfl rfl

theorem pnew_8_8 (old x : BitVec 64) : Qt Try.prog 42 #[.int .i64 8, .int .i64 8, .int .u64 (old.toNat : Int), .int .u64 (x.toNat : Int)] (amoVal (amoNew 8 8 old x)) := by
  intro w
  have hq := Quiet.refl w
  have hf := Lib.hid (amoNew_at 8 8 old x (by omega) (some (orW (zext old 64) (zext x 64))) (by rfl))
  go_enter Try.func42, Try.ntmps42
  go_wp2_with (first
        | (go_at_call 48; refine ((sext_any _ _).at hq).mono ?_; clear hq; rintro e w1 ⟨rfl, hq⟩)
        | (go_at_call 49; refine ((zext_any _ _).at hq).mono ?_; clear hq; rintro e w1 ⟨rfl, hq⟩)
        | (go_at_call 50; refine ((better_any _ _ _).at hq).mono ?_; clear hq; rintro e w1 ⟨rfl, hq⟩))
  go_ret2
  refine ⟨?_, hq⟩
  rw [hf.out]
  exact ret_two rfl rfl

theorem pnew_12_4 (old x : BitVec 64) : Qt Try.prog 42 #[.int .i64 12, .int .i64 4, .int .u64 (old.toNat : Int), .int .u64 (x.toNat : Int)] (amoVal (amoNew 12 4 old x)) := by
  intro w
  have hq := Quiet.refl w
  have hf := Lib.hid (amoNew_at 12 4 old x (by omega) (some (andW (zext old 32) (zext x 32))) (by rfl))
  go_enter Try.func42, Try.ntmps42
  go_wp2_with (first
        | (go_at_call 48; refine ((sext_any _ _).at hq).mono ?_; clear hq; rintro e w1 ⟨rfl, hq⟩)
        | (go_at_call 49; refine ((zext_any _ _).at hq).mono ?_; clear hq; rintro e w1 ⟨rfl, hq⟩)
        | (go_at_call 50; refine ((better_any _ _ _).at hq).mono ?_; clear hq; rintro e w1 ⟨rfl, hq⟩))
  go_ret2
  refine ⟨?_, hq⟩
  rw [hf.out]
  exact ret_two rfl rfl

theorem pnew_12_8 (old x : BitVec 64) : Qt Try.prog 42 #[.int .i64 12, .int .i64 8, .int .u64 (old.toNat : Int), .int .u64 (x.toNat : Int)] (amoVal (amoNew 12 8 old x)) := by
  intro w
  have hq := Quiet.refl w
  have hf := Lib.hid (amoNew_at 12 8 old x (by omega) (some (andW (zext old 64) (zext x 64))) (by rfl))
  go_enter Try.func42, Try.ntmps42
  go_wp2_with (first
        | (go_at_call 48; refine ((sext_any _ _).at hq).mono ?_; clear hq; rintro e w1 ⟨rfl, hq⟩)
        | (go_at_call 49; refine ((zext_any _ _).at hq).mono ?_; clear hq; rintro e w1 ⟨rfl, hq⟩)
        | (go_at_call 50; refine ((better_any _ _ _).at hq).mono ?_; clear hq; rintro e w1 ⟨rfl, hq⟩))
  go_ret2
  refine ⟨?_, hq⟩
  rw [hf.out]
  exact ret_two rfl rfl

theorem pnew_16_4 (old x : BitVec 64) : Qt Try.prog 42 #[.int .i64 16, .int .i64 4, .int .u64 (old.toNat : Int), .int .u64 (x.toNat : Int)] (amoVal (amoNew 16 4 old x)) := by
  intro w
  have hq := Quiet.refl w
  rcases Bool.eq_false_or_eq_true (decide ((sext old 32).toInt < (sext x 32).toInt)) with hb | hb
  · have hf := Lib.hid (amoNew_at 16 4 old x (by omega) (some (zext old 32)) (by show some (if decide ((sext old 32).toInt < (sext x 32).toInt) then _ else _) = _; rw [hb]; rfl))
    go_enter Try.func42, Try.ntmps42
    go_wp2_with (first
          | (go_at_call 48; refine ((sext_any _ _).at hq).mono ?_; clear hq; rintro e w1 ⟨rfl, hq⟩)
          | (go_at_call 49; refine ((zext_any _ _).at hq).mono ?_; clear hq; rintro e w1 ⟨rfl, hq⟩)
          | (go_at_call 50; refine ((better_any _ _ _).at hq).mono ?_; clear hq; rintro e w1 ⟨rfl, hq⟩))
    go_ret2
    refine ⟨?_, hq⟩
    rw [hf.out]
    exact ret_two rfl rfl
  · have hf := Lib.hid (amoNew_at 16 4 old x (by omega) (some (zext x 32)) (by show some (if decide ((sext old 32).toInt < (sext x 32).toInt) then _ else _) = _; rw [hb]; rfl))
    go_enter Try.func42, Try.ntmps42
    go_wp2_with (first
          | (go_at_call 48; refine ((sext_any _ _).at hq).mono ?_; clear hq; rintro e w1 ⟨rfl, hq⟩)
          | (go_at_call 49; refine ((zext_any _ _).at hq).mono ?_; clear hq; rintro e w1 ⟨rfl, hq⟩)
          | (go_at_call 50; refine ((better_any _ _ _).at hq).mono ?_; clear hq; rintro e w1 ⟨rfl, hq⟩))
    go_ret2
    refine ⟨?_, hq⟩
    rw [hf.out]
    exact ret_two rfl rfl

theorem pnew_16_8 (old x : BitVec 64) : Qt Try.prog 42 #[.int .i64 16, .int .i64 8, .int .u64 (old.toNat : Int), .int .u64 (x.toNat : Int)] (amoVal (amoNew 16 8 old x)) := by
  intro w
  have hq := Quiet.refl w
  rcases Bool.eq_false_or_eq_true (decide ((sext old 64).toInt < (sext x 64).toInt)) with hb | hb
  · have hf := Lib.hid (amoNew_at 16 8 old x (by omega) (some (zext old 64)) (by show some (if decide ((sext old 64).toInt < (sext x 64).toInt) then _ else _) = _; rw [hb]; rfl))
    go_enter Try.func42, Try.ntmps42
    go_wp2_with (first
          | (go_at_call 48; refine ((sext_any _ _).at hq).mono ?_; clear hq; rintro e w1 ⟨rfl, hq⟩)
          | (go_at_call 49; refine ((zext_any _ _).at hq).mono ?_; clear hq; rintro e w1 ⟨rfl, hq⟩)
          | (go_at_call 50; refine ((better_any _ _ _).at hq).mono ?_; clear hq; rintro e w1 ⟨rfl, hq⟩))
    go_ret2
    refine ⟨?_, hq⟩
    rw [hf.out]
    exact ret_two rfl rfl
  · have hf := Lib.hid (amoNew_at 16 8 old x (by omega) (some (zext x 64)) (by show some (if decide ((sext old 64).toInt < (sext x 64).toInt) then _ else _) = _; rw [hb]; rfl))
    go_enter Try.func42, Try.ntmps42
    go_wp2_with (first
          | (go_at_call 48; refine ((sext_any _ _).at hq).mono ?_; clear hq; rintro e w1 ⟨rfl, hq⟩)
          | (go_at_call 49; refine ((zext_any _ _).at hq).mono ?_; clear hq; rintro e w1 ⟨rfl, hq⟩)
          | (go_at_call 50; refine ((better_any _ _ _).at hq).mono ?_; clear hq; rintro e w1 ⟨rfl, hq⟩))
    go_ret2
    refine ⟨?_, hq⟩
    rw [hf.out]
    exact ret_two rfl rfl

theorem pnew_20_4 (old x : BitVec 64) : Qt Try.prog 42 #[.int .i64 20, .int .i64 4, .int .u64 (old.toNat : Int), .int .u64 (x.toNat : Int)] (amoVal (amoNew 20 4 old x)) := by
  intro w
  have hq := Quiet.refl w
  rcases Bool.eq_false_or_eq_true (decide ((sext old 32).toInt < (sext x 32).toInt)) with hb | hb
  · have hf := Lib.hid (amoNew_at 20 4 old x (by omega) (some (zext x 32)) (by show some (if decide ((sext old 32).toInt < (sext x 32).toInt) then _ else _) = _; rw [hb]; rfl))
    go_enter Try.func42, Try.ntmps42
    go_wp2_with (first
          | (go_at_call 48; refine ((sext_any _ _).at hq).mono ?_; clear hq; rintro e w1 ⟨rfl, hq⟩)
          | (go_at_call 49; refine ((zext_any _ _).at hq).mono ?_; clear hq; rintro e w1 ⟨rfl, hq⟩)
          | (go_at_call 50; refine ((better_any _ _ _).at hq).mono ?_; clear hq; rintro e w1 ⟨rfl, hq⟩))
    go_ret2
    refine ⟨?_, hq⟩
    rw [hf.out]
    exact ret_two rfl rfl
  · have hf := Lib.hid (amoNew_at 20 4 old x (by omega) (some (zext old 32)) (by show some (if decide ((sext old 32).toInt < (sext x 32).toInt) then _ else _) = _; rw [hb]; rfl))
    go_enter Try.func42, Try.ntmps42
    go_wp2_with (first
          | (go_at_call 48; refine ((sext_any _ _).at hq).mono ?_; clear hq; rintro e w1 ⟨rfl, hq⟩)
          | (go_at_call 49; refine ((zext_any _ _).at hq).mono ?_; clear hq; rintro e w1 ⟨rfl, hq⟩)
          | (go_at_call 50; refine ((better_any _ _ _).at hq).mono ?_; clear hq; rintro e w1 ⟨rfl, hq⟩))
    go_ret2
    refine ⟨?_, hq⟩
    rw [hf.out]
    exact ret_two rfl rfl

theorem pnew_20_8 (old x : BitVec 64) : Qt Try.prog 42 #[.int .i64 20, .int .i64 8, .int .u64 (old.toNat : Int), .int .u64 (x.toNat : Int)] (amoVal (amoNew 20 8 old x)) := by
  intro w
  have hq := Quiet.refl w
  rcases Bool.eq_false_or_eq_true (decide ((sext old 64).toInt < (sext x 64).toInt)) with hb | hb
  · have hf := Lib.hid (amoNew_at 20 8 old x (by omega) (some (zext x 64)) (by show some (if decide ((sext old 64).toInt < (sext x 64).toInt) then _ else _) = _; rw [hb]; rfl))
    go_enter Try.func42, Try.ntmps42
    go_wp2_with (first
          | (go_at_call 48; refine ((sext_any _ _).at hq).mono ?_; clear hq; rintro e w1 ⟨rfl, hq⟩)
          | (go_at_call 49; refine ((zext_any _ _).at hq).mono ?_; clear hq; rintro e w1 ⟨rfl, hq⟩)
          | (go_at_call 50; refine ((better_any _ _ _).at hq).mono ?_; clear hq; rintro e w1 ⟨rfl, hq⟩))
    go_ret2
    refine ⟨?_, hq⟩
    rw [hf.out]
    exact ret_two rfl rfl
  · have hf := Lib.hid (amoNew_at 20 8 old x (by omega) (some (zext old 64)) (by show some (if decide ((sext old 64).toInt < (sext x 64).toInt) then _ else _) = _; rw [hb]; rfl))
    go_enter Try.func42, Try.ntmps42
    go_wp2_with (first
          | (go_at_call 48; refine ((sext_any _ _).at hq).mono ?_; clear hq; rintro e w1 ⟨rfl, hq⟩)
          | (go_at_call 49; refine ((zext_any _ _).at hq).mono ?_; clear hq; rintro e w1 ⟨rfl, hq⟩)
          | (go_at_call 50; refine ((better_any _ _ _).at hq).mono ?_; clear hq; rintro e w1 ⟨rfl, hq⟩))
    go_ret2
    refine ⟨?_, hq⟩
    rw [hf.out]
    exact ret_two rfl rfl

theorem pnew_24_4 (old x : BitVec 64) : Qt Try.prog 42 #[.int .i64 24, .int .i64 4, .int .u64 (old.toNat : Int), .int .u64 (x.toNat : Int)] (amoVal (amoNew 24 4 old x)) := by
  intro w
  have hq := Quiet.refl w
  by_cases hb : (zext old 32).toNat ≤ (zext x 32).toNat
  · have hf := Lib.hid (amoNew_at 24 4 old x (by omega) (some (zext old 32)) (by show some (if (zext old 32).toNat ≤ (zext x 32).toNat then _ else _) = _; rw [if_pos hb]; rfl))
    go_enter Try.func42, Try.ntmps42
    go_wp2_with (first
          | (go_at_call 48; refine ((sext_any _ _).at hq).mono ?_; clear hq; rintro e w1 ⟨rfl, hq⟩)
          | (go_at_call 49; refine ((zext_any _ _).at hq).mono ?_; clear hq; rintro e w1 ⟨rfl, hq⟩)
          | (go_at_call 50; refine ((better_any _ _ _).at hq).mono ?_; clear hq; rintro e w1 ⟨rfl, hq⟩))
    go_ret2
    refine ⟨?_, hq⟩
    rw [hf.out]
    exact ret_two rfl rfl
  · have hf := Lib.hid (amoNew_at 24 4 old x (by omega) (some (zext x 32)) (by show some (if (zext old 32).toNat ≤ (zext x 32).toNat then _ else _) = _; rw [if_neg hb]; rfl))
    go_enter Try.func42, Try.ntmps42
    go_wp2_with (first
          | (go_at_call 48; refine ((sext_any _ _).at hq).mono ?_; clear hq; rintro e w1 ⟨rfl, hq⟩)
          | (go_at_call 49; refine ((zext_any _ _).at hq).mono ?_; clear hq; rintro e w1 ⟨rfl, hq⟩)
          | (go_at_call 50; refine ((better_any _ _ _).at hq).mono ?_; clear hq; rintro e w1 ⟨rfl, hq⟩))
    go_ret2
    refine ⟨?_, hq⟩
    rw [hf.out]
    exact ret_two rfl rfl

theorem pnew_24_8 (old x : BitVec 64) : Qt Try.prog 42 #[.int .i64 24, .int .i64 8, .int .u64 (old.toNat : Int), .int .u64 (x.toNat : Int)] (amoVal (amoNew 24 8 old x)) := by
  intro w
  have hq := Quiet.refl w
  by_cases hb : (zext old 64).toNat ≤ (zext x 64).toNat
  · have hf := Lib.hid (amoNew_at 24 8 old x (by omega) (some (zext old 64)) (by show some (if (zext old 64).toNat ≤ (zext x 64).toNat then _ else _) = _; rw [if_pos hb]; rfl))
    go_enter Try.func42, Try.ntmps42
    go_wp2_with (first
          | (go_at_call 48; refine ((sext_any _ _).at hq).mono ?_; clear hq; rintro e w1 ⟨rfl, hq⟩)
          | (go_at_call 49; refine ((zext_any _ _).at hq).mono ?_; clear hq; rintro e w1 ⟨rfl, hq⟩)
          | (go_at_call 50; refine ((better_any _ _ _).at hq).mono ?_; clear hq; rintro e w1 ⟨rfl, hq⟩))
    go_ret2
    refine ⟨?_, hq⟩
    rw [hf.out]
    exact ret_two rfl rfl
  · have hf := Lib.hid (amoNew_at 24 8 old x (by omega) (some (zext x 64)) (by show some (if (zext old 64).toNat ≤ (zext x 64).toNat then _ else _) = _; rw [if_neg hb]; rfl))
    go_enter Try.func42, Try.ntmps42
    go_wp2_with (first
          | (go_at_call 48; refine ((sext_any _ _).at hq).mono ?_; clear hq; rintro e w1 ⟨rfl, hq⟩)
          | (go_at_call 49; refine ((zext_any _ _).at hq).mono ?_; clear hq; rintro e w1 ⟨rfl, hq⟩)
          | (go_at_call 50; refine ((better_any _ _ _).at hq).mono ?_; clear hq; rintro e w1 ⟨rfl, hq⟩))
    go_ret2
    refine ⟨?_, hq⟩
    rw [hf.out]
    exact ret_two rfl rfl

theorem pnew_28_4 (old x : BitVec 64) : Qt Try.prog 42 #[.int .i64 28, .int .i64 4, .int .u64 (old.toNat : Int), .int .u64 (x.toNat : Int)] (amoVal (amoNew 28 4 old x)) := by
  intro w
  have hq := Quiet.refl w
  by_cases hb : (zext old 32).toNat < (zext x 32).toNat
  · have hf := Lib.hid (amoNew_at 28 4 old x (by omega) (some (zext x 32)) (by show some (if (zext old 32).toNat < (zext x 32).toNat then _ else _) = _; rw [if_pos hb]; rfl))
    go_enter Try.func42, Try.ntmps42
    go_wp2_with (first
          | (go_at_call 48; refine ((sext_any _ _).at hq).mono ?_; clear hq; rintro e w1 ⟨rfl, hq⟩)
          | (go_at_call 49; refine ((zext_any _ _).at hq).mono ?_; clear hq; rintro e w1 ⟨rfl, hq⟩)
          | (go_at_call 50; refine ((better_any _ _ _).at hq).mono ?_; clear hq; rintro e w1 ⟨rfl, hq⟩))
    go_ret2
    refine ⟨?_, hq⟩
    rw [hf.out]
    exact ret_two rfl rfl
  · have hf := Lib.hid (amoNew_at 28 4 old x (by omega) (some (zext old 32)) (by show some (if (zext old 32).toNat < (zext x 32).toNat then _ else _) = _; rw [if_neg hb]; rfl))
    go_enter Try.func42, Try.ntmps42
    go_wp2_with (first
          | (go_at_call 48; refine ((sext_any _ _).at hq).mono ?_; clear hq; rintro e w1 ⟨rfl, hq⟩)
          | (go_at_call 49; refine ((zext_any _ _).at hq).mono ?_; clear hq; rintro e w1 ⟨rfl, hq⟩)
          | (go_at_call 50; refine ((better_any _ _ _).at hq).mono ?_; clear hq; rintro e w1 ⟨rfl, hq⟩))
    go_ret2
    refine ⟨?_, hq⟩
    rw [hf.out]
    exact ret_two rfl rfl

theorem pnew_28_8 (old x : BitVec 64) : Qt Try.prog 42 #[.int .i64 28, .int .i64 8, .int .u64 (old.toNat : Int), .int .u64 (x.toNat : Int)] (amoVal (amoNew 28 8 old x)) := by
  intro w
  have hq := Quiet.refl w
  by_cases hb : (zext old 64).toNat < (zext x 64).toNat
  · have hf := Lib.hid (amoNew_at 28 8 old x (by omega) (some (zext x 64)) (by show some (if (zext old 64).toNat < (zext x 64).toNat then _ else _) = _; rw [if_pos hb]; rfl))
    go_enter Try.func42, Try.ntmps42
    go_wp2_with (first
          | (go_at_call 48; refine ((sext_any _ _).at hq).mono ?_; clear hq; rintro e w1 ⟨rfl, hq⟩)
          | (go_at_call 49; refine ((zext_any _ _).at hq).mono ?_; clear hq; rintro e w1 ⟨rfl, hq⟩)
          | (go_at_call 50; refine ((better_any _ _ _).at hq).mono ?_; clear hq; rintro e w1 ⟨rfl, hq⟩))
    go_ret2
    refine ⟨?_, hq⟩
    rw [hf.out]
    exact ret_two rfl rfl
  · have hf := Lib.hid (amoNew_at 28 8 old x (by omega) (some (zext old 64)) (by show some (if (zext old 64).toNat < (zext x 64).toNat then _ else _) = _; rw [if_neg hb]; rfl))
    go_enter Try.func42, Try.ntmps42
    go_wp2_with (first
          | (go_at_call 48; refine ((sext_any _ _).at hq).mono ?_; clear hq; rintro e w1 ⟨rfl, hq⟩)
          | (go_at_call 49; refine ((zext_any _ _).at hq).mono ?_; clear hq; rintro e w1 ⟨rfl, hq⟩)
          | (go_at_call 50; refine ((better_any _ _ _).at hq).mono ?_; clear hq; rintro e w1 ⟨rfl, hq⟩))
    go_ret2
    refine ⟨?_, hq⟩
    rw [hf.out]
    exact ret_two rfl rfl

theorem pnew_x_4 (op : Int) (old x : BitVec 64) (h1 : ¬ op = 1) (h0 : ¬ op = 0) (h4 : ¬ op = 4) (h8 : ¬ op = 8) (h12 : ¬ op = 12) (h16 : ¬ op = 16) (h20 : ¬ op = 20) (h24 : ¬ op = 24) (h28 : ¬ op = 28) : Qt Try.prog 42 #[.int .i64 op, .int .i64 4, .int .u64 (old.toNat : Int), .int .u64 (x.toNat : Int)] (amoVal (amoNew op 4 old x)) := by
  intro w
  have hq := Quiet.refl w
  have hf := Lib.hid (amoNew_at op 4 old x (by omega) none (amoF_none op _ _ _ h1 h0 h4 h8 h12 h16 h20 h24 h28))
  go_enter Try.func42, Try.ntmps42
  go_wp2_with (first
        | (go_at_call 48; refine ((sext_any _ _).at hq).mono ?_; clear hq; rintro e w1 ⟨rfl, hq⟩)
        | (go_at_call 49; refine ((zext_any _ _).at hq).mono ?_; clear hq; rintro e w1 ⟨rfl, hq⟩)
        | (go_at_call 50; refine ((better_any _ _ _).at hq).mono ?_; clear hq; rintro e w1 ⟨rfl, hq⟩))
  go_ret2
  refine ⟨?_, hq⟩
  rw [hf.out]
  exact ret_two rfl rfl

theorem pnew_x_8 (op : Int) (old x : BitVec 64) (h1 : ¬ op = 1) (h0 : ¬ op = 0) (h4 : ¬ op = 4) (h8 : ¬ op = 8) (h12 : ¬ op = 12) (h16 : ¬ op = 16) (h20 : ¬ op = 20) (h24 : ¬ op = 24) (h28 : ¬ op = 28) : Qt Try.prog 42 #[.int .i64 op, .int .i64 8, .int .u64 (old.toNat : Int), .int .u64 (x.toNat : Int)] (amoVal (amoNew op 8 old x)) := by
  intro w
  have hq := Quiet.refl w
  have hf := Lib.hid (amoNew_at op 8 old x (by omega) none (amoF_none op _ _ _ h1 h0 h4 h8 h12 h16 h20 h24 h28))
  go_enter Try.func42, Try.ntmps42
  go_wp2_with (first
        | (go_at_call 48; refine ((sext_any _ _).at hq).mono ?_; clear hq; rintro e w1 ⟨rfl, hq⟩)
        | (go_at_call 49; refine ((zext_any _ _).at hq).mono ?_; clear hq; rintro e w1 ⟨rfl, hq⟩)
        | (go_at_call 50; refine ((better_any _ _ _).at hq).mono ?_; clear hq; rintro e w1 ⟨rfl, hq⟩))
  go_ret2
  refine ⟨?_, hq⟩
  rw [hf.out]
  exact ret_two rfl rfl

theorem pnew_any (op size : Int) (old x : BitVec 64) (hs : -9223372036854775808 ≤ size ∧ size ≤ 9223372036854775807) : Qt Try.prog 42 #[.int .i64 op, .int .i64 size, .int .u64 (old.toNat : Int), .int .u64 (x.toNat : Int)] (amoVal (amoNew op size old x)) := by
  by_cases s4 : size = 4
  · subst s4
    by_cases h1 : op = 1
    · subst h1
      exact pnew_1_4 old x
    by_cases h0 : op = 0
    · subst h0
      exact pnew_0_4 old x
    by_cases h4 : op = 4
    · subst h4
      exact pnew_4_4 old x
    by_cases h8 : op = 8
    · subst h8
      exact pnew_8_4 old x
    by_cases h12 : op = 12
    · subst h12
      exact pnew_12_4 old x
    by_cases h16 : op = 16
    · subst h16
      exact pnew_16_4 old x
    by_cases h20 : op = 20
    · subst h20
      exact pnew_20_4 old x
    by_cases h24 : op = 24
    · subst h24
      exact pnew_24_4 old x
    by_cases h28 : op = 28
    · subst h28
      exact pnew_28_4 old x
    exact pnew_x_4 op old x h1 h0 h4 h8 h12 h16 h20 h24 h28
  by_cases s8 : size = 8
  · subst s8
    by_cases h1 : op = 1
    · subst h1
      exact pnew_1_8 old x
    by_cases h0 : op = 0
    · subst h0
      exact pnew_0_8 old x
    by_cases h4 : op = 4
    · subst h4
      exact pnew_4_8 old x
    by_cases h8 : op = 8
    · subst h8
      exact pnew_8_8 old x
    by_cases h12 : op = 12
    · subst h12
      exact pnew_12_8 old x
    by_cases h16 : op = 16
    · subst h16
      exact pnew_16_8 old x
    by_cases h20 : op = 20
    · subst h20
      exact pnew_20_8 old x
    by_cases h24 : op = 24
    · subst h24
      exact pnew_24_8 old x
    by_cases h28 : op = 28
    · subst h28
      exact pnew_28_8 old x
    exact pnew_x_8 op old x h1 h0 h4 h8 h12 h16 h20 h24 h28
  intro w
  have hq := Quiet.refl w
  have hf := Lib.hid (amoNew_none op size old x s4 s8)
  have e4 : (size != 4) = true := by simpa using s4
  have e8 : (size != 8) = true := by simpa using s8
  go_enter Try.func42, Try.ntmps42
  go_wp2_with (first
        | (go_at_call 48; refine ((sext_any _ _).at hq).mono ?_; clear hq; rintro e w1 ⟨rfl, hq⟩)
        | (go_at_call 49; refine ((zext_any _ _).at hq).mono ?_; clear hq; rintro e w1 ⟨rfl, hq⟩)
        | (go_at_call 50; refine ((better_any _ _ _).at hq).mono ?_; clear hq; rintro e w1 ⟨rfl, hq⟩))
  go_ret2
  refine ⟨?_, hq⟩
  rw [hf.out]
  exact ret_two rfl rfl











































end Go.Proofs.Ythijheijognhmaa
