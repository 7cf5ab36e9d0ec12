/- The law ShapeParts, walked: a word is its fields; the sign of each immediate is the highest bit; the call answers true. -/
import Derived.Test.YtjcmlpddmmelhaaShapeLaws
import Derived.Test.YtjcmlpddmmelhaaShapeBits
namespace Go.Proofs.Ytjcmlpddmmelhaa
open Go.RowKit Wd
namespace Wd
theorem any_one (s : Nat) (f : Nat → Bool) : ([s].any fun k => f k) = f s := by simp
theorem and_low (x : BitVec 64) (z : Nat) (hz : z ≤ 64) (M : Int) (hM : BitVec.ofInt 64 M = ones z) (h : ∀ i, i < z → x.getLsbD i = false) : bits .and .u64 (x.toNat : Int) M = 0 := by
  rw [and64, of64, hM, BitVec.toNat_and, ones_toNat z hz, Nat.and_two_pow_sub_one_eq_mod, mod_low x z h]
  rfl
end Wd
set_option maxHeartbeats 1000000 in
theorem shapeParts_walk (a : Int) (wa : (Lit.int .u32 a).wf = true) (w : World) :
    Calls Try.prog 7 #[.int .u32 a] w fun e w' => e = .returned (.bool true) ∧ Below w.heap.size w w' := by
  obtain ⟨v, rfl⟩ := u32_bv wa
  clear wa
  have hb := Below.refl w.heap.size w
  have hsm := small_of v
  have hw := lay_walk (fieldI v 6 0 : Nat) (fieldI v 11 7 : Nat) (fieldI v 14 12 : Nat) (fieldI v 19 15 : Nat) (fieldI v 24 20 : Nat) (fieldI v 31 25 : Nat)
  rw [word_fields v] at hw
  have k1 := pOpcode_any v
  have k2 := pRd_any v
  have k3 := pFunct3_any v
  have k4 := pRs1_any v
  have k5 := pRs2_any v
  have k6 := pFunct7_any v
  obtain ⟨b1, b2, b3, b4, b5, b6⟩ := hsm
  generalize fieldI v 6 0 = f1 at k1 b1 hw
  generalize fieldI v 11 7 = f2 at k2 b2 hw
  generalize fieldI v 14 12 = f3 at k3 b3 hw
  generalize fieldI v 19 15 = f4 at k4 b4 hw
  generalize fieldI v 24 20 = f5 at k5 b5 hw
  generalize fieldI v 31 25 = f6 at k6 b6 hw
  have K1 := Lib.hid k1
  have K2 := Lib.hid k2
  have K3 := Lib.hid k3
  have K4 := Lib.hid k4
  have K5 := Lib.hid k5
  have K6 := Lib.hid k6
  clear k1 k2 k3 k4 k5 k6
  obtain ⟨s, hs⟩ : ∃ s : Int, (if v.getLsbD 31 then 1 else 0) = s := ⟨_, rfl⟩
  have dv : (v.toNat : Int) / 2147483648 = s := by rw [top_bit32, hs]
  have KI := Lib.hid (immI_any v)
  have dI : ((immP v psI 12).toNat : Int) / 9223372036854775808 = s := by rw [top_bit, show (12 : Int) = ((12 : Nat) : Int) from rfl, immP_get v psI (by decide) 12 63 (by omega) (by omega) (by omega), show srcs psI (if 63 < 12 then 63 else 12 - 1) = [31] from by decide, any_one, hs]
  have KS := Lib.hid (immS_any v)
  have dS : ((immP v psS 12).toNat : Int) / 9223372036854775808 = s := by rw [top_bit, show (12 : Int) = ((12 : Nat) : Int) from rfl, immP_get v psS (by decide) 12 63 (by omega) (by omega) (by omega), show srcs psS (if 63 < 12 then 63 else 12 - 1) = [31] from by decide, any_one, hs]
  have KB := Lib.hid (immB_any v)
  have dB : ((immP v psB 13).toNat : Int) / 9223372036854775808 = s := by rw [top_bit, show (13 : Int) = ((13 : Nat) : Int) from rfl, immP_get v psB (by decide) 13 63 (by omega) (by omega) (by omega), show srcs psB (if 63 < 13 then 63 else 13 - 1) = [31] from by decide, any_one, hs]
  have KU := Lib.hid (immU_any v)
  have dU : ((immP v psU 32).toNat : Int) / 9223372036854775808 = s := by rw [top_bit, show (32 : Int) = ((32 : Nat) : Int) from rfl, immP_get v psU (by decide) 32 63 (by omega) (by omega) (by omega), show srcs psU (if 63 < 32 then 63 else 32 - 1) = [31] from by decide, any_one, hs]
  have KJ := Lib.hid (immJ_any v)
  have dJ : ((immP v psJ 21).toNat : Int) / 9223372036854775808 = s := by rw [top_bit, show (21 : Int) = ((21 : Nat) : Int) from rfl, immP_get v psJ (by decide) 21 63 (by omega) (by omega) (by omega), show srcs psJ (if 63 < 21 then 63 else 21 - 1) = [31] from by decide, any_one, hs]
  have lB : bits .and .u64 ((immP v psB 13).toNat : Int) 1 = 0 := and_low _ 1 (by omega) 1 (by decide) fun i hi => by
    rw [show (13 : Int) = ((13 : Nat) : Int) from rfl, immP_get v psB (by decide) 13 i (by omega) (by omega) (by omega), show i = 0 from by omega]
    rfl
  have lJ : bits .and .u64 ((immP v psJ 21).toNat : Int) 1 = 0 := and_low _ 1 (by omega) 1 (by decide) fun i hi => by
    rw [show (21 : Int) = ((21 : Nat) : Int) from rfl, immP_get v psJ (by decide) 21 i (by omega) (by omega) (by omega), show i = 0 from by omega]
    rfl
  have lU : bits .and .u64 ((immP v psU 32).toNat : Int) 4095 = 0 := and_low _ 12 (by omega) 4095 (by decide) fun i hi => by
    rw [show (32 : Int) = ((32 : Nat) : Int) from rfl, immP_get v psU (by decide) 32 i (by omega) (by omega) (by omega), if_pos (by omega),
      (show ∀ i, i < 12 → srcs psU i = [] from by decide) i hi]
    rfl
  generalize ((immP v psI 12).toNat : Int) = xI at *
  generalize ((immP v psS 12).toNat : Int) = xS at *
  generalize ((immP v psB 13).toNat : Int) = xB at *
  generalize ((immP v psU 32).toNat : Int) = xU at *
  generalize ((immP v psJ 21).toNat : Int) = xJ at *
  cases hc : v.getLsbD 31 with
  | true =>
    rw [hc] at hs
    subst hs
    simp only [if_true] at *
    clear hc
    go_enter Try.func7, Try.ntmps7
    go_wp2_with (first
    | (go_at_call 11; refine ((awake_any).at hb).mono ?_; clear hb; rintro e w1 ⟨rfl, hb⟩)
    | (go_at_call 12; refine ((K1.out).mk.at hb).mono ?_; clear hb; rintro e w1 ⟨rfl, hb⟩)
    | (go_at_call 14; refine ((K2.out).mk.at hb).mono ?_; clear hb; rintro e w1 ⟨rfl, hb⟩)
    | (go_at_call 20; refine ((K3.out).mk.at hb).mono ?_; clear hb; rintro e w1 ⟨rfl, hb⟩)
    | (go_at_call 16; refine ((K4.out).mk.at hb).mono ?_; clear hb; rintro e w1 ⟨rfl, hb⟩)
    | (go_at_call 18; refine ((K5.out).mk.at hb).mono ?_; clear hb; rintro e w1 ⟨rfl, hb⟩)
    | (go_at_call 22; refine ((K6.out).mk.at hb).mono ?_; clear hb; rintro e w1 ⟨rfl, hb⟩)
    | (go_at_call 30; refine ((KI.out).at hb).mono ?_; clear hb; rintro e w1 ⟨rfl, hb⟩)
    | (go_at_call 32; refine ((KS.out).at hb).mono ?_; clear hb; rintro e w1 ⟨rfl, hb⟩)
    | (go_at_call 33; refine ((KB.out).at hb).mono ?_; clear hb; rintro e w1 ⟨rfl, hb⟩)
    | (go_at_call 34; refine ((KU.out).at hb).mono ?_; clear hb; rintro e w1 ⟨rfl, hb⟩)
    | (go_at_call 35; refine ((KJ.out).at hb).mono ?_; clear hb; rintro e w1 ⟨rfl, hb⟩))
    go_ret
    exact ⟨rfl, hb⟩
  | false =>
    rw [hc] at hs
    subst hs
    simp only [Bool.false_eq_true, if_false] at *
    clear hc
    go_enter Try.func7, Try.ntmps7
    go_wp2_with (first
    | (go_at_call 11; refine ((awake_any).at hb).mono ?_; clear hb; rintro e w1 ⟨rfl, hb⟩)
    | (go_at_call 12; refine ((K1.out).mk.at hb).mono ?_; clear hb; rintro e w1 ⟨rfl, hb⟩)
    | (go_at_call 14; refine ((K2.out).mk.at hb).mono ?_; clear hb; rintro e w1 ⟨rfl, hb⟩)
    | (go_at_call 20; refine ((K3.out).mk.at hb).mono ?_; clear hb; rintro e w1 ⟨rfl, hb⟩)
    | (go_at_call 16; refine ((K4.out).mk.at hb).mono ?_; clear hb; rintro e w1 ⟨rfl, hb⟩)
    | (go_at_call 18; refine ((K5.out).mk.at hb).mono ?_; clear hb; rintro e w1 ⟨rfl, hb⟩)
    | (go_at_call 22; refine ((K6.out).mk.at hb).mono ?_; clear hb; rintro e w1 ⟨rfl, hb⟩)
    | (go_at_call 30; refine ((KI.out).at hb).mono ?_; clear hb; rintro e w1 ⟨rfl, hb⟩)
    | (go_at_call 32; refine ((KS.out).at hb).mono ?_; clear hb; rintro e w1 ⟨rfl, hb⟩)
    | (go_at_call 33; refine ((KB.out).at hb).mono ?_; clear hb; rintro e w1 ⟨rfl, hb⟩)
    | (go_at_call 34; refine ((KU.out).at hb).mono ?_; clear hb; rintro e w1 ⟨rfl, hb⟩)
    | (go_at_call 35; refine ((KJ.out).at hb).mono ?_; clear hb; rintro e w1 ⟨rfl, hb⟩))
    go_ret
    exact ⟨rfl, hb⟩
end Go.Proofs.Ytjcmlpddmmelhaa
