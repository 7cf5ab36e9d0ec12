/- Contracts: which interrupts are pending, which comes first. -/
import Derived.Test.YthijheijognhmaaTrapSelPlain
import Derived.Test.YthijheijognhmaaTrapClear
import Derived.Deep.RegionHeld3
namespace Go.Proofs.Ythijheijognhmaa
open Go.RowKit Wd
set_option linter.unusedVariables false
set_option linter.unusedSimpArgs false
attribute [local go_sem] csrs_size csrs_get_ip env_size env_get_lines and_L or_L clr_L
set_option maxRecDepth 4000

theorem pending_any (h : Hart) (e : Env) : Mk Try.prog 45 #[.agg (csrsC h), .agg (envC e)] (.int .u64 ((pendW h e).toNat : Int)) := by
  intro w
  go_enter Try.func45, Try.ntmps45
  go_wp2_with fail
  go_ret
  exact ⟨rfl, by (repeat (first | with_reducible exact Below.refl _ _ | refine Below.drew ?_ | refine Below.alloc ?_ (by simp <;> omega) _))⟩

set_option maxHeartbeats 4000000 in
theorem first_any (s : BitVec 64) : Mk Try.prog 46 #[.int .u64 (s.toNat : Int)] (.tuple #[.int .u64 (causeV (firstO (bit s))), .bool (firstO (bit s)).isSome]) := by
  intro w
  go_enter Try.func46, Try.ntmps46
  go_wp2_with fail
  go_step3
  go_wp2_with fail
  go_step3
  go_wp2_with fail
  go_loop [4, 5, 7, 10] (fun f g n i => ∃ k : Nat, k ≤ 6 ∧ i = .int .i64 k ∧ f = .int .u64 0 ∧ g = .bool false ∧ firstO (bit s) = firstFrom (bit s) (6 - k) k) (fun _ _ _ i => 6 - (intOf i).toNat)
  case atStart => exact ⟨0, by omega, rfl, rfl, rfl, rfl⟩
  case round =>
    obtain ⟨k, hk, rfl, rfl, rfl, hf⟩ := hrel
    have Hf := Lib.hid hf
    clear hf
    have hz : k = 0 ∨ k = 1 ∨ k = 2 ∨ k = 3 ∨ k = 4 ∨ k = 5 ∨ k = 6 := by omega
    rcases hz with rfl | rfl | rfl | rfl | rfl | rfl | rfl
    · cases hb : bit s 11 with
      | false =>
        have hq : (bits BinOp.and IntKind.u64 ((s.toNat : Int) / 2048) 1 != 0) = false := by rw [show (2048 : Int) = 2 ^ 11 from by decide, bitne_walk, hb]
        have hs := Lib.hid (Hf.out.trans (first_step (bit s) 5 0 hb))
        clear hb
        go_wp2_with fail
        go_round
        case rel => exact ⟨1, by omega, by go_num, rfl, rfl, hs.out⟩
        case measure => simp [intOf]
      | true =>
        have hq : (bits BinOp.and IntKind.u64 ((s.toNat : Int) / 2048) 1 != 0) = true := by rw [show (2048 : Int) = 2 ^ 11 from by decide, bitne_walk, hb]
        have hs := Lib.hid (Hf.out.trans (first_hit (bit s) 5 0 hb))
        clear hb
        go_wp2_with fail
        go_ret2
        exact ⟨by rw [hs.out]; rfl, (Below.refl _ _).alloc (Nat.le_refl _) _⟩
    · cases hb : bit s 3 with
      | false =>
        have hq : (bits BinOp.and IntKind.u64 ((s.toNat : Int) / 8) 1 != 0) = false := by rw [show (8 : Int) = 2 ^ 3 from by decide, bitne_walk, hb]
        have hs := Lib.hid (Hf.out.trans (first_step (bit s) 4 1 hb))
        clear hb
        go_wp2_with fail
        go_round
        case rel => exact ⟨2, by omega, by go_num, rfl, rfl, hs.out⟩
        case measure => simp [intOf]
      | true =>
        have hq : (bits BinOp.and IntKind.u64 ((s.toNat : Int) / 8) 1 != 0) = true := by rw [show (8 : Int) = 2 ^ 3 from by decide, bitne_walk, hb]
        have hs := Lib.hid (Hf.out.trans (first_hit (bit s) 4 1 hb))
        clear hb
        go_wp2_with fail
        go_ret2
        exact ⟨by rw [hs.out]; rfl, (Below.refl _ _).alloc (Nat.le_refl _) _⟩
    · cases hb : bit s 7 with
      | false =>
        have hq : (bits BinOp.and IntKind.u64 ((s.toNat : Int) / 128) 1 != 0) = false := by rw [show (128 : Int) = 2 ^ 7 from by decide, bitne_walk, hb]
        have hs := Lib.hid (Hf.out.trans (first_step (bit s) 3 2 hb))
        clear hb
        go_wp2_with fail
        go_round
        case rel => exact ⟨3, by omega, by go_num, rfl, rfl, hs.out⟩
        case measure => simp [intOf]
      | true =>
        have hq : (bits BinOp.and IntKind.u64 ((s.toNat : Int) / 128) 1 != 0) = true := by rw [show (128 : Int) = 2 ^ 7 from by decide, bitne_walk, hb]
        have hs := Lib.hid (Hf.out.trans (first_hit (bit s) 3 2 hb))
        clear hb
        go_wp2_with fail
        go_ret2
        exact ⟨by rw [hs.out]; rfl, (Below.refl _ _).alloc (Nat.le_refl _) _⟩
    · cases hb : bit s 9 with
      | false =>
        have hq : (bits BinOp.and IntKind.u64 ((s.toNat : Int) / 512) 1 != 0) = false := by rw [show (512 : Int) = 2 ^ 9 from by decide, bitne_walk, hb]
        have hs := Lib.hid (Hf.out.trans (first_step (bit s) 2 3 hb))
        clear hb
        go_wp2_with fail
        go_round
        case rel => exact ⟨4, by omega, by go_num, rfl, rfl, hs.out⟩
        case measure => simp [intOf]
      | true =>
        have hq : (bits BinOp.and IntKind.u64 ((s.toNat : Int) / 512) 1 != 0) = true := by rw [show (512 : Int) = 2 ^ 9 from by decide, bitne_walk, hb]
        have hs := Lib.hid (Hf.out.trans (first_hit (bit s) 2 3 hb))
        clear hb
        go_wp2_with fail
        go_ret2
        exact ⟨by rw [hs.out]; rfl, (Below.refl _ _).alloc (Nat.le_refl _) _⟩
    · cases hb : bit s 1 with
      | false =>
        have hq : (bits BinOp.and IntKind.u64 ((s.toNat : Int) / 2) 1 != 0) = false := by rw [show (2 : Int) = 2 ^ 1 from by decide, bitne_walk, hb]
        have hs := Lib.hid (Hf.out.trans (first_step (bit s) 1 4 hb))
        clear hb
        go_wp2_with fail
        go_round
        case rel => exact ⟨5, by omega, by go_num, rfl, rfl, hs.out⟩
        case measure => simp [intOf]
      | true =>
        have hq : (bits BinOp.and IntKind.u64 ((s.toNat : Int) / 2) 1 != 0) = true := by rw [show (2 : Int) = 2 ^ 1 from by decide, bitne_walk, hb]
        have hs := Lib.hid (Hf.out.trans (first_hit (bit s) 1 4 hb))
        clear hb
        go_wp2_with fail
        go_ret2
        exact ⟨by rw [hs.out]; rfl, (Below.refl _ _).alloc (Nat.le_refl _) _⟩
    · cases hb : bit s 5 with
      | false =>
        have hq : (bits BinOp.and IntKind.u64 ((s.toNat : Int) / 32) 1 != 0) = false := by rw [show (32 : Int) = 2 ^ 5 from by decide, bitne_walk, hb]
        have hs := Lib.hid (Hf.out.trans (first_step (bit s) 0 5 hb))
        clear hb
        go_wp2_with fail
        go_round
        case rel => exact ⟨6, by omega, by go_num, rfl, rfl, hs.out⟩
        case measure => simp [intOf]
      | true =>
        have hq : (bits BinOp.and IntKind.u64 ((s.toNat : Int) / 32) 1 != 0) = true := by rw [show (32 : Int) = 2 ^ 5 from by decide, bitne_walk, hb]
        have hs := Lib.hid (Hf.out.trans (first_hit (bit s) 0 5 hb))
        clear hb
        go_wp2_with fail
        go_ret2
        exact ⟨by rw [hs.out]; rfl, (Below.refl _ _).alloc (Nat.le_refl _) _⟩
    · go_wp2_with fail
      go_ret2
      exact ⟨by rw [Hf.out]; rfl, (Below.refl _ _).alloc (Nat.le_refl _) _⟩

theorem rpending_any (h : Hart) (e : Env) : Mk Try.prog 30 #[.agg (csrsC h), .agg (envC e)] (.int .u64 ((pendW h e).toNat : Int)) := by
  intro w
  go_enter Try.func30, Try.ntmps30
  go_wp2_with fail
  go_ret
  exact ⟨rfl, by (repeat (first | with_reducible exact Below.refl _ _ | refine Below.drew ?_ | refine Below.alloc ?_ (by simp <;> omega) _))⟩
end Go.Proofs.Ythijheijognhmaa
