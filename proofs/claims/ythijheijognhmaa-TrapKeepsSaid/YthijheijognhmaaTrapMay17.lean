/- The document's May, way by way. -/
import Derived.Test.YthijheijognhmaaTrapMay0
namespace Go.Proofs.Ythijheijognhmaa
open Go.RowKit Wd
set_option linter.unusedVariables false
set_option linter.unusedSimpArgs false
attribute [local go_sem] csrs_size csrs_get_status csrs_get_edeleg csrs_get_ideleg csrs_get_ie csrs_get_ip csrs_get_tvec csrs_get_counteren csrs_get_epc csrs_get_cause csrs_get_stvec csrs_get_scounteren csrs_get_sepc csrs_get_scause csrs_get_satp csrs_get_inhibit csrs_get_ev0 csrs_get_ev1 csrs_get_ev2 csrs_get_ev3 and_L or_L clr_L
set_option maxRecDepth 4000
set_option maxHeartbeats 4000000 in
theorem may_yesa (h : Hart) (e0 : ((h.ev 0).toNat : Int) ≤ 5) (e1 : ((h.ev 1).toNat : Int) ≤ 5) (e2 : ((h.ev 2).toNat : Int) ≤ 5) (e3 : ((h.ev 3).toNat : Int) ≤ 5) (t0 : (((h.status).toNat : Int) == ((stW h.status).toNat : Int)) = true) (t1 : (((andL h.status 6144).toNat : Int) != 4096) = true) (t2 : (((clrL h.edeleg 46079).toNat : Int) == 0) = true) (t3 : (((clrL h.ideleg 546).toNat : Int) == 0) = true) (t4 : (((clrL h.ie 2730).toNat : Int) == 0) = true) (t5 : (((clrL h.ip 546).toNat : Int) == 0) = true) (t6 : (((andL h.tvec 2).toNat : Int) == 0) = true) (t7 : (((andL h.stvec 2).toNat : Int) == 0) = true) (t8 : (((clrL h.counteren 127).toNat : Int) == 0) = true) (t9 : (((clrL h.scounteren 127).toNat : Int) == 0) = true) (t10 : (((andL h.epc 3).toNat : Int) == 0) = true) (t11 : (((andL h.sepc 3).toNat : Int) == 0) = true) (t12 : (((clrL h.cause 9223372036854775871).toNat : Int) == 0) = true) (t13 : (((clrL h.scause 9223372036854775871).toNat : Int) == 0) = true) (t14 : ((h.satp.toNat : Int) / 1152921504606846976 == 0) = true) (t15 : (((clrL h.inhibit 125).toNat : Int) == 0) = true) : Mk Try.prog 32 #[.agg (csrsC h)] (.bool true) := by
  intro w
  go_enter Try.func32, Try.ntmps32
  go_wp2_with fail
  go_loop [3] (fun i => ∃ k : Nat, k ≤ 4 ∧ i = .int .i64 k) (fun i => 4 - (intOf i).toNat)
  case atStart => exact ⟨0, by omega, rfl⟩
  case round =>
    obtain ⟨k, hk, rfl⟩ := hrel
    have hz : k = 0 ∨ k = 1 ∨ k = 2 ∨ k = 3 ∨ k = 4 := by omega
    rcases hz with rfl | rfl | rfl | rfl | rfl
    · go_wp2_with fail
      go_round
      case rel => exact ⟨1, by omega, by go_num⟩
      case measure => simp [intOf]
    · go_wp2_with fail
      go_round
      case rel => exact ⟨2, by omega, by go_num⟩
      case measure => simp [intOf]
    · go_wp2_with fail
      go_round
      case rel => exact ⟨3, by omega, by go_num⟩
      case measure => simp [intOf]
    · go_wp2_with fail
      go_round
      case rel => exact ⟨4, by omega, by go_num⟩
      case measure => simp [intOf]
    · go_wp2_with fail
      refine wp_region_quiet_lit (by kernel_rfl) (lexB_of_fast _ (by kernel_rfl)) ?_
      repeat (first | go_big_quiet_step ((go_at_call 47; exact (status_qt _).quiet)) | (refine skip_same rfl (by kernel_rfl) (by kernel_rfl) ?_))
      refine wpQuiet_nil ?_
      intro _ hw'
      obtain ⟨nq, hw''⟩ := hw'
      subst hw''
      go_wp2_with fail
      go_ret
      exact ⟨rfl, below_drewN ((Below.refl _ _).alloc (Nat.le_refl _) _) _⟩

set_option maxHeartbeats 4000000 in
theorem may_yesb (h : Hart) (e0 : ((h.ev 0).toNat : Int) ≤ 5) (e1 : ((h.ev 1).toNat : Int) ≤ 5) (e2 : ((h.ev 2).toNat : Int) ≤ 5) (e3 : ((h.ev 3).toNat : Int) ≤ 5) (t0 : (((h.status).toNat : Int) == ((stW h.status).toNat : Int)) = true) (t1 : (((andL h.status 6144).toNat : Int) != 4096) = true) (t2 : (((clrL h.edeleg 46079).toNat : Int) == 0) = true) (t3 : (((clrL h.ideleg 546).toNat : Int) == 0) = true) (t4 : (((clrL h.ie 2730).toNat : Int) == 0) = true) (t5 : (((clrL h.ip 546).toNat : Int) == 0) = true) (t6 : (((andL h.tvec 2).toNat : Int) == 0) = true) (t7 : (((andL h.stvec 2).toNat : Int) == 0) = true) (t8 : (((clrL h.counteren 127).toNat : Int) == 0) = true) (t9 : (((clrL h.scounteren 127).toNat : Int) == 0) = true) (t10 : (((andL h.epc 3).toNat : Int) == 0) = true) (t11 : (((andL h.sepc 3).toNat : Int) == 0) = true) (t12 : (((clrL h.cause 9223372036854775871).toNat : Int) == 0) = true) (t13 : (((clrL h.scause 9223372036854775871).toNat : Int) == 0) = true) (t14 : ((h.satp.toNat : Int) / 1152921504606846976 == 0) = false) (u14 : ((h.satp.toNat : Int) / 1152921504606846976 == 8) = true) (t15 : (((clrL h.inhibit 125).toNat : Int) == 0) = true) : Mk Try.prog 32 #[.agg (csrsC h)] (.bool true) := by
  intro w
  go_enter Try.func32, Try.ntmps32
  go_wp2_with fail
  go_loop [3] (fun i => ∃ k : Nat, k ≤ 4 ∧ i = .int .i64 k) (fun i => 4 - (intOf i).toNat)
  case atStart => exact ⟨0, by omega, rfl⟩
  case round =>
    obtain ⟨k, hk, rfl⟩ := hrel
    have hz : k = 0 ∨ k = 1 ∨ k = 2 ∨ k = 3 ∨ k = 4 := by omega
    rcases hz with rfl | rfl | rfl | rfl | rfl
    · go_wp2_with fail
      go_round
      case rel => exact ⟨1, by omega, by go_num⟩
      case measure => simp [intOf]
    · go_wp2_with fail
      go_round
      case rel => exact ⟨2, by omega, by go_num⟩
      case measure => simp [intOf]
    · go_wp2_with fail
      go_round
      case rel => exact ⟨3, by omega, by go_num⟩
      case measure => simp [intOf]
    · go_wp2_with fail
      go_round
      case rel => exact ⟨4, by omega, by go_num⟩
      case measure => simp [intOf]
    · go_wp2_with fail
      refine wp_region_quiet_lit (by kernel_rfl) (lexB_of_fast _ (by kernel_rfl)) ?_
      repeat (first | go_big_quiet_step ((go_at_call 47; exact (status_qt _).quiet)) | (refine skip_same rfl (by kernel_rfl) (by kernel_rfl) ?_))
      refine wpQuiet_nil ?_
      intro _ hw'
      obtain ⟨nq, hw''⟩ := hw'
      subst hw''
      go_wp2_with fail
      go_ret
      exact ⟨rfl, below_drewN ((Below.refl _ _).alloc (Nat.le_refl _) _) _⟩

end Go.Proofs.Ythijheijognhmaa
