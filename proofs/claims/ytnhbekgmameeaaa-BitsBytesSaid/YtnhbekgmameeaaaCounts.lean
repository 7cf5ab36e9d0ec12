/- Contracts of Ones, High and Low of package bits and of package tappetref01. -/
import Derived.Test.YtnhbekgmameeaaaRefBits
namespace Go.Proofs.Ytnhbekgmameeaaa
open Go.RowKit Wd
attribute [local go_sem] bitne_walk

theorem pones_any (v : BitVec 64) : Qt Try.prog 51 #[.int .u64 (v.toNat : Int)] (.int .i64 (cnt v 64 : Nat)) := by
  intro w
  go_enter Try.func51, Try.ntmps51
  go_wp2_with fail
  go_loop [3, 5] (fun n i => ∃ k : Nat, k ≤ 64 ∧ i = .int .i64 (k : Int) ∧ n = .int .i64 (cnt v k : Nat)) (fun _ i => 64 - (intOf i).toNat)
  case atStart => exact ⟨0, by omega, rfl, rfl⟩
  case round =>
    obtain ⟨k, hk, rfl, rfl⟩ := hrel
    have hc := cnt_le v k
    by_cases hlt : k < 64
    · go_wp2
      go_round
      case rel => exact ⟨k + 1, by omega, by go_num, val_int (by rw [and1_walk]; simp only [cnt]; split <;> (simp [wrap64]; omega))⟩
      case measure => simp [intOf]; omega
    · go_wp2
      go_ret
      exact ⟨ret_int (by rw [show k = 64 from by omega]), Quiet.refl _⟩










end Go.Proofs.Ytnhbekgmameeaaa
