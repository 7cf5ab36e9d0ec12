/- Contracts of package shape's encoding helpers: fits, regs, near, word, scatter. -/
import Derived.Test.YtnhbekgmameeaaaShapeRef
import Derived.Test.YtnhbekgmameeaaaShapeEncPlain
namespace Go.Proofs.Ytnhbekgmameeaaa
open Go.RowKit Wd

theorem fits_any (v most : Int) : Qt Try.prog 55 #[.int .i64 v, .int .i64 most] (.bool (fitB v most)) := by
  intro w
  by_cases h : 0 ≤ v
  · have hf := Lib.hid (show fitB v most = decide (v ≤ most) by unfold fitB; rw [decide_eq_true h]; rfl)
    go_enter Try.func55, Try.ntmps55
    go_wp2
    go_ret
    exact ⟨ret_bool hf.out.symm, Quiet.refl _⟩
  · have hf := Lib.hid (show fitB v most = false by unfold fitB; rw [decide_eq_false h]; rfl)
    go_enter Try.func55, Try.ntmps55
    go_wp2
    go_ret
    exact ⟨ret_bool hf.out.symm, Quiet.refl _⟩

theorem near_12 (imm : Int) : Qt Try.prog 59 #[.int .i64 imm, .int .i64 12, .int .i64 1] (.int .i64 (nearE imm 2048 1)) := by
  intro w
  by_cases h1 : imm < -2048
  · have he := Lib.hid (show nearE imm 2048 1 = 1 by unfold nearE; rw [if_pos (.inl h1)])
    go_enter Try.func59, Try.ntmps59
    go_wp2
    go_ret
    exact ⟨ret_int he.out.symm, Quiet.refl _⟩
  · by_cases h2 : 2048 ≤ imm
    · have he := Lib.hid (show nearE imm 2048 1 = 1 by unfold nearE; rw [if_pos (.inr h2)])
      go_enter Try.func59, Try.ntmps59
      go_wp2
      go_ret
      exact ⟨ret_int he.out.symm, Quiet.refl _⟩
    · by_cases h3 : imm.tmod 1 = 0
      · have he := Lib.hid (show nearE imm 2048 1 = 0 by unfold nearE; rw [if_neg (by omega), if_pos h3])
        go_enter Try.func59, Try.ntmps59
        go_wp2
        go_ret
        exact ⟨ret_int he.out.symm, Quiet.refl _⟩
      · exact absurd (Int.tmod_one imm) h3

theorem near_13 (imm : Int) : Qt Try.prog 59 #[.int .i64 imm, .int .i64 13, .int .i64 2] (.int .i64 (nearE imm 4096 2)) := by
  intro w
  by_cases h1 : imm < -4096
  · have he := Lib.hid (show nearE imm 4096 2 = 1 by unfold nearE; rw [if_pos (.inl h1)])
    go_enter Try.func59, Try.ntmps59
    go_wp2
    go_ret
    exact ⟨ret_int he.out.symm, Quiet.refl _⟩
  · by_cases h2 : 4096 ≤ imm
    · have he := Lib.hid (show nearE imm 4096 2 = 1 by unfold nearE; rw [if_pos (.inr h2)])
      go_enter Try.func59, Try.ntmps59
      go_wp2
      go_ret
      exact ⟨ret_int he.out.symm, Quiet.refl _⟩
    · by_cases h3 : imm.tmod 2 = 0
      · have he := Lib.hid (show nearE imm 4096 2 = 0 by unfold nearE; rw [if_neg (by omega), if_pos h3])
        go_enter Try.func59, Try.ntmps59
        go_wp2
        go_ret
        exact ⟨ret_int he.out.symm, Quiet.refl _⟩
      · have he := Lib.hid (show nearE imm 4096 2 = 5 by unfold nearE; rw [if_neg (by omega), if_neg h3])
        go_enter Try.func59, Try.ntmps59
        go_wp2
        go_ret
        exact ⟨ret_int he.out.symm, Quiet.refl _⟩

theorem near_32 (imm : Int) : Qt Try.prog 59 #[.int .i64 imm, .int .i64 32, .int .i64 4096] (.int .i64 (nearE imm 2147483648 4096)) := by
  intro w
  by_cases h1 : imm < -2147483648
  · have he := Lib.hid (show nearE imm 2147483648 4096 = 1 by unfold nearE; rw [if_pos (.inl h1)])
    go_enter Try.func59, Try.ntmps59
    go_wp2
    go_ret
    exact ⟨ret_int he.out.symm, Quiet.refl _⟩
  · by_cases h2 : 2147483648 ≤ imm
    · have he := Lib.hid (show nearE imm 2147483648 4096 = 1 by unfold nearE; rw [if_pos (.inr h2)])
      go_enter Try.func59, Try.ntmps59
      go_wp2
      go_ret
      exact ⟨ret_int he.out.symm, Quiet.refl _⟩
    · by_cases h3 : imm.tmod 4096 = 0
      · have he := Lib.hid (show nearE imm 2147483648 4096 = 0 by unfold nearE; rw [if_neg (by omega), if_pos h3])
        go_enter Try.func59, Try.ntmps59
        go_wp2
        go_ret
        exact ⟨ret_int he.out.symm, Quiet.refl _⟩
      · have he := Lib.hid (show nearE imm 2147483648 4096 = 5 by unfold nearE; rw [if_neg (by omega), if_neg h3])
        go_enter Try.func59, Try.ntmps59
        go_wp2
        go_ret
        exact ⟨ret_int he.out.symm, Quiet.refl _⟩

theorem near_21 (imm : Int) : Qt Try.prog 59 #[.int .i64 imm, .int .i64 21, .int .i64 2] (.int .i64 (nearE imm 1048576 2)) := by
  intro w
  by_cases h1 : imm < -1048576
  · have he := Lib.hid (show nearE imm 1048576 2 = 1 by unfold nearE; rw [if_pos (.inl h1)])
    go_enter Try.func59, Try.ntmps59
    go_wp2
    go_ret
    exact ⟨ret_int he.out.symm, Quiet.refl _⟩
  · by_cases h2 : 1048576 ≤ imm
    · have he := Lib.hid (show nearE imm 1048576 2 = 1 by unfold nearE; rw [if_pos (.inr h2)])
      go_enter Try.func59, Try.ntmps59
      go_wp2
      go_ret
      exact ⟨ret_int he.out.symm, Quiet.refl _⟩
    · by_cases h3 : imm.tmod 2 = 0
      · have he := Lib.hid (show nearE imm 1048576 2 = 0 by unfold nearE; rw [if_neg (by omega), if_pos h3])
        go_enter Try.func59, Try.ntmps59
        go_wp2
        go_ret
        exact ⟨ret_int he.out.symm, Quiet.refl _⟩
      · have he := Lib.hid (show nearE imm 1048576 2 = 5 by unfold nearE; rw [if_neg (by omega), if_neg h3])
        go_enter Try.func59, Try.ntmps59
        go_wp2
        go_ret
        exact ⟨ret_int he.out.symm, Quiet.refl _⟩

theorem word_any (op rd f3 rs1 rs2 f7 : Int) (_h1 : fitB op 127 = true) (h2 : fitB rd 31 = true) (h3 : fitB f3 7 = true) (h4 : fitB rs1 31 = true) (h5 : fitB rs2 31 = true) (h6 : fitB f7 127 = true) :
    Qt Try.prog 57 #[.int .i64 op, .int .i64 rd, .int .i64 f3, .int .i64 rs1, .int .i64 rs2, .int .i64 f7] (.int .u32 ((layW op rd f3 rs1 rs2 f7).toNat : Int)) := by
  intro w
  rw [fit_iff] at h2 h3 h4 h5 h6
  go_enter Try.func57, Try.ntmps57
  go_wp2
  go_ret
  exact ⟨ret_int (word_walk _ _ _ _ _ _), Quiet.refl _⟩

theorem put_at (x : Int) (v : BitVec 64) (hx : x = (v.toNat : Int)) (hi lo : Int) (y : Int) (u : BitVec 64) (hy : y = (u.toNat : Int)) : Qt Try.prog 79 #[.int .u64 x, .int .i64 hi, .int .i64 lo, .int .u64 y] (.int .u64 ((put v hi lo u).toNat : Int)) := by
  subst hx hy
  exact put_any v u hi lo

theorem scatter_any (w : BitVec 32) (imm : BitVec 64) (b : Nat) (ps : List Piece) (hl : ps.length ≤ 8) (hok : ∀ (k : Nat) (p : Piece), ps[k]? = some p → p.lo ≤ p.hi ∧ p.hi < 32 ∧ p.to < 64) (wd : World) (hp : Pieces wd b ps) :
    Calls Try.prog 60 #[.int .u32 (w.toNat : Int), .int .u64 (imm.toNat : Int), .slice (some ⟨b, 0, none⟩) ps.length ps.length] wd fun e w' =>
      e = .returned (.int .u32 ((cut32 (scat (W64 w) imm ps ps.length)).toNat : Int)) ∧ Below wd.heap.size wd w' := by
  have hw : (w.toNat : Int) < 4294967296 := by have := w.isLt; omega
  have HP := Lib.hid hp
  have HO := Lib.hid hok
  clear hp hok
  go_enter Try.func60, Try.ntmps60
  go_wp2_with fail
  go_loopw [7, 14] (fun v i wr => ∃ k : Nat, k ≤ ps.length ∧ i = .int .i64 (k : Int) ∧ v = .int .u64 ((scat (W64 w) imm ps k).toNat : Int) ∧ Below wd.heap.size wd wr) (fun _ i _ => ps.length - (intOf i).toNat)
  case atStart => exact ⟨0, Nat.zero_le _, rfl, by rw [← W64_nat]; rfl, Below.refl _ _⟩
  case round =>
    obtain ⟨k, hk, rfl, rfl, hb⟩ := hrel
    have HB := Lib.hid hb
    clear hb
    by_cases hlt : k < ps.length
    · obtain ⟨p, hpk⟩ : ∃ p, ps[k]? = some p := ⟨ps[k], List.getElem?_eq_getElem hlt⟩
      obtain ⟨c1, c2, c3⟩ := (HP.out.below HB.out).2 k p hpk
      obtain ⟨o1, o2, o3⟩ := HO.out k p hpk
      have HG := Lib.hid (scat_succ (W64 w) imm ps k p hpk)
      clear hpk
      go_wp2
      go_quiet ((go_at_call 79; exact (put_at _ _ rfl _ _ _ _ (shrW_walk _ _)).quiet))
      go_wp2
      go_roundw
      case rel => exact ⟨k + 1, by omega, by go_num, val_int (by rw [HG.out]), below_drewN (HB.out.alloc HB.out.size _) _⟩
      case measure => simp [intOf]; omega
    · have hkl : k = ps.length := by omega
      subst hkl
      go_wp2_with fail
      go_ret
      exact ⟨ret_int (cut_walk _), HB.out⟩
end Go.Proofs.Ytnhbekgmameeaaa
