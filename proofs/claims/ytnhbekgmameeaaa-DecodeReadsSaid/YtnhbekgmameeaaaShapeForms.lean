/- Contracts of package shape's forms: regs, R, I, S, B, U, J. -/
import Derived.Test.YtnhbekgmameeaaaShapeEnc
namespace Go.Proofs.Ytnhbekgmameeaaa
open Go.RowKit Wd

theorem regs_any (l : List Int) (hl : l.length ≤ 8) (b : Nat) (wd : World) (hp : Nums wd b l) :
    Calls Try.prog 56 #[.slice (some ⟨b, 0, none⟩) l.length l.length] wd fun e w' =>
      e = .returned (.bool (regsB l)) ∧ Quiet wd w' := by
  have HP := Lib.hid hp
  clear hp
  go_enter Try.func56, Try.ntmps56
  go_wp2_with fail
  go_loopw [7] (fun i wr => ∃ k : Nat, k ≤ l.length ∧ i = .int .i64 (k : Int) ∧ (∀ j, j < k → fitB (l.getD j (-1)) 31 = true) ∧ Quiet wd wr) (fun i _ => l.length - (intOf i).toNat)
  case atStart => exact ⟨0, Nat.zero_le _, rfl, fun j hj => absurd hj (Nat.not_lt_zero j), Quiet.refl _⟩
  case round =>
    obtain ⟨k, hk, rfl, hf, hq⟩ := hrel
    have HF := Lib.hid hf
    clear hf
    by_cases hlt : k < l.length
    · have hc := (hq.cell ⟨b, k, none⟩).trans (HP.out.2 k hlt)
      have HN := Lib.hid (regs_not l k hlt)
      generalize hx : l.getD k (-1) = x at hc HN
      have HX := Lib.hid hx
      clear hx
      cases hfx : fitB x 31 with
      | true =>
        go_wp2_with (go_at_call 55; refine ((fits_any _ _).at hq).mono ?_; clear hq; rintro e w1 ⟨rfl, hq⟩; rw [hfx])
        go_roundw
        case rel => exact ⟨k + 1, by omega, by go_num, fun j hj => by
          by_cases e : j = k
          · rw [e, HX.out]; exact hfx
          · exact HF.out j (by omega), hq⟩
        case measure => simp [intOf]; omega
      | false =>
        go_wp2_with (go_at_call 55; refine ((fits_any _ _).at hq).mono ?_; clear hq; rintro e w1 ⟨rfl, hq⟩; rw [hfx])
        go_ret
        exact ⟨ret_bool (HN.out hfx).symm, hq⟩
    · have hkl : k = l.length := by omega
      subst hkl
      go_wp2_with fail
      go_ret
      exact ⟨ret_bool ((regs_iff l).2 HF.out).symm, hq⟩

theorem scatter_at (w : BitVec 32) (x : Int) (imm : BitVec 64) (hx : x = (imm.toNat : Int)) (b : Nat) (ps : List Piece) (hl : ps.length ≤ 8) (hok : ∀ (k : Nat) (p : Piece), ps[k]? = some p → p.lo ≤ p.hi ∧ p.hi < 32 ∧ p.to < 64) (wd : World) (hp : Pieces wd b ps) :
    Calls Try.prog 60 #[.int .u32 (w.toNat : Int), .int .u64 x, .slice (some ⟨b, 0, none⟩) ps.length ps.length] wd fun e w' =>
      e = .returned (.int .u32 ((cut32 (scat (W64 w) imm ps ps.length)).toNat : Int)) ∧ Below wd.heap.size wd w' := by
  subst hx
  exact scatter_any w imm b ps hl hok wd hp

theorem sI_any (op rd f3 rs1 imm : Int) : Mk Try.prog 29 #[.int .i64 op, .int .i64 rd, .int .i64 f3, .int .i64 rs1, .int .i64 imm] (encV (encI op rd f3 rs1 imm)) := by
  intro w
  have hb := Below.refl w.heap.size w
  cases h1 : fitB op 127 with
  | false =>
    have he := Lib.hid (show encI op rd f3 rs1 imm = (0#32, 1) by unfold encI encG okI; simp [h1])
    go_enter Try.func29, Try.ntmps29
    go_wp2_with (first
      | (go_at_call 55; refine ((fits_any _ _).mk.at hb).mono ?_; clear hb; rintro e w1 ⟨rfl, hb⟩; try rw [h1]))
    go_ret2
    exact ⟨by rw [he.out]; rfl, hb⟩
  | true =>
    cases h2 : regsB [rd, rs1] with
    | false =>
      have he := Lib.hid (show encI op rd f3 rs1 imm = (0#32, 1) by unfold encI encG okI; simp [h1, h2])
      go_enter Try.func29, Try.ntmps29
      go_wp2_with (first
      | (go_at_call 55; refine ((fits_any _ _).mk.at hb).mono ?_; clear hb; rintro e w1 ⟨rfl, hb⟩; try rw [h1])
      | (go_at_call 56; refine (regs_any [rd, rs1] (by simp) _ _ (nums_new _ _ _)).mono ?_; rintro e w1 ⟨rfl, hq⟩; rw [h2]; replace hb := (hb.alloc hb.size _).trans (hq.below _); clear hq))
      go_ret2
      exact ⟨by rw [he.out]; rfl, hb⟩
    | true =>
      cases h3 : fitB f3 7 with
      | false =>
        have he := Lib.hid (show encI op rd f3 rs1 imm = (0#32, 1) by unfold encI encG okI; simp [h1, h2, h3])
        go_enter Try.func29, Try.ntmps29
        go_wp2_with (first
      | (go_at_call 55; refine ((fits_any _ _).mk.at hb).mono ?_; clear hb; rintro e w1 ⟨rfl, hb⟩; try rw [h1]; try rw [h3])
      | (go_at_call 56; refine (regs_any [rd, rs1] (by simp) _ _ (nums_new _ _ _)).mono ?_; rintro e w1 ⟨rfl, hq⟩; rw [h2]; replace hb := (hb.alloc hb.size _).trans (hq.below _); clear hq))
        go_ret2
        exact ⟨by rw [he.out]; rfl, hb⟩
      | true =>
        have hr := (regs_iff _).1 h2
        have hf_rd : fitB rd 31 = true := hr 0 (by simp)
        have hf_rs1 : fitB rs1 31 = true := hr 1 (by simp)
        clear hr
        rcases near_cases imm 2048 1 with h4 | h4 | h4
        · have he := Lib.hid (show encI op rd f3 rs1 imm = (0#32, 1) by unfold encI encG okI; simp [h1, h2, h3, h4])
          go_enter Try.func29, Try.ntmps29
          go_wp2_with (first
      | (go_at_call 55; refine ((fits_any _ _).mk.at hb).mono ?_; clear hb; rintro e w1 ⟨rfl, hb⟩; try rw [h1]; try rw [h3])
      | (go_at_call 56; refine (regs_any [rd, rs1] (by simp) _ _ (nums_new _ _ _)).mono ?_; rintro e w1 ⟨rfl, hq⟩; rw [h2]; replace hb := (hb.alloc hb.size _).trans (hq.below _); clear hq)
      | (go_at_call 59; refine ((near_12 _).mk.at hb).mono ?_; clear hb; rintro e w1 ⟨rfl, hb⟩; rw [h4]))
          go_ret2
          exact ⟨by rw [he.out]; rfl, hb⟩
        · have he := Lib.hid (show encI op rd f3 rs1 imm = (sct (layW op rd f3 rs1 0 0) imm psI, 0) by unfold encI encG okI; simp [h1, h2, h3, h4])
          go_enter Try.func29, Try.ntmps29
          go_wp2_with (first
      | (go_at_call 55; refine ((fits_any _ _).mk.at hb).mono ?_; clear hb; rintro e w1 ⟨rfl, hb⟩; try rw [h1]; try rw [h3])
      | (go_at_call 56; refine (regs_any [rd, rs1] (by simp) _ _ (nums_new _ _ _)).mono ?_; rintro e w1 ⟨rfl, hq⟩; rw [h2]; replace hb := (hb.alloc hb.size _).trans (hq.below _); clear hq)
      | (go_at_call 59; refine ((near_12 _).mk.at hb).mono ?_; clear hb; rintro e w1 ⟨rfl, hb⟩; rw [h4])
      | (go_at_call 57; refine ((word_any _ _ _ _ _ _ h1 hf_rd h3 hf_rs1 (by decide) (by decide)).mk.at hb).mono ?_; clear hb; rintro e w1 ⟨rfl, hb⟩)
      | (go_at_call 61; refine (ofI_any _).mono ?_; rintro e w1 ⟨b, rfl, hp, hb'⟩; have HP := Lib.hid hp; replace hb := hb.trans (hb'.mono hb.size); clear hp hb')
      | (go_at_call 60; refine (scatter_at _ _ _ (w64 imm) b psI (by decide) (pieces_ok _ (by decide)) _ HP.out).mono ?_; rintro e w1 ⟨rfl, hb'⟩; replace hb := hb.trans (hb'.mono hb.size); clear hb'))
          go_ret2
          exact ⟨by rw [he.out]; rfl, hb⟩
        · have he := Lib.hid (show encI op rd f3 rs1 imm = (0#32, 5) by unfold encI encG okI; simp [h1, h2, h3, h4])
          go_enter Try.func29, Try.ntmps29
          go_wp2_with (first
      | (go_at_call 55; refine ((fits_any _ _).mk.at hb).mono ?_; clear hb; rintro e w1 ⟨rfl, hb⟩; try rw [h1]; try rw [h3])
      | (go_at_call 56; refine (regs_any [rd, rs1] (by simp) _ _ (nums_new _ _ _)).mono ?_; rintro e w1 ⟨rfl, hq⟩; rw [h2]; replace hb := (hb.alloc hb.size _).trans (hq.below _); clear hq)
      | (go_at_call 59; refine ((near_12 _).mk.at hb).mono ?_; clear hb; rintro e w1 ⟨rfl, hb⟩; rw [h4]))
          go_ret2
          exact ⟨by rw [he.out]; rfl, hb⟩

theorem sS_any (op f3 rs1 rs2 imm : Int) : Mk Try.prog 30 #[.int .i64 op, .int .i64 f3, .int .i64 rs1, .int .i64 rs2, .int .i64 imm] (encV (encS op f3 rs1 rs2 imm)) := by
  intro w
  have hb := Below.refl w.heap.size w
  cases h1 : fitB op 127 with
  | false =>
    have he := Lib.hid (show encS op f3 rs1 rs2 imm = (0#32, 1) by unfold encS encG okI; simp [h1])
    go_enter Try.func30, Try.ntmps30
    go_wp2_with (first
      | (go_at_call 55; refine ((fits_any _ _).mk.at hb).mono ?_; clear hb; rintro e w1 ⟨rfl, hb⟩; try rw [h1]))
    go_ret2
    exact ⟨by rw [he.out]; rfl, hb⟩
  | true =>
    cases h2 : regsB [rs1, rs2] with
    | false =>
      have he := Lib.hid (show encS op f3 rs1 rs2 imm = (0#32, 1) by unfold encS encG okI; simp [h1, h2])
      go_enter Try.func30, Try.ntmps30
      go_wp2_with (first
      | (go_at_call 55; refine ((fits_any _ _).mk.at hb).mono ?_; clear hb; rintro e w1 ⟨rfl, hb⟩; try rw [h1])
      | (go_at_call 56; refine (regs_any [rs1, rs2] (by simp) _ _ (nums_new _ _ _)).mono ?_; rintro e w1 ⟨rfl, hq⟩; rw [h2]; replace hb := (hb.alloc hb.size _).trans (hq.below _); clear hq))
      go_ret2
      exact ⟨by rw [he.out]; rfl, hb⟩
    | true =>
      cases h3 : fitB f3 7 with
      | false =>
        have he := Lib.hid (show encS op f3 rs1 rs2 imm = (0#32, 1) by unfold encS encG okI; simp [h1, h2, h3])
        go_enter Try.func30, Try.ntmps30
        go_wp2_with (first
      | (go_at_call 55; refine ((fits_any _ _).mk.at hb).mono ?_; clear hb; rintro e w1 ⟨rfl, hb⟩; try rw [h1]; try rw [h3])
      | (go_at_call 56; refine (regs_any [rs1, rs2] (by simp) _ _ (nums_new _ _ _)).mono ?_; rintro e w1 ⟨rfl, hq⟩; rw [h2]; replace hb := (hb.alloc hb.size _).trans (hq.below _); clear hq))
        go_ret2
        exact ⟨by rw [he.out]; rfl, hb⟩
      | true =>
        have hr := (regs_iff _).1 h2
        have hf_rs1 : fitB rs1 31 = true := hr 0 (by simp)
        have hf_rs2 : fitB rs2 31 = true := hr 1 (by simp)
        clear hr
        rcases near_cases imm 2048 1 with h4 | h4 | h4
        · have he := Lib.hid (show encS op f3 rs1 rs2 imm = (0#32, 1) by unfold encS encG okI; simp [h1, h2, h3, h4])
          go_enter Try.func30, Try.ntmps30
          go_wp2_with (first
      | (go_at_call 55; refine ((fits_any _ _).mk.at hb).mono ?_; clear hb; rintro e w1 ⟨rfl, hb⟩; try rw [h1]; try rw [h3])
      | (go_at_call 56; refine (regs_any [rs1, rs2] (by simp) _ _ (nums_new _ _ _)).mono ?_; rintro e w1 ⟨rfl, hq⟩; rw [h2]; replace hb := (hb.alloc hb.size _).trans (hq.below _); clear hq)
      | (go_at_call 59; refine ((near_12 _).mk.at hb).mono ?_; clear hb; rintro e w1 ⟨rfl, hb⟩; rw [h4]))
          go_ret2
          exact ⟨by rw [he.out]; rfl, hb⟩
        · have he := Lib.hid (show encS op f3 rs1 rs2 imm = (sct (layW op 0 f3 rs1 rs2 0) imm psS, 0) by unfold encS encG okI; simp [h1, h2, h3, h4])
          go_enter Try.func30, Try.ntmps30
          go_wp2_with (first
      | (go_at_call 55; refine ((fits_any _ _).mk.at hb).mono ?_; clear hb; rintro e w1 ⟨rfl, hb⟩; try rw [h1]; try rw [h3])
      | (go_at_call 56; refine (regs_any [rs1, rs2] (by simp) _ _ (nums_new _ _ _)).mono ?_; rintro e w1 ⟨rfl, hq⟩; rw [h2]; replace hb := (hb.alloc hb.size _).trans (hq.below _); clear hq)
      | (go_at_call 59; refine ((near_12 _).mk.at hb).mono ?_; clear hb; rintro e w1 ⟨rfl, hb⟩; rw [h4])
      | (go_at_call 57; refine ((word_any _ _ _ _ _ _ h1 (by decide) h3 hf_rs1 hf_rs2 (by decide)).mk.at hb).mono ?_; clear hb; rintro e w1 ⟨rfl, hb⟩)
      | (go_at_call 62; refine (ofS_any _).mono ?_; rintro e w1 ⟨b, rfl, hp, hb'⟩; have HP := Lib.hid hp; replace hb := hb.trans (hb'.mono hb.size); clear hp hb')
      | (go_at_call 60; refine (scatter_at _ _ _ (w64 imm) b psS (by decide) (pieces_ok _ (by decide)) _ HP.out).mono ?_; rintro e w1 ⟨rfl, hb'⟩; replace hb := hb.trans (hb'.mono hb.size); clear hb'))
          go_ret2
          exact ⟨by rw [he.out]; rfl, hb⟩
        · have he := Lib.hid (show encS op f3 rs1 rs2 imm = (0#32, 5) by unfold encS encG okI; simp [h1, h2, h3, h4])
          go_enter Try.func30, Try.ntmps30
          go_wp2_with (first
      | (go_at_call 55; refine ((fits_any _ _).mk.at hb).mono ?_; clear hb; rintro e w1 ⟨rfl, hb⟩; try rw [h1]; try rw [h3])
      | (go_at_call 56; refine (regs_any [rs1, rs2] (by simp) _ _ (nums_new _ _ _)).mono ?_; rintro e w1 ⟨rfl, hq⟩; rw [h2]; replace hb := (hb.alloc hb.size _).trans (hq.below _); clear hq)
      | (go_at_call 59; refine ((near_12 _).mk.at hb).mono ?_; clear hb; rintro e w1 ⟨rfl, hb⟩; rw [h4]))
          go_ret2
          exact ⟨by rw [he.out]; rfl, hb⟩

theorem sB_any (op f3 rs1 rs2 imm : Int) : Mk Try.prog 31 #[.int .i64 op, .int .i64 f3, .int .i64 rs1, .int .i64 rs2, .int .i64 imm] (encV (encB op f3 rs1 rs2 imm)) := by
  intro w
  have hb := Below.refl w.heap.size w
  cases h1 : fitB op 127 with
  | false =>
    have he := Lib.hid (show encB op f3 rs1 rs2 imm = (0#32, 1) by unfold encB encG okI; simp [h1])
    go_enter Try.func31, Try.ntmps31
    go_wp2_with (first
      | (go_at_call 55; refine ((fits_any _ _).mk.at hb).mono ?_; clear hb; rintro e w1 ⟨rfl, hb⟩; try rw [h1]))
    go_ret2
    exact ⟨by rw [he.out]; rfl, hb⟩
  | true =>
    cases h2 : regsB [rs1, rs2] with
    | false =>
      have he := Lib.hid (show encB op f3 rs1 rs2 imm = (0#32, 1) by unfold encB encG okI; simp [h1, h2])
      go_enter Try.func31, Try.ntmps31
      go_wp2_with (first
      | (go_at_call 55; refine ((fits_any _ _).mk.at hb).mono ?_; clear hb; rintro e w1 ⟨rfl, hb⟩; try rw [h1])
      | (go_at_call 56; refine (regs_any [rs1, rs2] (by simp) _ _ (nums_new _ _ _)).mono ?_; rintro e w1 ⟨rfl, hq⟩; rw [h2]; replace hb := (hb.alloc hb.size _).trans (hq.below _); clear hq))
      go_ret2
      exact ⟨by rw [he.out]; rfl, hb⟩
    | true =>
      cases h3 : fitB f3 7 with
      | false =>
        have he := Lib.hid (show encB op f3 rs1 rs2 imm = (0#32, 1) by unfold encB encG okI; simp [h1, h2, h3])
        go_enter Try.func31, Try.ntmps31
        go_wp2_with (first
      | (go_at_call 55; refine ((fits_any _ _).mk.at hb).mono ?_; clear hb; rintro e w1 ⟨rfl, hb⟩; try rw [h1]; try rw [h3])
      | (go_at_call 56; refine (regs_any [rs1, rs2] (by simp) _ _ (nums_new _ _ _)).mono ?_; rintro e w1 ⟨rfl, hq⟩; rw [h2]; replace hb := (hb.alloc hb.size _).trans (hq.below _); clear hq))
        go_ret2
        exact ⟨by rw [he.out]; rfl, hb⟩
      | true =>
        have hr := (regs_iff _).1 h2
        have hf_rs1 : fitB rs1 31 = true := hr 0 (by simp)
        have hf_rs2 : fitB rs2 31 = true := hr 1 (by simp)
        clear hr
        rcases near_cases imm 4096 2 with h4 | h4 | h4
        · have he := Lib.hid (show encB op f3 rs1 rs2 imm = (0#32, 1) by unfold encB encG okI; simp [h1, h2, h3, h4])
          go_enter Try.func31, Try.ntmps31
          go_wp2_with (first
      | (go_at_call 55; refine ((fits_any _ _).mk.at hb).mono ?_; clear hb; rintro e w1 ⟨rfl, hb⟩; try rw [h1]; try rw [h3])
      | (go_at_call 56; refine (regs_any [rs1, rs2] (by simp) _ _ (nums_new _ _ _)).mono ?_; rintro e w1 ⟨rfl, hq⟩; rw [h2]; replace hb := (hb.alloc hb.size _).trans (hq.below _); clear hq)
      | (go_at_call 59; refine ((near_13 _).mk.at hb).mono ?_; clear hb; rintro e w1 ⟨rfl, hb⟩; rw [h4]))
          go_ret2
          exact ⟨by rw [he.out]; rfl, hb⟩
        · have he := Lib.hid (show encB op f3 rs1 rs2 imm = (sct (layW op 0 f3 rs1 rs2 0) imm psB, 0) by unfold encB encG okI; simp [h1, h2, h3, h4])
          go_enter Try.func31, Try.ntmps31
          go_wp2_with (first
      | (go_at_call 55; refine ((fits_any _ _).mk.at hb).mono ?_; clear hb; rintro e w1 ⟨rfl, hb⟩; try rw [h1]; try rw [h3])
      | (go_at_call 56; refine (regs_any [rs1, rs2] (by simp) _ _ (nums_new _ _ _)).mono ?_; rintro e w1 ⟨rfl, hq⟩; rw [h2]; replace hb := (hb.alloc hb.size _).trans (hq.below _); clear hq)
      | (go_at_call 59; refine ((near_13 _).mk.at hb).mono ?_; clear hb; rintro e w1 ⟨rfl, hb⟩; rw [h4])
      | (go_at_call 57; refine ((word_any _ _ _ _ _ _ h1 (by decide) h3 hf_rs1 hf_rs2 (by decide)).mk.at hb).mono ?_; clear hb; rintro e w1 ⟨rfl, hb⟩)
      | (go_at_call 63; refine (ofB_any _).mono ?_; rintro e w1 ⟨b, rfl, hp, hb'⟩; have HP := Lib.hid hp; replace hb := hb.trans (hb'.mono hb.size); clear hp hb')
      | (go_at_call 60; refine (scatter_at _ _ _ (w64 imm) b psB (by decide) (pieces_ok _ (by decide)) _ HP.out).mono ?_; rintro e w1 ⟨rfl, hb'⟩; replace hb := hb.trans (hb'.mono hb.size); clear hb'))
          go_ret2
          exact ⟨by rw [he.out]; rfl, hb⟩
        · have he := Lib.hid (show encB op f3 rs1 rs2 imm = (0#32, 5) by unfold encB encG okI; simp [h1, h2, h3, h4])
          go_enter Try.func31, Try.ntmps31
          go_wp2_with (first
      | (go_at_call 55; refine ((fits_any _ _).mk.at hb).mono ?_; clear hb; rintro e w1 ⟨rfl, hb⟩; try rw [h1]; try rw [h3])
      | (go_at_call 56; refine (regs_any [rs1, rs2] (by simp) _ _ (nums_new _ _ _)).mono ?_; rintro e w1 ⟨rfl, hq⟩; rw [h2]; replace hb := (hb.alloc hb.size _).trans (hq.below _); clear hq)
      | (go_at_call 59; refine ((near_13 _).mk.at hb).mono ?_; clear hb; rintro e w1 ⟨rfl, hb⟩; rw [h4]))
          go_ret2
          exact ⟨by rw [he.out]; rfl, hb⟩

theorem sU_any (op rd imm : Int) : Mk Try.prog 32 #[.int .i64 op, .int .i64 rd, .int .i64 imm] (encV (encU op rd imm)) := by
  intro w
  have hb := Below.refl w.heap.size w
  cases h1 : fitB op 127 with
  | false =>
    have he := Lib.hid (show encU op rd imm = (0#32, 1) by unfold encU encG okI; simp [h1])
    go_enter Try.func32, Try.ntmps32
    go_wp2_with (first
      | (go_at_call 55; refine ((fits_any _ _).mk.at hb).mono ?_; clear hb; rintro e w1 ⟨rfl, hb⟩; try rw [h1]))
    go_ret2
    exact ⟨by rw [he.out]; rfl, hb⟩
  | true =>
    cases h2 : regsB [rd] with
    | false =>
      have he := Lib.hid (show encU op rd imm = (0#32, 1) by unfold encU encG okI; simp [h1, h2])
      go_enter Try.func32, Try.ntmps32
      go_wp2_with (first
      | (go_at_call 55; refine ((fits_any _ _).mk.at hb).mono ?_; clear hb; rintro e w1 ⟨rfl, hb⟩; try rw [h1])
      | (go_at_call 56; refine (regs_any [rd] (by simp) _ _ (nums_new _ _ _)).mono ?_; rintro e w1 ⟨rfl, hq⟩; rw [h2]; replace hb := (hb.alloc hb.size _).trans (hq.below _); clear hq))
      go_ret2
      exact ⟨by rw [he.out]; rfl, hb⟩
    | true =>
      have hr := (regs_iff _).1 h2
      have hf_rd : fitB rd 31 = true := hr 0 (by simp)
      clear hr
      rcases near_cases imm 2147483648 4096 with h4 | h4 | h4
      · have he := Lib.hid (show encU op rd imm = (0#32, 1) by unfold encU encG okI; simp [h1, h2, (show fitB 0 7 = true by decide), h4])
        go_enter Try.func32, Try.ntmps32
        go_wp2_with (first
      | (go_at_call 55; refine ((fits_any _ _).mk.at hb).mono ?_; clear hb; rintro e w1 ⟨rfl, hb⟩; try rw [h1])
      | (go_at_call 56; refine (regs_any [rd] (by simp) _ _ (nums_new _ _ _)).mono ?_; rintro e w1 ⟨rfl, hq⟩; rw [h2]; replace hb := (hb.alloc hb.size _).trans (hq.below _); clear hq)
      | (go_at_call 59; refine ((near_32 _).mk.at hb).mono ?_; clear hb; rintro e w1 ⟨rfl, hb⟩; rw [h4]))
        go_ret2
        exact ⟨by rw [he.out]; rfl, hb⟩
      · have he := Lib.hid (show encU op rd imm = (sct (layW op rd 0 0 0 0) imm psU, 0) by unfold encU encG okI; simp [h1, h2, (show fitB 0 7 = true by decide), h4])
        go_enter Try.func32, Try.ntmps32
        go_wp2_with (first
      | (go_at_call 55; refine ((fits_any _ _).mk.at hb).mono ?_; clear hb; rintro e w1 ⟨rfl, hb⟩; try rw [h1])
      | (go_at_call 56; refine (regs_any [rd] (by simp) _ _ (nums_new _ _ _)).mono ?_; rintro e w1 ⟨rfl, hq⟩; rw [h2]; replace hb := (hb.alloc hb.size _).trans (hq.below _); clear hq)
      | (go_at_call 59; refine ((near_32 _).mk.at hb).mono ?_; clear hb; rintro e w1 ⟨rfl, hb⟩; rw [h4])
      | (go_at_call 57; refine ((word_any _ _ _ _ _ _ h1 hf_rd (by decide) (by decide) (by decide) (by decide)).mk.at hb).mono ?_; clear hb; rintro e w1 ⟨rfl, hb⟩)
      | (go_at_call 64; refine (ofU_any _).mono ?_; rintro e w1 ⟨b, rfl, hp, hb'⟩; have HP := Lib.hid hp; replace hb := hb.trans (hb'.mono hb.size); clear hp hb')
      | (go_at_call 60; refine (scatter_at _ _ _ (w64 imm) b psU (by decide) (pieces_ok _ (by decide)) _ HP.out).mono ?_; rintro e w1 ⟨rfl, hb'⟩; replace hb := hb.trans (hb'.mono hb.size); clear hb'))
        go_ret2
        exact ⟨by rw [he.out]; rfl, hb⟩
      · have he := Lib.hid (show encU op rd imm = (0#32, 5) by unfold encU encG okI; simp [h1, h2, (show fitB 0 7 = true by decide), h4])
        go_enter Try.func32, Try.ntmps32
        go_wp2_with (first
      | (go_at_call 55; refine ((fits_any _ _).mk.at hb).mono ?_; clear hb; rintro e w1 ⟨rfl, hb⟩; try rw [h1])
      | (go_at_call 56; refine (regs_any [rd] (by simp) _ _ (nums_new _ _ _)).mono ?_; rintro e w1 ⟨rfl, hq⟩; rw [h2]; replace hb := (hb.alloc hb.size _).trans (hq.below _); clear hq)
      | (go_at_call 59; refine ((near_32 _).mk.at hb).mono ?_; clear hb; rintro e w1 ⟨rfl, hb⟩; rw [h4]))
        go_ret2
        exact ⟨by rw [he.out]; rfl, hb⟩

theorem sJ_any (op rd imm : Int) : Mk Try.prog 33 #[.int .i64 op, .int .i64 rd, .int .i64 imm] (encV (encJ op rd imm)) := by
  intro w
  have hb := Below.refl w.heap.size w
  cases h1 : fitB op 127 with
  | false =>
    have he := Lib.hid (show encJ op rd imm = (0#32, 1) by unfold encJ encG okI; simp [h1])
    go_enter Try.func33, Try.ntmps33
    go_wp2_with (first
      | (go_at_call 55; refine ((fits_any _ _).mk.at hb).mono ?_; clear hb; rintro e w1 ⟨rfl, hb⟩; try rw [h1]))
    go_ret2
    exact ⟨by rw [he.out]; rfl, hb⟩
  | true =>
    cases h2 : regsB [rd] with
    | false =>
      have he := Lib.hid (show encJ op rd imm = (0#32, 1) by unfold encJ encG okI; simp [h1, h2])
      go_enter Try.func33, Try.ntmps33
      go_wp2_with (first
      | (go_at_call 55; refine ((fits_any _ _).mk.at hb).mono ?_; clear hb; rintro e w1 ⟨rfl, hb⟩; try rw [h1])
      | (go_at_call 56; refine (regs_any [rd] (by simp) _ _ (nums_new _ _ _)).mono ?_; rintro e w1 ⟨rfl, hq⟩; rw [h2]; replace hb := (hb.alloc hb.size _).trans (hq.below _); clear hq))
      go_ret2
      exact ⟨by rw [he.out]; rfl, hb⟩
    | true =>
      have hr := (regs_iff _).1 h2
      have hf_rd : fitB rd 31 = true := hr 0 (by simp)
      clear hr
      rcases near_cases imm 1048576 2 with h4 | h4 | h4
      · have he := Lib.hid (show encJ op rd imm = (0#32, 1) by unfold encJ encG okI; simp [h1, h2, (show fitB 0 7 = true by decide), h4])
        go_enter Try.func33, Try.ntmps33
        go_wp2_with (first
      | (go_at_call 55; refine ((fits_any _ _).mk.at hb).mono ?_; clear hb; rintro e w1 ⟨rfl, hb⟩; try rw [h1])
      | (go_at_call 56; refine (regs_any [rd] (by simp) _ _ (nums_new _ _ _)).mono ?_; rintro e w1 ⟨rfl, hq⟩; rw [h2]; replace hb := (hb.alloc hb.size _).trans (hq.below _); clear hq)
      | (go_at_call 59; refine ((near_21 _).mk.at hb).mono ?_; clear hb; rintro e w1 ⟨rfl, hb⟩; rw [h4]))
        go_ret2
        exact ⟨by rw [he.out]; rfl, hb⟩
      · have he := Lib.hid (show encJ op rd imm = (sct (layW op rd 0 0 0 0) imm psJ, 0) by unfold encJ encG okI; simp [h1, h2, (show fitB 0 7 = true by decide), h4])
        go_enter Try.func33, Try.ntmps33
        go_wp2_with (first
      | (go_at_call 55; refine ((fits_any _ _).mk.at hb).mono ?_; clear hb; rintro e w1 ⟨rfl, hb⟩; try rw [h1])
      | (go_at_call 56; refine (regs_any [rd] (by simp) _ _ (nums_new _ _ _)).mono ?_; rintro e w1 ⟨rfl, hq⟩; rw [h2]; replace hb := (hb.alloc hb.size _).trans (hq.below _); clear hq)
      | (go_at_call 59; refine ((near_21 _).mk.at hb).mono ?_; clear hb; rintro e w1 ⟨rfl, hb⟩; rw [h4])
      | (go_at_call 57; refine ((word_any _ _ _ _ _ _ h1 hf_rd (by decide) (by decide) (by decide) (by decide)).mk.at hb).mono ?_; clear hb; rintro e w1 ⟨rfl, hb⟩)
      | (go_at_call 65; refine (ofJ_any _).mono ?_; rintro e w1 ⟨b, rfl, hp, hb'⟩; have HP := Lib.hid hp; replace hb := hb.trans (hb'.mono hb.size); clear hp hb')
      | (go_at_call 60; refine (scatter_at _ _ _ (w64 imm) b psJ (by decide) (pieces_ok _ (by decide)) _ HP.out).mono ?_; rintro e w1 ⟨rfl, hb'⟩; replace hb := hb.trans (hb'.mono hb.size); clear hb'))
        go_ret2
        exact ⟨by rw [he.out]; rfl, hb⟩
      · have he := Lib.hid (show encJ op rd imm = (0#32, 5) by unfold encJ encG okI; simp [h1, h2, (show fitB 0 7 = true by decide), h4])
        go_enter Try.func33, Try.ntmps33
        go_wp2_with (first
      | (go_at_call 55; refine ((fits_any _ _).mk.at hb).mono ?_; clear hb; rintro e w1 ⟨rfl, hb⟩; try rw [h1])
      | (go_at_call 56; refine (regs_any [rd] (by simp) _ _ (nums_new _ _ _)).mono ?_; rintro e w1 ⟨rfl, hq⟩; rw [h2]; replace hb := (hb.alloc hb.size _).trans (hq.below _); clear hq)
      | (go_at_call 59; refine ((near_21 _).mk.at hb).mono ?_; clear hb; rintro e w1 ⟨rfl, hb⟩; rw [h4]))
        go_ret2
        exact ⟨by rw [he.out]; rfl, hb⟩

theorem sR_any (op rd f3 rs1 rs2 f7 : Int) : Mk Try.prog 21 #[.int .i64 op, .int .i64 rd, .int .i64 f3, .int .i64 rs1, .int .i64 rs2, .int .i64 f7] (encV (encR op rd f3 rs1 rs2 f7)) := by
  intro w
  have hb := Below.refl w.heap.size w
  cases h1 : fitB op 127 with
  | false =>
    have he := Lib.hid (show encR op rd f3 rs1 rs2 f7 = (0#32, 1) by unfold encR encG okI; simp [h1])
    go_enter Try.func21, Try.ntmps21
    go_wp2_with (first
      | (go_at_call 55; refine ((fits_any _ _).mk.at hb).mono ?_; clear hb; rintro e w1 ⟨rfl, hb⟩; try rw [h1]))
    go_ret2
    exact ⟨by rw [he.out]; rfl, hb⟩
  | true =>
    cases h2 : regsB [rd, rs1, rs2] with
    | false =>
      have he := Lib.hid (show encR op rd f3 rs1 rs2 f7 = (0#32, 1) by unfold encR encG okI; simp [h1, h2])
      go_enter Try.func21, Try.ntmps21
      go_wp2_with (first
      | (go_at_call 55; refine ((fits_any _ _).mk.at hb).mono ?_; clear hb; rintro e w1 ⟨rfl, hb⟩; try rw [h1])
      | (go_at_call 56; refine (regs_any [rd, rs1, rs2] (by simp) _ _ (nums_new _ _ _)).mono ?_; rintro e w1 ⟨rfl, hq⟩; rw [h2]; replace hb := (hb.alloc hb.size _).trans (hq.below _); clear hq))
      go_ret2
      exact ⟨by rw [he.out]; rfl, hb⟩
    | true =>
      cases h3 : fitB f3 7 with
      | false =>
        have he := Lib.hid (show encR op rd f3 rs1 rs2 f7 = (0#32, 1) by unfold encR encG okI; simp [h1, h2, h3])
        go_enter Try.func21, Try.ntmps21
        go_wp2_with (first
      | (go_at_call 55; refine ((fits_any _ _).mk.at hb).mono ?_; clear hb; rintro e w1 ⟨rfl, hb⟩; try rw [h1]; try rw [h3])
      | (go_at_call 56; refine (regs_any [rd, rs1, rs2] (by simp) _ _ (nums_new _ _ _)).mono ?_; rintro e w1 ⟨rfl, hq⟩; rw [h2]; replace hb := (hb.alloc hb.size _).trans (hq.below _); clear hq))
        go_ret2
        exact ⟨by rw [he.out]; rfl, hb⟩
      | true =>
        cases h4 : fitB f7 127 with
        | false =>
          have he := Lib.hid (show encR op rd f3 rs1 rs2 f7 = (0#32, 1) by unfold encR encG okI; simp [h1, h2, h3, h4])
          go_enter Try.func21, Try.ntmps21
          go_wp2_with (first
      | (go_at_call 55; refine ((fits_any _ _).mk.at hb).mono ?_; clear hb; rintro e w1 ⟨rfl, hb⟩; try rw [h1]; try rw [h3]; try rw [h4])
      | (go_at_call 56; refine (regs_any [rd, rs1, rs2] (by simp) _ _ (nums_new _ _ _)).mono ?_; rintro e w1 ⟨rfl, hq⟩; rw [h2]; replace hb := (hb.alloc hb.size _).trans (hq.below _); clear hq))
          go_ret2
          exact ⟨by rw [he.out]; rfl, hb⟩
        | true =>
          have hr := (regs_iff _).1 h2
          have hf_rd : fitB rd 31 = true := hr 0 (by simp)
          have hf_rs1 : fitB rs1 31 = true := hr 1 (by simp)
          have hf_rs2 : fitB rs2 31 = true := hr 2 (by simp)
          clear hr
          have he := Lib.hid (show encR op rd f3 rs1 rs2 f7 = (layW op rd f3 rs1 rs2 f7, 0) by unfold encR encG okI; simp [h1, h2, h3, h4])
          go_enter Try.func21, Try.ntmps21
          go_wp2_with (first
      | (go_at_call 55; refine ((fits_any _ _).mk.at hb).mono ?_; clear hb; rintro e w1 ⟨rfl, hb⟩; try rw [h1]; try rw [h3]; try rw [h4])
      | (go_at_call 56; refine (regs_any [rd, rs1, rs2] (by simp) _ _ (nums_new _ _ _)).mono ?_; rintro e w1 ⟨rfl, hq⟩; rw [h2]; replace hb := (hb.alloc hb.size _).trans (hq.below _); clear hq)
      | (go_at_call 57; refine ((word_any _ _ _ _ _ _ h1 hf_rd h3 hf_rs1 hf_rs2 h4).mk.at hb).mono ?_; clear hb; rintro e w1 ⟨rfl, hb⟩))
          go_ret2
          exact ⟨by rw [he.out]; rfl, hb⟩
end Go.Proofs.Ytnhbekgmameeaaa
