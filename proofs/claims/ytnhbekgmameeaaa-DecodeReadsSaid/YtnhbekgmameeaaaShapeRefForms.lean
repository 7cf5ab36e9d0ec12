/- Contracts of package tappetref02's forms: R, I, S, B, U, J. -/
import Derived.Test.YtnhbekgmameeaaaShapeRefEnc
namespace Go.Proofs.Ytnhbekgmameeaaa
open Go.RowKit Wd

theorem withI_any (v : BitVec 32) (imm : Int) : Mk Try.prog 114 #[.int .u32 (v.toNat : Int), .int .u8 73, .int .i64 imm] (.int .u32 ((sct v imm psI).toNat : Int)) := by
  unfold sct
  rw [scatI]
  exact with_gen v 73 imm lI (by decide) (by decide) fromI_any

theorem rI_any (op rd f3 rs1 imm : Int) : Mk Try.prog 100 #[.int .i64 op, .int .i64 rd, .int .i64 f3, .int .i64 rs1, .int .i64 imm] (encV (encI op rd f3 rs1 imm)) := by
  intro w
  have hb := Below.refl w.heap.size w
  have hF := fld_ok op f3 0 [rd, rs1]
  rw [show fitB 0 127 = true by decide, Bool.and_true] at hF
  cases hok : okI op f3 [rd, rs1] with
  | false =>
    rw [hok, if_neg (by simp)] at hF
    have he := Lib.hid (show encI op rd f3 rs1 imm = (0#32, 1) by unfold encI encG; rw [hok]; rfl)
    go_enter Try.func100, Try.ntmps100
    go_wp2_with (first
      | (go_at_call 113; refine (fields_any op f3 0 [rd, rs1] (by simp) _ _ (nums_new _ _ _)).mono ?_; rintro e w1 ⟨rfl, hq⟩; rw [hF]; replace hb := (hb.alloc hb.size _).trans (hq.below _); clear hq))
    go_ret2
    exact ⟨by rw [he.out]; rfl, hb⟩
  | true =>
    rw [hok, if_pos rfl] at hF
    by_cases c1 : imm < -2048
    · have he := Lib.hid (show encI op rd f3 rs1 imm = (0#32, 1) by unfold encI encG; rw [hok, show nearE imm 2048 1 = 1 by unfold nearE; rw [if_pos (.inl c1)]]; rfl)
      go_enter Try.func100, Try.ntmps100
      go_wp2_with (first
        | (go_at_call 113; refine (fields_any op f3 0 [rd, rs1] (by simp) _ _ (nums_new _ _ _)).mono ?_; rintro e w1 ⟨rfl, hq⟩; rw [hF]; replace hb := (hb.alloc hb.size _).trans (hq.below _); clear hq))
      go_ret2
      exact ⟨by rw [he.out]; rfl, hb⟩
    · by_cases c2 : 2047 < imm
      · have he := Lib.hid (show encI op rd f3 rs1 imm = (0#32, 1) by unfold encI encG; rw [hok, show nearE imm 2048 1 = 1 by unfold nearE; rw [if_pos (.inr (by omega))]]; rfl)
        go_enter Try.func100, Try.ntmps100
        go_wp2_with (first
          | (go_at_call 113; refine (fields_any op f3 0 [rd, rs1] (by simp) _ _ (nums_new _ _ _)).mono ?_; rintro e w1 ⟨rfl, hq⟩; rw [hF]; replace hb := (hb.alloc hb.size _).trans (hq.below _); clear hq))
        go_ret2
        exact ⟨by rw [he.out]; rfl, hb⟩
      · have hp := ok_parts hok
        obtain ⟨h1, h2, h3⟩ := hp
        have hr := (regs_iff _).1 h2
        have hf_rd : fitB rd 31 = true := hr 0 (by simp)
        have hf_rs1 : fitB rs1 31 = true := hr 1 (by simp)
        clear hr h2
        have he := Lib.hid (show encI op rd f3 rs1 imm = (sct (layW op rd f3 rs1 0 0) imm psI, 0) by unfold encI encG; rw [hok, show nearE imm 2048 1 = 0 by unfold nearE; rw [if_neg (by omega), if_pos (Int.tmod_one imm)]]; rfl)
        go_enter Try.func100, Try.ntmps100
        go_wp2_with (first
          | (go_at_call 113; refine (fields_any op f3 0 [rd, rs1] (by simp) _ _ (nums_new _ _ _)).mono ?_; rintro e w1 ⟨rfl, hq⟩; rw [hF]; replace hb := (hb.alloc hb.size _).trans (hq.below _); clear hq)
          | (go_at_call 115; refine ((lay_any _ _ _ _ _ _ h1 hf_rd h3 hf_rs1 (by decide) (by decide)).mk.at hb).mono ?_; clear hb; rintro e w1 ⟨rfl, hb⟩)
          | (go_at_call 114; refine ((withI_any _ _).at hb).mono ?_; clear hb; rintro e w1 ⟨rfl, hb⟩))
        go_ret2
        exact ⟨by rw [he.out]; rfl, hb⟩

theorem withS_any (v : BitVec 32) (imm : Int) : Mk Try.prog 114 #[.int .u32 (v.toNat : Int), .int .u8 83, .int .i64 imm] (.int .u32 ((sct v imm psS).toNat : Int)) := by
  unfold sct
  rw [scatS]
  exact with_gen v 83 imm lS (by decide) (by decide) fromS_any

theorem rS_any (op f3 rs1 rs2 imm : Int) : Mk Try.prog 103 #[.int .i64 op, .int .i64 f3, .int .i64 rs1, .int .i64 rs2, .int .i64 imm] (encV (encS op f3 rs1 rs2 imm)) := by
  intro w
  have hb := Below.refl w.heap.size w
  have hF := fld_ok op f3 0 [rs1, rs2]
  rw [show fitB 0 127 = true by decide, Bool.and_true] at hF
  cases hok : okI op f3 [rs1, rs2] with
  | false =>
    rw [hok, if_neg (by simp)] at hF
    have he := Lib.hid (show encS op f3 rs1 rs2 imm = (0#32, 1) by unfold encS encG; rw [hok]; rfl)
    go_enter Try.func103, Try.ntmps103
    go_wp2_with (first
      | (go_at_call 113; refine (fields_any op f3 0 [rs1, rs2] (by simp) _ _ (nums_new _ _ _)).mono ?_; rintro e w1 ⟨rfl, hq⟩; rw [hF]; replace hb := (hb.alloc hb.size _).trans (hq.below _); clear hq))
    go_ret2
    exact ⟨by rw [he.out]; rfl, hb⟩
  | true =>
    rw [hok, if_pos rfl] at hF
    by_cases c1 : imm < -2048
    · have he := Lib.hid (show encS op f3 rs1 rs2 imm = (0#32, 1) by unfold encS encG; rw [hok, show nearE imm 2048 1 = 1 by unfold nearE; rw [if_pos (.inl c1)]]; rfl)
      go_enter Try.func103, Try.ntmps103
      go_wp2_with (first
        | (go_at_call 113; refine (fields_any op f3 0 [rs1, rs2] (by simp) _ _ (nums_new _ _ _)).mono ?_; rintro e w1 ⟨rfl, hq⟩; rw [hF]; replace hb := (hb.alloc hb.size _).trans (hq.below _); clear hq))
      go_ret2
      exact ⟨by rw [he.out]; rfl, hb⟩
    · by_cases c2 : 2047 < imm
      · have he := Lib.hid (show encS op f3 rs1 rs2 imm = (0#32, 1) by unfold encS encG; rw [hok, show nearE imm 2048 1 = 1 by unfold nearE; rw [if_pos (.inr (by omega))]]; rfl)
        go_enter Try.func103, Try.ntmps103
        go_wp2_with (first
          | (go_at_call 113; refine (fields_any op f3 0 [rs1, rs2] (by simp) _ _ (nums_new _ _ _)).mono ?_; rintro e w1 ⟨rfl, hq⟩; rw [hF]; replace hb := (hb.alloc hb.size _).trans (hq.below _); clear hq))
        go_ret2
        exact ⟨by rw [he.out]; rfl, hb⟩
      · have hp := ok_parts hok
        obtain ⟨h1, h2, h3⟩ := hp
        have hr := (regs_iff _).1 h2
        have hf_rs1 : fitB rs1 31 = true := hr 0 (by simp)
        have hf_rs2 : fitB rs2 31 = true := hr 1 (by simp)
        clear hr h2
        have he := Lib.hid (show encS op f3 rs1 rs2 imm = (sct (layW op 0 f3 rs1 rs2 0) imm psS, 0) by unfold encS encG; rw [hok, show nearE imm 2048 1 = 0 by unfold nearE; rw [if_neg (by omega), if_pos (Int.tmod_one imm)]]; rfl)
        go_enter Try.func103, Try.ntmps103
        go_wp2_with (first
          | (go_at_call 113; refine (fields_any op f3 0 [rs1, rs2] (by simp) _ _ (nums_new _ _ _)).mono ?_; rintro e w1 ⟨rfl, hq⟩; rw [hF]; replace hb := (hb.alloc hb.size _).trans (hq.below _); clear hq)
          | (go_at_call 115; refine ((lay_any _ _ _ _ _ _ h1 (by decide) h3 hf_rs1 hf_rs2 (by decide)).mk.at hb).mono ?_; clear hb; rintro e w1 ⟨rfl, hb⟩)
          | (go_at_call 114; refine ((withS_any _ _).at hb).mono ?_; clear hb; rintro e w1 ⟨rfl, hb⟩))
        go_ret2
        exact ⟨by rw [he.out]; rfl, hb⟩

theorem withB_any (v : BitVec 32) (imm : Int) : Mk Try.prog 114 #[.int .u32 (v.toNat : Int), .int .u8 66, .int .i64 imm] (.int .u32 ((sct v imm psB).toNat : Int)) := by
  unfold sct
  rw [scatB]
  exact with_gen v 66 imm lB (by decide) (by decide) fromB_any

theorem rB_any (op f3 rs1 rs2 imm : Int) : Mk Try.prog 101 #[.int .i64 op, .int .i64 f3, .int .i64 rs1, .int .i64 rs2, .int .i64 imm] (encV (encB op f3 rs1 rs2 imm)) := by
  intro w
  have hb := Below.refl w.heap.size w
  have hF := fld_ok op f3 0 [rs1, rs2]
  rw [show fitB 0 127 = true by decide, Bool.and_true] at hF
  cases hok : okI op f3 [rs1, rs2] with
  | false =>
    rw [hok, if_neg (by simp)] at hF
    have he := Lib.hid (show encB op f3 rs1 rs2 imm = (0#32, 1) by unfold encB encG; rw [hok]; rfl)
    go_enter Try.func101, Try.ntmps101
    go_wp2_with (first
      | (go_at_call 113; refine (fields_any op f3 0 [rs1, rs2] (by simp) _ _ (nums_new _ _ _)).mono ?_; rintro e w1 ⟨rfl, hq⟩; rw [hF]; replace hb := (hb.alloc hb.size _).trans (hq.below _); clear hq))
    go_ret2
    exact ⟨by rw [he.out]; rfl, hb⟩
  | true =>
    rw [hok, if_pos rfl] at hF
    by_cases c1 : imm < -4096
    · have he := Lib.hid (show encB op f3 rs1 rs2 imm = (0#32, 1) by unfold encB encG; rw [hok, show nearE imm 4096 2 = 1 by unfold nearE; rw [if_pos (.inl c1)]]; rfl)
      go_enter Try.func101, Try.ntmps101
      go_wp2_with (first
        | (go_at_call 113; refine (fields_any op f3 0 [rs1, rs2] (by simp) _ _ (nums_new _ _ _)).mono ?_; rintro e w1 ⟨rfl, hq⟩; rw [hF]; replace hb := (hb.alloc hb.size _).trans (hq.below _); clear hq))
      go_ret2
      exact ⟨by rw [he.out]; rfl, hb⟩
    · by_cases c2 : 4095 < imm
      · have he := Lib.hid (show encB op f3 rs1 rs2 imm = (0#32, 1) by unfold encB encG; rw [hok, show nearE imm 4096 2 = 1 by unfold nearE; rw [if_pos (.inr (by omega))]]; rfl)
        go_enter Try.func101, Try.ntmps101
        go_wp2_with (first
          | (go_at_call 113; refine (fields_any op f3 0 [rs1, rs2] (by simp) _ _ (nums_new _ _ _)).mono ?_; rintro e w1 ⟨rfl, hq⟩; rw [hF]; replace hb := (hb.alloc hb.size _).trans (hq.below _); clear hq))
        go_ret2
        exact ⟨by rw [he.out]; rfl, hb⟩
      · by_cases c3 : imm.tmod 2 = 0
        · have hp := ok_parts hok
          obtain ⟨h1, h2, h3⟩ := hp
          have hr := (regs_iff _).1 h2
          have hf_rs1 : fitB rs1 31 = true := hr 0 (by simp)
          have hf_rs2 : fitB rs2 31 = true := hr 1 (by simp)
          clear hr h2
          have he := Lib.hid (show encB op f3 rs1 rs2 imm = (sct (layW op 0 f3 rs1 rs2 0) imm psB, 0) by unfold encB encG; rw [hok, show nearE imm 4096 2 = 0 by unfold nearE; rw [if_neg (by omega), if_pos c3]]; rfl)
          go_enter Try.func101, Try.ntmps101
          go_wp2_with (first
            | (go_at_call 113; refine (fields_any op f3 0 [rs1, rs2] (by simp) _ _ (nums_new _ _ _)).mono ?_; rintro e w1 ⟨rfl, hq⟩; rw [hF]; replace hb := (hb.alloc hb.size _).trans (hq.below _); clear hq)
            | (go_at_call 115; refine ((lay_any _ _ _ _ _ _ h1 (by decide) h3 hf_rs1 hf_rs2 (by decide)).mk.at hb).mono ?_; clear hb; rintro e w1 ⟨rfl, hb⟩)
            | (go_at_call 114; refine ((withB_any _ _).at hb).mono ?_; clear hb; rintro e w1 ⟨rfl, hb⟩))
          go_ret2
          exact ⟨by rw [he.out]; rfl, hb⟩
        · have he := Lib.hid (show encB op f3 rs1 rs2 imm = (0#32, 5) by unfold encB encG; rw [hok, show nearE imm 4096 2 = 5 by unfold nearE; rw [if_neg (by omega), if_neg c3]]; rfl)
          go_enter Try.func101, Try.ntmps101
          go_wp2_with (first
            | (go_at_call 113; refine (fields_any op f3 0 [rs1, rs2] (by simp) _ _ (nums_new _ _ _)).mono ?_; rintro e w1 ⟨rfl, hq⟩; rw [hF]; replace hb := (hb.alloc hb.size _).trans (hq.below _); clear hq))
          go_ret2
          exact ⟨by rw [he.out]; rfl, hb⟩

theorem withU_any (v : BitVec 32) (imm : Int) : Mk Try.prog 114 #[.int .u32 (v.toNat : Int), .int .u8 85, .int .i64 imm] (.int .u32 ((sct v imm psU).toNat : Int)) := by
  unfold sct
  rw [scatU]
  exact with_gen v 85 imm lU (by decide) (by decide) fromU_any

theorem rU_any (op rd imm : Int) : Mk Try.prog 98 #[.int .i64 op, .int .i64 rd, .int .i64 imm] (encV (encU op rd imm)) := by
  intro w
  have hb := Below.refl w.heap.size w
  have hF := fld_ok op 0 0 [rd]
  rw [show fitB 0 127 = true by decide, Bool.and_true] at hF
  cases hok : okI op 0 [rd] with
  | false =>
    rw [hok, if_neg (by simp)] at hF
    have he := Lib.hid (show encU op rd imm = (0#32, 1) by unfold encU encG; rw [hok]; rfl)
    go_enter Try.func98, Try.ntmps98
    go_wp2_with (first
      | (go_at_call 113; refine (fields_any op 0 0 [rd] (by simp) _ _ (nums_new _ _ _)).mono ?_; rintro e w1 ⟨rfl, hq⟩; rw [hF]; replace hb := (hb.alloc hb.size _).trans (hq.below _); clear hq))
    go_ret2
    exact ⟨by rw [he.out]; rfl, hb⟩
  | true =>
    rw [hok, if_pos rfl] at hF
    by_cases c1 : imm < -2147483648
    · have he := Lib.hid (show encU op rd imm = (0#32, 1) by unfold encU encG; rw [hok, show nearE imm 2147483648 4096 = 1 by unfold nearE; rw [if_pos (.inl c1)]]; rfl)
      go_enter Try.func98, Try.ntmps98
      go_wp2_with (first
        | (go_at_call 113; refine (fields_any op 0 0 [rd] (by simp) _ _ (nums_new _ _ _)).mono ?_; rintro e w1 ⟨rfl, hq⟩; rw [hF]; replace hb := (hb.alloc hb.size _).trans (hq.below _); clear hq))
      go_ret2
      exact ⟨by rw [he.out]; rfl, hb⟩
    · by_cases c2 : 2147483647 < imm
      · have he := Lib.hid (show encU op rd imm = (0#32, 1) by unfold encU encG; rw [hok, show nearE imm 2147483648 4096 = 1 by unfold nearE; rw [if_pos (.inr (by omega))]]; rfl)
        go_enter Try.func98, Try.ntmps98
        go_wp2_with (first
          | (go_at_call 113; refine (fields_any op 0 0 [rd] (by simp) _ _ (nums_new _ _ _)).mono ?_; rintro e w1 ⟨rfl, hq⟩; rw [hF]; replace hb := (hb.alloc hb.size _).trans (hq.below _); clear hq))
        go_ret2
        exact ⟨by rw [he.out]; rfl, hb⟩
      · by_cases c3 : imm.tmod 4096 = 0
        · have hp := ok_parts hok
          obtain ⟨h1, h2, h3⟩ := hp
          have hr := (regs_iff _).1 h2
          have hf_rd : fitB rd 31 = true := hr 0 (by simp)
          clear hr h2
          clear h3
          have he := Lib.hid (show encU op rd imm = (sct (layW op rd 0 0 0 0) imm psU, 0) by unfold encU encG; rw [hok, show nearE imm 2147483648 4096 = 0 by unfold nearE; rw [if_neg (by omega), if_pos c3]]; rfl)
          go_enter Try.func98, Try.ntmps98
          go_wp2_with (first
            | (go_at_call 113; refine (fields_any op 0 0 [rd] (by simp) _ _ (nums_new _ _ _)).mono ?_; rintro e w1 ⟨rfl, hq⟩; rw [hF]; replace hb := (hb.alloc hb.size _).trans (hq.below _); clear hq)
            | (go_at_call 115; refine ((lay_any _ _ _ _ _ _ h1 hf_rd (by decide) (by decide) (by decide) (by decide)).mk.at hb).mono ?_; clear hb; rintro e w1 ⟨rfl, hb⟩)
            | (go_at_call 114; refine ((withU_any _ _).at hb).mono ?_; clear hb; rintro e w1 ⟨rfl, hb⟩))
          go_ret2
          exact ⟨by rw [he.out]; rfl, hb⟩
        · have he := Lib.hid (show encU op rd imm = (0#32, 5) by unfold encU encG; rw [hok, show nearE imm 2147483648 4096 = 5 by unfold nearE; rw [if_neg (by omega), if_neg c3]]; rfl)
          go_enter Try.func98, Try.ntmps98
          go_wp2_with (first
            | (go_at_call 113; refine (fields_any op 0 0 [rd] (by simp) _ _ (nums_new _ _ _)).mono ?_; rintro e w1 ⟨rfl, hq⟩; rw [hF]; replace hb := (hb.alloc hb.size _).trans (hq.below _); clear hq))
          go_ret2
          exact ⟨by rw [he.out]; rfl, hb⟩

theorem withJ_any (v : BitVec 32) (imm : Int) : Mk Try.prog 114 #[.int .u32 (v.toNat : Int), .int .u8 74, .int .i64 imm] (.int .u32 ((sct v imm psJ).toNat : Int)) := by
  unfold sct
  rw [scatJ]
  exact with_gen v 74 imm lJ (by decide) (by decide) fromJ_any

theorem rJ_any (op rd imm : Int) : Mk Try.prog 99 #[.int .i64 op, .int .i64 rd, .int .i64 imm] (encV (encJ op rd imm)) := by
  intro w
  have hb := Below.refl w.heap.size w
  have hF := fld_ok op 0 0 [rd]
  rw [show fitB 0 127 = true by decide, Bool.and_true] at hF
  cases hok : okI op 0 [rd] with
  | false =>
    rw [hok, if_neg (by simp)] at hF
    have he := Lib.hid (show encJ op rd imm = (0#32, 1) by unfold encJ encG; rw [hok]; rfl)
    go_enter Try.func99, Try.ntmps99
    go_wp2_with (first
      | (go_at_call 113; refine (fields_any op 0 0 [rd] (by simp) _ _ (nums_new _ _ _)).mono ?_; rintro e w1 ⟨rfl, hq⟩; rw [hF]; replace hb := (hb.alloc hb.size _).trans (hq.below _); clear hq))
    go_ret2
    exact ⟨by rw [he.out]; rfl, hb⟩
  | true =>
    rw [hok, if_pos rfl] at hF
    by_cases c1 : imm < -1048576
    · have he := Lib.hid (show encJ op rd imm = (0#32, 1) by unfold encJ encG; rw [hok, show nearE imm 1048576 2 = 1 by unfold nearE; rw [if_pos (.inl c1)]]; rfl)
      go_enter Try.func99, Try.ntmps99
      go_wp2_with (first
        | (go_at_call 113; refine (fields_any op 0 0 [rd] (by simp) _ _ (nums_new _ _ _)).mono ?_; rintro e w1 ⟨rfl, hq⟩; rw [hF]; replace hb := (hb.alloc hb.size _).trans (hq.below _); clear hq))
      go_ret2
      exact ⟨by rw [he.out]; rfl, hb⟩
    · by_cases c2 : 1048575 < imm
      · have he := Lib.hid (show encJ op rd imm = (0#32, 1) by unfold encJ encG; rw [hok, show nearE imm 1048576 2 = 1 by unfold nearE; rw [if_pos (.inr (by omega))]]; rfl)
        go_enter Try.func99, Try.ntmps99
        go_wp2_with (first
          | (go_at_call 113; refine (fields_any op 0 0 [rd] (by simp) _ _ (nums_new _ _ _)).mono ?_; rintro e w1 ⟨rfl, hq⟩; rw [hF]; replace hb := (hb.alloc hb.size _).trans (hq.below _); clear hq))
        go_ret2
        exact ⟨by rw [he.out]; rfl, hb⟩
      · by_cases c3 : imm.tmod 2 = 0
        · have hp := ok_parts hok
          obtain ⟨h1, h2, h3⟩ := hp
          have hr := (regs_iff _).1 h2
          have hf_rd : fitB rd 31 = true := hr 0 (by simp)
          clear hr h2
          clear h3
          have he := Lib.hid (show encJ op rd imm = (sct (layW op rd 0 0 0 0) imm psJ, 0) by unfold encJ encG; rw [hok, show nearE imm 1048576 2 = 0 by unfold nearE; rw [if_neg (by omega), if_pos c3]]; rfl)
          go_enter Try.func99, Try.ntmps99
          go_wp2_with (first
            | (go_at_call 113; refine (fields_any op 0 0 [rd] (by simp) _ _ (nums_new _ _ _)).mono ?_; rintro e w1 ⟨rfl, hq⟩; rw [hF]; replace hb := (hb.alloc hb.size _).trans (hq.below _); clear hq)
            | (go_at_call 115; refine ((lay_any _ _ _ _ _ _ h1 hf_rd (by decide) (by decide) (by decide) (by decide)).mk.at hb).mono ?_; clear hb; rintro e w1 ⟨rfl, hb⟩)
            | (go_at_call 114; refine ((withJ_any _ _).at hb).mono ?_; clear hb; rintro e w1 ⟨rfl, hb⟩))
          go_ret2
          exact ⟨by rw [he.out]; rfl, hb⟩
        · have he := Lib.hid (show encJ op rd imm = (0#32, 5) by unfold encJ encG; rw [hok, show nearE imm 1048576 2 = 5 by unfold nearE; rw [if_neg (by omega), if_neg c3]]; rfl)
          go_enter Try.func99, Try.ntmps99
          go_wp2_with (first
            | (go_at_call 113; refine (fields_any op 0 0 [rd] (by simp) _ _ (nums_new _ _ _)).mono ?_; rintro e w1 ⟨rfl, hq⟩; rw [hF]; replace hb := (hb.alloc hb.size _).trans (hq.below _); clear hq))
          go_ret2
          exact ⟨by rw [he.out]; rfl, hb⟩

theorem rR_any (op rd f3 rs1 rs2 f7 : Int) : Mk Try.prog 106 #[.int .i64 op, .int .i64 rd, .int .i64 f3, .int .i64 rs1, .int .i64 rs2, .int .i64 f7] (encV (encR op rd f3 rs1 rs2 f7)) := by
  intro w
  have hb := Below.refl w.heap.size w
  have hF := fld_ok op f3 f7 [rd, rs1, rs2]
  cases hok : (okI op f3 [rd, rs1, rs2] && fitB f7 127) with
  | false =>
    rw [hok, if_neg (by simp)] at hF
    have he := Lib.hid (show encR op rd f3 rs1 rs2 f7 = (0#32, 1) by unfold encR encG; rw [hok]; rfl)
    go_enter Try.func106, Try.ntmps106
    go_wp2_with (first
      | (go_at_call 113; refine (fields_any op f3 f7 [rd, rs1, rs2] (by simp) _ _ (nums_new _ _ _)).mono ?_; rintro e w1 ⟨rfl, hq⟩; rw [hF]; replace hb := (hb.alloc hb.size _).trans (hq.below _); clear hq))
    go_ret2
    exact ⟨by rw [he.out]; rfl, hb⟩
  | true =>
    rw [hok, if_pos rfl] at hF
    have he := Lib.hid (show encR op rd f3 rs1 rs2 f7 = (layW op rd f3 rs1 rs2 f7, 0) by unfold encR encG; rw [hok]; rfl)
    obtain ⟨ho, h4⟩ := Bool.and_eq_true _ _ ▸ hok
    obtain ⟨h1, h2, h3⟩ := ok_parts ho
    have hr := (regs_iff _).1 h2
    have hf_rd : fitB rd 31 = true := hr 0 (by simp)
    have hf_rs1 : fitB rs1 31 = true := hr 1 (by simp)
    have hf_rs2 : fitB rs2 31 = true := hr 2 (by simp)
    clear hr h2 hok ho
    go_enter Try.func106, Try.ntmps106
    go_wp2_with (first
      | (go_at_call 113; refine (fields_any op f3 f7 [rd, rs1, rs2] (by simp) _ _ (nums_new _ _ _)).mono ?_; rintro e w1 ⟨rfl, hq⟩; rw [hF]; replace hb := (hb.alloc hb.size _).trans (hq.below _); clear hq)
      | (go_at_call 115; refine ((lay_any _ _ _ _ _ _ h1 hf_rd h3 hf_rs1 hf_rs2 h4).mk.at hb).mono ?_; clear hb; rintro e w1 ⟨rfl, hb⟩))
    go_ret2
    exact ⟨by rw [he.out]; rfl, hb⟩

end Go.Proofs.Ytnhbekgmameeaaa
