/- Contract: the document's word, of any instruction. -/
import Derived.Test.YtnhbekgmameeaaaRencs
namespace Go.Proofs.Ytnhbekgmameeaaa
open Go.RowKit Wd
set_option linter.unusedVariables false
set_option linter.unusedSimpArgs false
theorem rtoInt_wrap (v : BitVec 64) : wrap64 (v.toNat : Int) = v.toInt := by
  have := v.isLt
  unfold wrap64
  rw [BitVec.toInt_eq_toNat_cond]
  split <;> omega
theorem rtoInt_wrap' (v : BitVec 64) : IntKind.i64.wrap (v.toNat : Int) = v.toInt := by
  have e : IntKind.i64.wrap (v.toNat : Int) = wrap64 (v.toNat : Int) := IntWalk.i64_left _
  rw [e, rtoInt_wrap]
theorem small_int (v : BitVec 64) (h : ¬ 63 < v.toNat) : 0 ≤ v.toInt ∧ v.toInt ≤ 63 := by
  rw [BitVec.toInt_eq_toNat_of_lt (by omega)]
  omega
theorem immWord_any (i : Ins) : Mk Try.prog 105 #[.agg (insC i), .int .i64 i.imm.toInt] (encV (immWordR i)) := by
  intro w
  obtain ⟨op, fn, rd, rs1, rs2, im, size, sgn, word, useImm, csr⟩ := i
  have cO := Lib.hid (ropcode_19 word)
  obtain ⟨v, hv⟩ : ∃ v, v = im.toInt := ⟨_, rfl⟩
  unfold immWordR insC
  simp only
  rw [← hv]
  by_cases k1 : fn = 1
  · subst k1
    rw [if_pos (by omega)]
    by_cases h1 : 63 < im.toNat
    · rw [if_pos h1]; exact immWord_1_hi op rd rs1 rs2 im v size sgn word useImm csr (0#32, 7) (by omega) w
    rw [if_neg h1, if_neg (by decide)]
    have hs := small_int im h1
    rw [← hv] at hs
    exact immWord_1 op rd rs1 rs2 im v size sgn word useImm csr _ _ _ cO (by omega) hs.1 hs.2 rfl (Lib.hid (rI_any _ _ _ _ _)) w
  by_cases k5 : fn = 5
  · subst k5
    rw [if_pos (by omega)]
    by_cases h1 : 63 < im.toNat
    · rw [if_pos h1]; exact immWord_5_hi op rd rs1 rs2 im v size sgn word useImm csr (0#32, 7) (by omega) w
    rw [if_neg h1, if_neg (by decide)]
    have hs := small_int im h1
    rw [← hv] at hs
    exact immWord_5 op rd rs1 rs2 im v size sgn word useImm csr _ _ _ cO (by omega) hs.1 hs.2 rfl (Lib.hid (rI_any _ _ _ _ _)) w
  by_cases k13 : fn = 13
  · subst k13
    rw [if_pos (by omega)]
    by_cases h1 : 63 < im.toNat
    · rw [if_pos h1]; exact immWord_13_hi op rd rs1 rs2 im v size sgn word useImm csr (0#32, 7) (by omega) w
    rw [if_neg h1, if_pos rfl]
    have hs := small_int im h1
    rw [← hv] at hs
    exact immWord_13 op rd rs1 rs2 im v size sgn word useImm csr _ _ _ cO (by omega) hs.1 hs.2 rfl (Lib.hid (rI_any _ _ _ _ _)) w
  rw [if_neg (by omega)]
  exact immWord_no op fn rd rs1 rs2 im v size sgn word useImm csr _ _ cO (by simpa using k1) (by simpa using k5) (by simpa using k13) (Lib.hid (rI_any _ _ _ _ _)) w
theorem csr_or (u : BitVec 32) (csr : Int) (h1 : ¬ csr < 0) (h2 : ¬ 4095 < csr) : bits .or .u32 (u.toNat : Int) (csr * 1048576) = ((u ||| BitVec.ofNat 32 csr.toNat <<< 20).toNat : Int) := by
  rw [or32, of32]
  have e : BitVec.ofInt 32 (csr * 1048576) = BitVec.ofNat 32 csr.toNat <<< 20 := by
    apply BitVec.eq_of_toNat_eq
    rw [BitVec.toNat_ofInt, BitVec.toNat_shiftLeft, BitVec.toNat_ofNat, Nat.shiftLeft_eq]
    omega
  rw [e]
theorem csrWord_any (fn rd rs1 rs2 : Int) (im : BitVec 64) (size : Int) (sgn word useImm : Bool) (csr : Int) : Mk Try.prog 108 #[.agg (insC ⟨19, fn, rd, rs1, rs2, im, size, sgn, word, useImm, csr⟩)] (encV (csrR ⟨19, fn, rd, rs1, rs2, im, size, sgn, word, useImm, csr⟩)) := by
  intro w
  unfold csrR insC
  simp only
  by_cases h1 : csr < 0
  · rw [if_pos (.inl h1)]; exact csrWord_1 fn rd rs1 rs2 im size sgn word useImm csr (0#32, 7) h1 w
  by_cases h2 : 4095 < csr
  · rw [if_pos (.inr (.inl h2))]; exact csrWord_2 fn rd rs1 rs2 im size sgn word useImm csr (0#32, 7) h1 h2 w
  by_cases h3 : fn < 1
  · rw [if_pos (.inr (.inr (.inl h3)))]; exact csrWord_3 fn rd rs1 rs2 im size sgn word useImm csr (0#32, 7) h1 h2 h3 w
  by_cases h4 : 3 < fn
  · rw [if_pos (.inr (.inr (.inr h4)))]; exact csrWord_4 fn rd rs1 rs2 im size sgn word useImm csr (0#32, 7) h1 h2 h3 h4 w
  rw [if_neg (by omega)]
  cases useImm
  · exact csrWord_false fn rd rs1 rs2 im size sgn word csr (encI 115 rd fn rs1 0) h1 h2 h3 h4 _ (csr_or _ csr h1 h2) (Lib.hid (rI_any _ _ _ _ _)) w
  · exact csrWord_true fn rd rs1 rs2 im size sgn word csr (encI 115 rd (fn + 4) rs1 0) h1 h2 h3 h4 _ (csr_or _ csr h1 h2) (Lib.hid (rI_any _ _ _ _ _)) w
set_option maxHeartbeats 2000000 in
theorem word_any' (i : Ins) : Mk Try.prog 73 #[.agg (insC i)] (encV (wordR i)) := by
  intro w
  have hI := immWord_any i
  have hL := rload_any i
  obtain ⟨op, fn, rd, rs1, rs2, im, size, sgn, word, useImm, csr⟩ := i
  have hC := csrWord_any fn rd rs1 rs2 im size sgn word useImm csr
  have e1 := rtoInt_wrap' im
  have e2 := rtoInt_wrap im
  unfold wordR
  simp only
  by_cases k : op = 1
  · subst k
    exact word_1 fn rd rs1 rs2 im _ e1 e2 size sgn word useImm csr _ (Lib.hid (rU_any _ _ _)) w
  rw [if_neg k]; have f1 := k; clear k
  by_cases k : op = 2
  · subst k
    exact word_2 fn rd rs1 rs2 im _ e1 e2 size sgn word useImm csr _ (Lib.hid (rU_any _ _ _)) w
  rw [if_neg k]; have f2 := k; clear k
  by_cases k : op = 3
  · subst k
    exact word_3 fn rd rs1 rs2 im _ e1 e2 size sgn word useImm csr _ (Lib.hid (rJ_any _ _ _)) w
  rw [if_neg k]; have f3 := k; clear k
  by_cases k : op = 4
  · subst k
    exact word_4 fn rd rs1 rs2 im _ e1 e2 size sgn word useImm csr _ (Lib.hid (rI_any _ _ _ _ _)) w
  rw [if_neg k]; have f4 := k; clear k
  by_cases k : op = 5
  · subst k
    exact word_5 fn rd rs1 rs2 im _ e1 e2 size sgn word useImm csr _ (Lib.hid (rB_any _ _ _ _ _)) w
  rw [if_neg k]; have f5 := k; clear k
  by_cases k : op = 6
  · subst k
    exact word_6 fn rd rs1 rs2 im _ e1 e2 size sgn word useImm csr _ _ (Lib.hid hL) (Lib.hid (rI_any _ _ _ _ _)) w
  rw [if_neg k]; have f6 := k; clear k
  by_cases k : op = 7
  · subst k
    exact word_7 fn rd rs1 rs2 im _ e1 e2 size sgn word useImm csr _ _ (Lib.hid (rsize_any size)) (Lib.hid (rS_any _ _ _ _ _)) w
  rw [if_neg k]; have f7 := k; clear k
  by_cases k : op = 8
  · subst k
    exact word_8 fn rd rs1 rs2 im _ e1 e2 size sgn word useImm csr _ (Lib.hid (hI)) w
  rw [if_neg k]; have f8 := k; clear k
  by_cases k : op = 9
  · subst k
    rw [if_pos rfl]
    by_cases h7 : 7 < fn
    · rw [if_pos h7]; exact word_9_hi fn rd rs1 rs2 im _ e1 e2 size sgn word useImm csr _ _ _ (Lib.hid (ropcode_51 word)) rfl h7 (Lib.hid (rR_any _ _ _ _ _ _)) w
    · rw [if_neg h7]; exact word_9_lo fn rd rs1 rs2 im _ e1 e2 size sgn word useImm csr _ _ _ (Lib.hid (ropcode_51 word)) rfl h7 (Lib.hid (rR_any _ _ _ _ _ _)) w
  rw [if_neg k]; have f9 := k; clear k
  by_cases k : op = 10
  · subst k
    exact word_10 fn rd rs1 rs2 im _ e1 e2 size sgn word useImm csr _ _ _ (Lib.hid (ropcode_51 word)) rfl (Lib.hid (rR_any _ _ _ _ _ _)) w
  rw [if_neg k]; have f10 := k; clear k
  by_cases k : op = 11
  · subst k
    exact word_11 fn rd rs1 rs2 im _ e1 e2 size sgn word useImm csr (15#32, 0) w
  rw [if_neg k]; have f11 := k; clear k
  by_cases k : op = 12
  · subst k
    exact word_12 fn rd rs1 rs2 im _ e1 e2 size sgn word useImm csr (0x100f#32, 0) w
  rw [if_neg k]; have f12 := k; clear k
  by_cases k : op = 13
  · subst k
    exact word_13 fn rd rs1 rs2 im _ e1 e2 size sgn word useImm csr (0x73#32, 0) w
  rw [if_neg k]; have f13 := k; clear k
  by_cases k : op = 14
  · subst k
    exact word_14 fn rd rs1 rs2 im _ e1 e2 size sgn word useImm csr (0x100073#32, 0) w
  rw [if_neg k]; have f14 := k; clear k
  by_cases k : op = 15
  · subst k
    exact word_15 fn rd rs1 rs2 im _ e1 e2 size sgn word useImm csr (0x30200073#32, 0) w
  rw [if_neg k]; have f15 := k; clear k
  by_cases k : op = 16
  · subst k
    exact word_16 fn rd rs1 rs2 im _ e1 e2 size sgn word useImm csr (0x10200073#32, 0) w
  rw [if_neg k]; have f16 := k; clear k
  by_cases k : op = 17
  · subst k
    exact word_17 fn rd rs1 rs2 im _ e1 e2 size sgn word useImm csr (0x10500073#32, 0) w
  rw [if_neg k]; have f17 := k; clear k
  by_cases k : op = 18
  · subst k
    exact word_18 fn rd rs1 rs2 im _ e1 e2 size sgn word useImm csr _ (Lib.hid (rR_any _ _ _ _ _ _)) w
  rw [if_neg k]; have f18 := k; clear k
  by_cases k : op = 19
  · subst k
    exact word_19 fn rd rs1 rs2 im _ e1 e2 size sgn word useImm csr _ (Lib.hid (hC)) w
  rw [if_neg k]; have f19 := k; clear k
  by_cases k : op = 20
  · subst k
    exact word_20 fn rd rs1 rs2 im _ e1 e2 size sgn word useImm csr _ _ (Lib.hid (rsize_any size)) (Lib.hid (rR_any _ _ _ _ _ _)) w
  rw [if_neg k]; have f20 := k; clear k
  by_cases k : op = 21
  · subst k
    exact word_21 fn rd rs1 rs2 im _ e1 e2 size sgn word useImm csr _ _ (Lib.hid (rsize_any size)) (Lib.hid (rR_any _ _ _ _ _ _)) w
  rw [if_neg k]; have f21 := k; clear k
  by_cases k : op = 22
  · subst k
    rw [if_pos rfl]
    by_cases h1 : fn < 0
    · rw [if_pos (.inl h1)]; exact word_22_lo fn rd rs1 rs2 im _ e1 e2 size sgn word useImm csr (0#32, 7) h1 w
    by_cases h2 : 31 < fn
    · rw [if_pos (.inr h2)]; exact word_22_hi fn rd rs1 rs2 im _ e1 e2 size sgn word useImm csr (0#32, 7) h1 h2 w
    rw [if_neg (by omega)]
    exact word_22 fn rd rs1 rs2 im _ e1 e2 size sgn word useImm csr _ h1 h2 (IntWalk.i64_in _ (by omega)) _ (Lib.hid (rsize_any size)) (Lib.hid (rR_any _ _ _ _ _ _)) w
  rw [if_neg k]
  exact word_no op fn rd rs1 rs2 im _ e1 e2 size sgn word useImm csr (0#32, 7) (by simpa using f1) (by simpa using f2) (by simpa using f3) (by simpa using f4) (by simpa using f5) (by simpa using f6) (by simpa using f7) (by simpa using f8) (by simpa using f9) (by simpa using f10) (by simpa using f11) (by simpa using f12) (by simpa using f13) (by simpa using f14) (by simpa using f15) (by simpa using f16) (by simpa using f17) (by simpa using f18) (by simpa using f19) (by simpa using f20) (by simpa using f21) (by simpa using k) w
end Go.Proofs.Ytnhbekgmameeaaa
