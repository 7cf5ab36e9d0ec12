/- Contract: package decode's lay, of any instruction. -/
import Derived.Test.YtnhbekgmameeaaaEncLays
namespace Go.Proofs.Ytnhbekgmameeaaa
open Go.RowKit Wd
set_option linter.unusedVariables false
set_option linter.unusedSimpArgs false
theorem toInt_wrap (v : BitVec 64) : wrap64 (v.toNat : Int) = v.toInt := by
  have := v.isLt
  unfold wrap64
  rw [BitVec.toInt_eq_toNat_cond]
  split <;> omega
theorem toInt_wrap' (v : BitVec 64) : IntKind.i64.wrap (v.toNat : Int) = v.toInt := by
  have e : IntKind.i64.wrap (v.toNat : Int) = wrap64 (v.toNat : Int) := IntWalk.i64_left _
  rw [e, toInt_wrap]
theorem or_64 (n : Nat) (h : n < 64) : bits .or .i64 (n : Int) 0 = n ∧ bits .or .i64 (n : Int) 1024 = n + 1024 := by
  have : ∀ k : Nat, k < 64 → bits .or .i64 (k : Int) 0 = k ∧ bits .or .i64 (k : Int) 1024 = k + 1024 := by decide +kernel
  exact this n h
theorem sI_r (op rd f3 rs1 imm : Int) : Mk Try.prog 29 #[.int .i64 op, .int .i64 rd, .int .i64 f3, .int .i64 rs1, .int .i64 imm] (.tuple #[.int .u32 ((encI op rd f3 rs1 imm).1.toNat : Int), .int .i64 (encI op rd f3 rs1 imm).2]) := sI_any op rd f3 rs1 imm
theorem sR_r (op rd f3 rs1 rs2 f7 : Int) : Mk Try.prog 21 #[.int .i64 op, .int .i64 rd, .int .i64 f3, .int .i64 rs1, .int .i64 rs2, .int .i64 f7] (.tuple #[.int .u32 ((encR op rd f3 rs1 rs2 f7).1.toNat : Int), .int .i64 (encR op rd f3 rs1 rs2 f7).2]) := sR_any op rd f3 rs1 rs2 f7
/-- A call's value is another's. -/
theorem Mk.to {P : Program} {f : FuncId} {args : Array Value} {v v' : Value} (h : Mk P f args v) (e : v = v') : Mk P f args v' := e ▸ h
theorem layImm_any (i : Ins) : Mk Try.prog 93 #[.agg (insC i), .int .i64 i.imm.toInt] (encV (layImmC i)) := by
  intro w
  obtain ⟨op, fn, rd, rs1, rs2, im, size, sgn, word, useImm, csr⟩ := i
  have cO := Lib.hid (opcode_19 word)
  obtain ⟨v, hv⟩ : ∃ v, v = im.toInt := ⟨_, rfl⟩
  have hO : ∀ v : Int, ¬ v < 0 → ¬ 63 < v → bits .or .i64 v 0 = v ∧ bits .or .i64 v 1024 = v + 1024 := fun v h1 h2 => by
    have := or_64 v.toNat (by omega)
    rwa [show ((v.toNat : Nat) : Int) = v from by omega] at this
  unfold layImmC insC
  simp only
  rw [← hv]
  by_cases k1 : fn = 1
  · subst k1
    rw [if_pos (.inl rfl)]
    by_cases h1 : v < 0
    · rw [if_pos (.inl h1)]; exact layImm_1_lo op rd rs1 rs2 im v size sgn word useImm csr (0#32, 7) _ cO h1 w
    by_cases h2 : 63 < v
    · rw [if_pos (.inr h2)]; exact layImm_1_hi op rd rs1 rs2 im v size sgn word useImm csr (0#32, 7) _ cO h1 h2 w
    rw [if_neg (by omega), if_neg (by decide), if_neg (by decide)]
    exact layImm_1 op rd rs1 rs2 im v size sgn word useImm csr _ _ cO h1 h2 v (hO v h1 h2).1 (Lib.hid (funct3_any 1)) (Lib.hid (funct7_any op 1 rd rs1 rs2 im size sgn word useImm csr)) (Lib.hid (sI_r _ _ _ _ _)) w
  by_cases k5 : fn = 5
  · subst k5
    rw [if_pos (.inr (.inl rfl))]
    by_cases h1 : v < 0
    · rw [if_pos (.inl h1)]; exact layImm_5_lo op rd rs1 rs2 im v size sgn word useImm csr (0#32, 7) _ cO h1 w
    by_cases h2 : 63 < v
    · rw [if_pos (.inr h2)]; exact layImm_5_hi op rd rs1 rs2 im v size sgn word useImm csr (0#32, 7) _ cO h1 h2 w
    rw [if_neg (by omega), if_neg (by decide), if_neg (by decide)]
    exact layImm_5 op rd rs1 rs2 im v size sgn word useImm csr _ _ cO h1 h2 v (hO v h1 h2).1 (Lib.hid (funct3_any 5)) (Lib.hid (funct7_any op 5 rd rs1 rs2 im size sgn word useImm csr)) (Lib.hid (sI_r _ _ _ _ _)) w
  by_cases k13 : fn = 13
  · subst k13
    rw [if_pos (.inr (.inr rfl))]
    by_cases h1 : v < 0
    · rw [if_pos (.inl h1)]; exact layImm_13_lo op rd rs1 rs2 im v size sgn word useImm csr (0#32, 7) _ cO h1 w
    by_cases h2 : 63 < v
    · rw [if_pos (.inr h2)]; exact layImm_13_hi op rd rs1 rs2 im v size sgn word useImm csr (0#32, 7) _ cO h1 h2 w
    rw [if_neg (by omega), if_pos rfl, if_pos rfl]
    exact layImm_13 op rd rs1 rs2 im v size sgn word useImm csr _ _ cO h1 h2 (v + 1024) (hO v h1 h2).2 (Lib.hid (funct3_any 13)) (Lib.hid (funct7_any op 13 rd rs1 rs2 im size sgn word useImm csr)) (Lib.hid (sI_r _ _ _ _ _)) w
  rw [if_neg (by omega)]
  exact layImm_no op fn rd rs1 rs2 im v size sgn word useImm csr _ _ cO (by simpa using k1) (by simpa using k5) (by simpa using k13) (Lib.hid (sI_r _ _ _ _ _)) w
theorem and31_12 (n : Nat) (h : n < 4096) : bits .and .i64 (n : Int) 31 = ((n % 32 : Nat) : Int) := by
  have h1 : BitVec.ofInt 64 (n : Int) = BitVec.ofNat 64 n := by rw [BitVec.ofInt_natCast]
  show IntKind.i64.wrap ((BitVec.ofInt 64 (n : Int) &&& BitVec.ofInt 64 31).toNat : Int) = _
  rw [h1, BitVec.toNat_and, BitVec.toNat_ofNat, Nat.mod_eq_of_lt (by omega)]
  have : n &&& (BitVec.ofInt 64 31).toNat = n % 32 := Nat.and_two_pow_sub_one_eq_mod n 5
  rw [this, IntWalk.i64_in _ (by omega)]
theorem laySys_any (i : Ins) : Mk Try.prog 97 #[.agg (insC i)] (encV (laySys i)) := by
  intro w
  obtain ⟨op, fn, rd, rs1, rs2, im, size, sgn, word, useImm, csr⟩ := i
  unfold laySys insC
  simp only
  by_cases k : op = 11
  · subst k; exact laySys_11 fn rd rs1 rs2 im size sgn word useImm csr (15#32, 0) w
  rw [if_neg k]; have f11 := k; clear k
  by_cases k : op = 12
  · subst k; exact laySys_12 fn rd rs1 rs2 im size sgn word useImm csr _ (Lib.hid (sI_r _ _ _ _ _)) w
  rw [if_neg k]; have f12 := k; clear k
  by_cases k : op = 13
  · subst k; exact laySys_13 fn rd rs1 rs2 im size sgn word useImm csr (0x73#32, 0) w
  rw [if_neg k]; have f13 := k; clear k
  by_cases k : op = 14
  · subst k; exact laySys_14 fn rd rs1 rs2 im size sgn word useImm csr (0x100073#32, 0) w
  rw [if_neg k]; have f14 := k; clear k
  by_cases k : op = 16
  · subst k; exact laySys_16 fn rd rs1 rs2 im size sgn word useImm csr (0x10200073#32, 0) w
  rw [if_neg k]; have f16 := k; clear k
  by_cases k : op = 15
  · subst k; exact laySys_15 fn rd rs1 rs2 im size sgn word useImm csr (0x30200073#32, 0) w
  rw [if_neg k]; have f15 := k; clear k
  by_cases k : op = 17
  · subst k; exact laySys_17 fn rd rs1 rs2 im size sgn word useImm csr (0x10500073#32, 0) w
  rw [if_neg k]; have f17 := k; clear k
  by_cases k : op = 18
  · subst k; exact laySys_18 fn rd rs1 rs2 im size sgn word useImm csr _ (Lib.hid (sR_r _ _ _ _ _ _)) w
  rw [if_neg k]; have f18 := k; clear k
  by_cases k : op = 19
  · subst k
    rw [if_pos rfl]
    unfold csrC
    simp only
    have e2 : wrap64 (fn + 4) = IntKind.i64.wrap (fn + 4) := (IntWalk.i64_left _).symm
    by_cases h1 : csr < 0
    · rw [if_pos (.inl h1)]
      cases useImm
      · exact laySys_19_false_lo fn rd rs1 rs2 im size sgn word csr (0#32, 7) h1 w
      · exact laySys_19_true_lo fn rd rs1 rs2 im size sgn word csr (0#32, 7) _ rfl e2 h1 w
    by_cases h2 : 4095 < csr
    · rw [if_pos (.inr h2)]
      cases useImm
      · exact laySys_19_false_hi fn rd rs1 rs2 im size sgn word csr (0#32, 7) h1 h2 w
      · exact laySys_19_true_hi fn rd rs1 rs2 im size sgn word csr (0#32, 7) _ rfl e2 h1 h2 w
    rw [if_neg (by omega)]
    have hb : bits .and .i64 csr 31 = csr % 32 := by
      have := and31_12 csr.toNat (by omega)
      rw [show ((csr.toNat : Nat) : Int) = csr from by omega] at this
      rw [this]
      omega
    cases useImm
    · exact laySys_19_false fn rd rs1 rs2 im size sgn word csr _ h1 h2 _ hb (Lib.hid (sR_r _ _ _ _ _ _)) w
    · exact laySys_19_true fn rd rs1 rs2 im size sgn word csr _ _ rfl e2 h1 h2 _ hb (Lib.hid (sR_r _ _ _ _ _ _)) w
  rw [if_neg k]
  exact laySys_no op fn rd rs1 rs2 im size sgn word useImm csr (0#32, 7) (by simpa using f11) (by simpa using f12) (by simpa using f13) (by simpa using f14) (by simpa using f15) (by simpa using f16) (by simpa using f17) (by simpa using f18) (by simpa using k) w
theorem width_bd (n : Int) : -1 ≤ widthI n ∧ widthI n ≤ 3 := by
  unfold widthI
  repeat (first | split | omega)
set_option maxHeartbeats 2000000 in
theorem ilay_any (i : Ins) : Mk Try.prog 72 #[.agg (insC i)] (encV (layC i)) := by
  intro w
  have hI := layImm_any i
  have hS := laySys_any i
  obtain ⟨op, fn, rd, rs1, rs2, im, size, sgn, word, useImm, csr⟩ := i
  have e1 := toInt_wrap' im
  have e2 := toInt_wrap im
  unfold layC
  simp only
  by_cases k : op = 1
  · subst k; exact lay_1 fn rd rs1 rs2 im _ e1 e2 size sgn word useImm csr _ (Lib.hid (sU_any _ _ _)) w
  rw [if_neg k]; have f1 := k; clear k
  by_cases k : op = 2
  · subst k; exact lay_2 fn rd rs1 rs2 im _ e1 e2 size sgn word useImm csr _ (Lib.hid (sU_any _ _ _)) w
  rw [if_neg k]; have f2 := k; clear k
  by_cases k : op = 3
  · subst k; exact lay_3 fn rd rs1 rs2 im _ e1 e2 size sgn word useImm csr _ (Lib.hid (sJ_any _ _ _)) w
  rw [if_neg k]; have f3 := k; clear k
  by_cases k : op = 4
  · subst k; exact lay_4 fn rd rs1 rs2 im _ e1 e2 size sgn word useImm csr _ (Lib.hid (sI_any _ _ _ _ _)) w
  rw [if_neg k]; have f4 := k; clear k
  by_cases k : op = 5
  · subst k; exact lay_5 fn rd rs1 rs2 im _ e1 e2 size sgn word useImm csr _ (Lib.hid (sB_any _ _ _ _ _)) w
  rw [if_neg k]; have f5 := k; clear k
  by_cases k : op = 6
  · subst k
    cases sgn
    · exact lay_6_false fn rd rs1 rs2 im _ e1 e2 size word useImm csr _ _ (width_bd size).1 (width_bd size).2 (Lib.hid (width_any size)) (Lib.hid (sI_any _ _ _ _ _)) w
    · exact lay_6_true fn rd rs1 rs2 im _ e1 e2 size word useImm csr _ _ (width_bd size).1 (width_bd size).2 (Lib.hid (width_any size)) (Lib.hid (sI_any _ _ _ _ _)) w
  rw [if_neg k]; have f6 := k; clear k
  by_cases k : op = 7
  · subst k; exact lay_7 fn rd rs1 rs2 im _ e1 e2 size sgn word useImm csr _ _ (Lib.hid (width_any size)) (Lib.hid (sS_any _ _ _ _ _)) w
  rw [if_neg k]; have f7 := k; clear k
  by_cases k : op = 8
  · subst k; exact lay_8 fn rd rs1 rs2 im _ e1 e2 size sgn word useImm csr _ (Lib.hid hI) w
  rw [if_neg k]; have f8 := k; clear k
  by_cases k : op = 9
  · subst k; exact lay_9 fn rd rs1 rs2 im _ e1 e2 size sgn word useImm csr _ _ (Lib.hid (opcode_51 word)) _ _ (Lib.hid (funct3_any fn)) (Lib.hid (funct7_any 9 fn rd rs1 rs2 im size sgn word useImm csr)) (Lib.hid (sR_any _ _ _ _ _ _)) w
  rw [if_neg k]; have f9 := k; clear k
  by_cases k : op = 10
  · subst k; exact lay_10 fn rd rs1 rs2 im _ e1 e2 size sgn word useImm csr _ _ (Lib.hid (opcode_51 word)) (Lib.hid (sR_any _ _ _ _ _ _)) w
  rw [if_neg k]; have f10 := k; clear k
  by_cases k : op = 20
  · subst k; exact lay_20 fn rd rs1 rs2 im _ e1 e2 size sgn word useImm csr _ _ (Lib.hid (width_any size)) (Lib.hid (sR_any _ _ _ _ _ _)) w
  rw [if_neg k]; have f20 := k; clear k
  by_cases k : op = 21
  · subst k; exact lay_21 fn rd rs1 rs2 im _ e1 e2 size sgn word useImm csr _ _ (Lib.hid (width_any size)) (Lib.hid (sR_any _ _ _ _ _ _)) w
  rw [if_neg k]; have f21 := k; clear k
  by_cases k : op = 22
  · subst k
    rw [if_pos rfl]
    by_cases h1 : fn < 0
    · rw [if_pos (.inl h1)]; exact lay_22_lo fn rd rs1 rs2 im _ e1 e2 size sgn word useImm csr (0#32, 7) h1 w
    by_cases h2 : 31 < fn
    · rw [if_pos (.inr h2)]; exact lay_22_hi fn rd rs1 rs2 im _ e1 e2 size sgn word useImm csr (0#32, 7) h1 h2 w
    rw [if_neg (by omega)]
    exact lay_22 fn rd rs1 rs2 im _ e1 e2 size sgn word useImm csr _ h1 h2 (IntWalk.i64_in _ (by omega)) _ (Lib.hid (width_any size)) (Lib.hid (sR_any _ _ _ _ _ _)) w
  rw [if_neg k]
  exact lay_sys op fn rd rs1 rs2 im _ e1 e2 size sgn word useImm csr _ (by simpa using f1) (by simpa using f2) (by simpa using f3) (by simpa using f4) (by simpa using f5) (by simpa using f6) (by simpa using f7) (by simpa using f8) (by simpa using f9) (by simpa using f10) (by simpa using f20) (by simpa using f21) (by simpa using k) (Lib.hid hS) w
end Go.Proofs.Ytnhbekgmameeaaa
