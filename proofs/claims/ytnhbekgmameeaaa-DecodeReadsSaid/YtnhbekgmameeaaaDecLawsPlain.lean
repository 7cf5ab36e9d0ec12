/- Plain lemmas: both documents' words of an instruction are one; the instruction of a word has that word, but for bits that play no part. -/
import Derived.Test.YtnhbekgmameeaaaDecPlain
namespace Go.Proofs.Ytnhbekgmameeaaa
open Go.RowKit
set_option linter.unusedVariables false
set_option linter.unusedSimpArgs false
namespace Wd
theorem by_nat (x : BitVec 64) : (x &&& 63#64).toNat = x.toNat % 64 := by
  rw [BitVec.toNat_and]
  exact Nat.and_two_pow_sub_one_eq_mod _ 6
theorem by_int (x : BitVec 64) : (x &&& 63#64).toInt = ((x.toNat % 64 : Nat) : Int) := by
  have h := by_nat x
  have : x.toNat % 64 < 64 := Nat.mod_lt _ (by omega)
  rw [BitVec.toInt_eq_toNat_of_lt (by omega), h]
theorem csr_lay (rd f3 rs1 n : Nat) (h1 : rd < 2 ^ 5) (h2 : f3 < 2 ^ 3) (h3 : rs1 < 2 ^ 5) (h4 : n < 4096) :
    layW 115 (rd : Int) (f3 : Int) (rs1 : Int) ((n % 32 : Nat) : Int) ((n / 32 : Nat) : Int) = sct (layW 115 (rd : Int) (f3 : Int) (rs1 : Int) 0 0) 0 psI ||| BitVec.ofNat 32 n <<< 20 := by
  apply BitVec.eq_of_getLsbD_eq
  intro j hj
  have e1 := layW_get 115 rd f3 rs1 (n % 32) (n / 32) j (by omega) h1 h2 h3 (by omega) (by omega) hj
  have e2 := layW_get 115 rd f3 rs1 0 0 j (by omega) h1 h2 h3 (by omega) (by omega) hj
  rw [show ((115 : Nat) : Int) = 115 from rfl] at e1 e2
  rw [show ((0 : Nat) : Int) = 0 from rfl] at e2
  rw [e1, BitVec.getLsbD_or, sct_get _ _ _ (by decide) _ hj, BitVec.getLsbD_shiftLeft, BitVec.getLsbD_ofNat]
  unfold psI
  simp only [List.filterMap_cons, List.filterMap_nil, dstP]
  by_cases hh : 20 ≤ j
  · rw [if_pos (show 20 ≤ j ∧ j ≤ 31 by omega)]
    unfold lastBit pickW
    simp only [List.getLast?_singleton]
    rw [if_neg (by omega), if_neg (by omega), if_neg (by omega), if_neg (by omega), show decide (j < 32) = true from decide_eq_true hj, show decide (j < 20) = false from decide_eq_false (by omega), show decide (j - 20 < 32) = true from decide_eq_true (by omega)]
    have z : (BitVec.ofInt 64 0).getLsbD (0 + (j - 20)) = false := by simp
    rw [z]
    simp only [Bool.false_or, Bool.true_and, Bool.not_false]
    split
    · rw [show (32 : Nat) = 2 ^ 5 from rfl, Nat.testBit_mod_two_pow, decide_eq_true (by omega)]; rfl
    · rw [show (32 : Nat) = 2 ^ 5 from rfl, Nat.testBit_div_two_pow]; congr 1; omega
  · rw [if_neg (show ¬ (20 ≤ j ∧ j ≤ 31) by omega)]
    unfold lastBit
    simp only [List.getLast?_nil]
    rw [W64_get, e2, show decide (j < 20) = true from decide_eq_true (by omega)]
    simp only [Bool.not_true, Bool.and_false, Bool.false_and, Bool.or_false]
    unfold pickW
    split
    · rfl
    split
    · rfl
    split
    · rfl
    split
    · rfl
    · omega
theorem csr_enc (rd f3 rs1 n : Nat) (h1 : rd < 2 ^ 5) (h2 : f3 < 2 ^ 3) (h3 : rs1 < 2 ^ 5) (h4 : n < 4096) :
    encR 115 (rd : Int) (f3 : Int) (rs1 : Int) ((n : Int) % 32) ((n : Int) / 32) = ((encI 115 (rd : Int) (f3 : Int) (rs1 : Int) 0).1 ||| BitVec.ofNat 32 n <<< 20, (encI 115 (rd : Int) (f3 : Int) (rs1 : Int) 0).2) := by
  have hI : encI 115 (rd : Int) (f3 : Int) (rs1 : Int) 0 = (sct (layW 115 (rd : Int) (f3 : Int) (rs1 : Int) 0 0) 0 psI, 0) :=
    encG_ok (ok_two 115 f3 rd rs1 (by omega) h2 h1 h3) (near_of (by omega) (by omega) (Int.tmod_one _)) rfl
  rw [hI]
  have hR := csr_lay rd f3 rs1 n h1 h2 h3 h4
  show _ = (_, 0)
  rw [← hR]
  unfold encR
  refine encG_ok ?_ rfl ?_
  · unfold okI regsB
    simp only [List.all_cons, List.all_nil, Bool.and_true]
    rw [show fitB 115 127 = true from by decide, show fitB (rd : Int) 31 = true from fit_nat _ 31 (by omega), show fitB (rs1 : Int) 31 = true from fit_nat _ 31 (by omega), show fitB (f3 : Int) 7 = true from fit_nat _ 7 (by omega),
      show fitB ((n : Int) % 32) 31 = true from (fit_iff _ _).2 (by omega), show fitB ((n : Int) / 32) 127 = true from (fit_iff _ _).2 (by omega)]
    rfl
  · rw [show ((n % 32 : Nat) : Int) = (n : Int) % 32 from by omega, show ((n / 32 : Nat) : Int) = (n : Int) / 32 from by omega]
theorem and7_lt (n : Nat) (h : n < 14) : and7 (n : Int) = if n < 8 then (n : Int) else (n : Int) - 8 := by
  have : ∀ k : Nat, k < 14 → and7 (k : Int) = if k < 8 then (k : Int) else (k : Int) - 8 := by decide +kernel
  exact this n h
theorem word_top (w : BitVec 32) : w.toNat / 1048576 = fieldI w 24 20 + 32 * fieldI w 31 25 := by
  have := w.isLt
  have h : w.toNat / 1048576 < 4096 := by omega
  apply Nat.eq_of_testBit_eq
  intro i
  have S := small_of w
  rw [show (1048576 : Nat) = 2 ^ 20 from rfl, Nat.testBit_div_two_pow, show fieldI w 24 20 + 32 * fieldI w 31 25 = 2 ^ 5 * fieldI w 31 25 + fieldI w 24 20 from by omega, Nat.testBit_two_pow_mul_add _ S.rs2]
  show w.getLsbD _ = _
  split
  · rw [show fieldI w 24 20 = fieldI w ((24 : Nat) : Int) ((20 : Nat) : Int) from rfl, fieldI_bit _ _ _ _ (by omega) (by omega), decide_eq_true (by omega), Bool.true_and, Nat.add_comm]
  · rw [show fieldI w 31 25 = fieldI w ((31 : Nat) : Int) ((25 : Nat) : Int) from rfl, fieldI_bit _ _ _ _ (by omega) (by omega)]
    by_cases hi : i < 12
    · rw [decide_eq_true (by omega), Bool.true_and]; congr 1; omega
    · rw [decide_eq_false (by omega), Bool.false_and, BitVec.getLsbD_of_ge _ _ (by omega)]
/-- What a shift's word is. -/
structure Cut (w : BitVec 32) (i : Ins) : Prop where
  op : i.op ≠ 0
theorem widthI_sz (n : Nat) (h : n < 4) : widthI (sz n) = n := by
  match n, h with
  | 0, _ => rfl
  | 1, _ => rfl
  | 2, _ => rfl
  | 3, _ => rfl
theorem opcI_t (n : Int) : opcI true n = n + 8 := rfl
theorem opcI_f (n : Int) : opcI false n = n := rfl
theorem lay_imm (W : Bool) (f3 f7 rd rs1 : Nat) (imm : BitVec 64) (h3 : f3 < 8) (hn : (immN W f3 f7 rd rs1 imm (imm &&& 63#64)).op ≠ 0) :
    layC (immN W f3 f7 rd rs1 imm (imm &&& 63#64)) = wordR (immN W f3 f7 rd rs1 imm (imm &&& 63#64)) := by
  have hb := by_int imm
  have hc := by_nat imm
  have hm : imm.toNat % 64 < 64 := Nat.mod_lt _ (by omega)
  unfold immN at hn ⊢
  split
  · simp only [layC, wordR, layImmC, immWordR]
    rw [hb, hc]
    simp only [show and7 1 = 1 from by decide +kernel]
    simp
    rw [if_neg (by omega), if_neg (by omega)]
  rename_i n1
  rw [if_neg n1] at hn
  split
  · simp only [layC, wordR, layImmC, immWordR]
    rw [hb, hc]
    simp only [show and7 5 = 5 from by decide +kernel]
    simp
    rw [if_neg (by omega), if_neg (by omega)]
  rename_i n2
  rw [if_neg n2] at hn
  split
  · simp only [layC, wordR, layImmC, immWordR]
    rw [hb, hc]
    simp only [show and7 13 = 5 from by decide +kernel]
    simp
    rw [if_neg (by omega), if_neg (by omega)]
  rename_i n3
  rw [if_neg n3] at hn
  split
  · simp [layC, wordR, layImmC, immWordR]
  rename_i n4
  rw [if_neg n4] at hn
  split
  · rename_i n5
    rw [if_pos n5] at hn
    exact absurd rfl hn
  · rename_i n5
    have a1 : ¬ ((f3 : Int) = 1 ∨ (f3 : Int) = 5 ∨ (f3 : Int) = 13) := by omega
    simp only [layC, wordR, layImmC, immWordR]
    simp [a1]
theorem lay_reg (W : Bool) (f3 f7 rd rs1 rs2 : Nat) (h3 : f3 < 8) (hn : (regN W f3 f7 rd rs1 rs2).op ≠ 0) : layC (regN W f3 f7 rd rs1 rs2) = wordR (regN W f3 f7 rd rs1 rs2) := by
  have ha : and7 (f3 : Int) = f3 := by rw [and7_lt f3 (by omega), if_pos h3]
  unfold regN at hn ⊢
  split
  · simp only [layC, wordR, ha]
    simp
    rw [if_neg (by omega), if_neg (by omega), if_neg (by omega), if_neg (by omega)]
  rename_i n1
  rw [if_neg n1] at hn
  split
  · simp only [layC, wordR, show and7 8 = 0 from by decide +kernel]
    simp
  rename_i n2
  rw [if_neg n2] at hn
  split
  · simp only [layC, wordR, show and7 13 = 5 from by decide +kernel]
    simp
  rename_i n3
  rw [if_neg n3] at hn
  split
  · simp only [layC, wordR, ha]
    simp
  · rename_i n4
    rw [if_neg n4] at hn
    exact absurd rfl hn
theorem lay_amo (f3 f5 rd rs1 rs2 : Nat) (hn : (amoN f3 f5 rd rs1 rs2).op ≠ 0) : layC (amoN f3 f5 rd rs1 rs2) = wordR (amoN f3 f5 rd rs1 rs2) := by
  unfold amoN at hn ⊢
  split
  · rename_i a
    rw [if_pos a] at hn
    split
    · rename_i b
      rw [if_pos b] at hn
      split
      · rename_i c
        subst c
        simp [layC, wordR]
      · rename_i c
        rw [if_neg c] at hn
        exact absurd rfl hn
    · rename_i b
      rw [if_neg b] at hn
      split
      · simp [layC, wordR]
      · rename_i c
        rw [if_neg c] at hn
        split
        · simp [layC, wordR]
        · rename_i d
          rw [if_neg d] at hn
          exact absurd rfl hn
  · rename_i a
    rw [if_neg a] at hn
    exact absurd rfl hn
theorem wrap_small (n : Nat) (h : n < 8) : IntKind.i64.wrap ((n : Int) + 4) = (n : Int) + 4 := by
  have : ∀ k : Nat, k < 8 → IntKind.i64.wrap ((k : Int) + 4) = (k : Int) + 4 := by decide +kernel
  exact this n h
theorem lay_only (op : Int) (h : op = 11 ∨ 13 ≤ op ∧ op ≤ 17) : layC (opOnly op) = wordR (opOnly op) := by
  have : op = 11 ∨ op = 13 ∨ op = 14 ∨ op = 15 ∨ op = 16 ∨ op = 17 := by omega
  rcases this with rfl | rfl | rfl | rfl | rfl | rfl <;> simp [layC, wordR, laySys, opOnly]
theorem csr_one (q f3 rd rs1 : Nat) (u : Bool) (hu : u = decide (4 ≤ f3)) (hq : q < 4096) (h0 : f3 % 4 ≠ 0) (h1 : rd < 2 ^ 5) (h2 : f3 < 2 ^ 3) (h3 : rs1 < 2 ^ 5) :
    csrC ⟨19, (f3 % 4 : Nat), rd, rs1, 0, 0#64, 0, false, false, u, (q : Nat)⟩ = csrR ⟨19, (f3 % 4 : Nat), rd, rs1, 0, 0#64, 0, false, false, u, (q : Nat)⟩ := by
  have key := csr_enc rd f3 rs1 q h1 h2 h3 hq
  have e1 : (if u = true then IntKind.i64.wrap (((f3 % 4 : Nat) : Int) + 4) else ((f3 % 4 : Nat) : Int)) = (f3 : Int) := by
    rw [wrap_small (f3 % 4) (by omega), hu]
    by_cases h4 : 4 ≤ f3
    · rw [if_pos (decide_eq_true h4)]; omega
    · rw [if_neg (by simpa using h4)]; omega
  have e2 : (if u = true then ((f3 % 4 : Nat) : Int) + 4 else ((f3 % 4 : Nat) : Int)) = (f3 : Int) := by
    rw [hu]
    by_cases h4 : 4 ≤ f3
    · rw [if_pos (decide_eq_true h4)]; omega
    · rw [if_neg (by simpa using h4)]; omega
  unfold csrC csrR
  simp only
  rw [e1, e2, key, if_neg (by omega), if_neg (by omega), Int.toNat_natCast]
theorem lay_sys (n f3 f7 rd rs1 rs2 : Nat) (hn32 : n < 4294967296) (h1 : rd < 2 ^ 5) (h2 : f3 < 2 ^ 3) (h3 : rs1 < 2 ^ 5) : layC (sysN n f3 f7 rd rs1 rs2) = wordR (sysN n f3 f7 rd rs1 rs2) := by
  unfold sysN
  split
  · exact lay_only 13 (by omega)
  split
  · exact lay_only 14 (by omega)
  split
  · exact lay_only 16 (by omega)
  split
  · exact lay_only 15 (by omega)
  split
  · exact lay_only 17 (by omega)
  split
  · rename_i n5 n6
    have hq : n / 1048576 < 4096 := by omega
    have := csr_one (n / 1048576) f3 rd rs1 (decide (4 ≤ f3)) rfl hq n6 h1 h2 h3
    rw [show layC ⟨19, (f3 % 4 : Nat), rd, rs1, 0, 0#64, 0, false, false, decide (4 ≤ f3), (n / 1048576 : Nat)⟩ = csrC ⟨19, (f3 % 4 : Nat), rd, rs1, 0, 0#64, 0, false, false, decide (4 ≤ f3), (n / 1048576 : Nat)⟩ from by simp [layC, laySys]]
    rw [show wordR ⟨19, (f3 % 4 : Nat), rd, rs1, 0, 0#64, 0, false, false, decide (4 ≤ f3), (n / 1048576 : Nat)⟩ = csrR ⟨19, (f3 % 4 : Nat), rd, rs1, 0, 0#64, 0, false, false, decide (4 ≤ f3), (n / 1048576 : Nat)⟩ from by simp [wordR]]
    exact this
  split
  · simp [layC, wordR, laySys]
  · simp [layC, wordR, laySys, noI]
theorem lay_load (f3 rd rs1 : Nat) (im : BitVec 64) (h : f3 < 7) : layC ⟨6, 0, rd, rs1, 0, im, sz (f3 % 4), decide (f3 < 4), false, false, 0⟩ = wordR ⟨6, 0, rd, rs1, 0, im, sz (f3 % 4), decide (f3 < 4), false, false, 0⟩ := by
  have e1 : layC ⟨6, 0, rd, rs1, 0, im, sz (f3 % 4), decide (f3 < 4), false, false, 0⟩ = encI 3 rd (if decide (f3 < 4) = true then widthI (sz (f3 % 4)) else widthI (sz (f3 % 4)) + 4) rs1 im.toInt := rfl
  have e2 : wordR ⟨6, 0, rd, rs1, 0, im, sz (f3 % 4), decide (f3 < 4), false, false, 0⟩ = encI 3 rd (if decide (f3 < 4) = false ∧ 0 ≤ widthI (sz (f3 % 4)) then widthI (sz (f3 % 4)) + 4 else widthI (sz (f3 % 4))) rs1 im.toInt := rfl
  rw [e1, e2, widthI_sz _ (Nat.mod_lt _ (by omega))]
  by_cases h4 : f3 < 4
  · rw [decide_eq_true h4, if_pos rfl, if_neg (by simp)]
  · rw [decide_eq_false h4, if_neg (by simp), if_pos ⟨rfl, by omega⟩]
theorem fence_i : encI 15 0 1 0 0 = (0x100f#32, 0) := by decide +kernel
theorem lay_fence : layC (opOnly 12) = wordR (opOnly 12) := fence_i
def LayOk (i : Ins) : Prop := i.op ≠ 0 → layC i = wordR i
theorem layOk_of {i : Ins} (h : layC i = wordR i) : LayOk i := fun _ => h
theorem layOk_no : LayOk noI := fun h => absurd rfl h
theorem lay_upper (op rd : Int) (im : BitVec 64) (h : op = 1 ∨ op = 2 ∨ op = 3) : layC ⟨op, 0, rd, 0, 0, im, 0, false, false, false, 0⟩ = wordR ⟨op, 0, rd, 0, 0, im, 0, false, false, false, 0⟩ := by
  rcases h with rfl | rfl | rfl <;> simp [layC, wordR]
/-- The code's word, and the document's, of an instruction that a word is. -/
theorem lay_same (w : BitVec 32) : LayOk (decW w) := by
  have S := small_of w
  exact decW_ind LayOk w layOk_no (fun _ => layOk_of (lay_upper _ _ _ (by omega))) (fun _ => layOk_of (lay_upper _ _ _ (by omega))) (fun _ => layOk_of (lay_upper _ _ _ (by omega)))
    (fun _ _ => layOk_of (by simp [layC, wordR])) (fun _ _ => layOk_of (by simp [layC, wordR])) (fun _ d => layOk_of (lay_load _ _ _ _ d)) (fun _ _ => layOk_of (by simp [layC, wordR]))
    (fun _ hn => lay_imm _ _ _ _ _ _ S.f3 hn) (fun _ hn => lay_reg _ _ _ _ _ _ S.f3 hn) (fun _ _ => layOk_of (lay_only 11 (by omega))) (fun _ _ => layOk_of lay_fence) (fun _ hn => lay_amo _ _ _ _ _ hn)
    (fun _ => layOk_of (lay_sys _ _ _ _ _ _ w.isLt S.rd S.f3 S.rs1))
theorem enc_same (i : Ins) : encF layC i = encF wordR i := encF_same _ _ lay_same i
end Wd
end Go.Proofs.Ytnhbekgmameeaaa
