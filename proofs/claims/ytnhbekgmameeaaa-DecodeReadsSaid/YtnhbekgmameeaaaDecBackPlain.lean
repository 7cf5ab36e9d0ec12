/- Plain lemmas: the instruction that a word is has a word, of the same bits or fewer, and it is that instruction's. -/
import Derived.Test.YtnhbekgmameeaaaDecLawsPlain
namespace Go.Proofs.Ytnhbekgmameeaaa
open Go.RowKit
set_option linter.unusedVariables false
set_option linter.unusedSimpArgs false
namespace Wd
theorem immI_nat (w : BitVec 32) (h : fieldI w 31 25 < 64) : (immP w psI 12).toNat = fieldI w 24 20 + 32 * fieldI w 31 25 := by
  have S := small_of w
  apply Nat.eq_of_testBit_eq
  intro i
  show (immP w psI 12).getLsbD i = _
  rw [Nat.add_comm, show (32 : Nat) = 2 ^ 5 from rfl, Nat.testBit_two_pow_mul_add _ S.rs2]
  by_cases h64 : i < 64
  · have e := immP_get w psI (by decide) 12 i (by omega) (by omega) h64
    rw [show ((12 : Nat) : Int) = 12 from rfl] at e
    rw [e]
    have sI : ∀ k, k < 12 → srcs psI k = [20 + k] := by decide
    rw [sI _ (by split <;> omega)]
    simp only [List.any_cons, List.any_nil, Bool.or_false]
    by_cases h5 : i < 5
    · rw [if_pos h5, if_pos (by omega), show fieldI w 24 20 = fieldI w ((24 : Nat) : Int) ((20 : Nat) : Int) from rfl, fieldI_bit _ _ _ _ (by omega) (by omega), decide_eq_true (by omega)]; rfl
    · rw [if_neg h5, show fieldI w 31 25 = fieldI w ((31 : Nat) : Int) ((25 : Nat) : Int) from rfl, fieldI_bit _ _ _ _ (by omega) (by omega)]
      by_cases h12 : i < 12
      · rw [if_pos h12, decide_eq_true (by omega), Bool.true_and]; congr 1; omega
      · rw [if_neg h12, decide_eq_false (by omega), Bool.false_and]
        have := fieldI_bit w 31 25 6 (by omega) (by omega)
        rw [show fieldI w ((31 : Nat) : Int) ((25 : Nat) : Int) = fieldI w 31 25 from rfl, hi_bit _ 6 6 (by omega) (by omega)] at this
        simpa using this.symm
  · rw [BitVec.getLsbD_of_ge _ _ (by omega), if_neg (by omega), hi_bit _ 7 (i - 5) S.f7 (by omega)]
theorem immI_int (w : BitVec 32) (h : fieldI w 31 25 < 64) : (immP w psI 12).toInt = ((fieldI w 24 20 + 32 * fieldI w 31 25 : Nat) : Int) := by
  have S := small_of w
  have e := immI_nat w h
  rw [BitVec.toInt_eq_toNat_of_lt (by rw [e]; have := S.rs2; omega), e]
theorem self_imm (w : BitVec 32) (ho : fieldI w 6 0 = 19 ∨ fieldI w 6 0 = 27) (hn : (immD w).op ≠ 0) : layC (immD w) = (w, 0) := by
  have A := again_I w
  have S := small_of w
  have hI := immI_int w
  have hN := immI_nat w
  have hb := by_int (immP w psI 12)
  have hopc : opcI (decide (fieldI w 6 0 = 27)) 19 = ((fieldI w 6 0 : Nat) : Int) := by
    rcases ho with h | h <;> rw [h] <;> rfl
  have hr2 := S.rs2
  unfold immD at hn ⊢
  unfold immN at hn ⊢
  split
  · rename_i c
    obtain ⟨c1, c2, c3⟩ := c
    simp only [layC, layImmC]
    simp only [hopc, hb]
    rw [hN (by omega)]
    rw [hI (by omega), c1] at A
    simp
    rw [if_neg (by omega)]
    rw [show ((fieldI w 24 20 : Nat) + 32 * (fieldI w 31 25 : Nat) : Int) % 64 = ((fieldI w 24 20 + 32 * fieldI w 31 25 : Nat) : Int) from by omega]
    exact A
  rename_i n1
  rw [if_neg n1] at hn
  split
  · rename_i c
    obtain ⟨c1, c2, c3⟩ := c
    simp only [layC, layImmC]
    simp only [hopc, hb]
    rw [hN (by omega)]
    rw [hI (by omega), c1] at A
    simp
    rw [if_neg (by omega)]
    rw [show ((fieldI w 24 20 : Nat) + 32 * (fieldI w 31 25 : Nat) : Int) % 64 = ((fieldI w 24 20 + 32 * fieldI w 31 25 : Nat) : Int) from by omega]
    exact A
  rename_i n2
  rw [if_neg n2] at hn
  split
  · rename_i c
    obtain ⟨c1, c2, c3⟩ := c
    simp only [layC, layImmC]
    simp only [hopc, hb]
    rw [hN (by omega)]
    rw [hI (by omega), c1] at A
    simp
    rw [if_neg (by omega)]
    rw [show ((fieldI w 24 20 : Nat) + 32 * (fieldI w 31 25 : Nat) : Int) % 64 + 1024 = ((fieldI w 24 20 + 32 * fieldI w 31 25 : Nat) : Int) from by omega]
    exact A
  rename_i n3
  rw [if_neg n3] at hn
  split
  · rename_i c
    rw [c] at A
    simp only [layC, layImmC]
    simp only [hopc]
    simp
    exact A
  rename_i n4
  rw [if_neg n4] at hn
  split
  · rename_i n5
    rw [if_pos n5] at hn
    exact absurd rfl hn
  · have a1 : ¬ (((fieldI w 14 12 : Nat) : Int) = 1 ∨ ((fieldI w 14 12 : Nat) : Int) = 5 ∨ ((fieldI w 14 12 : Nat) : Int) = 13) := by have := S.f3; omega
    have e1 : layC ⟨8, (fieldI w 14 12 : Nat), (fieldI w 11 7 : Nat), (fieldI w 19 15 : Nat), 0, immP w psI 12, 0, false, decide (fieldI w 6 0 = 27), false, 0⟩ = layImmC ⟨8, (fieldI w 14 12 : Nat), (fieldI w 11 7 : Nat), (fieldI w 19 15 : Nat), 0, immP w psI 12, 0, false, decide (fieldI w 6 0 = 27), false, 0⟩ := by simp [layC]
    rw [e1]
    unfold layImmC
    simp only [hopc]
    rw [if_neg a1]
    exact A
theorem self_reg (w : BitVec 32) (ho : fieldI w 6 0 = 51 ∨ fieldI w 6 0 = 59) (hn : (regD w).op ≠ 0) : layC (regD w) = (w, 0) := by
  have A := again_R w
  have S := small_of w
  have hopc : opcI (decide (fieldI w 6 0 = 59)) 51 = ((fieldI w 6 0 : Nat) : Int) := by
    rcases ho with h | h <;> rw [h] <;> rfl
  have h3 := S.f3
  unfold regD at hn ⊢
  unfold regN at hn ⊢
  split
  · rename_i c
    rw [c.1] at A
    simp only [layC]
    simp only [hopc]
    simp
    rw [if_neg (by omega), if_neg (by omega), if_neg (by omega)]
    exact A
  rename_i n1
  rw [if_neg n1] at hn
  split
  · rename_i c
    rw [c.1, c.2] at A
    simp only [layC]
    simp only [hopc]
    simp
    exact A
  rename_i n2
  rw [if_neg n2] at hn
  split
  · rename_i c
    rw [c.1, c.2] at A
    simp only [layC]
    simp only [hopc]
    simp
    exact A
  rename_i n3
  rw [if_neg n3] at hn
  split
  · rename_i c
    rw [c.1] at A
    simp only [layC]
    simp only [hopc]
    simp
    exact A
  · rename_i n4
    rw [if_neg n4] at hn
    exact absurd rfl hn
theorem eq_of_nat (w : BitVec 32) (n : Nat) (hn : n < 4294967296) (h : w.toNat = n) : w = BitVec.ofNat 32 n := BitVec.eq_of_toNat_eq (by rw [h, BitVec.toNat_ofNat, Nat.mod_eq_of_lt hn])
theorem self_sys (w : BitVec 32) (ho : fieldI w 6 0 = 115) (hn : (sysD w).op ≠ 0) : layC (sysD w) = (w, 0) := by
  have A := again_R w
  have S := small_of w
  have T := word_top w
  have h2 := S.rs2
  have h7 := S.f7
  have h3 := S.f3
  unfold sysD at hn ⊢
  unfold sysN at hn ⊢
  split
  · rename_i c
    rw [eq_of_nat w _ (by omega) c]
    rfl
  rename_i n1; rw [if_neg n1] at hn
  split
  · rename_i c
    rw [eq_of_nat w _ (by omega) c]
    rfl
  rename_i n2; rw [if_neg n2] at hn
  split
  · rename_i c
    rw [eq_of_nat w _ (by omega) c]
    rfl
  rename_i n3; rw [if_neg n3] at hn
  split
  · rename_i c
    rw [eq_of_nat w _ (by omega) c]
    rfl
  rename_i n4; rw [if_neg n4] at hn
  split
  · rename_i c
    rw [eq_of_nat w _ (by omega) c]
    rfl
  rename_i n5; rw [if_neg n5] at hn
  split
  · rename_i c
    simp only [layC, laySys, csrC]
    simp
    rw [ho] at A
    rw [if_neg (by omega)]
    have e1 : ((w.toNat : Int) / 1048576) % 32 = ((fieldI w 24 20 : Nat) : Int) := by omega
    have e2 : ((w.toNat : Int) / 1048576) / 32 = ((fieldI w 31 25 : Nat) : Int) := by omega
    rw [e1, e2]
    by_cases h4 : 4 ≤ fieldI w 14 12
    · rw [if_pos h4]
      have e : IntKind.i64.wrap (((fieldI w 14 12 : Nat) : Int) % 4 + 4) = ((fieldI w 14 12 : Nat) : Int) := by
        have := wrap_small (fieldI w 14 12 % 4) (by omega)
        rw [show ((fieldI w 14 12 % 4 : Nat) : Int) = ((fieldI w 14 12 : Nat) : Int) % 4 from by omega] at this
        rw [this]
        omega
      rw [e]
      exact A
    · rw [if_neg h4, show ((fieldI w 14 12 : Nat) : Int) % 4 = ((fieldI w 14 12 : Nat) : Int) from by omega]
      exact A
  rename_i n6; rw [if_neg n6] at hn
  split
  · rename_i c
    obtain ⟨c1, c2, c3⟩ := c
    rw [ho, c1, c2, c3] at A
    simp only [layC, laySys]
    simp
    exact A
  · rename_i n7
    rw [if_neg n7] at hn
    exact absurd rfl hn
def SelfOk (w : BitVec 32) (i : Ins) : Prop := i.op ≠ 0 → layC i = (w, 0)
theorem selfOk_of {w : BitVec 32} {i : Ins} (h : layC i = (w, 0)) : SelfOk w i := fun _ => h
theorem selfOk_no (w : BitVec 32) : SelfOk w noI := fun h => absurd rfl h
theorem self_load (w : BitVec 32) (c : fieldI w 6 0 = 3) (d : fieldI w 14 12 < 7) : layC ⟨6, 0, fieldI w 11 7, fieldI w 19 15, 0, immP w psI 12, sz (fieldI w 14 12 % 4), decide (fieldI w 14 12 < 4), false, false, 0⟩ = (w, 0) := by
  have A := again_I w
  rw [c] at A
  have e1 : layC ⟨6, 0, fieldI w 11 7, fieldI w 19 15, 0, immP w psI 12, sz (fieldI w 14 12 % 4), decide (fieldI w 14 12 < 4), false, false, 0⟩ = encI 3 (fieldI w 11 7 : Nat) (if decide (fieldI w 14 12 < 4) = true then widthI (sz (fieldI w 14 12 % 4)) else widthI (sz (fieldI w 14 12 % 4)) + 4) (fieldI w 19 15 : Nat) (immP w psI 12).toInt := rfl
  rw [e1, widthI_sz _ (Nat.mod_lt _ (by omega))]
  have e : (if decide (fieldI w 14 12 < 4) = true then ((fieldI w 14 12 % 4 : Nat) : Int) else ((fieldI w 14 12 % 4 : Nat) : Int) + 4) = ((fieldI w 14 12 : Nat) : Int) := by
    by_cases h4 : fieldI w 14 12 < 4
    · rw [decide_eq_true h4, if_pos rfl]; omega
    · rw [decide_eq_false h4, if_neg (by simp)]; omega
  rw [e]
  exact A
theorem self_store (w : BitVec 32) (c : fieldI w 6 0 = 35) (d : fieldI w 14 12 < 4) : layC ⟨7, 0, 0, fieldI w 19 15, fieldI w 24 20, immP w psS 12, sz (fieldI w 14 12), false, false, false, 0⟩ = (w, 0) := by
  have A := again_S w
  rw [c] at A
  have e1 : layC ⟨7, 0, 0, fieldI w 19 15, fieldI w 24 20, immP w psS 12, sz (fieldI w 14 12), false, false, false, 0⟩ = encS 35 (widthI (sz (fieldI w 14 12))) (fieldI w 19 15 : Nat) (fieldI w 24 20 : Nat) (immP w psS 12).toInt := rfl
  rw [e1, widthI_sz _ d]
  exact A
/-- Of most words the word is that word. -/
theorem self_upper (w : BitVec 32) (op n : Int) (im : BitVec 64) (h : op = 1 ∧ n = 55 ∨ op = 2 ∧ n = 23) : layC ⟨op, 0, fieldI w 11 7, 0, 0, im, 0, false, false, false, 0⟩ = encU n (fieldI w 11 7 : Nat) im.toInt := by
  rcases h with ⟨rfl, rfl⟩ | ⟨rfl, rfl⟩ <;> simp [layC]
theorem lay_self (w : BitVec 32) (h15 : fieldI w 6 0 ≠ 15) (h47 : fieldI w 6 0 ≠ 47) : SelfOk w (decW w) := by
  refine decW_ind (SelfOk w) w (selfOk_no w) ?_ ?_ ?_ ?_ ?_ (fun c d => selfOk_of (self_load w c d)) (fun c d => selfOk_of (self_store w c d)) (self_imm w) (self_reg w)
    (fun d _ => absurd d h15) (fun d _ => absurd d h15) (fun d => absurd d h47) (self_sys w)
  · intro c
    have A := again_U w
    rw [c] at A
    exact selfOk_of ((self_upper w 1 55 _ (by omega)).trans A)
  · intro c
    have A := again_U w
    rw [c] at A
    exact selfOk_of ((self_upper w 2 23 _ (by omega)).trans A)
  · intro c
    have A := again_J w
    rw [c] at A
    refine selfOk_of (Eq.trans ?_ A)
    simp [layC]
  · intro c d
    have A := again_I w
    rw [c, d] at A
    refine selfOk_of (Eq.trans ?_ A)
    simp [layC]
  · intro c _
    have A := again_B w
    rw [c] at A
    refine selfOk_of (Eq.trans ?_ A)
    simp [layC]
theorem sub_bits (v w : BitVec 32) (h : ∀ j, j < 32 → v.getLsbD j = true → w.getLsbD j = true) : v &&& ~~~w = 0#32 := by
  apply BitVec.eq_of_getLsbD_eq
  intro j hj
  rw [BitVec.getLsbD_and, BitVec.getLsbD_not, decide_eq_true hj]
  cases hv : v.getLsbD j with
  | false => simp
  | true => rw [h j hj hv]; simp
theorem low7 (w : BitVec 32) (j : Nat) (hj : j < 7) : w.getLsbD j = (fieldI w 6 0).testBit j := by
  have := pick_of w j (by omega)
  unfold pickW at this
  rw [if_pos hj] at this
  exact this.symm
theorem bit12 (w : BitVec 32) : w.getLsbD 12 = (fieldI w 14 12).testBit 0 := by
  have := pick_of w 12 (by omega)
  unfold pickW at this
  rw [if_neg (by omega), if_neg (by omega), if_pos (by omega)] at this
  exact this.symm
theorem dec_15 : decW 15#32 = opOnly 11 := (insB_iff _ _).1 (by decide +kernel)
theorem dec_100f : decW 0x100f#32 = opOnly 12 := (insB_iff _ _).1 (by decide +kernel)
theorem amo_back (w : BitVec 32) (h47 : fieldI w 6 0 = 47) (hn : (amoD w).op ≠ 0) :
    layC (amoD w) = (layW 47 (fieldI w 11 7 : Nat) (fieldI w 14 12 : Nat) (fieldI w 19 15 : Nat) (fieldI w 24 20 : Nat) ((fieldI w 31 25 / 4 * 4 : Nat) : Int), 0) := by
  have S := small_of w
  have h7 := S.f7
  have hx : encR 47 (fieldI w 11 7 : Nat) (fieldI w 14 12 : Nat) (fieldI w 19 15 : Nat) (fieldI w 24 20 : Nat) ((fieldI w 31 25 / 4 * 4 : Nat) : Int) = (layW 47 (fieldI w 11 7 : Nat) (fieldI w 14 12 : Nat) (fieldI w 19 15 : Nat) (fieldI w 24 20 : Nat) ((fieldI w 31 25 / 4 * 4 : Nat) : Int), 0) := by
    unfold encR
    refine encG_ok ?_ rfl rfl
    unfold okI regsB
    simp only [List.all_cons, List.all_nil, Bool.and_true]
    rw [show fitB 47 127 = true from by decide, show fitB ((fieldI w 11 7 : Nat) : Int) 31 = true from fit_nat _ 31 (by have := S.rd; omega), show fitB ((fieldI w 14 12 : Nat) : Int) 7 = true from fit_nat _ 7 (by have := S.f3; omega),
      show fitB ((fieldI w 19 15 : Nat) : Int) 31 = true from fit_nat _ 31 (by have := S.rs1; omega), show fitB ((fieldI w 24 20 : Nat) : Int) 31 = true from fit_nat _ 31 (by have := S.rs2; omega), show fitB ((fieldI w 31 25 / 4 * 4 : Nat) : Int) 127 = true from fit_nat _ 127 (by omega)]
    rfl
  unfold amoD at hn ⊢
  unfold amoN at hn ⊢
  split
  · rename_i a
    rw [if_pos a] at hn
    have hs : widthI (sz (fieldI w 14 12)) = ((fieldI w 14 12 : Nat) : Int) := widthI_sz _ (by omega)
    split
    · rename_i b
      rw [if_pos b] at hn
      split
      · rename_i c
        simp only [layC, hs]
        rw [b] at hx ⊢
        exact hx
      · rename_i c
        rw [if_neg c] at hn
        exact absurd rfl hn
    · rename_i b
      rw [if_neg b] at hn
      split
      · rename_i c
        simp only [layC, hs]
        rw [c] at hx ⊢
        exact hx
      · rename_i c
        rw [if_neg c] at hn
        split
        · simp only [layC, hs]
          simp
          rw [if_neg (by omega)]
          rw [show ((fieldI w 31 25 : Nat) : Int) / 4 * 4 = ((fieldI w 31 25 / 4 * 4 : Nat) : Int) from by omega]
          exact hx
        · rename_i d
          rw [if_neg d] at hn
          exact absurd rfl hn
  · rename_i a
    rw [if_neg a] at hn
    exact absurd rfl hn
theorem div4_bit (n i : Nat) (h : (n / 4 * 4).testBit i = true) : n.testBit i = true := by
  rw [Nat.mul_comm, show (4 : Nat) = 2 ^ 2 from rfl, Nat.testBit_two_pow_mul, Nat.testBit_div_two_pow] at h
  simp at h
  rw [← h.2]
  congr 1
  omega
/-- The instruction that a word is has a word. -/
theorem lay_back (w : BitVec 32) (hn : (decW w).op ≠ 0) : ∃ v, layC (decW w) = (v, 0) ∧ decW v = decW w ∧ v &&& ~~~w = 0#32 := by
  have S := small_of w
  by_cases h15 : fieldI w 6 0 = 15
  · have e : decW w = if fieldI w 14 12 = 0 then opOnly 11 else if fieldI w 14 12 = 1 then opOnly 12 else noI := by
      unfold decW
      rw [h15]
      rfl
    rw [e] at hn ⊢
    by_cases h0 : fieldI w 14 12 = 0
    · rw [if_pos h0]
      refine ⟨15#32, rfl, dec_15, sub_bits _ _ fun j hj hv => ?_⟩
      by_cases h7 : j < 7
      · rw [low7 w j h7, h15]
        exact hv
      · have : ∀ j, j < 32 → (15#32).getLsbD j = true → j < 7 := by decide
        exact absurd (this j hj hv) h7
    · rw [if_neg h0] at hn ⊢
      by_cases h1 : fieldI w 14 12 = 1
      · rw [if_pos h1]
        refine ⟨0x100f#32, ?_, dec_100f, sub_bits _ _ fun j hj hv => ?_⟩
        · simp only [layC, laySys, opOnly, fence_i]
          simp
        · have : ∀ j, j < 32 → (0x100f#32).getLsbD j = true → (j < 7 ∧ (15 : Nat).testBit j = true) ∨ j = 12 := by decide
          rcases this j hj hv with ⟨a, b⟩ | rfl
          · rw [low7 w j a, h15]
            exact b
          · rw [bit12, h1]
            rfl
      · rw [if_neg h1] at hn
        exact absurd rfl hn
  · by_cases h47 : fieldI w 6 0 = 47
    · have e : ∀ v, fieldI v 6 0 = 47 → decW v = amoD v := fun v hv => by
        unfold decW
        rw [hv]
        rfl
      rw [e w h47] at hn ⊢
      have h7 := S.f7
      have F := fields_lay 47 (fieldI w 11 7) (fieldI w 14 12) (fieldI w 19 15) (fieldI w 24 20) (fieldI w 31 25 / 4 * 4) (by omega) S.rd S.f3 S.rs1 S.rs2 (by omega)
      rw [show ((47 : Nat) : Int) = 47 from rfl] at F
      refine ⟨_, amo_back w h47 hn, ?_, sub_bits _ _ fun j hj hv => ?_⟩
      · rw [e _ F.op]
        unfold amoD
        rw [F.rd, F.f3, F.rs1, F.rs2, F.f7, Nat.mul_div_cancel _ (by omega)]
      · have p := layW_get 47 (fieldI w 11 7) (fieldI w 14 12) (fieldI w 19 15) (fieldI w 24 20) (fieldI w 31 25 / 4 * 4) j (by omega) S.rd S.f3 S.rs1 S.rs2 (by omega) hj
        rw [show ((47 : Nat) : Int) = 47 from rfl] at p
        rw [p] at hv
        rw [← pick_of w j hj, h47]
        unfold pickW at hv ⊢
        split at hv
        · rw [if_pos (by assumption)]; exact hv
        rw [if_neg (by assumption)]
        split at hv
        · rw [if_pos (by assumption)]; exact hv
        rw [if_neg (by assumption)]
        split at hv
        · rw [if_pos (by assumption)]; exact hv
        rw [if_neg (by assumption)]
        split at hv
        · rw [if_pos (by assumption)]; exact hv
        rw [if_neg (by assumption)]
        split at hv
        · rw [if_pos (by assumption)]; exact hv
        rw [if_neg (by assumption)]
        exact div4_bit _ _ hv
    · exact ⟨w, lay_self w h15 h47 hn, rfl, by simp⟩
end Wd
end Go.Proofs.Ytnhbekgmameeaaa
