/- The law DecodeNone, walked: each call answers true. -/
import Derived.Test.YtnhbekgmameeaaaDecLaws
namespace Go.Proofs.Ytnhbekgmameeaaa
open Go.RowKit Wd
set_option linter.unusedVariables false
set_option linter.unusedSimpArgs false
attribute [local go_sem] loadI_lit storeI_lit rowI_alloc rowI_drew rowI_setRow rowI_setCell setRow_allocI loadI_ins storeI_ins
attribute [local go_sem ↓] loadI_run storeI_run' eq_ins eq_ins0
set_option maxRecDepth 100000
theorem low_two (v : BitVec 32) (h : fieldI v 6 0 % 4 = 3) : bits .and .u32 (v.toNat : Int) 3 = 3 := by
  rw [and32, of32]
  have e : (v &&& BitVec.ofInt 32 3).toNat = 3 := by
    rw [BitVec.toNat_and]
    show v.toNat &&& 3 = 3
    rw [show v.toNat &&& 3 = v.toNat % 4 from Nat.and_two_pow_sub_one_eq_mod _ 2]
    rw [← h]
    apply Nat.eq_of_testBit_eq
    intro i
    rw [show (4 : Nat) = 2 ^ 2 from rfl, Nat.testBit_mod_two_pow, Nat.testBit_mod_two_pow]
    by_cases hi : i < 2
    · have := low7 v i (by omega)
      rw [← this]
      rfl
    · rw [decide_eq_false hi]
      rfl
  rw [e]
  rfl
/-- An instruction's cells, one by one, in each world in which at most new memory was made. -/
theorem late_ins {w : World} {b : Nat} {op fn rd rs1 rs2 size csr : Int} {im : BitVec 64} {sgn word useImm : Bool} (h : rowI w b = some (insC ⟨op, fn, rd, rs1, rs2, im, size, sgn, word, useImm, csr⟩)) :
    (∀ g : Late w, rowI g.is b = some (insC ⟨op, fn, rd, rs1, rs2, im, size, sgn, word, useImm, csr⟩)) ∧ (∀ g : Late w, g.is.cell? ⟨b, 0, none⟩ = some (.int .i64 op)) ∧ (∀ g : Late w, g.is.cell? ⟨b, 2, none⟩ = some (.int .i64 rd)) ∧ (∀ g : Late w, g.is.cell? ⟨b, 3, none⟩ = some (.int .i64 rs1)) ∧ (∀ g : Late w, g.is.cell? ⟨b, 4, none⟩ = some (.int .i64 rs2)) ∧ (∀ g : Late w, g.is.cell? ⟨b, 6, none⟩ = some (.int .i64 size)) := by
  obtain ⟨a, c⟩ := late_row h
  exact ⟨a, fun g => c g 0, fun g => c g 2, fun g => c g 3, fun g => c g 4, fun g => c g 6⟩
set_option maxHeartbeats 8000000 in
theorem decodeNone_walk (a : Int) (wa : (Lit.int .u32 a).wf = true) (w : World) :
    Calls Try.prog 7 #[.int .u32 a] w fun e w' => e = .returned (.bool true) ∧ Below w.heap.size w w' := by
  obtain ⟨v, rfl⟩ := u32_bv wa
  clear wa
  obtain ⟨i, hi⟩ : ∃ i, i = decW v := ⟨_, rfl⟩
  have N : NoneOk v i := by rw [hi]; exact none_ok v
  have M : i.op ≠ 0 → bits .and .u32 (v.toNat : Int) 3 = 3 := fun h => low_two v (op_mod v (by rw [← hi]; exact h))
  have F : i.op = 0 → insB i noI = true := fun h => by
    have G := form_of v
    rw [← hi] at G
    cases G with
    | none => rfl
    | upper op im k => simp at h; omega
    | reg op fn W k => simp at h; omega
    | only op k => simp [opOnly] at h; omega
    | _ => simp at h
  have cD : Mk Try.prog 40 #[.int .u32 (v.toNat : Int)] (.agg (insC i)) := by rw [hi]; exact decode_any v
  replace cD := Lib.hid cD
  clear hi
  replace N := Lib.hid N
  replace M := Lib.hid M
  replace F := Lib.hid F
  go_enter Try.func7, Try.ntmps7
  go_wp2_with fail
  refine (cD.out _).mono ?_
  rintro e w1 ⟨rfl, hb1⟩
  replace hb1 := Lib.hid hb1
  go_wp2_with fail
  refine (awake_any _).mono ?_
  rintro e w2 ⟨rfl, hb2⟩
  have r0 : rowI (w1.alloc (.cells (insC i) 44)) w1.heap.size = some (insC i) := by rw [rowI_alloc, if_pos rfl, if_pos rfl]
  have r2 := rowI_below r0 hb2
  have B2 := Lib.hid (hb1.out.trans ((below_alloc hb2).mono hb1.out.size))
  clear hb1 hb2 r0 cD
  obtain ⟨op, fn, rd, rs1, rs2, im, size, sgn, word, useImm, csr⟩ := i
  obtain ⟨lr, l0, l2, l3, l4, l6⟩ := late_ins r2
  have c0 : w2.cell? ⟨w1.heap.size, 0, none⟩ = some (.int .i64 op) := cell_of_row _ _ 0 _ _ (0, 0) (rowI_heap r2)
  have c6 : w2.cell? ⟨w1.heap.size, 6, none⟩ = some (.int .i64 size) := cell_of_row _ _ 6 _ _ (0, 0) (rowI_heap r2)
  by_cases h0 : op = 0
  · have hf := F.out h0
    subst h0
    clear l0 l2 l3 l4 l6 lr N M F
    go_wp2_with fail
    refine (awake_any _).mono ?_
    rintro e w3 ⟨rfl, hb3⟩
    have r3 := rowI_below r2 hb3
    have B3 := Lib.hid (B2.out.trans (hb3.mono B2.out.size))
    clear hb3 r2 c0 c6
    go_wp2_with fail
    go_ret
    exact ⟨rfl, B3.out⟩
  · have f0 : (op == 0) = false := by simpa using h0
    have m3 := M.out h0
    have hm : ((decide (0 < size)) == memB op) = true := by have := N.out.mem; simp only at this; rw [this]; simp
    have d1 := N.out.rd0
    have d2 := N.out.rd1
    have d3 := N.out.a0
    have d4 := N.out.a1
    have d5 := N.out.b0
    have d6 := N.out.b1
    have d7 : 0 < op := by have := N.out.op0; simp only at this; omega
    have d8 := N.out.op1
    have hs : size = 0 ∨ size = 1 ∨ size = 2 ∨ size = 4 ∨ size = 8 := by
      have := N.out.size
      unfold sizeB at this
      simp at this
      omega
    simp only at d1 d2 d3 d4 d5 d6 d8
    have cM := Lib.hid (memory_any ⟨op, fn, rd, rs1, rs2, im, size, sgn, word, useImm, csr⟩)
    clear h0 N M F
    rcases hs with rfl | rfl | rfl | rfl | rfl
    all_goals
      simp at hm
      have cN := cM.out
      rw [show (⟨op, fn, rd, rs1, rs2, im, _, sgn, word, useImm, csr⟩ : Ins).op = op from rfl, hm] at cN
      replace cN := Lib.hid cN
      clear cM hm
      go_wp2_with fail
      refine wp_region_late (by kernel_rfl) (lexB_of_fast _ (by kernel_rfl)) (Below.refl _ _) ?_
      repeat (first | go_big_quiet_step ((go_at_call 42; exact (cN.out).late)) | (refine skip_same rfl (by kernel_rfl) (by kernel_rfl) ?_))
      refine wpQuiet_nil ?_
      rintro w3 ⟨b1, rfl⟩
      go_wp2_with fail
      go_ret
      exact ⟨rfl, B2.out.trans (b1.below.mono B2.out.size)⟩
end Go.Proofs.Ytnhbekgmameeaaa
