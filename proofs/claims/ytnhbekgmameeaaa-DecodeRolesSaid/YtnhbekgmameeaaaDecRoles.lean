/- Contract: package decode's Reads; the law DecodeRoles, walked: each call answers true. -/
import Derived.Test.YtnhbekgmameeaaaReadsP
import Derived.Test.YtnhbekgmameeaaaEncodeP
import Derived.Test.YtnhbekgmameeaaaDecAwake
namespace Go.Proofs.Ytnhbekgmameeaaa
open Go.RowKit Wd
set_option linter.unusedVariables false
set_option linter.unusedSimpArgs false
attribute [local go_sem] loadI_lit storeI_lit rowI_alloc rowI_drew rowI_setRow rowI_setCell setRow_allocI loadI_ins storeI_ins
attribute [local go_sem ↓] loadI_run storeI_run' eq_ins
set_option maxRecDepth 20000
theorem reads_any (i : Ins) : Mk Try.prog 45 #[.agg (insC i)] (.agg (rdsC (readsC i))) := by
  intro w
  have cE := pEncode_any i
  obtain ⟨v, e, hr⟩ : ∃ v e, encF layC i = (v, e) := ⟨_, _, rfl⟩
  unfold encV at cE
  rw [hr] at cE
  have hR : readsC i = if e = 0 then readsD i else noR := by unfold readsC; rw [hr]
  clear hr
  obtain ⟨op, fn, rd, rs1, rs2, im, size, sgn, word, useImm, csr⟩ := i
  by_cases h0 : e = 0
  · subst h0
    rw [hR, if_pos rfl]
    unfold readsD whenI
    simp only
    by_cases hz : rd = 0
    · subst hz
      rw [if_pos rfl]
      by_cases k : op = 6
      · subst k; exact reads_6_z fn rs1 rs2 im size sgn word useImm csr v (Lib.hid cE) w
      have f6 := k; clear k
      by_cases k : op = 20
      · subst k; exact reads_20_z fn rs1 rs2 im size sgn word useImm csr v (Lib.hid cE) w
      have f20 := k; clear k
      by_cases k : op = 21
      · subst k; exact reads_21_z fn rs1 rs2 im size sgn word useImm csr v (Lib.hid cE) w
      have f21 := k; clear k
      by_cases k : op = 22
      · subst k; exact reads_22_z fn rs1 rs2 im size sgn word useImm csr v (Lib.hid cE) w
      have f22 := k; clear k
      by_cases k : op = 19
      · subst k
        cases useImm
        · exact reads_19_false_z fn rs1 rs2 im size sgn word csr v (Lib.hid cE) w
        · exact reads_19_true_z fn rs1 rs2 im size sgn word csr v (Lib.hid cE) w
      rw [if_neg (fun a => k a.1)]
      exact reads_no_z op fn rs1 rs2 im size sgn word useImm csr v (Lib.hid cE) (by simpa using f6) (by simpa using f20) (by simpa using f21) (by simpa using f22) (by simpa using k) w
    · have z1 : (rd == 0) = false := by simpa using hz
      have z2 : (rd != 0) = true := by simpa using hz
      rw [if_neg hz]
      by_cases k : op = 6
      · subst k; exact reads_6 fn rd rs1 rs2 im size sgn word useImm csr v (Lib.hid cE) z1 z2 w
      have f6 := k; clear k
      by_cases k : op = 20
      · subst k; exact reads_20 fn rd rs1 rs2 im size sgn word useImm csr v (Lib.hid cE) z1 z2 w
      have f20 := k; clear k
      by_cases k : op = 21
      · subst k; exact reads_21 fn rd rs1 rs2 im size sgn word useImm csr v (Lib.hid cE) z1 z2 w
      have f21 := k; clear k
      by_cases k : op = 22
      · subst k; exact reads_22 fn rd rs1 rs2 im size sgn word useImm csr v (Lib.hid cE) z1 z2 w
      have f22 := k; clear k
      by_cases k : op = 19
      · subst k
        cases useImm
        · exact reads_19_false fn rd rs1 rs2 im size sgn word csr v (Lib.hid cE) z1 z2 w
        · exact reads_19_true fn rd rs1 rs2 im size sgn word csr v (Lib.hid cE) z1 z2 w
      have hl : lateB op = false := by unfold lateB; rw [decide_eq_false f6, decide_eq_false f20, decide_eq_false f21, decide_eq_false f22, decide_eq_false k]; rfl
      rw [if_neg (fun a => k a.1), hl, if_neg (by simp)]
      exact reads_no op fn rd rs1 rs2 im size sgn word useImm csr v (Lib.hid cE) (by simpa using f6) (by simpa using f20) (by simpa using f21) (by simpa using f22) (by simpa using k) z1 z2 w
  · rw [hR, if_neg h0]
    exact reads_err op fn rd rs1 rs2 im size sgn word useImm csr v e (Lib.hid cE) (by simpa using h0) w
theorem nat_fld (n k i : Nat) (h : i < 5) : (n / 2 ^ k % 2 ^ 5).testBit i = n.testBit (k + i) := by
  rw [Nat.testBit_mod_two_pow, decide_eq_true h, Nat.testBit_div_two_pow, Nat.add_comm]
  rfl
/-- A field of a word, as the law asks for it. -/
theorem field_15 (v : BitVec 32) : fieldI v 19 15 = v.toNat / 32768 % 32 :=
  fieldI_eq v 19 15 _ (by omega) (by omega) (by omega) fun i hi => (nat_fld v.toNat 15 i (by omega)).symm
theorem field_20 (v : BitVec 32) : fieldI v 24 20 = v.toNat / 1048576 % 32 :=
  fieldI_eq v 24 20 _ (by omega) (by omega) (by omega) fun i hi => (nat_fld v.toNat 20 i (by omega)).symm
theorem field_7 (v : BitVec 32) : fieldI v 11 7 = v.toNat / 128 % 32 :=
  fieldI_eq v 11 7 _ (by omega) (by omega) (by omega) fun i hi => (nat_fld v.toNat 7 i (by omega)).symm
theorem rd_cell {w : World} {b0 : Nat} {a b c d : Value} (h : rowR w b0 = some #[a, b, c, d]) : w.cell? ⟨b0, 2, none⟩ = some c := cell_of_row _ _ 2 _ _ (0, 0) (rowR_heap h)
theorem op_cell {w : World} {b : Nat} {i : Ins} {op : Int} (h : rowI w b = some (insC i)) (ho : i.op = op) : w.cell? ⟨b, 0, none⟩ = some (.int .i64 op) := by
  subst ho
  exact cell_of_row _ _ 0 _ _ (0, 0) (rowI_heap h)
set_option maxHeartbeats 8000000 in
theorem roles_at (v : BitVec 32) (op r1 r2 rd k : Int) (i : Ins) (hop : i.op = op)
    (P1 : r1 = 0 ∨ ((r1 != 0) = true ∧ (r1 != wrap64 (bits .and .u32 ((v.toNat : Int) / 32768) 31)) = false)) (P2 : r2 = 0 ∨ ((r2 != 0) = true ∧ (r2 != wrap64 (bits .and .u32 ((v.toNat : Int) / 1048576) 31)) = false))
    (P3 : (rd = 0 ∧ k = 0) ∨ ((0 < rd ∧ 0 < k ∧ k ≤ 2 ∧ (rd != 0) = true ∧ (rd != wrap64 (bits .and .u32 ((v.toNat : Int) / 128) 31)) = false) ∧ (op == 7) = false ∧ (op == 5) = false ∧ (serB op = false ∨ (serB op = true ∧ op = 19))))
    (cS : Hid (Mk Try.prog 46 #[.agg (insC i)] (.bool (serB op)))) (cD : Hid (Mk Try.prog 40 #[.int .u32 (v.toNat : Int)] (.agg (insC i)))) (cR : Hid (Mk Try.prog 45 #[.agg (insC i)] (.agg #[.int .i64 r1, .int .i64 r2, .int .i64 rd, .int .i64 k]))) (w : World) :
    Calls Try.prog 10 #[.int .u32 (v.toNat : Int)] w fun e w' => e = .returned (.bool true) ∧ Below w.heap.size w w' := by
  go_enter Try.func10, Try.ntmps10
  go_wp2_with fail
  refine (cD.out _).mono ?_
  rintro en w1 ⟨rfl, hb1⟩
  replace hb1 := Lib.hid hb1
  go_wp2_with fail
  refine (cR.out _).mono ?_
  rintro en w2 ⟨rfl, hb2⟩
  have r0 : rowI (w1.alloc (.cells (insC i) 44)) w1.heap.size = some (insC i) := by rw [rowI_alloc, if_pos rfl, if_pos rfl]
  have r2' := rowI_below r0 hb2
  have B2 := Lib.hid (hb1.out.trans ((below_alloc hb2).mono hb1.out.size))
  clear hb1 hb2 r0 cD cR
  go_wp2_with fail
  refine (awake_any _).mono ?_
  rintro en w3 ⟨rfl, hb3⟩
  have rr : rowR (w2.alloc (.cells #[.int .i64 r1, .int .i64 r2, .int .i64 rd, .int .i64 k] 51)) w2.heap.size = some #[.int .i64 r1, .int .i64 r2, .int .i64 rd, .int .i64 k] := by rw [rowR_alloc, if_pos rfl, if_pos rfl]
  have r3 := rowR_below rr hb3
  have i3 := rowI_below r2' (((Below.refl w2.heap.size w2).alloc (Nat.le_refl _) _).trans (hb3.mono (by simp)))
  have B3 := Lib.hid (B2.out.trans ((below_alloc hb3).mono B2.out.size))
  have c0 : w3.cell? ⟨w2.heap.size, 0, none⟩ = some (.int .i64 r1) := cell_of_row _ _ 0 _ _ (0, 0) (rowR_heap r3)
  have c1 : w3.cell? ⟨w2.heap.size, 1, none⟩ = some (.int .i64 r2) := cell_of_row _ _ 1 _ _ (0, 0) (rowR_heap r3)
  have c2 : w3.cell? ⟨w2.heap.size, 2, none⟩ = some (.int .i64 rd) := cell_of_row _ _ 2 _ _ (0, 0) (rowR_heap r3)
  have c3 : w3.cell? ⟨w2.heap.size, 3, none⟩ = some (.int .i64 k) := cell_of_row _ _ 3 _ _ (0, 0) (rowR_heap r3)
  have o0 := op_cell i3 hop
  clear hb3 rr r2' B2
  replace r3 := Lib.hid r3
  replace hop := Lib.hid hop
  have i4 := i3
  replace i3 := Lib.hid i4
  rcases P1 with rfl | ⟨p1, p2⟩ <;> rcases P2 with rfl | ⟨p3, p4⟩ <;> rcases P3 with ⟨rfl, rfl⟩ | ⟨⟨q1, q2, q3, q4, q5⟩, q6, q7, q8 | ⟨q8, rfl⟩⟩
  all_goals
    go_wp2_with (go_at_call 46; refine (cS.out _).mono ?_; rintro en w4 ⟨rfl, hb4⟩; have o4 := op_cell (rowI_below i3.out hb4) hop.out; have c4 := rd_cell (rowR_below r3.out hb4); have B4 := Lib.hid (B3.out.trans (hb4.mono B3.out.size)); clear hb4)
    all_goals
      go_ret
      first | exact ⟨rfl, B3.out⟩ | exact ⟨rfl, B4.out⟩
theorem conv_fld (v : BitVec 32) (m : Int) (n : Nat) (hm : (v.toNat : Int) / m = ((n : Nat) : Int)) (hn : n < 4294967296) : wrap64 (bits .and .u32 ((v.toNat : Int) / m) 31) = ((n % 32 : Nat) : Int) := by
  rw [hm, and32]
  have e : (BitVec.ofInt 32 (n : Int) &&& BitVec.ofInt 32 31).toNat = n % 32 := by
    rw [BitVec.toNat_and, BitVec.ofInt_natCast, BitVec.toNat_ofNat, Nat.mod_eq_of_lt (by omega)]
    exact Nat.and_two_pow_sub_one_eq_mod n 5
  rw [e]
  unfold wrap64
  omega
theorem decodeRoles_walk (a : Int) (wa : (Lit.int .u32 a).wf = true) (w : World) :
    Calls Try.prog 10 #[.int .u32 a] w fun e w' => e = .returned (.bool true) ∧ Below w.heap.size w w' := by
  obtain ⟨v, rfl⟩ := u32_bv wa
  have R := roles_ok v
  have hl := v.isLt
  have e1 := conv_fld v 32768 (v.toNat / 32768) (by omega) (by omega)
  have e2 := conv_fld v 1048576 (v.toNat / 1048576) (by omega) (by omega)
  have e3 := conv_fld v 128 (v.toNat / 128) (by omega) (by omega)
  have g1 := field_15 v
  have g2 := field_20 v
  have g3 := field_7 v
  rw [← g1] at e1
  rw [← g2] at e2
  rw [← g3] at e3
  obtain ⟨Ra, Rb, Rd, Rk, Rk0, Rk2, Rd0, Rno⟩ := R
  have hk : 0 < (readsC (decW v)).whn ↔ 0 < (readsC (decW v)).rd := by simpa using Rk
  refine roles_at v (decW v).op (readsC (decW v)).rs1 (readsC (decW v)).rs2 (readsC (decW v)).rd (readsC (decW v)).whn (decW v) rfl ?_ ?_ ?_ (Lib.hid (serial_any (decW v))) (Lib.hid (decode_any v)) (Lib.hid (reads_any (decW v))) w
  · by_cases z : (readsC (decW v)).rs1 = 0
    · exact .inl z
    · refine .inr ⟨by simpa using z, ?_⟩
      rw [e1, Ra.resolve_left z]
      simp
  · by_cases z : (readsC (decW v)).rs2 = 0
    · exact .inl z
    · refine .inr ⟨by simpa using z, ?_⟩
      rw [e2, Rb.resolve_left z]
      simp
  · by_cases z : (readsC (decW v)).rd = 0
    · exact .inl ⟨z, by omega⟩
    · have h0 : ¬ ((decW v).op = 7 ∨ (decW v).op = 5 ∨ (serB (decW v).op = true ∧ (decW v).op ≠ 19)) := fun a => z (Rno a)
      refine .inr ⟨⟨by omega, by omega, by omega, by simpa using z, ?_⟩, ?_, ?_, ?_⟩
      · rw [e3, Rd.resolve_left z]
        simp
      · simp; omega
      · simp; omega
      · cases hs : serB (decW v).op
        · exact .inl rfl
        · refine .inr ⟨rfl, ?_⟩
          by_cases h19 : (decW v).op = 19
          · exact h19
          · exact absurd (.inr (.inr ⟨hs, h19⟩)) h0
end Go.Proofs.Ytnhbekgmameeaaa
