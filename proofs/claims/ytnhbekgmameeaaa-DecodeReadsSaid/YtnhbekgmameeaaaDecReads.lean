/- Contracts, by operations: DecMem, DecAwake, DecRdP, DecCells, DecReadsW, DecReadsT. -/
import Derived.Test.YtnhbekgmameeaaaIns
import Derived.Test.YtnhbekgmameeaaaDecFormPlain
import Derived.Test.YtnhbekgmameeaaaDecode
import Derived.Test.YtnhbekgmameeaaaInsEq
import Derived.Test.YtnhbekgmameeaaaLate
import Derived.Test.YtnhbekgmameeaaaReadsP
import Derived.Test.YtnhbekgmameeaaaEncodeP
import Derived.Test.YtnhbekgmameeaaaEncodeR
import Derived.Test.YtnhbekgmameeaaaFlat
import Derived.Test.YtnhbekgmameeaaaIns2
import Derived.Test.YtnhbekgmameeaaaRds
import Derived.Test.YtnhbekgmameeaaaReadsR
namespace Go.Proofs.Ytnhbekgmameeaaa
section
open Go.RowKit Wd
set_option linter.unusedVariables false
set_option linter.unusedSimpArgs false

theorem memory_any (i : Ins) : Mk Try.prog 42 #[.agg (insC i)] (.bool (memB i.op)) := by
  intro w
  obtain ⟨op, fn, rd, rs1, rs2, im, size, sgn, word, useImm, csr⟩ := i
  unfold insC
  simp only
  by_cases h6 : op = 6
  · subst h6
    go_enter Try.func42, Try.ntmps42
    go_wp2_with fail
    go_ret
    exact ⟨rfl, (Below.refl _ _).alloc (Nat.le_refl _) _⟩
  by_cases h7 : op = 7
  · subst h7
    clear h6
    go_enter Try.func42, Try.ntmps42
    go_wp2_with fail
    go_ret
    exact ⟨rfl, (Below.refl _ _).alloc (Nat.le_refl _) _⟩
  by_cases h20 : op = 20
  · subst h20
    clear h6 h7
    go_enter Try.func42, Try.ntmps42
    go_wp2_with fail
    go_ret
    exact ⟨rfl, (Below.refl _ _).alloc (Nat.le_refl _) _⟩
  by_cases h21 : op = 21
  · subst h21
    clear h6 h7 h20
    go_enter Try.func42, Try.ntmps42
    go_wp2_with fail
    go_ret
    exact ⟨rfl, (Below.refl _ _).alloc (Nat.le_refl _) _⟩
  by_cases h22 : op = 22
  · subst h22
    clear h6 h7 h20 h21
    go_enter Try.func42, Try.ntmps42
    go_wp2_with fail
    go_ret
    exact ⟨rfl, (Below.refl _ _).alloc (Nat.le_refl _) _⟩
  have f6 : (op == 6) = false := by simpa using h6
  have f7 : (op == 7) = false := by simpa using h7
  have f20 : (op == 20) = false := by simpa using h20
  have f21 : (op == 21) = false := by simpa using h21
  have f22 : (op == 22) = false := by simpa using h22
  have hb := Lib.hid (show memB op = false from by unfold memB; rw [decide_eq_false h6, decide_eq_false h7, decide_eq_false h20, decide_eq_false h21, decide_eq_false h22]; rfl)
  clear h6 h7 h20 h21 h22
  go_enter Try.func42, Try.ntmps42
  go_wp2_with fail
  go_ret
  exact ⟨ret_bool hb.out.symm, (Below.refl _ _).alloc (Nat.le_refl _) _⟩

theorem rmemory_any (i : Ins) : Mk Try.prog 49 #[.agg (insC i)] (.bool (memB i.op)) := by
  intro w
  obtain ⟨op, fn, rd, rs1, rs2, im, size, sgn, word, useImm, csr⟩ := i
  unfold insC
  simp only
  by_cases h6 : op = 6
  · subst h6
    go_enter Try.func49, Try.ntmps49
    go_wp2_with fail
    go_ret
    exact ⟨rfl, (Below.refl _ _).alloc (Nat.le_refl _) _⟩
  by_cases h7 : op = 7
  · subst h7
    clear h6
    go_enter Try.func49, Try.ntmps49
    go_wp2_with fail
    go_ret
    exact ⟨rfl, (Below.refl _ _).alloc (Nat.le_refl _) _⟩
  by_cases h20 : op = 20
  · subst h20
    clear h6 h7
    go_enter Try.func49, Try.ntmps49
    go_wp2_with fail
    go_ret
    exact ⟨rfl, (Below.refl _ _).alloc (Nat.le_refl _) _⟩
  by_cases h21 : op = 21
  · subst h21
    clear h6 h7 h20
    go_enter Try.func49, Try.ntmps49
    go_wp2_with fail
    go_ret
    exact ⟨rfl, (Below.refl _ _).alloc (Nat.le_refl _) _⟩
  by_cases h22 : op = 22
  · subst h22
    clear h6 h7 h20 h21
    go_enter Try.func49, Try.ntmps49
    go_wp2_with fail
    go_ret
    exact ⟨rfl, (Below.refl _ _).alloc (Nat.le_refl _) _⟩
  have f6 : (op == 6) = false := by simpa using h6
  have f7 : (op == 7) = false := by simpa using h7
  have f20 : (op == 20) = false := by simpa using h20
  have f21 : (op == 21) = false := by simpa using h21
  have f22 : (op == 22) = false := by simpa using h22
  have hb := Lib.hid (show memB op = false from by unfold memB; rw [decide_eq_false h6, decide_eq_false h7, decide_eq_false h20, decide_eq_false h21, decide_eq_false h22]; rfl)
  clear h6 h7 h20 h21 h22
  go_enter Try.func49, Try.ntmps49
  go_wp2_with fail
  go_ret
  exact ⟨ret_bool hb.out.symm, (Below.refl _ _).alloc (Nat.le_refl _) _⟩

theorem serial_any (i : Ins) : Mk Try.prog 46 #[.agg (insC i)] (.bool (serB i.op)) := by
  intro w
  obtain ⟨op, fn, rd, rs1, rs2, im, size, sgn, word, useImm, csr⟩ := i
  unfold insC
  simp only
  by_cases h11 : op = 11
  · subst h11
    go_enter Try.func46, Try.ntmps46
    go_wp2_with fail
    go_ret
    exact ⟨rfl, (Below.refl _ _).alloc (Nat.le_refl _) _⟩
  by_cases h12 : op = 12
  · subst h12
    clear h11
    go_enter Try.func46, Try.ntmps46
    go_wp2_with fail
    go_ret
    exact ⟨rfl, (Below.refl _ _).alloc (Nat.le_refl _) _⟩
  by_cases h13 : op = 13
  · subst h13
    clear h11 h12
    go_enter Try.func46, Try.ntmps46
    go_wp2_with fail
    go_ret
    exact ⟨rfl, (Below.refl _ _).alloc (Nat.le_refl _) _⟩
  by_cases h14 : op = 14
  · subst h14
    clear h11 h12 h13
    go_enter Try.func46, Try.ntmps46
    go_wp2_with fail
    go_ret
    exact ⟨rfl, (Below.refl _ _).alloc (Nat.le_refl _) _⟩
  by_cases h15 : op = 15
  · subst h15
    clear h11 h12 h13 h14
    go_enter Try.func46, Try.ntmps46
    go_wp2_with fail
    go_ret
    exact ⟨rfl, (Below.refl _ _).alloc (Nat.le_refl _) _⟩
  by_cases h16 : op = 16
  · subst h16
    clear h11 h12 h13 h14 h15
    go_enter Try.func46, Try.ntmps46
    go_wp2_with fail
    go_ret
    exact ⟨rfl, (Below.refl _ _).alloc (Nat.le_refl _) _⟩
  by_cases h17 : op = 17
  · subst h17
    clear h11 h12 h13 h14 h15 h16
    go_enter Try.func46, Try.ntmps46
    go_wp2_with fail
    go_ret
    exact ⟨rfl, (Below.refl _ _).alloc (Nat.le_refl _) _⟩
  by_cases h18 : op = 18
  · subst h18
    clear h11 h12 h13 h14 h15 h16 h17
    go_enter Try.func46, Try.ntmps46
    go_wp2_with fail
    go_ret
    exact ⟨rfl, (Below.refl _ _).alloc (Nat.le_refl _) _⟩
  by_cases h19 : op = 19
  · subst h19
    clear h11 h12 h13 h14 h15 h16 h17 h18
    go_enter Try.func46, Try.ntmps46
    go_wp2_with fail
    go_ret
    exact ⟨rfl, (Below.refl _ _).alloc (Nat.le_refl _) _⟩
  by_cases h0 : op = 0
  · subst h0
    clear h11 h12 h13 h14 h15 h16 h17 h18 h19
    go_enter Try.func46, Try.ntmps46
    go_wp2_with fail
    go_ret
    exact ⟨rfl, (Below.refl _ _).alloc (Nat.le_refl _) _⟩
  have f11 : (op == 11) = false := by simpa using h11
  have f12 : (op == 12) = false := by simpa using h12
  have f13 : (op == 13) = false := by simpa using h13
  have f14 : (op == 14) = false := by simpa using h14
  have f15 : (op == 15) = false := by simpa using h15
  have f16 : (op == 16) = false := by simpa using h16
  have f17 : (op == 17) = false := by simpa using h17
  have f18 : (op == 18) = false := by simpa using h18
  have f19 : (op == 19) = false := by simpa using h19
  have f0 : (op == 0) = false := by simpa using h0
  have hb := Lib.hid (show serB op = false from by unfold serB; rw [decide_eq_false h11, decide_eq_false h12, decide_eq_false h13, decide_eq_false h14, decide_eq_false h15, decide_eq_false h16, decide_eq_false h17, decide_eq_false h18, decide_eq_false h19, decide_eq_false h0]; rfl)
  clear h11 h12 h13 h14 h15 h16 h17 h18 h19 h0
  go_enter Try.func46, Try.ntmps46
  go_wp2_with fail
  go_ret
  exact ⟨ret_bool hb.out.symm, (Below.refl _ _).alloc (Nat.le_refl _) _⟩

theorem rserial_any (i : Ins) : Mk Try.prog 48 #[.agg (insC i)] (.bool (serB i.op)) := by
  intro w
  obtain ⟨op, fn, rd, rs1, rs2, im, size, sgn, word, useImm, csr⟩ := i
  unfold insC
  simp only
  by_cases h11 : op = 11
  · subst h11
    go_enter Try.func48, Try.ntmps48
    go_wp2_with fail
    go_ret
    exact ⟨rfl, (Below.refl _ _).alloc (Nat.le_refl _) _⟩
  by_cases h12 : op = 12
  · subst h12
    clear h11
    go_enter Try.func48, Try.ntmps48
    go_wp2_with fail
    go_ret
    exact ⟨rfl, (Below.refl _ _).alloc (Nat.le_refl _) _⟩
  by_cases h13 : op = 13
  · subst h13
    clear h11 h12
    go_enter Try.func48, Try.ntmps48
    go_wp2_with fail
    go_ret
    exact ⟨rfl, (Below.refl _ _).alloc (Nat.le_refl _) _⟩
  by_cases h14 : op = 14
  · subst h14
    clear h11 h12 h13
    go_enter Try.func48, Try.ntmps48
    go_wp2_with fail
    go_ret
    exact ⟨rfl, (Below.refl _ _).alloc (Nat.le_refl _) _⟩
  by_cases h15 : op = 15
  · subst h15
    clear h11 h12 h13 h14
    go_enter Try.func48, Try.ntmps48
    go_wp2_with fail
    go_ret
    exact ⟨rfl, (Below.refl _ _).alloc (Nat.le_refl _) _⟩
  by_cases h16 : op = 16
  · subst h16
    clear h11 h12 h13 h14 h15
    go_enter Try.func48, Try.ntmps48
    go_wp2_with fail
    go_ret
    exact ⟨rfl, (Below.refl _ _).alloc (Nat.le_refl _) _⟩
  by_cases h17 : op = 17
  · subst h17
    clear h11 h12 h13 h14 h15 h16
    go_enter Try.func48, Try.ntmps48
    go_wp2_with fail
    go_ret
    exact ⟨rfl, (Below.refl _ _).alloc (Nat.le_refl _) _⟩
  by_cases h18 : op = 18
  · subst h18
    clear h11 h12 h13 h14 h15 h16 h17
    go_enter Try.func48, Try.ntmps48
    go_wp2_with fail
    go_ret
    exact ⟨rfl, (Below.refl _ _).alloc (Nat.le_refl _) _⟩
  by_cases h19 : op = 19
  · subst h19
    clear h11 h12 h13 h14 h15 h16 h17 h18
    go_enter Try.func48, Try.ntmps48
    go_wp2_with fail
    go_ret
    exact ⟨rfl, (Below.refl _ _).alloc (Nat.le_refl _) _⟩
  by_cases h0 : op = 0
  · subst h0
    clear h11 h12 h13 h14 h15 h16 h17 h18 h19
    go_enter Try.func48, Try.ntmps48
    go_wp2_with fail
    go_ret
    exact ⟨rfl, (Below.refl _ _).alloc (Nat.le_refl _) _⟩
  have f11 : (op == 11) = false := by simpa using h11
  have f12 : (op == 12) = false := by simpa using h12
  have f13 : (op == 13) = false := by simpa using h13
  have f14 : (op == 14) = false := by simpa using h14
  have f15 : (op == 15) = false := by simpa using h15
  have f16 : (op == 16) = false := by simpa using h16
  have f17 : (op == 17) = false := by simpa using h17
  have f18 : (op == 18) = false := by simpa using h18
  have f19 : (op == 19) = false := by simpa using h19
  have f0 : (op == 0) = false := by simpa using h0
  have hb := Lib.hid (show serB op = false from by unfold serB; rw [decide_eq_false h11, decide_eq_false h12, decide_eq_false h13, decide_eq_false h14, decide_eq_false h15, decide_eq_false h16, decide_eq_false h17, decide_eq_false h18, decide_eq_false h19, decide_eq_false h0]; rfl)
  clear h11 h12 h13 h14 h15 h16 h17 h18 h19 h0
  go_enter Try.func48, Try.ntmps48
  go_wp2_with fail
  go_ret
  exact ⟨ret_bool hb.out.symm, (Below.refl _ _).alloc (Nat.le_refl _) _⟩

end
section
open Go.RowKit Wd
set_option linter.unusedVariables false
set_option linter.unusedSimpArgs false
attribute [local go_sem] loadI_lit storeI_lit rowI_alloc rowI_drew rowI_setRow rowI_setCell setRow_allocI
attribute [local go_sem ↓] loadI_run storeI_run'
set_option maxRecDepth 8000
theorem dec_13 : decW 19#32 = ⟨8, 0, 0, 0, 0, 0#64, 0, false, false, false, 0⟩ := (insB_iff _ _).1 (by decide +kernel)
theorem awakeDec : Mk Try.prog 40 #[.int .u32 19] (.agg #[.int .i64 8, .int .i64 0, .int .i64 0, .int .i64 0, .int .i64 0, .int .u64 0, .int .i64 0, .bool false, .bool false, .bool false, .int .i64 0]) := by
  have h := decode_any 19#32
  rw [dec_13] at h
  exact h
theorem awakeSer : Mk Try.prog 46 #[.agg #[.int .i64 0, .int .i64 0, .int .i64 0, .int .i64 0, .int .i64 0, .int .u64 0, .int .i64 0, .bool false, .bool false, .bool false, .int .i64 0]] (.bool true) := serial_any noI
theorem awake_any : Mk Try.prog 39 #[] (.bool true) := by
  intro w
  go_enter Try.func39, Try.ntmps39
  go_wp2_with fail
  refine (awakeDec _).mono ?_
  rintro e w1 ⟨rfl, hb1⟩
  replace hb1 := Lib.hid hb1
  go_wp2_with (go_at_call 46; refine (awakeSer _).mono ?_; rintro e w2 ⟨rfl, hb2⟩)
  go_ret
  exact ⟨rfl, hb1.out.trans ((below_alloc hb2).mono hb1.out.size)⟩
theorem insC_0 (i : Ins) : (insC i)[0]? = some (.int .i64 i.op) := rfl
theorem eq_ins0 (i : Ins) (w : World) : (Op.equalIn 10000 44 (.agg (insC i)) (.agg #[.int .i64 0, .int .i64 0, .int .i64 0, .int .i64 0, .int .i64 0, .int .u64 0, .int .i64 0, .bool false, .bool false, .bool false, .int .i64 0])).run Try.prog w = .ok (insB i noI) w := eq_ins i noI w
namespace Wd
def ordA (b : BitVec 32) : BitVec 32 := b &&& 0x06000000#32
def ordF (b : BitVec 32) : BitVec 32 := b &&& ~~~0x707f#32
def xorW (a b : BitVec 32) : BitVec 32 := a ^^^ b
end Wd
theorem ordA_walk (b : BitVec 32) : bits .and .u32 (b.toNat : Int) 100663296 = ((ordA b).toNat : Int) := by
  rw [and32, of32]
  rfl
theorem ordF_walk (b : BitVec 32) : bits .andNot .u32 (b.toNat : Int) 28799 = ((ordF b).toNat : Int) := by
  rw [andNot32, of32]
  rfl
theorem xorW_walk (a b : BitVec 32) : bits .xor .u32 (a.toNat : Int) (b.toNat : Int) = ((xorW a b).toNat : Int) := by
  show IntKind.u32.wrap ((BitVec.ofInt 32 (a.toNat : Int) ^^^ BitVec.ofInt 32 (b.toNat : Int)).toNat : Int) = _
  rw [w32, of32, of32, of32]
  rfl
end
section
open Go.RowKit Wd
set_option linter.unusedVariables false
set_option linter.unusedSimpArgs false
attribute [local go_sem] loadI_lit storeI_lit rowI_alloc rowI_drew rowI_setRow rowI_setCell setRow_allocI loadI_ins storeI_ins
attribute [local go_sem ↓] loadI_run storeI_run' eq_ins
set_option maxRecDepth 20000
theorem reads_any (i : Ins) : Mk Try.prog 45 #[.agg (insC i)] (.agg (rdsC (readsC i))) := by
  intro w
  have cE := pEncode_any i
  obtain ⟨v, e, hr⟩ : ∃ v e, encF layC i = (v, e) := ⟨_, _, rfl⟩
  unfold encV at cE
  rw [hr] at cE
  have hR : readsC i = if e = 0 then readsD i else noR := by unfold readsC; rw [hr]
  clear hr
  obtain ⟨op, fn, rd, rs1, rs2, im, size, sgn, word, useImm, csr⟩ := i
  by_cases h0 : e = 0
  · subst h0
    rw [hR, if_pos rfl]
    unfold readsD whenI
    simp only
    by_cases hz : rd = 0
    · subst hz
      rw [if_pos rfl]
      by_cases k : op = 6
      · subst k; exact reads_6_z fn rs1 rs2 im size sgn word useImm csr v (Lib.hid cE) w
      have f6 := k; clear k
      by_cases k : op = 20
      · subst k; exact reads_20_z fn rs1 rs2 im size sgn word useImm csr v (Lib.hid cE) w
      have f20 := k; clear k
      by_cases k : op = 21
      · subst k; exact reads_21_z fn rs1 rs2 im size sgn word useImm csr v (Lib.hid cE) w
      have f21 := k; clear k
      by_cases k : op = 22
      · subst k; exact reads_22_z fn rs1 rs2 im size sgn word useImm csr v (Lib.hid cE) w
      have f22 := k; clear k
      by_cases k : op = 19
      · subst k
        cases useImm
        · exact reads_19_false_z fn rs1 rs2 im size sgn word csr v (Lib.hid cE) w
        · exact reads_19_true_z fn rs1 rs2 im size sgn word csr v (Lib.hid cE) w
      rw [if_neg (fun a => k a.1)]
      exact reads_no_z op fn rs1 rs2 im size sgn word useImm csr v (Lib.hid cE) (by simpa using f6) (by simpa using f20) (by simpa using f21) (by simpa using f22) (by simpa using k) w
    · have z1 : (rd == 0) = false := by simpa using hz
      have z2 : (rd != 0) = true := by simpa using hz
      rw [if_neg hz]
      by_cases k : op = 6
      · subst k; exact reads_6 fn rd rs1 rs2 im size sgn word useImm csr v (Lib.hid cE) z1 z2 w
      have f6 := k; clear k
      by_cases k : op = 20
      · subst k; exact reads_20 fn rd rs1 rs2 im size sgn word useImm csr v (Lib.hid cE) z1 z2 w
      have f20 := k; clear k
      by_cases k : op = 21
      · subst k; exact reads_21 fn rd rs1 rs2 im size sgn word useImm csr v (Lib.hid cE) z1 z2 w
      have f21 := k; clear k
      by_cases k : op = 22
      · subst k; exact reads_22 fn rd rs1 rs2 im size sgn word useImm csr v (Lib.hid cE) z1 z2 w
      have f22 := k; clear k
      by_cases k : op = 19
      · subst k
        cases useImm
        · exact reads_19_false fn rd rs1 rs2 im size sgn word csr v (Lib.hid cE) z1 z2 w
        · exact reads_19_true fn rd rs1 rs2 im size sgn word csr v (Lib.hid cE) z1 z2 w
      have hl : lateB op = false := by unfold lateB; rw [decide_eq_false f6, decide_eq_false f20, decide_eq_false f21, decide_eq_false f22, decide_eq_false k]; rfl
      rw [if_neg (fun a => k a.1), hl, if_neg (by simp)]
      exact reads_no op fn rd rs1 rs2 im size sgn word useImm csr v (Lib.hid cE) (by simpa using f6) (by simpa using f20) (by simpa using f21) (by simpa using f22) (by simpa using k) z1 z2 w
  · rw [hR, if_neg h0]
    exact reads_err op fn rd rs1 rs2 im size sgn word useImm csr v e (Lib.hid cE) (by simpa using h0) w
end
section
open Go.RowKit Wd
set_option linter.unusedVariables false
set_option linter.unusedSimpArgs false
attribute [local go_sem] loadI_ins rowI_alloc rowI_drew
attribute [local go_sem ↓] loadI_run
set_option maxRecDepth 20000
namespace Wd
def leafI : List Flat.Leaf := [.int .i64, .int .i64, .int .i64, .int .i64, .int .i64, .int .u64, .int .i64, .bool, .bool, .bool, .int .i64]
def witI : List Value := [.int .i64 0, .int .i64 0, .int .i64 0, .int .i64 0, .int .i64 0, .int .u64 0, .int .i64 0, .bool false, .bool false, .bool false, .int .i64 0]
end Wd
theorem all2_cons {a : Flat.Leaf} {ls : List Flat.Leaf} {l : List Value} (h : Flat.All2 (a :: ls) l) : ∃ v vs, l = v :: vs ∧ a.ok v ∧ Flat.All2 ls vs := by
  cases l with
  | nil => exact False.elim h
  | cons v vs => exact ⟨v, vs, rfl, h.1, h.2⟩
theorem all2_nil {l : List Value} (h : Flat.All2 [] l) : l = [] := by
  cases l with
  | nil => rfl
  | cons v vs => exact False.elim h
theorem ins_of {cs : Array Value} (h : Flat.All2 leafI cs.toList) : ∃ i : Ins, cs = insC i := by
  obtain ⟨l⟩ := cs
  unfold leafI at h
  obtain ⟨_, l0, e0, ⟨a0, rfl, _⟩, h⟩ := all2_cons h
  obtain ⟨_, l1, e1, ⟨a1, rfl, _⟩, h⟩ := all2_cons h
  obtain ⟨_, l2, e2, ⟨a2, rfl, _⟩, h⟩ := all2_cons h
  obtain ⟨_, l3, e3, ⟨a3, rfl, _⟩, h⟩ := all2_cons h
  obtain ⟨_, l4, e4, ⟨a4, rfl, _⟩, h⟩ := all2_cons h
  obtain ⟨_, l5, e5, ⟨a5, rfl, w5⟩, h⟩ := all2_cons h
  obtain ⟨_, l6, e6, ⟨a6, rfl, _⟩, h⟩ := all2_cons h
  obtain ⟨_, l7, e7, ⟨a7, rfl⟩, h⟩ := all2_cons h
  obtain ⟨_, l8, e8, ⟨a8, rfl⟩, h⟩ := all2_cons h
  obtain ⟨_, l9, e9, ⟨a9, rfl⟩, h⟩ := all2_cons h
  obtain ⟨_, l10, e10, ⟨a10, rfl, _⟩, h⟩ := all2_cons h
  obtain rfl := all2_nil h
  obtain ⟨im, rfl⟩ := u64_bv w5
  refine ⟨⟨a0, a1, a2, a3, a4, im, a6, a7, a8, a9, a10⟩, ?_⟩
  simp only at e0
  rw [e0, e1, e2, e3, e4, e5, e6, e7, e8, e9, e10]
  rfl
end
section
open Go.RowKit Wd
set_option linter.unusedVariables false
set_option linter.unusedSimpArgs false
theorem eq_rds (r : Rds) (w : World) : (Op.equalIn 10000 51 (.agg (rdsC r)) (.agg (rdsC r))).run Try.prog w = .ok true w := by
  unfold rdsC
  rw [run_equalIn_agg w 9999 51 _ _ (by kernel_rfl) (by kernel_rfl)]
  unfold Program.fieldsOf
  rw [Try.underlying51]
  simp only
  rw [step_i _ _ _ _ _ _ _ (by decide) rfl rfl rfl]
  rw [step_i _ _ _ _ _ _ _ (by decide) rfl rfl rfl]
  rw [step_i _ _ _ _ _ _ _ (by decide) rfl rfl rfl]
  rw [step_i _ _ _ _ _ _ _ (by decide) rfl rfl rfl]
  simp [Op.eqFields, Sem.run_pure]
attribute [local go_sem] loadI_ins rowI_alloc rowI_drew
attribute [local go_sem ↓] loadI_run eq_rds
set_option maxRecDepth 20000
set_option maxHeartbeats 4000000 in
theorem reads_law (i : Ins) (r : Rds) (m s : Bool)
    (cA : Hid (Mk Try.prog 39 #[] (.bool true)))
    (c1 : Hid (Mk Try.prog 45 #[.agg (insC i)] (.agg (rdsC r))))
    (c2 : Hid (Mk Try.prog 47 #[.agg (insC i)] (.agg (rdsC r))))
    (c3 : Hid (Mk Try.prog 46 #[.agg (insC i)] (.bool s)))
    (c4 : Hid (Mk Try.prog 48 #[.agg (insC i)] (.bool s)))
    (c5 : Hid (Mk Try.prog 42 #[.agg (insC i)] (.bool m)))
    (c6 : Hid (Mk Try.prog 49 #[.agg (insC i)] (.bool m))) (w : World) :
    Calls Try.prog 11 #[.agg (insC i)] w fun e w' => e = .returned (.bool true) ∧ Below w.heap.size w w' := by
  have r0 : rowI (w.alloc (.cells (insC i) 44)) w.heap.size = some (insC i) := by rw [rowI_alloc, if_pos rfl, if_pos rfl]
  have l0 : ∀ g : Late (w.alloc (.cells (insC i) 44)), rowI g.is w.heap.size = some (insC i) := fun g => rowI_below r0 g.below
  clear r0
  go_enter Try.func11, Try.ntmps11
  go_wp2_with fail
  refine wp_region_late (by kernel_rfl) (lexB_of_fast _ (by kernel_rfl)) (Below.refl _ _) ?_
  repeat (first
    | go_big_quiet_step (first
      | (go_at_call 39; exact (cA.out).late)
      | (go_at_call 45; exact (c1.out).late)
      | (go_at_call 47; exact (c2.out).late)
      | (go_at_call 46; exact (c3.out).late)
      | (go_at_call 48; exact (c4.out).late)
      | (go_at_call 42; exact (c5.out).late)
      | (go_at_call 49; exact (c6.out).late))
    | (refine skip_same rfl (by kernel_rfl) (by kernel_rfl) ?_))
  refine wpQuiet_nil ?_
  rintro w4 ⟨b1, rfl⟩
  go_wp2_with fail
  go_ret
  exact ⟨rfl, below_alloc b1.below⟩
end
section
open Go.RowKit Wd
set_option linter.unusedVariables false
set_option linter.unusedSimpArgs false
attribute [local go_sem] loadI_ins rowI_alloc rowI_drew
attribute [local go_sem ↓] loadI_run
set_option maxRecDepth 20000
theorem rreads_any (i : Ins) : Mk Try.prog 47 #[.agg (insC i)] (.agg (rdsC (readsR i))) := by
  intro w
  have cE := rEncode_any i
  obtain ⟨v, e, hr⟩ : ∃ v e, encF wordR i = (v, e) := ⟨_, _, rfl⟩
  unfold encV at cE
  rw [hr] at cE
  have hR : readsR i = if e = 0 then readsE i else noR := by unfold readsR; rw [hr]
  clear hr
  obtain ⟨op, fn, rd, rs1, rs2, im, size, sgn, word, useImm, csr⟩ := i
  by_cases h0 : e = 0
  · subst h0
    rw [hR, if_pos rfl]
    unfold readsE whenI
    simp only
    by_cases k : op = 5
    · subst k; exact rreads_5 fn rd rs1 rs2 im size sgn word useImm csr v (Lib.hid cE) w
    have f5 := k; clear k
    by_cases k : op = 7
    · subst k; exact rreads_7 fn rd rs1 rs2 im size sgn word useImm csr v (Lib.hid cE) w
    have f7 := k; clear k
    by_cases k : op = 9
    · subst k; exact rreads_9 fn rd rs1 rs2 im size sgn word useImm csr v (Lib.hid cE) w
    have f9 := k; clear k
    by_cases k : op = 10
    · subst k; exact rreads_10 fn rd rs1 rs2 im size sgn word useImm csr v (Lib.hid cE) w
    have f10 := k; clear k
    by_cases k : op = 18
    · subst k; exact rreads_18 fn rd rs1 rs2 im size sgn word useImm csr v (Lib.hid cE) w
    have f18 := k; clear k
    by_cases k : op = 21
    · subst k; exact rreads_21 fn rd rs1 rs2 im size sgn word useImm csr v (Lib.hid cE) w
    have f21 := k; clear k
    by_cases k : op = 22
    · subst k; exact rreads_22 fn rd rs1 rs2 im size sgn word useImm csr v (Lib.hid cE) w
    have f22 := k; clear k
    have hB : bothB op = false := by unfold bothB; rw [decide_eq_false f5, decide_eq_false f7, decide_eq_false f9, decide_eq_false f10, decide_eq_false f18, decide_eq_false f21, decide_eq_false f22]; rfl
    by_cases hz : rd = 0
    · subst hz
      rw [if_pos rfl]
      by_cases k : op = 4
      · subst k; exact rreads_4_z fn rs1 rs2 im size sgn word useImm csr v (Lib.hid cE) w
      have f4 := k; clear k
      by_cases k : op = 6
      · subst k; exact rreads_6_z fn rs1 rs2 im size sgn word useImm csr v (Lib.hid cE) w
      have f6 := k; clear k
      by_cases k : op = 8
      · subst k; exact rreads_8_z fn rs1 rs2 im size sgn word useImm csr v (Lib.hid cE) w
      have f8 := k; clear k
      by_cases k : op = 20
      · subst k; exact rreads_20_z fn rs1 rs2 im size sgn word useImm csr v (Lib.hid cE) w
      have f20 := k; clear k
      by_cases k : op = 19
      · subst k
        cases useImm
        · exact rreads_19_false_z fn rs1 rs2 im size sgn word csr v (Lib.hid cE) w
        · exact rreads_19_true_z fn rs1 rs2 im size sgn word csr v (Lib.hid cE) w
      have hO : oneB op = false := by unfold oneB; rw [decide_eq_false f4, decide_eq_false f6, decide_eq_false f8, decide_eq_false f20]; rfl
      rw [hO, hB, if_neg (by simp [k]), if_neg (by simp)]
      exact rreads_no_z op fn rs1 rs2 im size sgn word useImm csr v (Lib.hid cE) (by simpa using f4) (by simpa using f6) (by simpa using f8) (by simpa using f20) (by simpa using k) (by simpa using f5) (by simpa using f7) (by simpa using f9) (by simpa using f10) (by simpa using f18) (by simpa using f21) (by simpa using f22) w
    · have z1 : (rd == 0) = false := by simpa using hz
      have z2 : (rd != 0) = true := by simpa using hz
      rw [if_neg hz]
      by_cases k : op = 4
      · subst k; exact rreads_4 fn rd rs1 rs2 im size sgn word useImm csr v (Lib.hid cE) z1 z2 w
      have f4 := k; clear k
      by_cases k : op = 6
      · subst k; exact rreads_6 fn rd rs1 rs2 im size sgn word useImm csr v (Lib.hid cE) z1 z2 w
      have f6 := k; clear k
      by_cases k : op = 8
      · subst k; exact rreads_8 fn rd rs1 rs2 im size sgn word useImm csr v (Lib.hid cE) z1 z2 w
      have f8 := k; clear k
      by_cases k : op = 20
      · subst k; exact rreads_20 fn rd rs1 rs2 im size sgn word useImm csr v (Lib.hid cE) z1 z2 w
      have f20 := k; clear k
      by_cases k : op = 19
      · subst k
        cases useImm
        · exact rreads_19_false fn rd rs1 rs2 im size sgn word csr v (Lib.hid cE) z1 z2 w
        · exact rreads_19_true fn rd rs1 rs2 im size sgn word csr v (Lib.hid cE) z1 z2 w
      have hO : oneB op = false := by unfold oneB; rw [decide_eq_false f4, decide_eq_false f6, decide_eq_false f8, decide_eq_false f20]; rfl
      have hl : lateB op = false := by unfold lateB; rw [decide_eq_false f6, decide_eq_false f20, decide_eq_false f21, decide_eq_false f22, decide_eq_false k]; rfl
      rw [hO, hB, hl, if_neg (by simp [k]), if_neg (by simp), if_neg (by simp)]
      exact rreads_no op fn rd rs1 rs2 im size sgn word useImm csr v (Lib.hid cE) (by simpa using f4) (by simpa using f6) (by simpa using f8) (by simpa using f20) (by simpa using k) (by simpa using f5) (by simpa using f7) (by simpa using f9) (by simpa using f10) (by simpa using f18) (by simpa using f21) (by simpa using f22) z1 z2 w
  · rw [hR, if_neg h0]
    exact rreads_err op fn rd rs1 rs2 im size sgn word useImm csr v e (Lib.hid cE) (by simpa using h0) w
theorem decodeReads_cells (cs : Array Value) (h : Flat.All2 leafI cs.toList) (w : World) :
    Calls Try.prog 11 #[.agg cs] w fun e w' => e = .returned (.bool true) ∧ Below w.heap.size w w' := by
  obtain ⟨i, rfl⟩ := ins_of h
  have hP := reads_any i
  rw [reads_same] at hP
  exact reads_law i (readsR i) (memB i.op) (serB i.op) (Lib.hid awake_any) (Lib.hid hP) (Lib.hid (rreads_any i)) (Lib.hid (serial_any i)) (Lib.hid (rserial_any i)) (Lib.hid (memory_any i)) (Lib.hid (rmemory_any i)) w
end
end Go.Proofs.Ytnhbekgmameeaaa
