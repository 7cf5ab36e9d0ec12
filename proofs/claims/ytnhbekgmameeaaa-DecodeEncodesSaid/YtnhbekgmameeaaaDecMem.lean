/- Contracts: which instructions go alone, and which ask memory; of both packages. -/
import Derived.Test.YtnhbekgmameeaaaIns
import Derived.Test.YtnhbekgmameeaaaDecFormPlain
namespace Go.Proofs.Ytnhbekgmameeaaa
open Go.RowKit Wd
set_option linter.unusedVariables false
set_option linter.unusedSimpArgs false

theorem memory_any (i : Ins) : Mk Try.prog 42 #[.agg (insC i)] (.bool (memB i.op)) := by
  intro w
  obtain ⟨op, fn, rd, rs1, rs2, im, size, sgn, word, useImm, csr⟩ := i
  unfold insC
  simp only
  by_cases h6 : op = 6
  · subst h6
    go_enter Try.func42, Try.ntmps42
    go_wp2_with fail
    go_ret
    exact ⟨rfl, (Below.refl _ _).alloc (Nat.le_refl _) _⟩
  by_cases h7 : op = 7
  · subst h7
    clear h6
    go_enter Try.func42, Try.ntmps42
    go_wp2_with fail
    go_ret
    exact ⟨rfl, (Below.refl _ _).alloc (Nat.le_refl _) _⟩
  by_cases h20 : op = 20
  · subst h20
    clear h6 h7
    go_enter Try.func42, Try.ntmps42
    go_wp2_with fail
    go_ret
    exact ⟨rfl, (Below.refl _ _).alloc (Nat.le_refl _) _⟩
  by_cases h21 : op = 21
  · subst h21
    clear h6 h7 h20
    go_enter Try.func42, Try.ntmps42
    go_wp2_with fail
    go_ret
    exact ⟨rfl, (Below.refl _ _).alloc (Nat.le_refl _) _⟩
  by_cases h22 : op = 22
  · subst h22
    clear h6 h7 h20 h21
    go_enter Try.func42, Try.ntmps42
    go_wp2_with fail
    go_ret
    exact ⟨rfl, (Below.refl _ _).alloc (Nat.le_refl _) _⟩
  have f6 : (op == 6) = false := by simpa using h6
  have f7 : (op == 7) = false := by simpa using h7
  have f20 : (op == 20) = false := by simpa using h20
  have f21 : (op == 21) = false := by simpa using h21
  have f22 : (op == 22) = false := by simpa using h22
  have hb := Lib.hid (show memB op = false from by unfold memB; rw [decide_eq_false h6, decide_eq_false h7, decide_eq_false h20, decide_eq_false h21, decide_eq_false h22]; rfl)
  clear h6 h7 h20 h21 h22
  go_enter Try.func42, Try.ntmps42
  go_wp2_with fail
  go_ret
  exact ⟨ret_bool hb.out.symm, (Below.refl _ _).alloc (Nat.le_refl _) _⟩

theorem rmemory_any (i : Ins) : Mk Try.prog 49 #[.agg (insC i)] (.bool (memB i.op)) := by
  intro w
  obtain ⟨op, fn, rd, rs1, rs2, im, size, sgn, word, useImm, csr⟩ := i
  unfold insC
  simp only
  by_cases h6 : op = 6
  · subst h6
    go_enter Try.func49, Try.ntmps49
    go_wp2_with fail
    go_ret
    exact ⟨rfl, (Below.refl _ _).alloc (Nat.le_refl _) _⟩
  by_cases h7 : op = 7
  · subst h7
    clear h6
    go_enter Try.func49, Try.ntmps49
    go_wp2_with fail
    go_ret
    exact ⟨rfl, (Below.refl _ _).alloc (Nat.le_refl _) _⟩
  by_cases h20 : op = 20
  · subst h20
    clear h6 h7
    go_enter Try.func49, Try.ntmps49
    go_wp2_with fail
    go_ret
    exact ⟨rfl, (Below.refl _ _).alloc (Nat.le_refl _) _⟩
  by_cases h21 : op = 21
  · subst h21
    clear h6 h7 h20
    go_enter Try.func49, Try.ntmps49
    go_wp2_with fail
    go_ret
    exact ⟨rfl, (Below.refl _ _).alloc (Nat.le_refl _) _⟩
  by_cases h22 : op = 22
  · subst h22
    clear h6 h7 h20 h21
    go_enter Try.func49, Try.ntmps49
    go_wp2_with fail
    go_ret
    exact ⟨rfl, (Below.refl _ _).alloc (Nat.le_refl _) _⟩
  have f6 : (op == 6) = false := by simpa using h6
  have f7 : (op == 7) = false := by simpa using h7
  have f20 : (op == 20) = false := by simpa using h20
  have f21 : (op == 21) = false := by simpa using h21
  have f22 : (op == 22) = false := by simpa using h22
  have hb := Lib.hid (show memB op = false from by unfold memB; rw [decide_eq_false h6, decide_eq_false h7, decide_eq_false h20, decide_eq_false h21, decide_eq_false h22]; rfl)
  clear h6 h7 h20 h21 h22
  go_enter Try.func49, Try.ntmps49
  go_wp2_with fail
  go_ret
  exact ⟨ret_bool hb.out.symm, (Below.refl _ _).alloc (Nat.le_refl _) _⟩

theorem serial_any (i : Ins) : Mk Try.prog 46 #[.agg (insC i)] (.bool (serB i.op)) := by
  intro w
  obtain ⟨op, fn, rd, rs1, rs2, im, size, sgn, word, useImm, csr⟩ := i
  unfold insC
  simp only
  by_cases h11 : op = 11
  · subst h11
    go_enter Try.func46, Try.ntmps46
    go_wp2_with fail
    go_ret
    exact ⟨rfl, (Below.refl _ _).alloc (Nat.le_refl _) _⟩
  by_cases h12 : op = 12
  · subst h12
    clear h11
    go_enter Try.func46, Try.ntmps46
    go_wp2_with fail
    go_ret
    exact ⟨rfl, (Below.refl _ _).alloc (Nat.le_refl _) _⟩
  by_cases h13 : op = 13
  · subst h13
    clear h11 h12
    go_enter Try.func46, Try.ntmps46
    go_wp2_with fail
    go_ret
    exact ⟨rfl, (Below.refl _ _).alloc (Nat.le_refl _) _⟩
  by_cases h14 : op = 14
  · subst h14
    clear h11 h12 h13
    go_enter Try.func46, Try.ntmps46
    go_wp2_with fail
    go_ret
    exact ⟨rfl, (Below.refl _ _).alloc (Nat.le_refl _) _⟩
  by_cases h15 : op = 15
  · subst h15
    clear h11 h12 h13 h14
    go_enter Try.func46, Try.ntmps46
    go_wp2_with fail
    go_ret
    exact ⟨rfl, (Below.refl _ _).alloc (Nat.le_refl _) _⟩
  by_cases h16 : op = 16
  · subst h16
    clear h11 h12 h13 h14 h15
    go_enter Try.func46, Try.ntmps46
    go_wp2_with fail
    go_ret
    exact ⟨rfl, (Below.refl _ _).alloc (Nat.le_refl _) _⟩
  by_cases h17 : op = 17
  · subst h17
    clear h11 h12 h13 h14 h15 h16
    go_enter Try.func46, Try.ntmps46
    go_wp2_with fail
    go_ret
    exact ⟨rfl, (Below.refl _ _).alloc (Nat.le_refl _) _⟩
  by_cases h18 : op = 18
  · subst h18
    clear h11 h12 h13 h14 h15 h16 h17
    go_enter Try.func46, Try.ntmps46
    go_wp2_with fail
    go_ret
    exact ⟨rfl, (Below.refl _ _).alloc (Nat.le_refl _) _⟩
  by_cases h19 : op = 19
  · subst h19
    clear h11 h12 h13 h14 h15 h16 h17 h18
    go_enter Try.func46, Try.ntmps46
    go_wp2_with fail
    go_ret
    exact ⟨rfl, (Below.refl _ _).alloc (Nat.le_refl _) _⟩
  by_cases h0 : op = 0
  · subst h0
    clear h11 h12 h13 h14 h15 h16 h17 h18 h19
    go_enter Try.func46, Try.ntmps46
    go_wp2_with fail
    go_ret
    exact ⟨rfl, (Below.refl _ _).alloc (Nat.le_refl _) _⟩
  have f11 : (op == 11) = false := by simpa using h11
  have f12 : (op == 12) = false := by simpa using h12
  have f13 : (op == 13) = false := by simpa using h13
  have f14 : (op == 14) = false := by simpa using h14
  have f15 : (op == 15) = false := by simpa using h15
  have f16 : (op == 16) = false := by simpa using h16
  have f17 : (op == 17) = false := by simpa using h17
  have f18 : (op == 18) = false := by simpa using h18
  have f19 : (op == 19) = false := by simpa using h19
  have f0 : (op == 0) = false := by simpa using h0
  have hb := Lib.hid (show serB op = false from by unfold serB; rw [decide_eq_false h11, decide_eq_false h12, decide_eq_false h13, decide_eq_false h14, decide_eq_false h15, decide_eq_false h16, decide_eq_false h17, decide_eq_false h18, decide_eq_false h19, decide_eq_false h0]; rfl)
  clear h11 h12 h13 h14 h15 h16 h17 h18 h19 h0
  go_enter Try.func46, Try.ntmps46
  go_wp2_with fail
  go_ret
  exact ⟨ret_bool hb.out.symm, (Below.refl _ _).alloc (Nat.le_refl _) _⟩

theorem rserial_any (i : Ins) : Mk Try.prog 48 #[.agg (insC i)] (.bool (serB i.op)) := by
  intro w
  obtain ⟨op, fn, rd, rs1, rs2, im, size, sgn, word, useImm, csr⟩ := i
  unfold insC
  simp only
  by_cases h11 : op = 11
  · subst h11
    go_enter Try.func48, Try.ntmps48
    go_wp2_with fail
    go_ret
    exact ⟨rfl, (Below.refl _ _).alloc (Nat.le_refl _) _⟩
  by_cases h12 : op = 12
  · subst h12
    clear h11
    go_enter Try.func48, Try.ntmps48
    go_wp2_with fail
    go_ret
    exact ⟨rfl, (Below.refl _ _).alloc (Nat.le_refl _) _⟩
  by_cases h13 : op = 13
  · subst h13
    clear h11 h12
    go_enter Try.func48, Try.ntmps48
    go_wp2_with fail
    go_ret
    exact ⟨rfl, (Below.refl _ _).alloc (Nat.le_refl _) _⟩
  by_cases h14 : op = 14
  · subst h14
    clear h11 h12 h13
    go_enter Try.func48, Try.ntmps48
    go_wp2_with fail
    go_ret
    exact ⟨rfl, (Below.refl _ _).alloc (Nat.le_refl _) _⟩
  by_cases h15 : op = 15
  · subst h15
    clear h11 h12 h13 h14
    go_enter Try.func48, Try.ntmps48
    go_wp2_with fail
    go_ret
    exact ⟨rfl, (Below.refl _ _).alloc (Nat.le_refl _) _⟩
  by_cases h16 : op = 16
  · subst h16
    clear h11 h12 h13 h14 h15
    go_enter Try.func48, Try.ntmps48
    go_wp2_with fail
    go_ret
    exact ⟨rfl, (Below.refl _ _).alloc (Nat.le_refl _) _⟩
  by_cases h17 : op = 17
  · subst h17
    clear h11 h12 h13 h14 h15 h16
    go_enter Try.func48, Try.ntmps48
    go_wp2_with fail
    go_ret
    exact ⟨rfl, (Below.refl _ _).alloc (Nat.le_refl _) _⟩
  by_cases h18 : op = 18
  · subst h18
    clear h11 h12 h13 h14 h15 h16 h17
    go_enter Try.func48, Try.ntmps48
    go_wp2_with fail
    go_ret
    exact ⟨rfl, (Below.refl _ _).alloc (Nat.le_refl _) _⟩
  by_cases h19 : op = 19
  · subst h19
    clear h11 h12 h13 h14 h15 h16 h17 h18
    go_enter Try.func48, Try.ntmps48
    go_wp2_with fail
    go_ret
    exact ⟨rfl, (Below.refl _ _).alloc (Nat.le_refl _) _⟩
  by_cases h0 : op = 0
  · subst h0
    clear h11 h12 h13 h14 h15 h16 h17 h18 h19
    go_enter Try.func48, Try.ntmps48
    go_wp2_with fail
    go_ret
    exact ⟨rfl, (Below.refl _ _).alloc (Nat.le_refl _) _⟩
  have f11 : (op == 11) = false := by simpa using h11
  have f12 : (op == 12) = false := by simpa using h12
  have f13 : (op == 13) = false := by simpa using h13
  have f14 : (op == 14) = false := by simpa using h14
  have f15 : (op == 15) = false := by simpa using h15
  have f16 : (op == 16) = false := by simpa using h16
  have f17 : (op == 17) = false := by simpa using h17
  have f18 : (op == 18) = false := by simpa using h18
  have f19 : (op == 19) = false := by simpa using h19
  have f0 : (op == 0) = false := by simpa using h0
  have hb := Lib.hid (show serB op = false from by unfold serB; rw [decide_eq_false h11, decide_eq_false h12, decide_eq_false h13, decide_eq_false h14, decide_eq_false h15, decide_eq_false h16, decide_eq_false h17, decide_eq_false h18, decide_eq_false h19, decide_eq_false h0]; rfl)
  clear h11 h12 h13 h14 h15 h16 h17 h18 h19 h0
  go_enter Try.func48, Try.ntmps48
  go_wp2_with fail
  go_ret
  exact ⟨ret_bool hb.out.symm, (Below.refl _ _).alloc (Nat.le_refl _) _⟩

end Go.Proofs.Ytnhbekgmameeaaa
