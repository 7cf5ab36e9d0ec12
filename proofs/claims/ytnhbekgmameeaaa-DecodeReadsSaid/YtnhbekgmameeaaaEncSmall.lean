/- Contracts: package decode's width, funct3, funct7, opcode. -/
import Derived.Test.YtnhbekgmameeaaaIns2
import Derived.Test.YtnhbekgmameeaaaLate
import Derived.Test.YtnhbekgmameeaaaDecPlain
namespace Go.Proofs.Ytnhbekgmameeaaa
open Go.RowKit Wd
set_option linter.unusedVariables false
set_option linter.unusedSimpArgs false
attribute [local go_sem] loadI_lit loadI_ins rowI_alloc rowI_drew rowI_drewN
attribute [local go_sem ↓] loadI_run
set_option maxRecDepth 20000
set_option maxHeartbeats 2000000 in
theorem width_any (n : Int) : Qt Try.prog 92 #[.int .i64 n] (.int .i64 (widthI n)) := by
  intro w
  by_cases h1 : n = 1
  · subst h1
    go_enter Try.func92, Try.ntmps92
    go_wp2_with fail
    refine wp_loop_rounds 5 ?_
    repeat (rw [rounds_succ]; go_wp2_with fail)
    go_ret
    exact ⟨rfl, Quiet.refl _⟩
  by_cases h2 : n = 2
  · subst h2
    go_enter Try.func92, Try.ntmps92
    go_wp2_with fail
    refine wp_loop_rounds 5 ?_
    repeat (rw [rounds_succ]; go_wp2_with fail)
    go_ret
    exact ⟨rfl, Quiet.refl _⟩
  by_cases h4 : n = 4
  · subst h4
    go_enter Try.func92, Try.ntmps92
    go_wp2_with fail
    refine wp_loop_rounds 5 ?_
    repeat (rw [rounds_succ]; go_wp2_with fail)
    go_ret
    exact ⟨rfl, Quiet.refl _⟩
  by_cases h8 : n = 8
  · subst h8
    go_enter Try.func92, Try.ntmps92
    go_wp2_with fail
    refine wp_loop_rounds 5 ?_
    repeat (rw [rounds_succ]; go_wp2_with fail)
    go_ret
    exact ⟨rfl, Quiet.refl _⟩
  have f1 : (n == 1) = false := by simpa using h1
  have f2 : (n == 2) = false := by simpa using h2
  have f4 : (n == 4) = false := by simpa using h4
  have f8 : (n == 8) = false := by simpa using h8
  have hr := Lib.hid (show widthI n = -1 from by unfold widthI; rw [if_neg h1, if_neg h2, if_neg h4, if_neg h8])
  clear h1 h2 h4 h8
  go_enter Try.func92, Try.ntmps92
  go_wp2_with fail
  refine wp_loop_rounds 5 ?_
  repeat (rw [rounds_succ]; go_wp2_with fail)
  go_ret
  exact ⟨ret_int hr.out.symm, Quiet.refl _⟩
theorem funct3_any (n : Int) : Qt Try.prog 95 #[.int .i64 n] (.int .i64 (if n = 8 then 0 else if n = 13 then 5 else n)) := by
  intro w
  by_cases h8 : n = 8
  · subst h8
    go_enter Try.func95, Try.ntmps95
    go_wp2_with fail
    go_ret
    exact ⟨rfl, Quiet.refl _⟩
  by_cases h13 : n = 13
  · subst h13
    clear h8
    go_enter Try.func95, Try.ntmps95
    go_wp2_with fail
    go_ret
    exact ⟨rfl, Quiet.refl _⟩
  have f8 : (n == 8) = false := by simpa using h8
  have f13 : (n == 13) = false := by simpa using h13
  rw [if_neg h8, if_neg h13]
  clear h8 h13
  go_enter Try.func95, Try.ntmps95
  go_wp2_with fail
  go_ret
  exact ⟨rfl, Quiet.refl _⟩
theorem opcode_any (W : Bool) (a b : Int) : Qt Try.prog 94 #[.bool W, .int .i64 a, .int .i64 b] (.int .i64 (if W = true then b else a)) := by
  intro w
  cases W
  · go_enter Try.func94, Try.ntmps94
    go_wp2_with fail
    go_ret
    exact ⟨rfl, Quiet.refl _⟩
  · go_enter Try.func94, Try.ntmps94
    go_wp2_with fail
    go_ret
    exact ⟨rfl, Quiet.refl _⟩
theorem opcode_51 (W : Bool) : Qt Try.prog 94 #[.bool W, .int .i64 51, .int .i64 59] (.int .i64 (opcI W 51)) := by
  have := opcode_any W 51 59
  cases W <;> exact this
theorem opcode_19 (W : Bool) : Qt Try.prog 94 #[.bool W, .int .i64 19, .int .i64 27] (.int .i64 (opcI W 19)) := by
  have := opcode_any W 19 27
  cases W <;> exact this
namespace Wd
def f7of (n : Int) : Int := if n = 8 ∨ n = 13 then 32 else 0
end Wd
theorem funct7_any (op fn rd rs1 rs2 : Int) (im : BitVec 64) (size : Int) (sgn word useImm : Bool) (csr : Int) : Mk Try.prog 96 #[.agg #[.int .i64 op, .int .i64 fn, .int .i64 rd, .int .i64 rs1, .int .i64 rs2, .int .u64 (im.toNat : Int), .int .i64 size, .bool sgn, .bool word, .bool useImm, .int .i64 csr]] (.int .i64 (f7of fn)) := by
  intro w
  by_cases h8 : fn = 8
  · subst h8
    go_enter Try.func96, Try.ntmps96
    go_wp2_with fail
    go_ret
    exact ⟨rfl, (Below.refl _ _).alloc (Nat.le_refl _) _⟩
  by_cases h13 : fn = 13
  · subst h13
    clear h8
    go_enter Try.func96, Try.ntmps96
    go_wp2_with fail
    go_ret
    exact ⟨rfl, (Below.refl _ _).alloc (Nat.le_refl _) _⟩
  have f8 : (fn == 8) = false := by simpa using h8
  have f13 : (fn == 13) = false := by simpa using h13
  have hr := Lib.hid (show f7of fn = 0 from if_neg (by omega))
  clear h8 h13
  go_enter Try.func96, Try.ntmps96
  go_wp2_with fail
  go_ret
  exact ⟨ret_int hr.out.symm, (Below.refl _ _).alloc (Nat.le_refl _) _⟩
end Go.Proofs.Ytnhbekgmameeaaa
