/- Contracts: the document's size, opcode, load. -/
import Derived.Test.YtnhbekgmameeaaaIns2
import Derived.Test.YtnhbekgmameeaaaLate
import Derived.Test.YtnhbekgmameeaaaDecPlain
namespace Go.Proofs.Ytnhbekgmameeaaa
open Go.RowKit Wd
set_option linter.unusedVariables false
set_option linter.unusedSimpArgs false
attribute [local go_sem] loadI_lit loadI_ins rowI_alloc rowI_drew rowI_drewN
attribute [local go_sem ↓] loadI_run
set_option maxRecDepth 20000
theorem rsize_any (n : Int) : Qt Try.prog 104 #[.int .i64 n] (.int .i64 (widthI n)) := by
  intro w
  by_cases h1 : n = 1
  · subst h1
    go_enter Try.func104, Try.ntmps104
    go_wp2_with fail
    go_ret
    exact ⟨rfl, Quiet.refl _⟩
  by_cases h2 : n = 2
  · subst h2
    go_enter Try.func104, Try.ntmps104
    go_wp2_with fail
    go_ret
    exact ⟨rfl, Quiet.refl _⟩
  by_cases h4 : n = 4
  · subst h4
    go_enter Try.func104, Try.ntmps104
    go_wp2_with fail
    go_ret
    exact ⟨rfl, Quiet.refl _⟩
  by_cases h8 : n = 8
  · subst h8
    go_enter Try.func104, Try.ntmps104
    go_wp2_with fail
    go_ret
    exact ⟨rfl, Quiet.refl _⟩
  have f1 : (n == 1) = false := by simpa using h1
  have f2 : (n == 2) = false := by simpa using h2
  have f4 : (n == 4) = false := by simpa using h4
  have f8 : (n == 8) = false := by simpa using h8
  have hr := Lib.hid (show widthI n = -1 from by unfold widthI; rw [if_neg h1, if_neg h2, if_neg h4, if_neg h8])
  clear h1 h2 h4 h8
  go_enter Try.func104, Try.ntmps104
  go_wp2_with fail
  go_ret
  exact ⟨ret_int hr.out.symm, Quiet.refl _⟩
theorem ropcode_51 (W : Bool) : Qt Try.prog 107 #[.bool W, .int .i64 51] (.int .i64 (opcI W 51)) := by
  intro w
  cases W
  · go_enter Try.func107, Try.ntmps107
    go_wp2_with fail
    go_ret
    exact ⟨rfl, Quiet.refl _⟩
  · go_enter Try.func107, Try.ntmps107
    go_wp2_with fail
    go_ret
    exact ⟨rfl, Quiet.refl _⟩
theorem ropcode_19 (W : Bool) : Qt Try.prog 107 #[.bool W, .int .i64 19] (.int .i64 (opcI W 19)) := by
  intro w
  cases W
  · go_enter Try.func107, Try.ntmps107
    go_wp2_with fail
    go_ret
    exact ⟨rfl, Quiet.refl _⟩
  · go_enter Try.func107, Try.ntmps107
    go_wp2_with fail
    go_ret
    exact ⟨rfl, Quiet.refl _⟩
theorem rload_true (op fn rd rs1 rs2 : Int) (im : BitVec 64) (size : Int) (word useImm : Bool) (csr k : Int) (cW : Hid (Qt Try.prog 104 #[.int .i64 size] (.int .i64 k))) (hk1 : -1 ≤ k) (hk2 : k ≤ 3) : Mk Try.prog 102 #[.agg #[.int .i64 op, .int .i64 fn, .int .i64 rd, .int .i64 rs1, .int .i64 rs2, .int .u64 (im.toNat : Int), .int .i64 size, .bool true, .bool word, .bool useImm, .int .i64 csr]] (.int .i64 (k)) := by
  intro w
  have hb := Below.refl (w.alloc (.cells #[.int .i64 op, .int .i64 fn, .int .i64 rd, .int .i64 rs1, .int .i64 rs2, .int .u64 (im.toNat : Int), .int .i64 size, .bool true, .bool word, .bool useImm, .int .i64 csr] 44)).heap.size (w.alloc (.cells #[.int .i64 op, .int .i64 fn, .int .i64 rd, .int .i64 rs1, .int .i64 rs2, .int .u64 (im.toNat : Int), .int .i64 size, .bool true, .bool word, .bool useImm, .int .i64 csr] 44))
  have B := Lib.hid (Box.new w [.int .i64 op, .int .i64 fn, .int .i64 rd, .int .i64 rs1, .int .i64 rs2, .int .u64 (im.toNat : Int), .int .i64 size, .bool true, .bool word, .bool useImm, .int .i64 csr] 44)
  obtain ⟨c0, c1, c2, c3, c4, c5, c6, c7, c8, c9, c10⟩ := B.out.eleven
  go_enter Try.func102, Try.ntmps102
  go_wp2_with (go_at_call 104; refine ((cW.out.mk).at hb).mono ?_; clear hb c0 c1 c2 c3 c4 c5 c6 c7 c8 c9 c10; rintro e w1 ⟨rfl, hb⟩; obtain ⟨c0, c1, c2, c3, c4, c5, c6, c7, c8, c9, c10⟩ := (B.out.below hb).eleven)
  go_ret
  exact ⟨rfl, below_alloc hb⟩
theorem rload_false_ge (op fn rd rs1 rs2 : Int) (im : BitVec 64) (size : Int) (word useImm : Bool) (csr k : Int) (cW : Hid (Qt Try.prog 104 #[.int .i64 size] (.int .i64 k))) (hk1 : -1 ≤ k) (hk2 : k ≤ 3) (h0 : 0 ≤ k) : Mk Try.prog 102 #[.agg #[.int .i64 op, .int .i64 fn, .int .i64 rd, .int .i64 rs1, .int .i64 rs2, .int .u64 (im.toNat : Int), .int .i64 size, .bool false, .bool word, .bool useImm, .int .i64 csr]] (.int .i64 (k + 4)) := by
  intro w
  have hb := Below.refl (w.alloc (.cells #[.int .i64 op, .int .i64 fn, .int .i64 rd, .int .i64 rs1, .int .i64 rs2, .int .u64 (im.toNat : Int), .int .i64 size, .bool false, .bool word, .bool useImm, .int .i64 csr] 44)).heap.size (w.alloc (.cells #[.int .i64 op, .int .i64 fn, .int .i64 rd, .int .i64 rs1, .int .i64 rs2, .int .u64 (im.toNat : Int), .int .i64 size, .bool false, .bool word, .bool useImm, .int .i64 csr] 44))
  have B := Lib.hid (Box.new w [.int .i64 op, .int .i64 fn, .int .i64 rd, .int .i64 rs1, .int .i64 rs2, .int .u64 (im.toNat : Int), .int .i64 size, .bool false, .bool word, .bool useImm, .int .i64 csr] 44)
  obtain ⟨c0, c1, c2, c3, c4, c5, c6, c7, c8, c9, c10⟩ := B.out.eleven
  go_enter Try.func102, Try.ntmps102
  go_wp2_with (go_at_call 104; refine ((cW.out.mk).at hb).mono ?_; clear hb c0 c1 c2 c3 c4 c5 c6 c7 c8 c9 c10; rintro e w1 ⟨rfl, hb⟩; obtain ⟨c0, c1, c2, c3, c4, c5, c6, c7, c8, c9, c10⟩ := (B.out.below hb).eleven)
  go_ret
  exact ⟨rfl, below_alloc hb⟩
theorem rload_false_lt (op fn rd rs1 rs2 : Int) (im : BitVec 64) (size : Int) (word useImm : Bool) (csr k : Int) (cW : Hid (Qt Try.prog 104 #[.int .i64 size] (.int .i64 k))) (hk1 : -1 ≤ k) (hk2 : k ≤ 3) (h0 : ¬ 0 ≤ k) : Mk Try.prog 102 #[.agg #[.int .i64 op, .int .i64 fn, .int .i64 rd, .int .i64 rs1, .int .i64 rs2, .int .u64 (im.toNat : Int), .int .i64 size, .bool false, .bool word, .bool useImm, .int .i64 csr]] (.int .i64 (k)) := by
  intro w
  have hb := Below.refl (w.alloc (.cells #[.int .i64 op, .int .i64 fn, .int .i64 rd, .int .i64 rs1, .int .i64 rs2, .int .u64 (im.toNat : Int), .int .i64 size, .bool false, .bool word, .bool useImm, .int .i64 csr] 44)).heap.size (w.alloc (.cells #[.int .i64 op, .int .i64 fn, .int .i64 rd, .int .i64 rs1, .int .i64 rs2, .int .u64 (im.toNat : Int), .int .i64 size, .bool false, .bool word, .bool useImm, .int .i64 csr] 44))
  have B := Lib.hid (Box.new w [.int .i64 op, .int .i64 fn, .int .i64 rd, .int .i64 rs1, .int .i64 rs2, .int .u64 (im.toNat : Int), .int .i64 size, .bool false, .bool word, .bool useImm, .int .i64 csr] 44)
  obtain ⟨c0, c1, c2, c3, c4, c5, c6, c7, c8, c9, c10⟩ := B.out.eleven
  go_enter Try.func102, Try.ntmps102
  go_wp2_with (go_at_call 104; refine ((cW.out.mk).at hb).mono ?_; clear hb c0 c1 c2 c3 c4 c5 c6 c7 c8 c9 c10; rintro e w1 ⟨rfl, hb⟩; obtain ⟨c0, c1, c2, c3, c4, c5, c6, c7, c8, c9, c10⟩ := (B.out.below hb).eleven)
  go_ret
  exact ⟨rfl, below_alloc hb⟩
theorem rwidth_bd (n : Int) : -1 ≤ widthI n ∧ widthI n ≤ 3 := by
  unfold widthI
  repeat (first | split | omega)
theorem rload_any (i : Ins) : Mk Try.prog 102 #[.agg (insC i)] (.int .i64 (loadF i)) := by
  obtain ⟨op, fn, rd, rs1, rs2, im, size, sgn, word, useImm, csr⟩ := i
  have b := rwidth_bd size
  unfold loadF
  simp only
  cases sgn
  · by_cases h0 : 0 ≤ widthI size
    · rw [if_pos ⟨rfl, h0⟩]
      exact rload_false_ge op fn rd rs1 rs2 im size word useImm csr _ (Lib.hid (rsize_any size)) b.1 b.2 h0
    · rw [if_neg (fun a => h0 a.2)]
      exact rload_false_lt op fn rd rs1 rs2 im size word useImm csr _ (Lib.hid (rsize_any size)) b.1 b.2 h0
  · rw [if_neg (fun a => by simp at a)]
    exact rload_true op fn rd rs1 rs2 im size word useImm csr _ (Lib.hid (rsize_any size)) b.1 b.2
end Go.Proofs.Ytnhbekgmameeaaa
