/- Two cores compared: one with itself. -/
import Derived.Test.YthijheijognhmaaTrapRets
import Derived.Test.YthijheijognhmaaTrapRef2
import Derived.DeepKeys
namespace Go.Proofs.Ythijheijognhmaa
open Go.RowKit Wd
set_option linter.unusedVariables false
set_option linter.unusedSimpArgs false

theorem keyH : Try.prog.keyTypeAt 6 28 = true := by kernel_rfl
theorem wf_w (v : BitVec 64) : (Lit.int .u64 (v.toNat : Int)).wf = true := by
  have := v.isLt
  simp [Lit.wf, IntKind.min, IntKind.max, IntKind.signed, IntKind.bits]
  omega
def litsL (h : Hart) : List Lit := [.int .u64 (h.pc.toNat : Int), .int .i64 h.priv, .int .u64 ((h.x 0).toNat : Int), .int .u64 ((h.x 1).toNat : Int), .int .u64 ((h.x 2).toNat : Int), .int .u64 ((h.x 3).toNat : Int), .int .u64 ((h.x 4).toNat : Int), .int .u64 ((h.x 5).toNat : Int), .int .u64 ((h.x 6).toNat : Int), .int .u64 ((h.x 7).toNat : Int), .int .u64 ((h.x 8).toNat : Int), .int .u64 ((h.x 9).toNat : Int), .int .u64 ((h.x 10).toNat : Int), .int .u64 ((h.x 11).toNat : Int), .int .u64 ((h.x 12).toNat : Int), .int .u64 ((h.x 13).toNat : Int), .int .u64 ((h.x 14).toNat : Int), .int .u64 ((h.x 15).toNat : Int), .int .u64 ((h.x 16).toNat : Int), .int .u64 ((h.x 17).toNat : Int), .int .u64 ((h.x 18).toNat : Int), .int .u64 ((h.x 19).toNat : Int), .int .u64 ((h.x 20).toNat : Int), .int .u64 ((h.x 21).toNat : Int), .int .u64 ((h.x 22).toNat : Int), .int .u64 ((h.x 23).toNat : Int), .int .u64 ((h.x 24).toNat : Int), .int .u64 ((h.x 25).toNat : Int), .int .u64 ((h.x 26).toNat : Int), .int .u64 ((h.x 27).toNat : Int), .int .u64 ((h.x 28).toNat : Int), .int .u64 ((h.x 29).toNat : Int), .int .u64 ((h.x 30).toNat : Int), .int .u64 ((h.x 31).toNat : Int), .int .u64 (h.status.toNat : Int), .int .u64 (h.edeleg.toNat : Int), .int .u64 (h.ideleg.toNat : Int), .int .u64 (h.ie.toNat : Int), .int .u64 (h.ip.toNat : Int), .int .u64 (h.tvec.toNat : Int), .int .u64 (h.counteren.toNat : Int), .int .u64 (h.scratch.toNat : Int), .int .u64 (h.epc.toNat : Int), .int .u64 (h.cause.toNat : Int), .int .u64 (h.tval.toNat : Int), .int .u64 (h.stvec.toNat : Int), .int .u64 (h.scounteren.toNat : Int), .int .u64 (h.sscratch.toNat : Int), .int .u64 (h.sepc.toNat : Int), .int .u64 (h.scause.toNat : Int), .int .u64 (h.stval.toNat : Int), .int .u64 (h.satp.toNat : Int), .int .u64 (h.inhibit.toNat : Int), .int .u64 (h.instret.toNat : Int), .int .u64 (h.cycle.toNat : Int), .int .u64 (h.cyAt.toNat : Int), .int .u64 ((h.ev 0).toNat : Int), .int .u64 ((h.ev 1).toNat : Int), .int .u64 ((h.ev 2).toNat : Int), .int .u64 ((h.ev 3).toNat : Int), .int .u64 ((h.hpm 0).toNat : Int), .int .u64 ((h.hpm 1).toNat : Int), .int .u64 ((h.hpm 2).toNat : Int), .int .u64 ((h.hpm 3).toNat : Int), .bool h.res, .int .u64 (h.resAt.toNat : Int)]
theorem kl_w (d : Nat) (v : BitVec 64) : Try.prog.keyLits (d + 1) 22 [.int .u64 (v.toNat : Int)] = some [.int .u64 (v.toNat : Int)] := by
  unfold Program.keyLits
  rw [Try.underlying22]
  simp only [wf_w, and_self, if_true]
theorem kl_i (d : Nat) (n : Int) (hn : (Lit.int .i64 n).wf = true) : Try.prog.keyLits (d + 1) 3 [.int .i64 n] = some [.int .i64 n] := by
  unfold Program.keyLits
  rw [Try.underlying3]
  simp only [hn, and_self, if_true]
theorem kl_b (d : Nat) (b : Bool) : Try.prog.keyLits (d + 1) 4 [.bool b] = some [.bool b] := by
  unfold Program.keyLits
  rw [Try.underlying4]
set_option maxRecDepth 20000 in
set_option maxHeartbeats 4000000 in
theorem kl_32 (d : Nat) (v0 v1 v2 v3 v4 v5 v6 v7 v8 v9 v10 v11 v12 v13 v14 v15 v16 v17 v18 v19 v20 v21 v22 v23 v24 v25 v26 v27 v28 v29 v30 v31 : BitVec 64) : Try.prog.keyLits (d + 2) 23 [.int .u64 (v0.toNat : Int), .int .u64 (v1.toNat : Int), .int .u64 (v2.toNat : Int), .int .u64 (v3.toNat : Int), .int .u64 (v4.toNat : Int), .int .u64 (v5.toNat : Int), .int .u64 (v6.toNat : Int), .int .u64 (v7.toNat : Int), .int .u64 (v8.toNat : Int), .int .u64 (v9.toNat : Int), .int .u64 (v10.toNat : Int), .int .u64 (v11.toNat : Int), .int .u64 (v12.toNat : Int), .int .u64 (v13.toNat : Int), .int .u64 (v14.toNat : Int), .int .u64 (v15.toNat : Int), .int .u64 (v16.toNat : Int), .int .u64 (v17.toNat : Int), .int .u64 (v18.toNat : Int), .int .u64 (v19.toNat : Int), .int .u64 (v20.toNat : Int), .int .u64 (v21.toNat : Int), .int .u64 (v22.toNat : Int), .int .u64 (v23.toNat : Int), .int .u64 (v24.toNat : Int), .int .u64 (v25.toNat : Int), .int .u64 (v26.toNat : Int), .int .u64 (v27.toNat : Int), .int .u64 (v28.toNat : Int), .int .u64 (v29.toNat : Int), .int .u64 (v30.toNat : Int), .int .u64 (v31.toNat : Int)] = some [.int .u64 (v0.toNat : Int), .int .u64 (v1.toNat : Int), .int .u64 (v2.toNat : Int), .int .u64 (v3.toNat : Int), .int .u64 (v4.toNat : Int), .int .u64 (v5.toNat : Int), .int .u64 (v6.toNat : Int), .int .u64 (v7.toNat : Int), .int .u64 (v8.toNat : Int), .int .u64 (v9.toNat : Int), .int .u64 (v10.toNat : Int), .int .u64 (v11.toNat : Int), .int .u64 (v12.toNat : Int), .int .u64 (v13.toNat : Int), .int .u64 (v14.toNat : Int), .int .u64 (v15.toNat : Int), .int .u64 (v16.toNat : Int), .int .u64 (v17.toNat : Int), .int .u64 (v18.toNat : Int), .int .u64 (v19.toNat : Int), .int .u64 (v20.toNat : Int), .int .u64 (v21.toNat : Int), .int .u64 (v22.toNat : Int), .int .u64 (v23.toNat : Int), .int .u64 (v24.toNat : Int), .int .u64 (v25.toNat : Int), .int .u64 (v26.toNat : Int), .int .u64 (v27.toNat : Int), .int .u64 (v28.toNat : Int), .int .u64 (v29.toNat : Int), .int .u64 (v30.toNat : Int), .int .u64 (v31.toNat : Int)] := by
  have c22 : Try.prog.cellsOf 22 = 1 := by kernel_rfl
  have cA : Try.prog.cellsOf 23 = 32 := by kernel_rfl
  unfold Program.keyLits
  rw [Try.underlying23]
  simp [kl_w, c22, cA, List.range, List.range.loop]
set_option maxRecDepth 20000 in
set_option maxHeartbeats 4000000 in
theorem kl_4 (d : Nat) (v0 v1 v2 v3 : BitVec 64) : Try.prog.keyLits (d + 2) 24 [.int .u64 (v0.toNat : Int), .int .u64 (v1.toNat : Int), .int .u64 (v2.toNat : Int), .int .u64 (v3.toNat : Int)] = some [.int .u64 (v0.toNat : Int), .int .u64 (v1.toNat : Int), .int .u64 (v2.toNat : Int), .int .u64 (v3.toNat : Int)] := by
  have c22 : Try.prog.cellsOf 22 = 1 := by kernel_rfl
  have cA : Try.prog.cellsOf 24 = 4 := by kernel_rfl
  unfold Program.keyLits
  rw [Try.underlying24]
  simp [kl_w, c22, cA, List.range, List.range.loop]
set_option maxRecDepth 20000 in
set_option maxHeartbeats 4000000 in
theorem lits26 (h : Hart) : Try.prog.keyLits 5 26 [.int .u64 (h.status.toNat : Int), .int .u64 (h.edeleg.toNat : Int), .int .u64 (h.ideleg.toNat : Int), .int .u64 (h.ie.toNat : Int), .int .u64 (h.ip.toNat : Int), .int .u64 (h.tvec.toNat : Int), .int .u64 (h.counteren.toNat : Int), .int .u64 (h.scratch.toNat : Int), .int .u64 (h.epc.toNat : Int), .int .u64 (h.cause.toNat : Int), .int .u64 (h.tval.toNat : Int), .int .u64 (h.stvec.toNat : Int), .int .u64 (h.scounteren.toNat : Int), .int .u64 (h.sscratch.toNat : Int), .int .u64 (h.sepc.toNat : Int), .int .u64 (h.scause.toNat : Int), .int .u64 (h.stval.toNat : Int), .int .u64 (h.satp.toNat : Int), .int .u64 (h.inhibit.toNat : Int), .int .u64 (h.instret.toNat : Int), .int .u64 (h.cycle.toNat : Int), .int .u64 (h.cyAt.toNat : Int), .int .u64 ((h.ev 0).toNat : Int), .int .u64 ((h.ev 1).toNat : Int), .int .u64 ((h.ev 2).toNat : Int), .int .u64 ((h.ev 3).toNat : Int), .int .u64 ((h.hpm 0).toNat : Int), .int .u64 ((h.hpm 1).toNat : Int), .int .u64 ((h.hpm 2).toNat : Int), .int .u64 ((h.hpm 3).toNat : Int)] = some [.int .u64 (h.status.toNat : Int), .int .u64 (h.edeleg.toNat : Int), .int .u64 (h.ideleg.toNat : Int), .int .u64 (h.ie.toNat : Int), .int .u64 (h.ip.toNat : Int), .int .u64 (h.tvec.toNat : Int), .int .u64 (h.counteren.toNat : Int), .int .u64 (h.scratch.toNat : Int), .int .u64 (h.epc.toNat : Int), .int .u64 (h.cause.toNat : Int), .int .u64 (h.tval.toNat : Int), .int .u64 (h.stvec.toNat : Int), .int .u64 (h.scounteren.toNat : Int), .int .u64 (h.sscratch.toNat : Int), .int .u64 (h.sepc.toNat : Int), .int .u64 (h.scause.toNat : Int), .int .u64 (h.stval.toNat : Int), .int .u64 (h.satp.toNat : Int), .int .u64 (h.inhibit.toNat : Int), .int .u64 (h.instret.toNat : Int), .int .u64 (h.cycle.toNat : Int), .int .u64 (h.cyAt.toNat : Int), .int .u64 ((h.ev 0).toNat : Int), .int .u64 ((h.ev 1).toNat : Int), .int .u64 ((h.ev 2).toNat : Int), .int .u64 ((h.ev 3).toNat : Int), .int .u64 ((h.hpm 0).toNat : Int), .int .u64 ((h.hpm 1).toNat : Int), .int .u64 ((h.hpm 2).toNat : Int), .int .u64 ((h.hpm 3).toNat : Int)] := by
  have c22 : Try.prog.cellsOf 22 = 1 := by kernel_rfl
  have c24 : Try.prog.cellsOf 24 = 4 := by kernel_rfl
  have c26 : Try.prog.cellsOf 26 = 30 := by kernel_rfl
  unfold Program.keyLits
  rw [Try.underlying26]
  simp only
  rw [if_pos ⟨c26.symm, by decide +kernel⟩]
  simp [kl_w, kl_4, c22, c24]
set_option maxRecDepth 20000 in
set_option maxHeartbeats 4000000 in
theorem litsH (h : Hart) (hp : (Lit.int .i64 h.priv).wf = true) : Try.prog.keyLits 6 28 (hartL h) = some (litsL h) := by
  have c22 : Try.prog.cellsOf 22 = 1 := by kernel_rfl
  have c3 : Try.prog.cellsOf 3 = 1 := by kernel_rfl
  have c4 : Try.prog.cellsOf 4 = 1 := by kernel_rfl
  have c23 : Try.prog.cellsOf 23 = 32 := by kernel_rfl
  have c26 : Try.prog.cellsOf 26 = 30 := by kernel_rfl
  have c28 : Try.prog.cellsOf 28 = 66 := by kernel_rfl
  have L := lits26 h
  unfold Program.keyLits
  rw [Try.underlying28]
  simp only
  rw [if_pos ⟨c28.symm, by decide +kernel⟩]
  simp [kl_w, kl_32, kl_i _ _ hp, kl_b, L, c22, c3, c4, c23, c26, hartL, litsL]
theorem below_alloc {w w' : World} {o : Obj} (hb : Below (w.alloc o).heap.size (w.alloc o) w') : Below w.heap.size w w' :=
  ((Below.refl w.heap.size w).alloc (Nat.le_refl _) o).trans (hb.mono (by simp))
theorem formedH (h : Hart) : (Value.agg (hartC h)).formed Try.prog 28 = true := by
  have c28 : Try.prog.cellsOf 28 = 66 := by kernel_rfl
  unfold Value.formed
  rw [Try.underlying28]
  simp only [hart_size, c28]
  rfl
theorem eq_hart (h : Hart) (hp : (Lit.int .i64 h.priv).wf = true) (w : World) : (Op.equalIn 10000 28 (.agg (hartC h)) (.agg (hartC h))).run Try.prog w = .ok true w := by
  have hl := litsH h hp
  obtain ⟨r, hr, hi⟩ := run_equalIn_deep 9994 6 28 keyH w 6 6 (.agg (hartC h)) (.agg (hartC h)) _ _ (formedH h) (formedH h) hl hl
  rw [hr, hi.2 rfl]
end Go.Proofs.Ythijheijognhmaa
