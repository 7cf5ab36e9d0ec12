/- Two instructions compared: cell by cell. -/
import Derived.Test.YtnhbekgmameeaaaIns
import Derived.Laws.StructEq
namespace Go.Proofs.Ytnhbekgmameeaaa
open Go.RowKit Wd
set_option linter.unusedSimpArgs false
theorem eqF_step (d : Nat) (xs ys : Array Value) (f : Field) (fs : List Field) (x y : Value) (b : Bool) (w : World) (hn : (f.name ≠ "_") = True) (hx : (part f.type xs f.offset).run Try.prog w = .ok x w) (hy : (part f.type ys f.offset).run Try.prog w = .ok y w)
    (he : (Op.equalIn d f.type x y).run Try.prog w = .ok b w) : (Op.eqFields d xs ys (f :: fs)).run Try.prog w = if b = true then (Op.eqFields d xs ys fs).run Try.prog w else .ok false w := by
  simp only [Op.eqFields, Sem.run_ite, hn, if_true, Sem.run_bind, hx, hy, he, Result.andThen_ok]
  cases b <;> simp
theorem part_one (t : TypeId) (cs : Array Value) (o : Nat) (v : Value) (w : World) (ha : (isAgg t).run Try.prog w = .ok false w) (h : cs[o]? = some v) : (part t cs o).run Try.prog w = .ok v w := by
  simp [part, ha, h]
theorem agg_int (w : World) : (isAgg 3).run Try.prog w = .ok false w := by simp [isAgg, run_underlying Try.underlying3]
theorem agg_u64 (w : World) : (isAgg 22).run Try.prog w = .ok false w := by simp [isAgg, run_underlying Try.underlying22]
theorem agg_bool (w : World) : (isAgg 4).run Try.prog w = .ok false w := by simp [isAgg, run_underlying Try.underlying4]
theorem step_i (xs ys : Array Value) (f : Field) (fs : List Field) (a b : Int) (w : World) (hn : (f.name ≠ "_") = True) (ht : f.type = 3) (hx : xs[f.offset]? = some (.int .i64 a)) (hy : ys[f.offset]? = some (.int .i64 b)) :
    (Op.eqFields 9999 xs ys (f :: fs)).run Try.prog w = if (a == b) = true then (Op.eqFields 9999 xs ys fs).run Try.prog w else .ok false w :=
  eqF_step _ _ _ _ _ _ _ _ _ hn (part_one _ _ _ _ _ (by rw [ht]; exact agg_int w) hx) (part_one _ _ _ _ _ (by rw [ht]; exact agg_int w) hy) (by rw [ht]; exact run_equalIn_int w 9998 3 .i64 .i64 a b Try.underlying3)
theorem step_u (xs ys : Array Value) (f : Field) (fs : List Field) (a b : Int) (w : World) (hn : (f.name ≠ "_") = True) (ht : f.type = 22) (hx : xs[f.offset]? = some (.int .u64 a)) (hy : ys[f.offset]? = some (.int .u64 b)) :
    (Op.eqFields 9999 xs ys (f :: fs)).run Try.prog w = if (a == b) = true then (Op.eqFields 9999 xs ys fs).run Try.prog w else .ok false w :=
  eqF_step _ _ _ _ _ _ _ _ _ hn (part_one _ _ _ _ _ (by rw [ht]; exact agg_u64 w) hx) (part_one _ _ _ _ _ (by rw [ht]; exact agg_u64 w) hy) (by rw [ht]; exact run_equalIn_int w 9998 22 .u64 .u64 a b Try.underlying22)
theorem step_b (xs ys : Array Value) (f : Field) (fs : List Field) (a b : Bool) (w : World) (hn : (f.name ≠ "_") = True) (ht : f.type = 4) (hx : xs[f.offset]? = some (.bool a)) (hy : ys[f.offset]? = some (.bool b)) :
    (Op.eqFields 9999 xs ys (f :: fs)).run Try.prog w = if (a == b) = true then (Op.eqFields 9999 xs ys fs).run Try.prog w else .ok false w :=
  eqF_step _ _ _ _ _ _ _ _ _ hn (part_one _ _ _ _ _ (by rw [ht]; exact agg_bool w) hx) (part_one _ _ _ _ _ (by rw [ht]; exact agg_bool w) hy) (by rw [ht]; exact run_equalIn_bool' w 9998 4 a b Try.underlying4)
theorem eq_ins (i j : Ins) (w : World) : (Op.equalIn 10000 44 (.agg (insC i)) (.agg (insC j))).run Try.prog w = .ok (insB i j) w := by
  unfold insC
  rw [run_equalIn_agg w 9999 44 _ _ (by kernel_rfl) (by kernel_rfl)]
  unfold Program.fieldsOf
  rw [Try.underlying44]
  simp only
  rw [step_i _ _ _ _ _ _ _ (by decide) rfl rfl rfl]
  rw [step_i _ _ _ _ _ _ _ (by decide) rfl rfl rfl]
  rw [step_i _ _ _ _ _ _ _ (by decide) rfl rfl rfl]
  rw [step_i _ _ _ _ _ _ _ (by decide) rfl rfl rfl]
  rw [step_i _ _ _ _ _ _ _ (by decide) rfl rfl rfl]
  rw [step_u _ _ _ _ _ _ _ (by decide) rfl rfl rfl]
  rw [step_i _ _ _ _ _ _ _ (by decide) rfl rfl rfl]
  rw [step_b _ _ _ _ _ _ _ (by decide) rfl rfl rfl]
  rw [step_b _ _ _ _ _ _ _ (by decide) rfl rfl rfl]
  rw [step_b _ _ _ _ _ _ _ (by decide) rfl rfl rfl]
  rw [step_i _ _ _ _ _ _ _ (by decide) rfl rfl rfl]
  simp only [Op.eqFields, Sem.run_pure]
  unfold insB
  have hu : ((i.imm.toNat : Int) == (j.imm.toNat : Int)) = (i.imm == j.imm) := eq64 _ _
  rw [hu]
  cases (i.op == j.op)
  · simp
  cases (i.fn == j.fn)
  · simp
  cases (i.rd == j.rd)
  · simp
  cases (i.rs1 == j.rs1)
  · simp
  cases (i.rs2 == j.rs2)
  · simp
  cases (i.imm == j.imm)
  · simp
  cases (i.size == j.size)
  · simp
  cases (i.sgn == j.sgn)
  · simp
  cases (i.word == j.word)
  · simp
  cases (i.useImm == j.useImm)
  · simp
  cases (i.csr == j.csr)
  · simp
  rfl
end Go.Proofs.Ytnhbekgmameeaaa
