/- Two leaves compared; two entries of a TLB compared. -/
import Derived.Test.YthjhcdkbajbpdaaBase
import Derived.Laws.StructEq
import Derived.ChangeKeysEq
namespace Go.Proofs.Ythjhcdkbajbpdaa
open Go.RowKit Wd
set_option linter.unusedSimpArgs false
theorem eqF_step (d : Nat) (xs ys : Array Value) (f : Field) (fs : List Field) (x y : Value) (b : Bool) (w : World) (hn : (f.name ≠ "_") = True) (hx : (part f.type xs f.offset).run Try.prog w = .ok x w) (hy : (part f.type ys f.offset).run Try.prog w = .ok y w)
    (he : (Op.equalIn d f.type x y).run Try.prog w = .ok b w) : (Op.eqFields d xs ys (f :: fs)).run Try.prog w = if b = true then (Op.eqFields d xs ys fs).run Try.prog w else .ok false w := by
  simp only [Op.eqFields, Sem.run_ite, hn, if_true, Sem.run_bind, hx, hy, he, Result.andThen_ok]
  cases b <;> simp
theorem eqF_at (d : Nat) (t : TypeId) (o : Nat) (xs ys : Array Value) (f : Field) (fs : List Field) (x y : Value) (b : Bool) (w : World) (ht : f.type = t) (ho : f.offset = o) (hn : (f.name ≠ "_") = True) (hx : (part t xs o).run Try.prog w = .ok x w) (hy : (part t ys o).run Try.prog w = .ok y w)
    (he : (Op.equalIn d t x y).run Try.prog w = .ok b w) : (Op.eqFields d xs ys (f :: fs)).run Try.prog w = if b = true then (Op.eqFields d xs ys fs).run Try.prog w else .ok false w := by
  subst ht
  subst ho
  exact eqF_step d xs ys f fs x y b w hn hx hy he
theorem part_one (t : TypeId) (cs : Array Value) (o : Nat) (v : Value) (w : World) (ha : (isAgg t).run Try.prog w = .ok false w) (h : cs[o]? = some v) : (part t cs o).run Try.prog w = .ok v w := by
  simp [part, ha, h]
theorem agg_int (w : World) : (isAgg 3).run Try.prog w = .ok false w := by simp [isAgg, run_underlying Try.underlying3]
theorem agg_u64 (w : World) : (isAgg 22).run Try.prog w = .ok false w := by simp [isAgg, run_underlying Try.underlying22]
theorem step_i (d : Nat) (xs ys : Array Value) (f : Field) (fs : List Field) (a b : Int) (w : World) (hn : (f.name ≠ "_") = True) (ht : f.type = 3) (hx : xs[f.offset]? = some (.int .i64 a)) (hy : ys[f.offset]? = some (.int .i64 b)) :
    (Op.eqFields (d + 1) xs ys (f :: fs)).run Try.prog w = if (a == b) = true then (Op.eqFields (d + 1) xs ys fs).run Try.prog w else .ok false w :=
  eqF_step _ _ _ _ _ _ _ _ _ hn (part_one _ _ _ _ _ (by rw [ht]; exact agg_int w) hx) (part_one _ _ _ _ _ (by rw [ht]; exact agg_int w) hy) (by rw [ht]; exact run_equalIn_int w d 3 .i64 .i64 a b Try.underlying3)
theorem step_u (d : Nat) (xs ys : Array Value) (f : Field) (fs : List Field) (a b : Int) (w : World) (hn : (f.name ≠ "_") = True) (ht : f.type = 22) (hx : xs[f.offset]? = some (.int .u64 a)) (hy : ys[f.offset]? = some (.int .u64 b)) :
    (Op.eqFields (d + 1) xs ys (f :: fs)).run Try.prog w = if (a == b) = true then (Op.eqFields (d + 1) xs ys fs).run Try.prog w else .ok false w :=
  eqF_step _ _ _ _ _ _ _ _ _ hn (part_one _ _ _ _ _ (by rw [ht]; exact agg_u64 w) hx) (part_one _ _ _ _ _ (by rw [ht]; exact agg_u64 w) hy) (by rw [ht]; exact run_equalIn_int w d 22 .u64 .u64 a b Try.underlying22)
theorem eqI_step (d : Nat) (e : TypeId) (c : Nat) (xs ys : Array Value) (i : Nat) (is : List Nat) (x y : Value) (b : Bool) (w : World) (hx : (part e xs (i * c)).run Try.prog w = .ok x w) (hy : (part e ys (i * c)).run Try.prog w = .ok y w)
    (he : (Op.equalIn d e x y).run Try.prog w = .ok b w) : (Op.eqItems d e c xs ys (i :: is)).run Try.prog w = if b = true then (Op.eqItems d e c xs ys is).run Try.prog w else .ok false w := by
  simp only [Op.eqItems, Sem.run_bind, hx, hy, he, Result.andThen_ok, Sem.run_ite]
  cases b <;> simp
theorem eq_path (d : Nat) (a1 a2 a3 b1 b2 b3 : Int) (w : World) : (Op.equalIn (d + 2) 27 (.agg #[.int .u64 a1, .int .u64 a2, .int .u64 a3]) (.agg #[.int .u64 b1, .int .u64 b2, .int .u64 b3])).run Try.prog w = .ok ((a1 == b1) && ((a2 == b2) && (a3 == b3))) w := by
  obtain ⟨i, hi⟩ := info_of_underlying Try.underlying22
  have hc : Try.prog.cellsOf 22 = 1 := by kernel_rfl
  rw [run_equalIn_array w (d + 1) _ _ Try.underlying27 hi, hc]
  rw [show List.range 3 = [0, 1, 2] from rfl]
  rw [eqI_step _ _ _ _ _ _ _ (.int .u64 a1) (.int .u64 b1) _ w (part_one _ _ _ _ _ (agg_u64 w) rfl) (part_one _ _ _ _ _ (agg_u64 w) rfl) (run_equalIn_int w d 22 .u64 .u64 a1 b1 Try.underlying22)]
  rw [eqI_step _ _ _ _ _ _ _ (.int .u64 a2) (.int .u64 b2) _ w (part_one _ _ _ _ _ (agg_u64 w) rfl) (part_one _ _ _ _ _ (agg_u64 w) rfl) (run_equalIn_int w d 22 .u64 .u64 a2 b2 Try.underlying22)]
  rw [eqI_step _ _ _ _ _ _ _ (.int .u64 a3) (.int .u64 b3) _ w (part_one _ _ _ _ _ (agg_u64 w) rfl) (part_one _ _ _ _ _ (agg_u64 w) rfl) (run_equalIn_int w d 22 .u64 .u64 a3 b3 Try.underlying22)]
  simp only [Op.eqItems, Sem.run_pure]
  cases (a1 == b1)
  · simp
  cases (a2 == b2)
  · simp
  cases (a3 == b3)
  · simp
  · simp
theorem agg_arr (w : World) : (isAgg 27).run Try.prog w = .ok true w := by simp [isAgg, run_underlying Try.underlying27]
theorem agg_pte (w : World) : (isAgg 29).run Try.prog w = .ok true w := by simp [isAgg, run_underlying Try.underlying29]
theorem name_path : (("Path" : String) ≠ "_") = True := by simp
theorem name_leaf : (("Leaf" : String) ≠ "_") = True := by simp
theorem part_agg (t : TypeId) (cs : Array Value) (o n : Nat) (w : World) (ha : (isAgg t).run Try.prog w = .ok true w) (hs : (sizeOf t).run Try.prog w = .ok n w) : (part t cs o).run Try.prog w = .ok (.agg (cs.extract o (o + n))) w := by
  simp [part, ha, hs]
theorem part_path (a0 a1 a2 a3 a4 : Value) (w : World) : (part 27 #[a0, a1, a2, a3, a4] 1).run Try.prog w = .ok (.agg #[a1, a2, a3]) w := by
  rw [part_agg 27 _ 1 3 w (agg_arr w) (by kernel_rfl)]
  have e : (#[a0, a1, a2, a3, a4] : Array Value).extract 1 (1 + 3) = #[a1, a2, a3] := by simp [Array.extract, Array.extract.loop]
  rw [e]
theorem part_leaf (v a0 a1 a2 a3 a4 : Value) (w : World) : (part 29 #[v, a0, a1, a2, a3, a4] 1).run Try.prog w = .ok (.agg #[a0, a1, a2, a3, a4]) w := by
  rw [part_agg 29 _ 1 5 w (agg_pte w) (by kernel_rfl)]
  have e : (#[v, a0, a1, a2, a3, a4] : Array Value).extract 1 (1 + 5) = #[a0, a1, a2, a3, a4] := by simp [Array.extract, Array.extract.loop]
  rw [e]
def pteEq (a0 a1 a2 a3 a4 b0 b1 b2 b3 b4 : Int) : Bool := (a0 == b0) && (((a1 == b1) && ((a2 == b2) && (a3 == b3))) && (a4 == b4))
theorem eq_pte_at (d n : Nat) (hn : n = d + 4) (a0 a1 a2 a3 a4 b0 b1 b2 b3 b4 : Int) (w : World) : (Op.equalIn n 29 (.agg #[.int .i64 a0, .int .u64 a1, .int .u64 a2, .int .u64 a3, .int .u64 a4]) (.agg #[.int .i64 b0, .int .u64 b1, .int .u64 b2, .int .u64 b3, .int .u64 b4])).run Try.prog w =
    .ok (pteEq a0 a1 a2 a3 a4 b0 b1 b2 b3 b4) w := by
  subst hn
  rw [run_equalIn_agg w (d + 3) 29 _ _ (by kernel_rfl) (by kernel_rfl)]
  unfold Program.fieldsOf
  rw [Try.underlying29]
  simp only
  rw [step_i _ _ _ _ _ _ _ _ (by decide) rfl rfl rfl]
  rw [eqF_at _ 27 1 _ _ _ _ (.agg #[.int .u64 a1, .int .u64 a2, .int .u64 a3]) (.agg #[.int .u64 b1, .int .u64 b2, .int .u64 b3]) _ w rfl rfl name_path (part_path _ _ _ _ _ w) (part_path _ _ _ _ _ w) (eq_path (d + 1) a1 a2 a3 b1 b2 b3 w)]
  rw [step_u _ _ _ _ _ _ _ _ (by decide) rfl rfl rfl]
  simp only [Op.eqFields, Sem.run_pure]
  unfold pteEq
  cases (a0 == b0)
  · simp
  cases (a1 == b1)
  · simp
  cases (a2 == b2)
  · simp
  cases (a3 == b3)
  · simp
  cases (a4 == b4)
  · simp
  · simp
theorem eq_pte (a0 a1 a2 a3 a4 b0 b1 b2 b3 b4 : Int) (w : World) : (Op.equalIn 10000 29 (.agg #[.int .i64 a0, .int .u64 a1, .int .u64 a2, .int .u64 a3, .int .u64 a4]) (.agg #[.int .i64 b0, .int .u64 b1, .int .u64 b2, .int .u64 b3, .int .u64 b4])).run Try.prog w =
    .ok (pteEq a0 a1 a2 a3 a4 b0 b1 b2 b3 b4) w := eq_pte_at 9996 10000 rfl a0 a1 a2 a3 a4 b0 b1 b2 b3 b4 w
theorem eq_entry (v a0 a1 a2 a3 a4 u b0 b1 b2 b3 b4 : Int) (w : World) : (Op.equalIn 10000 67 (.agg #[.int .u64 v, .int .i64 a0, .int .u64 a1, .int .u64 a2, .int .u64 a3, .int .u64 a4]) (.agg #[.int .u64 u, .int .i64 b0, .int .u64 b1, .int .u64 b2, .int .u64 b3, .int .u64 b4])).run Try.prog w =
    .ok ((v == u) && pteEq a0 a1 a2 a3 a4 b0 b1 b2 b3 b4) w := by
  rw [run_equalIn_agg w 9999 67 _ _ (by kernel_rfl) (by kernel_rfl)]
  unfold Program.fieldsOf
  rw [Try.underlying67]
  simp only
  rw [step_u _ _ _ _ _ _ _ _ (by decide) rfl rfl rfl]
  rw [eqF_at _ 29 1 _ _ _ _ (.agg #[.int .i64 a0, .int .u64 a1, .int .u64 a2, .int .u64 a3, .int .u64 a4]) (.agg #[.int .i64 b0, .int .u64 b1, .int .u64 b2, .int .u64 b3, .int .u64 b4]) _ w rfl rfl name_leaf (part_leaf _ _ _ _ _ _ w) (part_leaf _ _ _ _ _ _ w) (eq_pte_at 9995 9999 rfl a0 a1 a2 a3 a4 b0 b1 b2 b3 b4 w)]
  simp only [Op.eqFields, Sem.run_pure]
  cases (v == u)
  · simp
  cases (pteEq a0 a1 a2 a3 a4 b0 b1 b2 b3 b4)
  · simp
  · simp
theorem pteEq_same (a0 a1 a2 a3 a4 : Int) : pteEq a0 a1 a2 a3 a4 a0 a1 a2 a3 a4 = true := by simp [pteEq]
theorem eq_pte_same (a0 a1 a2 a3 a4 : Int) (w : World) : (Op.equalIn 10000 29 (.agg #[.int .i64 a0, .int .u64 a1, .int .u64 a2, .int .u64 a3, .int .u64 a4]) (.agg #[.int .i64 a0, .int .u64 a1, .int .u64 a2, .int .u64 a3, .int .u64 a4])).run Try.prog w = .ok true w := by
  rw [eq_pte, pteEq_same]
theorem eq_entry_same (v a0 a1 a2 a3 a4 : Int) (w : World) : (Op.equalIn 10000 67 (.agg #[.int .u64 v, .int .i64 a0, .int .u64 a1, .int .u64 a2, .int .u64 a3, .int .u64 a4]) (.agg #[.int .u64 v, .int .i64 a0, .int .u64 a1, .int .u64 a2, .int .u64 a3, .int .u64 a4])).run Try.prog w = .ok true w := by
  rw [eq_entry, pteEq_same]
  simp
end Go.Proofs.Ythjhcdkbajbpdaa
