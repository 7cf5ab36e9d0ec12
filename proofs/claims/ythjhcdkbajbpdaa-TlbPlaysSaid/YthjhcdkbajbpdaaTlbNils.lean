/- Contracts: the methods of a TLB, of a nil one. -/
import Derived.Test.YthjhcdkbajbpdaaBits
import Derived.Test.YthjhcdkbajbpdaaCells
import Derived.Laws.Rows
import Derived.Deep.WholeRow
import Derived.Laws.StructEq
namespace Go.Proofs.Ythjhcdkbajbpdaa
open Go.RowKit Wd
set_option linter.unusedVariables false
set_option linter.unusedSimpArgs false
section
theorem results_two {fn : Func} {p q : Tmp} (h : fn.results = #[.cell p 29, .tmp q]) (tmps : Array Value) (w : World) (b : Nat) (t : TypeId) (cs : Array Value) (fr : Nat × Nat)
    (hp : tmps.getD p undef = .pointer (some ⟨b, 0, none⟩)) (hg : w.heap[b]? = some (.cells cs t fr)) (hi : (Try.prog.info? 29).map (·.size) = some cs.size) (v : Value) (hq : tmps.getD q undef = v) :
    (results fn tmps).run Try.prog w = .ok (.tuple #[.agg cs, v]) w := by
  have hp' : tmps[p]?.getD undef = .pointer (some ⟨b, 0, none⟩) := by simpa using hp
  have hq' : tmps[q]?.getD undef = v := by simpa using hq
  simp [results, h, hp', hq', asAddr, run_loadVar_row w b t 29 cs fr _ hg Try.underlying29 rfl hi]
theorem infoP : (Try.prog.info? 29).map (·.size) = some 5 := by kernel_rfl
/-- The way out of a function that hands a leaf back out of a block, and an error. -/
theorem ret_pte {fn : Func} {Q : Ending → World → Prop} {a : Act} {w : World} {p q : Tmp} {b : Nat} {cs : Array Value} {v : Value} (hf : fn.results = #[.cell p 29, .tmp q]) (hp : a.tmps.getD p undef = .pointer (some ⟨b, 0, none⟩)) (hv : a.tmps.getD q undef = v)
    (hr : w.heap[b]? = some (.cells cs 29 (0, 0))) (hs : cs.size = 5) (hd : a.defers = []) (hR : Q (.returned (.tuple #[.agg cs, v])) w) : bodyPost Try.prog fn Q .ret a w :=
  bodyPost_ret (results_two hf _ _ b _ cs (0, 0) hp hr (by rw [hs]; exact infoP) v hv) hd hR
end
theorem nil_put (va : Int) (cs : Array Value) : Mk Try.prog 36 #[.pointer none, .int .u64 va, .agg cs] (.int .i64 2) := by
  intro w
  go_enter Try.func36, Try.ntmps36
  go_wp2_with fail
  go_ret
  exact ⟨rfl, (Below.refl _ _).alloc (Nat.le_refl _) _⟩
theorem nil_forget (va : Int) : Mk Try.prog 39 #[.pointer none, .int .u64 va] (.int .i64 0) := by
  intro w
  go_enter Try.func39, Try.ntmps39
  go_wp2_with fail
  go_ret
  exact ⟨rfl, Below.refl _ _⟩
theorem nil_all : Mk Try.prog 38 #[.pointer none] (.slice none 0 0) := by
  intro w
  go_enter Try.func38, Try.ntmps38
  go_wp2_with fail
  go_ret
  exact ⟨rfl, Below.refl _ _⟩
theorem nil_len : Mk Try.prog 37 #[.pointer none] (.int .i64 0) := by
  intro w
  go_enter Try.func37, Try.ntmps37
  go_wp2_with fail
  refine (nil_all _).mono ?_
  rintro e w1 ⟨rfl, hb⟩
  go_wp2
  go_ret
  exact ⟨rfl, hb⟩
theorem nil_fork : Mk Try.prog 42 #[.pointer none] (.pointer none) := by
  intro w
  go_enter Try.func42, Try.ntmps42
  go_wp2_with fail
  go_ret
  exact ⟨rfl, Below.refl _ _⟩
theorem nil_flush : Mk Try.prog 40 #[.pointer none] (.tuple #[]) := by
  intro w
  go_enter Try.func40, Try.ntmps40
  go_wp2_with fail
  refine bodyPost_end (results_none rfl _ _ _) rfl ?_
  exact ⟨rfl, Below.refl _ _⟩
theorem nil_look (va : Int) : Mk Try.prog 35 #[.pointer none, .int .u64 va] (.tuple #[.agg #[.int .i64 0, .int .u64 0, .int .u64 0, .int .u64 0, .int .u64 0], .bool false]) := by
  intro w
  go_enter Try.func35, Try.ntmps35
  go_wp2_with fail
  refine ret_pte (b := w.heap.size) rfl rfl rfl (heap_alloc_last w _) rfl rfl ⟨rfl, (Below.refl _ _).alloc (Nat.le_refl _) _⟩
theorem eq_zero (w : World) : (Op.equalIn 10000 29 (.agg #[.int .i64 0, .int .u64 0, .int .u64 0, .int .u64 0, .int .u64 0]) (.agg #[.int .i64 0, .int .u64 0, .int .u64 0, .int .u64 0, .int .u64 0])).run Try.prog w = .ok true w := by kernel_rfl
attribute [local go_sem ↓] eq_zero
set_option maxRecDepth 20000 in
set_option maxHeartbeats 1000000 in
theorem nil_law (va n l p0 p1 p2 en : Int) (cA : Hid (Mk Try.prog 34 #[] (.bool true))) (w : World) :
    Calls Try.prog 14 #[.int .u64 va, .agg #[.int .i64 l, .int .u64 p0, .int .u64 p1, .int .u64 p2, .int .u64 en], .int .i64 n] w fun e w' => e = .returned (.bool true) ∧ Below w.heap.size w w' := by
  go_enter Try.func14, Try.ntmps14
  go_wp2_with fail
  refine (nil_look va _).mono ?_
  rintro e w1 ⟨rfl, hb1⟩
  have bp := (Box.new w [.int .i64 l, .int .u64 p0, .int .u64 p1, .int .u64 p2, .int .u64 en] 29).below hb1
  have B1 := Lib.hid (below_alloc hb1)
  clear hb1
  go_wp2_with fail
  refine (nil_flush _).mono ?_
  rintro e w2 ⟨rfl, hb2⟩
  have bz := (Box.new w1 [.int .i64 0, .int .u64 0, .int .u64 0, .int .u64 0, .int .u64 0] 29).below hb2
  replace bp := (bp.below ((Below.refl _ _).alloc (Nat.le_refl _) (.cells #[.int .i64 0, .int .u64 0, .int .u64 0, .int .u64 0, .int .u64 0] 29))).below hb2
  replace B1 := Lib.hid (B1.out.trans ((below_alloc hb2).mono B1.out.size))
  clear hb2
  go_wp2_with fail
  refine (cA.out _).mono ?_
  rintro e w3 ⟨rfl, hb⟩
  replace bz := bz.below hb
  replace bp := bp.below hb
  replace B1 := Lib.hid (B1.out.trans (hb.mono B1.out.size))
  clear hb
  have p0 := bp.get (k := 0) rfl
  have p1 := bp.get (k := 1) rfl
  have p2 := bp.get (k := 2) rfl
  have p3 := bp.get (k := 3) rfl
  have p4 := bp.get (k := 4) rfl
  have z0 := bz.get (k := 0) rfl
  have z1 := bz.get (k := 1) rfl
  have z2 := bz.get (k := 2) rfl
  have z3 := bz.get (k := 3) rfl
  have z4 := bz.get (k := 4) rfl
  go_wp2_with fail
  refine (nil_put va _ _).mono ?_
  rintro e w4 ⟨rfl, hb⟩
  replace B1 := Lib.hid (B1.out.trans (hb.mono B1.out.size))
  clear hb
  go_wp2_with fail
  refine (nil_forget va _).mono ?_
  rintro e w5 ⟨rfl, hb⟩
  replace B1 := Lib.hid (B1.out.trans (hb.mono B1.out.size))
  clear hb
  go_wp2_with fail
  refine (nil_len _).mono ?_
  rintro e w6 ⟨rfl, hb⟩
  replace B1 := Lib.hid (B1.out.trans (hb.mono B1.out.size))
  clear hb
  go_wp2_with fail
  refine (nil_all _).mono ?_
  rintro e w7 ⟨rfl, hb⟩
  replace B1 := Lib.hid (B1.out.trans (hb.mono B1.out.size))
  clear hb
  go_wp2_with fail
  refine (nil_fork _).mono ?_
  rintro e w8 ⟨rfl, hb⟩
  replace B1 := Lib.hid (B1.out.trans (hb.mono B1.out.size))
  clear hb
  go_wp2_with fail
  go_ret
  exact ⟨rfl, B1.out⟩
end Go.Proofs.Ythjhcdkbajbpdaa
