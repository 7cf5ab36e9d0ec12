/- Contract: the leaf for an address. -/
import Derived.Test.YthjhcdkbajbpdaaTlbFind
import Derived.Test.YthjhcdkbajbpdaaTlbTouch
import Derived.Laws.StructEq
namespace Go.Proofs.Ythjhcdkbajbpdaa
open Go.RowKit Wd Pl
set_option linter.unusedVariables false
set_option linter.unusedSimpArgs false
set_option maxRecDepth 8000
theorem tb_touch (p q : Nat) (ws : List Wy) (st i : Int) (w : World) (h : Tb w 94 99 p q ws st) : Calls Try.prog 60 #[.pointer (some ⟨p, 0, none⟩), .int .i64 i] w fun e w' =>
    e = .returned (.tuple #[]) ∧ Tb w' 94 99 p q ws (touch st ws.length i) ∧ Just [p] w w' := by
  obtain ⟨c, hb⟩ := h.box
  refine (touch_any p _ ws.length c st i w (hb.get rfl) (hb.get rfl) (hb.free 1)).mono ?_
  rintro e w' ⟨rfl, k, rfl⟩
  exact ⟨rfl, (h.quiet ⟨k, rfl⟩).state _, ((Just.refl [p] w).drewN k).set (.inl (by simp)) 1 _⟩
section
theorem results_two {fn : Func} {p q : Tmp} (h : fn.results = #[.cell p 29, .tmp q]) (tmps : Array Value) (w : World) (b : Nat) (t : TypeId) (cs : Array Value) (fr : Nat × Nat)
    (hp : tmps.getD p undef = .pointer (some ⟨b, 0, none⟩)) (hg : w.heap[b]? = some (.cells cs t fr)) (hi : (Try.prog.info? 29).map (·.size) = some cs.size) (v : Value) (hq : tmps.getD q undef = v) :
    (results fn tmps).run Try.prog w = .ok (.tuple #[.agg cs, v]) w := by
  have hp' : tmps[p]?.getD undef = .pointer (some ⟨b, 0, none⟩) := by simpa using hp
  have hq' : tmps[q]?.getD undef = v := by simpa using hq
  simp [results, h, hp', hq', asAddr, run_loadVar_row w b t 29 cs fr _ hg Try.underlying29 rfl hi]
theorem infoP : (Try.prog.info? 29).map (·.size) = some 5 := by kernel_rfl
theorem ret_pte {fn : Func} {Q : Ending → World → Prop} {a : Act} {w : World} {p q : Tmp} {b : Nat} {cs : Array Value} {v : Value} (hf : fn.results = #[.cell p 29, .tmp q]) (hp : a.tmps.getD p undef = .pointer (some ⟨b, 0, none⟩)) (hv : a.tmps.getD q undef = v)
    (hr : w.heap[b]? = some (.cells cs 29 (0, 0))) (hs : cs.size = 5) (hd : a.defers = []) (hR : Q (.returned (.tuple #[.agg cs, v])) w) : bodyPost Try.prog fn Q .ret a w :=
  bodyPost_ret (results_two hf _ _ b _ cs (0, 0) hp hr (by rw [hs]; exact infoP) v hv) hd hR
end
namespace Wd
def pteY (y : Wy) : Array Value := #[.int .i64 y.lv, .int .u64 y.p0, .int .u64 y.p1, .int .u64 y.p2, .int .u64 y.en]
def lookY (ws : List Wy) (va : BitVec 64) : Wy := if fndI ws va < ws.length then wyAt ws (fndI ws va) else noWy
def lookS (ws : List Wy) (st : Int) (va : BitVec 64) : Int := if fndI ws va < ws.length then touch st ws.length (fndI ws va) else st
end Wd
theorem look_hit (p q : Nat) (ws : List Wy) (st : Int) (va : BitVec 64) (w : World) (h : Tb w 94 99 p q ws st) (hi : fndI ws va < ws.length) : Calls Try.prog 35 #[.pointer (some ⟨p, 0, none⟩), .int .u64 (va.toNat : Int)] w fun e w' =>
    e = .returned (.tuple #[.agg (pteY (wyAt ws (fndI ws va))), .bool true]) ∧ Tb w' 94 99 p q ws (touch st ws.length (fndI ws va)) ∧ Only [p] w w' := by
  have hm : (ws.length : Int) ≤ 8 := by have := h.len; omega
  have pl := h.pl
  have ql := h.ql
  have HT0 := Lib.hid (h.below ((Below.refl _ _).alloc (Nat.le_refl _) (.cells #[.int .i64 0, .int .u64 0, .int .u64 0, .int .u64 0, .int .u64 0] 29)))
  have cF := Lib.hid (fun W hW => find_any p q ws st va W hW)
  have e1 : fndAt ws va = (fndI ws va : Int) := if_pos hi
  have e2 : fndIs ws va = true := decide_eq_true hi
  rw [e1, e2] at cF
  clear h e1 e2
  go_enter Try.func35, Try.ntmps35
  go_wp2_with fail
  refine (cF.out _ HT0.out).mono ?_
  rintro e w1 ⟨rfl, hb1⟩
  have hT1 := Lib.hid (HT0.out.below hb1)
  have hz1 := Lib.hid ((Bk.new w #[.int .i64 0, .int .u64 0, .int .u64 0, .int .u64 0, .int .u64 0] 29).below hb1)
  have ho1 := Lib.hid (only_below (below_alloc hb1) [p])
  clear hb1 HT0 cF
  go_wp2_with fail
  refine (tb_touch p q ws st (fndI ws va) _ hT1.out).mono ?_
  rintro e w2 ⟨rfl, hT2, hj2⟩
  have hz2 := Lib.hid (hz1.out.only hj2.only (by simp; omega))
  have HO := Lib.hid (ho1.out.also hj2.only)
  obtain ⟨c, hb⟩ := hT2.box
  have c0 := hb.get (o := 0) rfl
  obtain ⟨_, _, d2, d3, d4, d5, d6⟩ := hT2.way _ hi
  have b0 := hz2.out.get (o := 0) rfl
  have b1 := hz2.out.get (o := 1) rfl
  have b2 := hz2.out.get (o := 2) rfl
  have b3 := hz2.out.get (o := 3) rfl
  have b4 := hz2.out.get (o := 4) rfl
  have bf : ∀ o, w2.frozen? ⟨w.heap.size, o, none⟩ = false := hz2.out.free
  have HT2 := Lib.hid hT2
  have i1 : (0 : Int) ≤ (fndI ws va : Int) := by omega
  have i2 : (fndI ws va : Int) < (ws.length : Int) := by omega
  clear hb hT2 hj2 hT1 hz1 ho1
  go_wp2_with fail
  refine ret_pte (b := w.heap.size) (cs := pteY (wyAt ws (fndI ws va))) (v := .bool true) rfl rfl rfl ?_ rfl rfl ?_
  · have hb := (((((hz2.out.set 0 (.int .i64 (wyAt ws (fndI ws va)).lv)).set 1 (.int .u64 (wyAt ws (fndI ws va)).p0)).set 2 (.int .u64 (wyAt ws (fndI ws va)).p1)).set 3 (.int .u64 (wyAt ws (fndI ws va)).p2)).set 4 (.int .u64 (wyAt ws (fndI ws va)).en))
    simpa [pteY, Bk] using hb
  · have hj : Just [w.heap.size] w2 (((((w2.setCell ⟨w.heap.size, 0, none⟩ (.int .i64 (wyAt ws (fndI ws va)).lv)).setCell ⟨w.heap.size, 1, none⟩ (.int .u64 (wyAt ws (fndI ws va)).p0)).setCell ⟨w.heap.size, 2, none⟩ (.int .u64 (wyAt ws (fndI ws va)).p1)).setCell ⟨w.heap.size, 3, none⟩ (.int .u64 (wyAt ws (fndI ws va)).p2)).setCell ⟨w.heap.size, 4, none⟩ (.int .u64 (wyAt ws (fndI ws va)).en)) :=
      (((((Just.refl [w.heap.size] w2).set (.inl (by simp)) 0 _).set (.inl (by simp)) 1 _).set (.inl (by simp)) 2 _).set (.inl (by simp)) 3 _).set (.inl (by simp)) 4 _
    refine ⟨rfl, HT2.out.only hj.only (by simp; omega) (by simp; omega), HO.out.trans hj.only (fun x hx => by simp at hx; omega)⟩
theorem look_miss (p q : Nat) (ws : List Wy) (st : Int) (va : BitVec 64) (w : World) (h : Tb w 94 99 p q ws st) (hi : ¬ fndI ws va < ws.length) : Calls Try.prog 35 #[.pointer (some ⟨p, 0, none⟩), .int .u64 (va.toNat : Int)] w fun e w' =>
    e = .returned (.tuple #[.agg #[.int .i64 0, .int .u64 0, .int .u64 0, .int .u64 0, .int .u64 0], .bool false]) ∧ Below w.heap.size w w' := by
  have pl := h.pl
  have HT0 := Lib.hid (h.below ((Below.refl _ _).alloc (Nat.le_refl _) (.cells #[.int .i64 0, .int .u64 0, .int .u64 0, .int .u64 0, .int .u64 0] 29)))
  have cF := Lib.hid (fun W hW => find_any p q ws st va W hW)
  have e1 : fndAt ws va = 0 := if_neg hi
  have e2 : fndIs ws va = false := decide_eq_false hi
  rw [e1, e2] at cF
  clear h e1 e2 hi
  go_enter Try.func35, Try.ntmps35
  go_wp2_with fail
  refine (cF.out _ HT0.out).mono ?_
  rintro e w1 ⟨rfl, hb1⟩
  have hz1 := Lib.hid ((Bk.new w #[.int .i64 0, .int .u64 0, .int .u64 0, .int .u64 0, .int .u64 0] 29).below hb1)
  have HB := Lib.hid (below_alloc hb1)
  have b0 := hz1.out.get (o := 0) rfl
  have b1 := hz1.out.get (o := 1) rfl
  have b2 := hz1.out.get (o := 2) rfl
  have b3 := hz1.out.get (o := 3) rfl
  have b4 := hz1.out.get (o := 4) rfl
  have bf : ∀ o, w1.frozen? ⟨w.heap.size, o, none⟩ = false := hz1.out.free
  clear hb1 HT0 cF
  go_wp2_with fail
  refine ret_pte (b := w.heap.size) (cs := #[.int .i64 0, .int .u64 0, .int .u64 0, .int .u64 0, .int .u64 0]) (v := .bool false) rfl rfl rfl ?_ rfl rfl ?_
  · have hb := (((((hz1.out.set 0 (.int .i64 0)).set 1 (.int .u64 0)).set 2 (.int .u64 0)).set 3 (.int .u64 0)).set 4 (.int .u64 0))
    simpa [Bk] using hb
  · refine ⟨rfl, ?_⟩
    refine Below.setCell (Below.setCell (Below.setCell (Below.setCell (Below.setCell HB.out ?_ _) ?_ _) ?_ _) ?_ _) ?_ _ <;> simp
theorem look_any (p q : Nat) (ws : List Wy) (st : Int) (va : BitVec 64) (w : World) (h : Tb w 94 99 p q ws st) : Calls Try.prog 35 #[.pointer (some ⟨p, 0, none⟩), .int .u64 (va.toNat : Int)] w fun e w' =>
    e = .returned (.tuple #[.agg (pteY (lookY ws va)), .bool (fndIs ws va)]) ∧ Tb w' 94 99 p q ws (lookS ws st va) ∧ Only [p] w w' := by
  unfold lookY lookS fndIs
  by_cases hi : fndI ws va < ws.length
  · rw [if_pos hi, if_pos hi, decide_eq_true hi]
    exact look_hit p q ws st va w h hi
  · rw [if_neg hi, if_neg hi, decide_eq_false hi]
    refine (look_miss p q ws st va w h hi).mono ?_
    rintro e w' ⟨he, hb⟩
    exact ⟨he, h.below hb, only_below hb _⟩
end Go.Proofs.Ythjhcdkbajbpdaa
