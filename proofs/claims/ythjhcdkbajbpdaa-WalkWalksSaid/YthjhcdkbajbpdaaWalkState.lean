/- The memory behind a walk under way: what a reader keeps, the leaf so far, the result. -/
import Derived.Test.YthjhcdkbajbpdaaWalkPlain
import Derived.Test.YthjhcdkbajbpdaaRow
import Derived.Laws.Rows
namespace Go.Proofs.Ythjhcdkbajbpdaa
open Go.RowKit Wd
set_option linter.unusedVariables false
set_option linter.unusedSimpArgs false
namespace Wd
def zeroP : Array Value := #[.int .i64 0, .int .u64 0, .int .u64 0, .int .u64 0, .int .u64 0]
end Wd
/-- In world wr, on the way from w: the reader's things, the blocks of the result and of the leaf so far. -/
structure St (ba : Option Nat) (n0 : Nat) (R : World → Option Nat → List (BitVec 64) → Prop) (w : World) (g : Option Nat) (wr : World) (xs : List (BitVec 64)) (g' : Option Nat) (pc : Array Value) : Prop where
  hr : R wr g' xs
  b6 : wr.heap[w.heap.size]? = some (.cells zeroP 29 (0, 0))
  b8 : wr.heap[w.heap.size + 1]? = some (.cells pc 29 (0, 0))
  nw : Newer w g g'
  ap : Apart ba g w wr
  sz : w.heap.size + 2 ≤ wr.heap.size
  far : ∀ k, g' = some k → k < w.heap.size ∨ w.heap.size + 2 ≤ k
  n0 : n0 ≤ w.heap.size
section
variable {K : FuncId} {c1 c2 : Value} {L : Look} {ba : Option Nat} {n0 : Nat} {R : World → Option Nat → List (BitVec 64) → Prop} {w wr : World} {g g' : Option Nat} {xs : List (BitVec 64)} {pc : Array Value}
theorem St.quiet (hR : ReaderOk K c1 c2 L ba n0 R) (h : St ba n0 R w g wr xs g' pc) {w' : World} (hq : Quiet wr w') : St ba n0 R w g w' xs g' pc := by
  have hh := hq.heap
  have ho : w'.os = wr.os ∧ w'.tape = wr.tape ∧ w'.output = wr.output := by
    obtain ⟨n, rfl⟩ := hq
    exact ⟨rfl, rfl, rfl⟩
  refine ⟨hR.keep wr w' g' xs h.hr ho.1 ho.2.1 ho.2.2 (by rw [hh]; exact Nat.le_refl _) (fun k _ => by rw [hh]), by rw [hh]; exact h.b6, by rw [hh]; exact h.b8, h.nw, ?_, by rw [hh]; exact h.sz, h.far, h.n0⟩
  exact ⟨ho.1.trans h.ap.os, ho.2.1.trans h.ap.tape, ho.2.2.trans h.ap.output, by rw [hh]; exact h.ap.size, fun k a b c => by rw [hh]; exact h.ap.block k a b c⟩
theorem St.read (hR : ReaderOk K c1 c2 L ba n0 R) (h : St ba n0 R w g wr xs g' pc) {w' : World} {pa : BitVec 64} {g2 : Option Nat} (h1 : R w' g2 (xs ++ [pa])) (h2 : Newer wr g' g2) (h3 : Apart ba g' wr w') :
    St ba n0 R w g w' (xs ++ [pa]) g2 pc := by
  have hne : ∀ k, w.heap.size ≤ k → k < w.heap.size + 2 → w'.heap[k]? = wr.heap[k]? := fun k a b => by
    refine h3.block k (by have := h.sz; omega) ?_ ?_
    · intro e
      have := hR.old k e.symm
      have := h.n0
      omega
    · intro e
      have := h.far k e.symm
      omega
  refine ⟨h1, by rw [hne _ (by omega) (by omega)]; exact h.b6, by rw [hne _ (by omega) (by omega)]; exact h.b8, h.nw.trans h.ap.size h2, h.ap.trans h.nw h3, Nat.le_trans h.sz h3.size, ?_, h.n0⟩
  intro k hk
  rcases h2 with e | ⟨n, e, hn⟩
  · rw [e] at hk
    exact h.far k hk
  · rw [e] at hk
    simp at hk
    have := h.sz
    omega
theorem St.store (hR : ReaderOk K c1 c2 L ba n0 R) (h : St ba n0 R w g wr xs g' pc) (o : Nat) (v : Value) : St ba n0 R w g (wr.setCell ⟨w.heap.size + 1, o, none⟩ v) xs g' (pc.setIfInBounds o v) := by
  have ho : ∀ k, k ≠ w.heap.size + 1 → (wr.setCell ⟨w.heap.size + 1, o, none⟩ v).heap[k]? = wr.heap[k]? := fun k hk => heap_setCell_other _ _ _ _ hk
  refine ⟨hR.keep wr _ g' xs h.hr rfl rfl rfl (by simp) ?_, by rw [ho _ (by omega)]; exact h.b6, heap_setCell_same _ _ _ _ _ _ h.b8, h.nw, ?_, by simpa using h.sz, h.far, h.n0⟩
  · intro k hk
    refine ho k ?_
    rcases hk with hk | hk
    · have := h.n0
      omega
    · have := h.far k hk.symm
      omega
  · exact ⟨h.ap.os, h.ap.tape, h.ap.output, by simpa using h.ap.size, fun k a b c => by rw [ho k (by omega)]; exact h.ap.block k a b c⟩
theorem os_set (w : World) (a : Addr) (v : Value) : (w.setCell a v).os = w.os := rfl
theorem tape_set (w : World) (a : Addr) (v : Value) : (w.setCell a v).tape = w.tape := rfl
theorem output_set (w : World) (a : Addr) (v : Value) : (w.setCell a v).output = w.output := rfl
/-- The result is laid into its block. -/
theorem St.out5 (hR : ReaderOk K c1 c2 L ba n0 R) (h : St ba n0 R w g wr xs g' pc) (a0 a1 a2 a3 a4 : Value) {w' : World}
    (hw : w' = ((((wr.setCell ⟨w.heap.size, 0, none⟩ a0).setCell ⟨w.heap.size, 1, none⟩ a1).setCell ⟨w.heap.size, 2, none⟩ a2).setCell ⟨w.heap.size, 3, none⟩ a3).setCell ⟨w.heap.size, 4, none⟩ a4) :
    w'.heap[w.heap.size]? = some (.cells #[a0, a1, a2, a3, a4] 29 (0, 0)) ∧ R w' g' xs ∧ Newer w g g' ∧ Apart ba g w w' := by
  have ho : ∀ k, k ≠ w.heap.size → w'.heap[k]? = wr.heap[k]? := fun k hk => by
    rw [hw, heap_setCell_other _ _ _ _ hk, heap_setCell_other _ _ _ _ hk, heap_setCell_other _ _ _ _ hk, heap_setCell_other _ _ _ _ hk, heap_setCell_other _ _ _ _ hk]
  have hs : w'.heap.size = wr.heap.size := by rw [hw]; simp
  have ho1 : w'.os = wr.os ∧ w'.tape = wr.tape ∧ w'.output = wr.output := by rw [hw]; simp only [os_set, tape_set, output_set]; exact ⟨trivial, trivial, trivial⟩
  refine ⟨?_, hR.keep wr _ g' xs h.hr ho1.1 ho1.2.1 ho1.2.2 (by rw [hs]; exact Nat.le_refl _) ?_, h.nw, ?_⟩
  · rw [hw]
    have e := heap_setCell_same _ _ 4 _ _ a4 (heap_setCell_same _ _ 3 _ _ a3 (heap_setCell_same _ _ 2 _ _ a2 (heap_setCell_same _ _ 1 _ _ a1 (heap_setCell_same _ _ 0 _ _ a0 h.b6))))
    exact e
  · intro k hk
    refine ho k ?_
    rcases hk with hk | hk
    · have := h.n0
      omega
    · have := h.far k hk.symm
      omega
  · exact ⟨ho1.1.trans h.ap.os, ho1.2.1.trans h.ap.tape, ho1.2.2.trans h.ap.output, by rw [hs]; exact h.ap.size, fun k a b c => by rw [ho k (by omega)]; exact h.ap.block k a b c⟩
theorem St.cells (h : St ba n0 R w g wr xs g' pc) : (∀ o, wr.cell? ⟨w.heap.size + 1, o, none⟩ = pc[o]?) ∧ (∀ o, wr.frozen? ⟨w.heap.size + 1, o, none⟩ = false) ∧
    (∀ o, wr.cell? ⟨w.heap.size, o, none⟩ = (#[.int .i64 0, .int .u64 0, .int .u64 0, .int .u64 0, .int .u64 0] : Array Value)[o]?) ∧ (∀ o, wr.frozen? ⟨w.heap.size, o, none⟩ = false) :=
  ⟨fun o => cell_of_row wr _ o _ _ (0, 0) h.b8, fun o => frozen_of_row wr _ o _ _ h.b8, fun o => cell_of_row wr _ o _ _ (0, 0) h.b6, fun o => frozen_of_row wr _ o _ _ h.b6⟩
/-- How a walk begins. -/
theorem St.start (hR : ReaderOk K c1 c2 L ba n0 R) (h0 : R w g []) (hn : n0 ≤ w.heap.size) (hg : ∀ k, g = some k → k < w.heap.size) {w1 w2 : World} (q1 : Quiet (w.alloc (.cells zeroP 29)) w1) (q2 : Quiet (w1.alloc (.cells zeroP 29)) w2) :
    St ba n0 R w g w2 [] g zeroP := by
  have hh : w2.heap = ((w.alloc (.cells zeroP 29)).alloc (.cells zeroP 29)).heap := by
    rw [q2.heap]
    show w1.heap.push _ = _
    rw [q1.heap]
    rfl
  have hb : Below w.heap.size w w2 := by
    have a := (Below.refl w.heap.size w).alloc (Nat.le_refl _) (.cells zeroP 29)
    have b := a.trans (q1.below w.heap.size)
    have c := b.alloc b.size (.cells zeroP 29)
    exact c.trans (q2.below _)
  have hs : w2.heap.size = w.heap.size + 2 := by rw [hh]; simp
  refine ⟨hR.keep w w2 g [] h0 hb.os hb.tape hb.output hb.size (fun k hk => ?_), ?_, ?_, Newer.refl _ _, Below.apart hb _ _, by omega, fun k hk => .inl (hg k hk), hn⟩
  · refine hb.block k ?_
    rcases hk with hk | hk
    · omega
    · exact hg k hk.symm
  · rw [hh, heap_alloc_old _ _ (by simp)]
    exact heap_alloc_new _ _
  · rw [hh]
    have := heap_alloc_new (w.alloc (.cells zeroP 29)) (.cells zeroP 29)
    simpa using this
end
theorem results_two {fn : Func} {p q : Tmp} (h : fn.results = #[.cell p 29, .tmp q]) (tmps : Array Value) (w : World) (b : Nat) (t : TypeId) (cs : Array Value) (fr : Nat × Nat)
    (hp : tmps.getD p undef = .pointer (some ⟨b, 0, none⟩)) (hg : w.heap[b]? = some (.cells cs t fr)) (hi : (Try.prog.info? 29).map (·.size) = some cs.size) (v : Value) (hq : tmps.getD q undef = v) :
    (results fn tmps).run Try.prog w = .ok (.tuple #[.agg cs, v]) w := by
  have hp' : tmps[p]?.getD undef = .pointer (some ⟨b, 0, none⟩) := by simpa using hp
  have hq' : tmps[q]?.getD undef = v := by simpa using hq
  simp [results, h, hp', hq', asAddr, run_loadVar_row w b t 29 cs fr _ hg Try.underlying29 rfl hi]
theorem infoP : (Try.prog.info? 29).map (·.size) = some 5 := by kernel_rfl
/-- The way out of a function that hands a leaf back out of a block, and an error. -/
theorem ret_pte {fn : Func} {Q : Ending → World → Prop} {a : Act} {w : World} {p q : Tmp} {b : Nat} {cs : Array Value} {v : Value} (hf : fn.results = #[.cell p 29, .tmp q]) (hp : a.tmps.getD p undef = .pointer (some ⟨b, 0, none⟩)) (hv : a.tmps.getD q undef = v)
    (hr : w.heap[b]? = some (.cells cs 29 (0, 0))) (hs : cs.size = 5) (hd : a.defers = []) (hR : Q (.returned (.tuple #[.agg cs, v])) w) : bodyPost Try.prog fn Q .ret a w :=
  bodyPost_ret (results_two hf _ _ b _ cs (0, 0) hp hr (by rw [hs]; exact infoP) v hv) hd hR
end Go.Proofs.Ythjhcdkbajbpdaa
