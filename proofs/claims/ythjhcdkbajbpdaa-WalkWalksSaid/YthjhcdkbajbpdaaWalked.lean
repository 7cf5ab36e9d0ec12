/- Contract: the document's walk, over any reader. -/
import Derived.Test.YthjhcdkbajbpdaaGot
import Derived.Test.YthjhcdkbajbpdaaWalkState
import Derived.Laws.StructEq
import Derived.Deep.RegionHeld3
namespace Go.Proofs.Ythjhcdkbajbpdaa
open Go.RowKit Wd
set_option linter.unusedVariables false
set_option linter.unusedSimpArgs false
set_option maxRecDepth 8000
theorem got_any (s : Gs) (b l : Nat) (e : BitVec 64) (ok : Bool) (w : World) (hl : s.lv = (l : Int)) (h2 : l ≤ 2) (h : Bk w b (gsC s) 87) : Calls Try.prog 55 #[.pointer (some ⟨b, 0, none⟩), .int .u64 (e.toNat : Int), .bool ok] w fun e' w' =>
    e' = .returned (.tuple #[]) ∧ Bk w' b (gsC (gotG s l e ok)) 87 ∧ Just [b] w w' := by
  have h3 : l = 0 ∨ l = 1 ∨ l = 2 := by omega
  cases ok with
  | false =>
    rcases h3 with rfl | rfl | rfl
    · exact got_hole0 s b e w hl h
    · exact got_hole1 s b e w hl h
    · exact got_hole2 s b e w hl h
  | true =>
    cases hm : mayW e with
    | false =>
      rcases h3 with rfl | rfl | rfl
      · exact got_may0 s b e w hl h hm
      · exact got_may1 s b e w hl h hm
      · exact got_may2 s b e w hl h hm
    | true =>
      cases hlf : leafW e with
      | true =>
        rcases h3 with rfl | rfl | rfl
        · exact got_leaf0 s b e w hl h hm hlf
        · cases hz : (((zext (field e 53 10) 9).toNat : Int) != 0) with
          | true => exact got_mis1 s b e w hl h hm hlf hz
          | false => exact got_leaf1 s b e w hl h hm hlf hz
        · cases hz : (((zext (field e 53 10) 18).toNat : Int) != 0) with
          | true => exact got_mis2 s b e w hl h hm hlf hz
          | false => exact got_leaf2 s b e w hl h hm hlf hz
      | false =>
        rcases h3 with rfl | rfl | rfl
        · exact got_bad0 s b e w hl h hm hlf
        · cases hz : (((andL e 208).toNat : Int) != 0) with
          | true => exact got_bad1 s b e w hl h hm hlf hz
          | false => exact got_down1 s b e w hl h hm hlf hz
        · cases hz : (((andL e 208).toNat : Int) != 0) with
          | true => exact got_bad2 s b e w hl h hm hlf hz
          | false => exact got_down2 s b e w hl h hm hlf hz
namespace Wd
def beginG (satp va : BitVec 64) : Gs := ⟨va, 2, field satp 43 0, 0, 0#64, 0#64, 0#64, 0#64, 0, false⟩
def begunG (satp va : BitVec 64) : Gs := if (((sext va 39).toNat : Int) == (va.toNat : Int)) = true then beginG satp va else endG (beginG satp va) 7
theorem root_same (satp : BitVec 64) : field satp 43 0 = zext satp 44 := by
  unfold field zext
  rw [if_pos ((may_iff _ _).2 (by omega)), show ((0 : Int)).toNat = 0 from rfl, show ((43 : Int) - 0 + 1).toNat = 44 from rfl, show ((44 : Int)).toNat = 44 from rfl]
  apply BitVec.eq_of_getLsbD_eq
  intro i hi
  rw [fld_get, zextN_get, Nat.zero_add]
end Wd
theorem begin_any (satp va : BitVec 64) (w : World) (b : Nat) (hb0 : w.heap.size = b) : Calls Try.prog 53 #[.int .u64 (satp.toNat : Int), .int .u64 (va.toNat : Int)] w fun e w' =>
    e = .returned (.pointer (some ⟨b, 0, none⟩)) ∧ Bk w' b (gsC (begunG satp va)) 87 ∧ Below w.heap.size w w' := by
  subst hb0
  cases hs : (((sext va 39).toNat : Int) == (va.toNat : Int)) with
  | true =>
    have HG := Lib.hid (show begunG satp va = beginG satp va from if_pos hs)
    go_enter Try.func53, Try.ntmps53
    go_wp2_with fail
    refine (rfield_any satp 43 0 _).mono ?_
    rintro e w1 ⟨rfl, hq1⟩
    have hz : w1.heap.size = w.heap.size := hq1.size
    go_wp2_with fail
    have hb := Lib.hid (Bk.new w1 (gsC (beginG satp va)) 87)
    refine (right_any va _).mono ?_
    rintro e w2 ⟨rfl, hq2⟩
    rw [hs]
    go_wp2_with fail
    go_ret
    rw [HG.out]
    refine ⟨rfl, ?_, ?_⟩
    · rw [← hz]
      exact hb.out.quiet hq2
    · exact ((hq1.below _).alloc (by omega) _).trans (hq2.below _)
  | false =>
    have HG := Lib.hid (show begunG satp va = endG (beginG satp va) 7 from if_neg (by rw [hs]; simp))
    go_enter Try.func53, Try.ntmps53
    go_wp2_with fail
    refine (rfield_any satp 43 0 _).mono ?_
    rintro e w1 ⟨rfl, hq1⟩
    have hz : w1.heap.size = w.heap.size := hq1.size
    go_wp2_with fail
    have hb := Lib.hid (Bk.new w1 (gsC (beginG satp va)) 87)
    refine (right_any va _).mono ?_
    rintro e w2 ⟨rfl, hq2⟩
    rw [hs]
    go_wp2_with fail
    have hb2 : Bk w2 w.heap.size (gsC (beginG satp va)) 87 := by rw [← hz]; exact hb.out.quiet hq2
    refine (end_any (beginG satp va) _ 7 _ hb2).mono ?_
    rintro e w3 ⟨rfl, hb3, ho3⟩
    go_wp2_with fail
    go_ret
    rw [HG.out]
    refine ⟨rfl, ?_, ?_⟩
    · exact hb3
    · have h1 : Below w.heap.size w w2 := ((hq1.below _).alloc (by omega) _).trans (hq2.below _)
      exact h1.trans (ho3.only.below (fun x hx => by simp at hx; omega) h1.size)
/-- In world wr, on the way from w: the reader's things, the result's block, the walk's block. -/
structure Sg (ba : Option Nat) (n0 : Nat) (R : World → Option Nat → List (BitVec 64) → Prop) (w : World) (g : Option Nat) (wr : World) (xs : List (BitVec 64)) (g' : Option Nat) (s : Gs) : Prop where
  hr : R wr g' xs
  b6 : Bk wr w.heap.size #[.int .i64 0, .int .u64 0, .int .u64 0, .int .u64 0, .int .u64 0] 29
  b8 : Bk wr (w.heap.size + 1) (gsC s) 87
  nw : Newer w g g'
  ap : Apart ba g w wr
  far : ∀ k, g' = some k → k < w.heap.size ∨ w.heap.size + 2 ≤ k
  n0 : n0 ≤ w.heap.size
section
variable {K : FuncId} {c1 c2 : Value} {L : Look} {ba : Option Nat} {n0 : Nat} {R : World → Option Nat → List (BitVec 64) → Prop} {w wr : World} {g g' : Option Nat} {xs : List (BitVec 64)} {s : Gs}
theorem Sg.just (hR : ReaderOk K c1 c2 L ba n0 R) (h : Sg ba n0 R w g wr xs g' s) {w' : World} {T : List Nat} (ho : Just T wr w') (hT : ∀ x, x ∈ T → x = w.heap.size + 1) {s' : Gs} (hb : Bk w' (w.heap.size + 1) (gsC s') 87) : Sg ba n0 R w g w' xs g' s' := by
  refine ⟨hR.keep wr w' g' xs h.hr ho.os ho.tape ho.output (by rw [ho.size]; exact Nat.le_refl _) (fun k hk => ho.block k fun hm => ?_), (ho.block _ (fun hm => by have := hT _ hm; omega)).trans h.b6, hb, h.nw, ?_, h.far, h.n0⟩
  · have e := hT k hm
    rcases hk with hk | hk
    · have := h.n0; omega
    · have := h.far k hk.symm; omega
  · exact ⟨ho.os.trans h.ap.os, ho.tape.trans h.ap.tape, ho.output.trans h.ap.output, by rw [ho.size]; exact h.ap.size, fun k a b c => (ho.block k (fun hm => by have := hT k hm; omega)).trans (h.ap.block k a b c)⟩
theorem Sg.quiet (hR : ReaderOk K c1 c2 L ba n0 R) (h : Sg ba n0 R w g wr xs g' s) {w' : World} (hq : Quiet wr w') : Sg ba n0 R w g w' xs g' s :=
  h.just hR ((Just.refl [] wr).quiet hq) (fun x hx => by simp at hx) (h.b8.quiet hq)
theorem Sg.read (hR : ReaderOk K c1 c2 L ba n0 R) (h : Sg ba n0 R w g wr xs g' s) {w' : World} {pa : BitVec 64} {g2 : Option Nat} (h1 : R w' g2 (xs ++ [pa])) (h2 : Newer wr g' g2) (h3 : Apart ba g' wr w') : Sg ba n0 R w g w' (xs ++ [pa]) g2 s := by
  have hl := h.b8.lt
  have hne : ∀ k, w.heap.size ≤ k → k < w.heap.size + 2 → w'.heap[k]? = wr.heap[k]? := fun k a b => by
    refine h3.block k (by omega) ?_ ?_
    · intro e
      have := hR.old k e.symm
      have := h.n0
      omega
    · intro e
      have := h.far k e.symm
      omega
  refine ⟨h1, (hne _ (by omega) (by omega)).trans h.b6, (hne _ (by omega) (by omega)).trans h.b8, h.nw.trans h.ap.size h2, h.ap.trans h.nw h3, ?_, h.n0⟩
  intro k hk
  rcases h2 with e | ⟨n, e, hn⟩
  · rw [e] at hk
    exact h.far k hk
  · rw [e] at hk
    simp at hk
    omega
end
namespace Wd
/-- The path is what was asked. -/
def pathOk (s : Gs) (xs : List (BitVec 64)) : Prop := s.p0 = xs.getD 0 0#64 ∧ s.p1 = xs.getD 1 0#64 ∧ s.p2 = xs.getD 2 0#64
/-- How far it is. -/
def GoRel (satp va : BitVec 64) (L : Look) (s : Gs) (xs : List (BitVec 64)) : Prop :=
  (s.ov = false ∧ s.va = va ∧ s.pl = 0 ∧ s.en = 0#64 ∧ pathOk s xs ∧ ∃ l : Nat, s.lv = (l : Int) ∧ l ≤ 2 ∧ xs.length = 2 - l ∧ walkR satp va L = goW L va l s.table xs) ∨
  (s.ov = true ∧ (walkR satp va L).2.2 = xs ∧ (walkR satp va L).2.1 = s.er ∧ pteOf (walkR satp va L) = ⟨s.pl, s.p0, s.p1, s.p2, s.en⟩)
theorem rel_start (satp va : BitVec 64) (L : Look) : GoRel satp va L (begunG satp va) [] := by
  unfold begunG
  by_cases hs : sext va 39 = va
  · rw [if_pos (by rw [hs]; simp)]
    refine .inl ⟨rfl, rfl, rfl, rfl, ⟨rfl, rfl, rfl⟩, 2, rfl, Nat.le_refl _, rfl, ?_⟩
    show walkR satp va L = goW L va 2 (field satp 43 0) []
    rw [root_same]
    exact if_pos hs
  · rw [if_neg (by rw [eq64]; simpa using hs)]
    have e : walkR satp va L = (none, 7, []) := if_neg hs
    refine .inr ⟨rfl, ?_, ?_, ?_⟩ <;> rw [e] <;> rfl
theorem path_step (s : Gs) (l : Nat) (xs : List (BitVec 64)) (h2 : l ≤ 2) (hx : xs.length = 2 - l) (h : pathOk s xs) : pathOk (pathG s l) (xs ++ [atW s.table s.va l]) := by
  obtain ⟨a, b, c⟩ := h
  have h3 : l = 0 ∨ l = 1 ∨ l = 2 := by omega
  rcases h3 with rfl | rfl | rfl
  · match xs, hx with
    | [x, y], _ => exact ⟨a, b, rfl⟩
  · match xs, hx with
    | [x], _ => exact ⟨a, rfl, c⟩
  · match xs, hx with
    | [], _ => exact ⟨rfl, b, c⟩
theorem pathG_va (s : Gs) (l : Nat) : (pathG s l).va = s.va ∧ (pathG s l).pl = s.pl ∧ (pathG s l).en = s.en ∧ (pathG s l).ov = s.ov ∧ (pathG s l).er = s.er := by
  match l with
  | 0 => exact ⟨rfl, rfl, rfl, rfl, rfl⟩
  | 1 => exact ⟨rfl, rfl, rfl, rfl, rfl⟩
  | l + 2 => exact ⟨rfl, rfl, rfl, rfl, rfl⟩
theorem rel_step (satp va : BitVec 64) (L : Look) (s : Gs) (xs : List (BitVec 64)) (l : Nat) (hv : s.va = va) (hp : s.pl = 0) (he : s.en = 0#64) (ho : s.ov = false) (hpath : pathOk s xs) (h2 : l ≤ 2) (hx : xs.length = 2 - l) (hw : walkR satp va L = goW L va l s.table xs)
    (er0 : s.er = 0) : GoRel satp va L (gotG s l (L (atW s.table va l)).1 (L (atW s.table va l)).2) (xs ++ [atW s.table va l]) := by
  have hps := path_step s l xs h2 hx hpath
  rw [hv] at hps
  obtain ⟨pv, pp, pe, po, pr⟩ := pathG_va s l
  have hend : ∀ t c, walkR satp va L = (none, c, xs ++ [atW s.table va l]) → GoRel satp va L (endG t c) (xs ++ [atW s.table va l]) := fun t c e => by
    refine .inr ⟨rfl, ?_, ?_, ?_⟩ <;> rw [e] <;> rfl
  by_cases hk : (L (atW s.table va l)).2 = false
  · have e : gotG s l (L (atW s.table va l)).1 (L (atW s.table va l)).2 = endG s 6 := if_pos hk
    rw [e]
    exact hend _ _ (hw.trans (go_hole L va s.table l xs hk))
  have hk1 : (L (atW s.table va l)).2 = true := by simpa using hk
  generalize hE : (L (atW s.table va l)).1 = e at *
  have hgot : gotG s l e (L (atW s.table va l)).2 = if mayW e = false then endG (pathG s l) 7 else if leafW e = true then
    (if (decide (0 < l) && (((zext (field e 53 10) (9 * (l : Int))).toNat : Int) != 0)) = true then endG (pathG s l) 7 else { pathG s l with pl := (l : Int), en := e, ov := true })
    else (if ((((andL e 208).toNat : Int) != 0) || decide (l = 0)) = true then endG { pathG s l with table := field e 53 10, lv := (l : Int) - 1 } 7 else { pathG s l with table := field e 53 10, lv := (l : Int) - 1 }) := if_neg hk
  rw [hgot]
  by_cases hm : mayW e = false
  · rw [if_pos hm]
    refine hend _ _ (hw.trans (go_bad L va s.table l xs hk1 ?_))
    rw [hE]
    unfold badE
    rw [hm]
    rfl
  rw [if_neg hm]
  have hm1 : mayW e = true := by simpa using hm
  by_cases hl : leafW e = true
  · rw [if_pos hl]
    by_cases hz : (decide (0 < l) && (((zext (field e 53 10) (9 * (l : Int))).toNat : Int) != 0)) = true
    · rw [if_pos hz]
      refine hend _ _ (hw.trans (go_bad L va s.table l xs hk1 ?_))
      rw [hE]
      unfold badE
      rw [hl]
      rw [Bool.and_eq_true] at hz
      rw [hz.2]
      simp
    · rw [if_neg hz]
      have hb : badE e l = false := by
        unfold badE
        rw [hm1, hl]
        rcases Nat.eq_zero_or_pos l with h0 | h0
        · subst h0
          have : zext (field e 53 10) (9 * ((0 : Nat) : Int)) = 0#64 := by
            apply BitVec.eq_of_getLsbD_eq
            intro i hi
            unfold zext
            rw [zextN_get, show (9 * ((0 : Nat) : Int)).toNat = 0 from rfl]
            simp
          rw [this]
          rfl
        · rw [decide_eq_true h0, Bool.true_and] at hz
          rw [Bool.not_eq_true] at hz
          rw [hz]
          rfl
      have e1 := hw.trans (go_leaf L va s.table l xs hk1 (by rw [hE]; exact hb) (by rw [hE]; exact hl))
      rw [hE] at e1
      refine .inr ⟨rfl, ?_, ?_, ?_⟩
      · rw [e1]
      · rw [e1]
        show 0 = (pathG s l).er
        rw [pr, er0]
      · rw [e1]
        show (⟨(l : Int), _, _, _, e⟩ : Pte) = _
        rw [← hps.1, ← hps.2.1, ← hps.2.2]
  rw [if_neg hl]
  have hl1 : leafW e = false := by simpa using hl
  by_cases hz : ((((andL e 208).toNat : Int) != 0) || decide (l = 0)) = true
  · rw [if_pos hz]
    refine hend _ _ (hw.trans (go_bad L va s.table l xs hk1 ?_))
    rw [hE]
    unfold badE
    rw [hl1, Bool.or_comm (decide (l = 0)), hz]
    simp
  · rw [if_neg hz]
    rw [Bool.not_eq_true, Bool.or_eq_false_iff] at hz
    obtain ⟨z1, z2⟩ := hz
    have h0 : l ≠ 0 := by simpa using z2
    obtain ⟨m, rfl⟩ : ∃ m, l = m + 1 := ⟨l - 1, by omega⟩
    have hb : badE e (m + 1) = false := by
      unfold badE
      rw [hm1, hl1, z1]
      simp
    have e1 := hw.trans (go_down L va s.table m xs hk1 (by rw [hE]; exact hb) (by rw [hE]; exact hl1))
    rw [hE] at e1
    exact .inl ⟨po.trans ho, pv.trans hv, pp.trans hp, pe.trans he, hps, m, by show ((m + 1 : Nat) : Int) - 1 = _; omega, by omega, by simp; omega, e1⟩
end Wd
theorem fn_eql1 (K : FuncId) (c1 c2 : Value) (w : World) : (binOp .eql 33 (.func (.func K) #[] #[c1, c2]) .nilFunc).run Try.prog w = .ok (.bool false) w := by kernel_rfl
attribute [local go_sem] fn_eql1
/-- How far the walk's block is from its end. -/
def left (w : World) (b : Nat) : Nat :=
  match w.cell? ⟨b, 9, none⟩ with
  | some (.bool true) => 0
  | _ => match w.cell? ⟨b, 1, none⟩ with
    | some (.int _ l) => (l + 1).toNat
    | _ => 0
theorem left_over {w : World} {b : Nat} {s : Gs} {t : TypeId} (h : Bk w b (gsC s) t) (ho : s.ov = true) : left w b = 0 := by
  unfold left
  rw [(gs_cells h).2.2.2.2.2.2.2.2.2, ho]
theorem left_on {w : World} {b : Nat} {s : Gs} {t : TypeId} (h : Bk w b (gsC s) t) (ho : s.ov = false) : left w b = (s.lv + 1).toNat := by
  unfold left
  rw [(gs_cells h).2.2.2.2.2.2.2.2.2, ho, (gs_cells h).2.1]
theorem got_ov (s : Gs) (l : Nat) (e : BitVec 64) (ok : Bool) (hs : s.ov = false) : (gotG s l e ok).ov = true ∨ ((gotG s l e ok).ov = false ∧ (gotG s l e ok).er = s.er ∧ (gotG s l e ok).lv = (l : Int) - 1) := by
  obtain ⟨pv, pp, pe, po, pr⟩ := pathG_va s l
  unfold gotG
  split
  · exact .inl rfl
  · split
    · exact .inl rfl
    · split
      · split
        · exact .inl rfl
        · exact .inl rfl
      · split
        · exact .inl rfl
        · exact .inr ⟨po.trans hs, pr, rfl⟩
theorem got_left {w : World} {b : Nat} {s : Gs} {l : Nat} {e : BitVec 64} {ok : Bool} {t : TypeId} (hs : s.ov = false) (h : Bk w b (gsC (gotG s l e ok)) t) : left w b < l + 1 := by
  rcases got_ov s l e ok hs with h1 | ⟨h1, _, h3⟩
  · rw [left_over h h1]; omega
  · rw [left_on h h1, h3]; omega
/-- The result is laid into its block. -/
theorem Sg.out {K : FuncId} {c1 c2 : Value} {L : Look} {ba : Option Nat} {n0 : Nat} {R : World → Option Nat → List (BitVec 64) → Prop} {w wr w' : World} {g g' : Option Nat} {xs : List (BitVec 64)} {s : Gs} (hR : ReaderOk K c1 c2 L ba n0 R) (h : Sg ba n0 R w g wr xs g' s) (hj : Just [w.heap.size] wr w') : R w' g' xs ∧ Newer w g g' ∧ Apart ba g w w' := by
  refine ⟨hR.keep wr w' g' xs h.hr hj.os hj.tape hj.output (by rw [hj.size]; exact Nat.le_refl _) (fun k hk => hj.block k fun hm => ?_), h.nw, ?_⟩
  · simp at hm
    rcases hk with hk | hk
    · have := h.n0; omega
    · have := h.far k hk.symm; omega
  · exact ⟨hj.os.trans h.ap.os, hj.tape.trans h.ap.tape, hj.output.trans h.ap.output, by rw [hj.size]; exact h.ap.size, fun k a b c => (hj.block k (fun hm => by simp at hm; omega)).trans (h.ap.block k a b c)⟩
def GRel (satp va : BitVec 64) (L : Look) (ba : Option Nat) (n0 : Nat) (R : World → Option Nat → List (BitVec 64) → Prop) (w : World) (g : Option Nat) (wr : World) : Prop :=
  ∃ s xs g', Sg ba n0 R w g wr xs g' s ∧ GoRel satp va L s xs ∧ (s.ov = false → s.er = 0)
set_option maxHeartbeats 4000000 in
theorem walked_any (satp va : BitVec 64) (K : FuncId) (c1 c2 : Value) (L : Look) (ba : Option Nat) (n0 : Nat) (R : World → Option Nat → List (BitVec 64) → Prop) (hR : ReaderOk K c1 c2 L ba n0 R)
    (w : World) (g : Option Nat) (h0 : R w g []) (hn : n0 ≤ w.heap.size) (hg : ∀ k, g = some k → k < w.heap.size) :
    Calls Try.prog 23 #[.int .u64 (satp.toNat : Int), .int .u64 (va.toNat : Int), .func (.func K) #[] #[c1, c2]] w fun e w' =>
      e = .returned (.tuple #[.agg (pteC (pteOf (walkR satp va L))), .int .i64 (walkR satp va L).2.1]) ∧ ∃ g', R w' g' (walkR satp va L).2.2 ∧ Newer w g g' ∧ Apart ba g w w' := by
  have HR := Lib.hid hR
  have H0 := Lib.hid h0
  have HG := Lib.hid hg
  have HN := Lib.hid hn
  clear hR h0 hg hn
  go_enter Try.func23, Try.ntmps23
  go_wp2_with fail
  refine (begin_any satp va _ (w.heap.size + 1) (by simp)).mono ?_
  rintro e w1 ⟨rfl, hb1, hbe⟩
  have hS : Sg ba n0 R w g w1 [] g (begunG satp va) := by
    have hbw : Below w.heap.size w w1 := ((Below.refl _ _).alloc (Nat.le_refl _) (.cells #[.int .i64 0, .int .u64 0, .int .u64 0, .int .u64 0, .int .u64 0] 29)).trans (hbe.mono (by simp))
    exact ⟨HR.out.keep w w1 g [] H0.out hbw.os hbw.tape hbw.output hbw.size (fun k hk => hbw.block k (by
      rcases hk with hk | hk
      · have := HN.out; omega
      · exact HG.out k hk.symm)), (Bk.new w _ _).below hbe, hb1, Newer.refl _ _, Below.apart hbw _ _, fun k hk => .inl (HG.out k hk), HN.out⟩
  have hrel0 : GRel satp va L ba n0 R w g w1 := ⟨_, _, _, hS, rel_start satp va L, fun ho => by
    unfold begunG at ho ⊢
    split
    · rfl
    · rename_i hh
      rw [if_neg hh] at ho
      cases ho⟩
  have HREL := Lib.hid hrel0
  clear hb1 hbe hS hrel0 H0 HG HN
  go_wp2_with fail
  go_loopw [9, 10] (fun _ _ wr => GRel satp va L ba n0 R w g wr) (fun _ _ wr => left wr (w.heap.size + 1))
  case atStart => exact HREL.out
  case round =>
    clear HREL
    obtain ⟨s, xs, g', hS, hgo, her⟩ := hrel
    have HS := Lib.hid hS
    have HER := Lib.hid her
    obtain ⟨c0, c1', c2', c3, c4, c5, c6, c7, c8, c9⟩ := gs_cells hS.b8
    clear hS her
    rcases hgo with ⟨ho, hv, hp, he, hpath, l, hl, h2, hx, hw⟩ | ⟨ho, hx, hw, hpt⟩
    · rw [ho] at c9
      have hmeas := Lib.hid (left_on HS.out.b8 ho)
      have HSTEP := Lib.hid (rel_step satp va L s xs l hv hp he ho hpath h2 hx hw (HER.out ho))
      have HL := Lib.hid hl
      have HX := Lib.hid hx
      have HV := Lib.hid hv
      have HO := Lib.hid ho
      clear hv hp he hpath hx hw ho hl c0 c1' c2' c3 c4 c5 c6 c7 c8
      go_wp2_with fail
      refine (at_any s _ l _ HL.out h2 HS.out.b8).mono ?_
      rintro e1 w3 ⟨rfl, hq3⟩
      have hS3 := Lib.hid (HS.out.quiet HR.out hq3)
      clear hq3 c9
      have hent := HR.out.ent
      go_wp2_with fail
      clear hent
      rw [HV.out]
      have hS3' := hS3.out
      refine (HR.out.call w3 g' xs (atW s.table va l) hS3'.hr (by have := HX.out; omega) (by have := hS3'.b6.lt; have := hS3'.n0; omega)).mono ?_
      rintro e1 w5 ⟨rfl, g2, r2, nw2, ap2⟩
      have hS5 := Lib.hid (hS3'.read HR.out r2 nw2 ap2)
      clear hS3' r2 nw2 ap2
      go_wp2_with fail
      refine (got_any s _ l _ _ _ HL.out h2 hS5.out.b8).mono ?_
      rintro e1 w6 ⟨rfl, hb6, hj6⟩
      have hS6 := Lib.hid (hS5.out.just HR.out hj6 (fun x hx => by simpa using hx) hb6)
      have hm6 := Lib.hid (got_left HO.out hb6)
      have her6 := Lib.hid (got_ov s l (L (atW s.table va l)).1 (L (atW s.table va l)).2 HO.out)
      clear hb6 hj6
      go_wp2_with fail
      go_roundw
      case rel => exact ⟨_, _, g2, hS6.out, HSTEP.out, fun h => by
        rcases her6.out with h1 | ⟨_, h1, _⟩
        · rw [h1] at h; cases h
        · rw [h1]; exact HER.out HO.out⟩
      case measure =>
        have h1 := hmeas.out
        have h2 := hm6.out
        rw [HL.out] at h1
        omega
    · rw [ho] at c9
      obtain ⟨hh6, hh8, hnw, hap⟩ : Bk wr w.heap.size _ _ ∧ Bk wr (w.heap.size + 1) _ _ ∧ Newer w g g' ∧ Apart ba g w wr := ⟨HS.out.b6, HS.out.b8, HS.out.nw, HS.out.ap⟩
      have b0 := hh6.get (o := 0) rfl
      have b1 := hh6.get (o := 1) rfl
      have b2 := hh6.get (o := 2) rfl
      have b3 := hh6.get (o := 3) rfl
      have b4 := hh6.get (o := 4) rfl
      have bf : ∀ o, wr.frozen? ⟨w.heap.size, o, none⟩ = false := hh6.free
      have HB6 := Lib.hid hh6
      have HX := Lib.hid hx
      have HW := Lib.hid hw
      have HP := Lib.hid hpt
      clear ho hx hw hpt hh6 hh8
      go_wp2_with fail
      go_region
      all_goals
        go_wp2_with fail
        have hb := (((((HB6.out.set 0 (.int .i64 s.pl)).set 1 (.int .u64 (s.p0.toNat : Int))).set 2 (.int .u64 (s.p1.toNat : Int))).set 3 (.int .u64 (s.p2.toNat : Int))).set 4 (.int .u64 (s.en.toNat : Int))).quiet ((Quiet.refl _).drew)
        have hj := (((((Just.refl [w.heap.size] wr).set (b := w.heap.size) (.inl (by simp)) 0 (.int .i64 s.pl)).set (b := w.heap.size) (.inl (by simp)) 1 (.int .u64 (s.p0.toNat : Int))).set (b := w.heap.size) (.inl (by simp)) 2 (.int .u64 (s.p1.toNat : Int))).set (b := w.heap.size) (.inl (by simp)) 3 (.int .u64 (s.p2.toNat : Int))).set (b := w.heap.size) (.inl (by simp)) 4 (.int .u64 (s.en.toNat : Int))
        refine ret_pte (b := w.heap.size) (cs := pteC ⟨s.pl, s.p0, s.p1, s.p2, s.en⟩) (v := .int .i64 s.er) rfl rfl rfl ?_ rfl rfl ?_
        · simpa [pteC, Bk] using hb
        · obtain ⟨r1, r2, r3⟩ := HS.out.out HR.out hj.drew
          rw [HP.out, HW.out, HX.out]
          exact ⟨rfl, g', r1, r2, r3⟩
end Go.Proofs.Ythjhcdkbajbpdaa
