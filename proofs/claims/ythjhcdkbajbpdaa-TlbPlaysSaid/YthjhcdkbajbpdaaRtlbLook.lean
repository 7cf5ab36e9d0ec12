/- Contract: the document's TLB: the leaf for an address. -/
import Derived.Test.YthjhcdkbajbpdaaRtlbAt
import Derived.Test.YthjhcdkbajbpdaaTlbLook
import Derived.Test.YthjhcdkbajbpdaaTlbTouchR
namespace Go.Proofs.Ythjhcdkbajbpdaa
open Go.RowKit Wd Pl
set_option linter.unusedVariables false
set_option linter.unusedSimpArgs false
set_option maxRecDepth 8000
theorem rtb_touch (p q : Nat) (ws : List Wy) (st i : Int) (w : World) (h : Tb w 103 111 p q ws st) : Calls Try.prog 87 #[.pointer (some ⟨p, 0, none⟩), .int .i64 i] w fun e w' =>
    e = .returned (.tuple #[]) ∧ Tb w' 103 111 p q ws (touch st ws.length i) ∧ Just [p] w w' := by
  obtain ⟨c, hb⟩ := h.box
  refine (rtlb_touch p _ ws.length c st i w (hb.get rfl) (hb.get rfl) (hb.free 1)).mono ?_
  rintro e w' ⟨rfl, k, rfl⟩
  exact ⟨rfl, (h.quiet ⟨k, rfl⟩).state _, ((Just.refl [p] w).drewN k).set (.inl (by simp)) 1 _⟩
theorem rlook_hit (p q : Nat) (ws : List Wy) (st : Int) (va : BitVec 64) (w : World) (h : Tb w 103 111 p q ws st) (hi : fndI ws va < ws.length) : Calls Try.prog 67 #[.pointer (some ⟨p, 0, none⟩), .int .u64 (va.toNat : Int)] w fun e w' =>
    e = .returned (.tuple #[.agg (pteY (wyAt ws (fndI ws va))), .bool true]) ∧ Tb w' 103 111 p q ws (touch st ws.length (fndI ws va)) ∧ Only [p] w w' := by
  have hm : (ws.length : Int) ≤ 8 := by have := h.len; omega
  have pl := h.pl
  have ql := h.ql
  have HT0 := Lib.hid (h.below ((Below.refl _ _).alloc (Nat.le_refl _) (.cells #[.int .i64 0, .int .u64 0, .int .u64 0, .int .u64 0, .int .u64 0] 29)))
  have cF := Lib.hid (fun W hW => rat_any p q ws st va W hW)
  have e1 : ratAt ws va = (fndI ws va : Int) := if_pos hi
  rw [e1] at cF
  have hge : ¬ (fndI ws va : Int) < 0 := by omega
  clear h e1
  go_enter Try.func67, Try.ntmps67
  go_wp2_with fail
  refine (cF.out _ HT0.out).mono ?_
  rintro e w1 ⟨rfl, hq1⟩
  have hb1 := hq1.below (w.alloc (.cells #[.int .i64 0, .int .u64 0, .int .u64 0, .int .u64 0, .int .u64 0] 29)).heap.size
  have hT1 := Lib.hid (HT0.out.below hb1)
  have hz1 := Lib.hid ((Bk.new w #[.int .i64 0, .int .u64 0, .int .u64 0, .int .u64 0, .int .u64 0] 29).below hb1)
  have ho1 := Lib.hid (only_below (below_alloc hb1) [p])
  clear hb1 hq1 HT0 cF
  go_wp2_with fail
  refine (rtb_touch p q ws st (fndI ws va) _ hT1.out).mono ?_
  rintro e w2 ⟨rfl, hT2, hj2⟩
  have hz2 := Lib.hid (hz1.out.only hj2.only (by simp; omega))
  have HO := Lib.hid (ho1.out.also hj2.only)
  obtain ⟨c, hb⟩ := hT2.box
  have c0 := hb.get (o := 0) rfl
  obtain ⟨_, _, d2, d3, d4, d5, d6⟩ := hT2.way _ hi
  have b0 := hz2.out.get (o := 0) rfl
  have b1 := hz2.out.get (o := 1) rfl
  have b2 := hz2.out.get (o := 2) rfl
  have b3 := hz2.out.get (o := 3) rfl
  have b4 := hz2.out.get (o := 4) rfl
  have bf : ∀ o, w2.frozen? ⟨w.heap.size, o, none⟩ = false := hz2.out.free
  have HT2 := Lib.hid hT2
  have i1 : (0 : Int) ≤ (fndI ws va : Int) := by omega
  have i2 : (fndI ws va : Int) < (ws.length : Int) := by omega
  clear hb hT2 hj2 hT1 hz1 ho1
  go_wp2_with fail
  refine ret_pte (b := w.heap.size) (cs := pteY (wyAt ws (fndI ws va))) (v := .bool true) rfl rfl rfl ?_ rfl rfl ?_
  · have hb := (((((hz2.out.set 0 (.int .i64 (wyAt ws (fndI ws va)).lv)).set 1 (.int .u64 (wyAt ws (fndI ws va)).p0)).set 2 (.int .u64 (wyAt ws (fndI ws va)).p1)).set 3 (.int .u64 (wyAt ws (fndI ws va)).p2)).set 4 (.int .u64 (wyAt ws (fndI ws va)).en))
    simpa [pteY, Bk] using hb
  · have hj : Just [w.heap.size] w2 (((((w2.setCell ⟨w.heap.size, 0, none⟩ (.int .i64 (wyAt ws (fndI ws va)).lv)).setCell ⟨w.heap.size, 1, none⟩ (.int .u64 (wyAt ws (fndI ws va)).p0)).setCell ⟨w.heap.size, 2, none⟩ (.int .u64 (wyAt ws (fndI ws va)).p1)).setCell ⟨w.heap.size, 3, none⟩ (.int .u64 (wyAt ws (fndI ws va)).p2)).setCell ⟨w.heap.size, 4, none⟩ (.int .u64 (wyAt ws (fndI ws va)).en)) :=
      (((((Just.refl [w.heap.size] w2).set (.inl (by simp)) 0 _).set (.inl (by simp)) 1 _).set (.inl (by simp)) 2 _).set (.inl (by simp)) 3 _).set (.inl (by simp)) 4 _
    exact ⟨rfl, HT2.out.only hj.only (by simp; omega) (by simp; omega), HO.out.trans hj.only (fun x hx => by simp at hx; omega)⟩
theorem rlook_miss (p q : Nat) (ws : List Wy) (st : Int) (va : BitVec 64) (w : World) (h : Tb w 103 111 p q ws st) (hi : ¬ fndI ws va < ws.length) : Calls Try.prog 67 #[.pointer (some ⟨p, 0, none⟩), .int .u64 (va.toNat : Int)] w fun e w' =>
    e = .returned (.tuple #[.agg #[.int .i64 0, .int .u64 0, .int .u64 0, .int .u64 0, .int .u64 0], .bool false]) ∧ Below w.heap.size w w' := by
  have pl := h.pl
  have HT0 := Lib.hid (h.below ((Below.refl _ _).alloc (Nat.le_refl _) (.cells #[.int .i64 0, .int .u64 0, .int .u64 0, .int .u64 0, .int .u64 0] 29)))
  have cF := Lib.hid (fun W hW => rat_any p q ws st va W hW)
  have e1 : ratAt ws va = -1 := if_neg hi
  rw [e1] at cF
  clear h e1 hi
  go_enter Try.func67, Try.ntmps67
  go_wp2_with fail
  refine (cF.out _ HT0.out).mono ?_
  rintro e w1 ⟨rfl, hq1⟩
  have hb1 := hq1.below (w.alloc (.cells #[.int .i64 0, .int .u64 0, .int .u64 0, .int .u64 0, .int .u64 0] 29)).heap.size
  have hz1 := Lib.hid ((Bk.new w #[.int .i64 0, .int .u64 0, .int .u64 0, .int .u64 0, .int .u64 0] 29).below hb1)
  have HB := Lib.hid (below_alloc hb1)
  have b0 := hz1.out.get (o := 0) rfl
  have b1 := hz1.out.get (o := 1) rfl
  have b2 := hz1.out.get (o := 2) rfl
  have b3 := hz1.out.get (o := 3) rfl
  have b4 := hz1.out.get (o := 4) rfl
  have bf : ∀ o, w1.frozen? ⟨w.heap.size, o, none⟩ = false := hz1.out.free
  clear hb1 hq1 HT0 cF
  go_wp2_with fail
  refine ret_pte (b := w.heap.size) (cs := #[.int .i64 0, .int .u64 0, .int .u64 0, .int .u64 0, .int .u64 0]) (v := .bool false) rfl rfl rfl ?_ rfl rfl ?_
  · have hb := (((((hz1.out.set 0 (.int .i64 0)).set 1 (.int .u64 0)).set 2 (.int .u64 0)).set 3 (.int .u64 0)).set 4 (.int .u64 0))
    simpa [Bk] using hb
  · refine ⟨rfl, ?_⟩
    refine Below.setCell (Below.setCell (Below.setCell (Below.setCell (Below.setCell HB.out ?_ _) ?_ _) ?_ _) ?_ _) ?_ _ <;> simp
theorem rlook_any (p q : Nat) (ws : List Wy) (st : Int) (va : BitVec 64) (w : World) (h : Tb w 103 111 p q ws st) : Calls Try.prog 67 #[.pointer (some ⟨p, 0, none⟩), .int .u64 (va.toNat : Int)] w fun e w' =>
    e = .returned (.tuple #[.agg (pteY (lookY ws va)), .bool (fndIs ws va)]) ∧ Tb w' 103 111 p q ws (lookS ws st va) ∧ Only [p] w w' := by
  unfold lookY lookS fndIs
  by_cases hi : fndI ws va < ws.length
  · rw [if_pos hi, if_pos hi, decide_eq_true hi]
    exact rlook_hit p q ws st va w h hi
  · rw [if_neg hi, if_neg hi, decide_eq_false hi]
    refine (rlook_miss p q ws st va w h hi).mono ?_
    rintro e w' ⟨he, hb⟩
    exact ⟨he, h.below hb, only_below hb _⟩
end Go.Proofs.Ythjhcdkbajbpdaa
