/- The law WalkWalks, walked: each call answers true. -/
import Derived.Test.YthjhcdkbajbpdaaWalked
import Derived.Test.YthjhcdkbajbpdaaWalkPage
namespace Go.Proofs.Ythjhcdkbajbpdaa
open Go.RowKit Wd
set_option linter.unusedVariables false
set_option linter.unusedSimpArgs false
set_option maxRecDepth 8000
attribute [local go_sem ↓] eq_pte_same
theorem fn_eql2 (w : World) : (binOp .eql 33 .nilFunc .nilFunc).run Try.prog w = .ok (.bool true) w := by kernel_rfl
attribute [local go_sem] fn_eql2
theorem walked_mem (satp va : BitVec 64) {w0 w : World} {A : Option Addr} {c : Nat} {hole : Bool} {l : List (BitVec 64 × BitVec 64)} {n rl : Nat} (hmax : l.length ≤ 9223372036854775807) (h : Kp w0 w A c hole l n rl) :
    Calls Try.prog 23 #[.int .u64 (satp.toNat : Int), .int .u64 (va.toNat : Int), .func (.func 50) #[] #[.pointer (some ⟨w.heap.size + 1, 0, none⟩), .pointer (some ⟨w.heap.size, 0, none⟩)]]
      ((w.alloc (.cells #[.slice A l.length c, .bool hole] 25)).alloc (.cells #[.pointer (some ⟨rl, 0, none⟩)] 35)) fun e w' =>
      e = .returned (.tuple #[.agg (pteC (pteOf (walkR satp va (lookM l hole)))), .int .i64 (walkR satp va (lookM l hole)).2.1]) ∧
        ∃ v g, w'.heap[rl]? = some (.cells #[v] 26 (0, 0)) ∧ w'.ownsRow (w.heap.size + 2) 22 1 v (walkR satp va (lookM l hole)).2.2.length (wordsV (walkR satp va (lookM l hole)).2.2) ∧ v.ownBlock = g ∧ Apart (some rl) none w w' := by
  have hr := rdm_start (w := w) (A := A) (c := c) (ba := rl) (hole := hole) (l := l) hmax h.ll (fun h0 => by
    obtain ⟨bl, off, e, hl, hc⟩ := h.i h0
    exact ⟨bl, off, e, ⟨by have := h.z; omega, by have := h.r; omega⟩, hc⟩)
  have hk := reader_ok (w.heap.size + 2) (w.heap.size + 1) rl w.heap.size l hole (by have := h.z; have := h.r; omega)
  refine (walked_any satp va _ _ _ _ _ _ _ hk _ none hr (by simp) (by simp)).mono ?_
  rintro e w' ⟨he, g', ⟨_, _, _, _, _, v, hv, hown, hg⟩, _, ha⟩
  have hb : Below w.heap.size w ((w.alloc (.cells #[.slice A l.length c, .bool hole] 25)).alloc (.cells #[.pointer (some ⟨rl, 0, none⟩)] 35)) := ((Below.refl _ _).alloc (Nat.le_refl _) _).alloc (by simp) _
  exact ⟨he, v, g', hv, hown, hg, ⟨ha.os.trans hb.os, ha.tape.trans hb.tape, ha.output.trans hb.output, Nat.le_trans hb.size ha.size, fun k hk h1 h2 => (ha.block k (Nat.lt_of_lt_of_le hk hb.size) h1 h2).trans (hb.block k hk)⟩⟩
set_option maxHeartbeats 4000000 in
theorem walked_nil_yes (satp va : BitVec 64) (w : World) (hs : sext va 39 = va) : Calls Try.prog 23 #[.int .u64 (satp.toNat : Int), .int .u64 (va.toNat : Int), .nilFunc] w fun e w' =>
      e = .returned (.tuple #[.agg #[.int .i64 0, .int .u64 0, .int .u64 0, .int .u64 0, .int .u64 0], .int .i64 6]) ∧ Below w.heap.size w w' := by
  have hs0 := Lib.hid hs
  clear hs
  go_enter Try.func23, Try.ntmps23
  go_wp2_with fail
  refine (begin_any satp va _ (w.heap.size + 1) (by simp)).mono ?_
  rintro e w1 ⟨rfl, hb1, hbe⟩
  have hz6 := Lib.hid ((Bk.new w #[.int .i64 0, .int .u64 0, .int .u64 0, .int .u64 0, .int .u64 0] 29).below hbe)
  have HB := Lib.hid (below_alloc hbe)
  clear hbe
  have b0 := hz6.out.get (o := 0) rfl
  have b1 := hz6.out.get (o := 1) rfl
  have b2 := hz6.out.get (o := 2) rfl
  have b3 := hz6.out.get (o := 3) rfl
  have b4 := hz6.out.get (o := 4) rfl
  have bf : ∀ o, w1.frozen? ⟨w.heap.size, o, none⟩ = false := hz6.out.free
  have hs := hs0.out
  have hbg : begunG satp va = beginG satp va := if_pos (by rw [hs]; simp)
  rw [hbg] at hb1
  obtain ⟨c0, c1, c2, c3, c4, c5, c6, c7, c8, c9⟩ := gs_cells hb1
  have c9' : w1.cell? ⟨w.heap.size + 1, 9, none⟩ = some (.bool false) := c9
  have HS := Lib.hid hs
  clear hbg hb1 hs c0 c1 c2 c3 c4 c5 c6 c7 c8 c9
  go_wp2_with fail
  refine wp_loop_rounds 1 ?_
  rw [rounds_succ]
  go_wp2_with fail
  refine ret_pte (b := w.heap.size) (cs := #[.int .i64 0, .int .u64 0, .int .u64 0, .int .u64 0, .int .u64 0]) (v := .int .i64 6) rfl rfl rfl ?_ rfl rfl ?_
  · have hb := ((((hz6.out.set 0 (.int .i64 0)).set 1 (.int .u64 0)).set 2 (.int .u64 0)).set 3 (.int .u64 0)).set 4 (.int .u64 0)
    simpa [Bk] using hb
  · refine ⟨rfl, ?_⟩
    refine Below.setCell (Below.setCell (Below.setCell (Below.setCell (Below.setCell HB.out ?_ _) ?_ _) ?_ _) ?_ _) ?_ _ <;> simp
set_option maxHeartbeats 4000000 in
theorem walked_nil_no (satp va : BitVec 64) (w : World) (hs : ¬ sext va 39 = va) : Calls Try.prog 23 #[.int .u64 (satp.toNat : Int), .int .u64 (va.toNat : Int), .nilFunc] w fun e w' =>
      e = .returned (.tuple #[.agg #[.int .i64 0, .int .u64 0, .int .u64 0, .int .u64 0, .int .u64 0], .int .i64 7]) ∧ Below w.heap.size w w' := by
  have hs0 := Lib.hid hs
  clear hs
  go_enter Try.func23, Try.ntmps23
  go_wp2_with fail
  refine (begin_any satp va _ (w.heap.size + 1) (by simp)).mono ?_
  rintro e w1 ⟨rfl, hb1, hbe⟩
  have hz6 := Lib.hid ((Bk.new w #[.int .i64 0, .int .u64 0, .int .u64 0, .int .u64 0, .int .u64 0] 29).below hbe)
  have HB := Lib.hid (below_alloc hbe)
  clear hbe
  have b0 := hz6.out.get (o := 0) rfl
  have b1 := hz6.out.get (o := 1) rfl
  have b2 := hz6.out.get (o := 2) rfl
  have b3 := hz6.out.get (o := 3) rfl
  have b4 := hz6.out.get (o := 4) rfl
  have bf : ∀ o, w1.frozen? ⟨w.heap.size, o, none⟩ = false := hz6.out.free
  have hs := hs0.out
  have hbg : begunG satp va = endG (beginG satp va) 7 := if_neg (by rw [eq64]; simpa using hs)
  rw [hbg] at hb1
  obtain ⟨c0, c1, c2, c3, c4, c5, c6, c7, c8, c9⟩ := gs_cells hb1
  have d3 : w1.cell? ⟨w.heap.size + 1, 3, none⟩ = some (.int .i64 0) := c3
  have d4 : w1.cell? ⟨w.heap.size + 1, 4, none⟩ = some (.int .u64 0) := c4
  have d5 : w1.cell? ⟨w.heap.size + 1, 5, none⟩ = some (.int .u64 0) := c5
  have d6 : w1.cell? ⟨w.heap.size + 1, 6, none⟩ = some (.int .u64 0) := c6
  have d7 : w1.cell? ⟨w.heap.size + 1, 7, none⟩ = some (.int .u64 0) := c7
  have d8 : w1.cell? ⟨w.heap.size + 1, 8, none⟩ = some (.int .i64 7) := c8
  have d9 : w1.cell? ⟨w.heap.size + 1, 9, none⟩ = some (.bool true) := c9
  have HS := Lib.hid hs
  clear hbg hb1 hs c0 c1 c2 c3 c4 c5 c6 c7 c8 c9
  go_wp2_with fail
  refine wp_loop_rounds 1 ?_
  rw [rounds_succ]
  go_wp2_with fail
  go_region
  all_goals
    go_wp2_with fail
    have hb := (((((hz6.out.set 0 (.int .i64 0)).set 1 (.int .u64 0)).set 2 (.int .u64 0)).set 3 (.int .u64 0)).set 4 (.int .u64 0)).quiet ((Quiet.refl _).drew)
    refine ret_pte (b := w.heap.size) (cs := #[.int .i64 0, .int .u64 0, .int .u64 0, .int .u64 0, .int .u64 0]) (v := .int .i64 7) rfl rfl rfl ?_ rfl rfl ?_
    · simpa [Bk] using hb
    · refine ⟨rfl, ?_⟩
      refine Below.drew (Below.setCell (Below.setCell (Below.setCell (Below.setCell (Below.setCell HB.out ?_ _) ?_ _) ?_ _) ?_ _) ?_ _) <;> simp
/-- Where there is no reader. -/
theorem walked_nil (satp va : BitVec 64) (w : World) : Calls Try.prog 23 #[.int .u64 (satp.toNat : Int), .int .u64 (va.toNat : Int), .nilFunc] w fun e w' =>
      e = .returned (.tuple #[.agg #[.int .i64 0, .int .u64 0, .int .u64 0, .int .u64 0, .int .u64 0], .int .i64 (if sext va 39 = va then 6 else 7)]) ∧ Below w.heap.size w w' := by
  by_cases hs : sext va 39 = va
  · rw [if_pos hs]
    exact walked_nil_yes satp va w hs
  · rw [if_neg hs]
    exact walked_nil_no satp va w hs
theorem walk_nilr (satp va : BitVec 64) (w : World) : Calls Try.prog 15 #[.int .u64 (satp.toNat : Int), .int .u64 (va.toNat : Int), .nilFunc] w fun e w' =>
    e = .returned (.tuple #[.agg #[.int .i64 0, .int .u64 0, .int .u64 0, .int .u64 0, .int .u64 0], .int .i64 (if sext va 39 = va then 6 else 7)]) ∧ Below w.heap.size w w' := by
  by_cases hs : sext va 39 = va
  · rw [if_pos hs]
    exact walk_nil satp va w hs
  · rw [if_neg hs]
    exact walk_no satp va .nilFunc w hs
theorem cells5 {w : World} {b : Nat} {a0 a1 a2 a3 a4 : Value} {t : TypeId} (h : Bk w b #[a0, a1, a2, a3, a4] t) :
    w.cell? ⟨b, 0, none⟩ = some a0 ∧ w.cell? ⟨b, 1, none⟩ = some a1 ∧ w.cell? ⟨b, 2, none⟩ = some a2 ∧ w.cell? ⟨b, 3, none⟩ = some a3 ∧ w.cell? ⟨b, 4, none⟩ = some a4 :=
  ⟨h.get rfl, h.get rfl, h.get rfl, h.get rfl, h.get rfl⟩
set_option maxHeartbeats 8000000 in
theorem walkWalks_walk (satp va : BitVec 64) (A : Option Addr) (c : Nat) (hole : Bool) (l : List (BitVec 64 × BitVec 64)) (priv : Int) (w : World) (hmax : l.length ≤ 9223372036854775807) (hc : MemIn w w.heap.size A l) :
    Calls Try.prog 6 #[.int .u64 (satp.toNat : Int), .int .u64 (va.toNat : Int), .agg #[.slice A l.length c, .bool hole], .int .i64 priv] w fun e w' => e = .returned (.bool true) ∧ Below w.heap.size w w' := by
  obtain ⟨hk1, hk2⟩ := kp_two w A c hole l hc
  have HK := Lib.hid hk1
  have HK2 := Lib.hid hk2
  have hx3 : (walkR satp va (lookM l hole)).2.2.length ≤ 3 := by
    rcases walk_ends satp va (lookM l hole) with ⟨_, _, xs, hw, _, _, _, hxl⟩ | ⟨_, xs, hw, _, hxl⟩
    · rw [hw]; show xs.length ≤ 3; omega
    · rw [hw]; exact hxl
  have cM1 := fun (w6 : World) (h : Kp w w6 A c hole l 3 (w.heap.size + 1)) => walk_mem satp va hmax h
  have cM2 := fun (w6 : World) (h : Kp w w6 A c hole l 3 (w.heap.size + 2)) => walked_mem satp va hmax h
  have hP : pteC (pteOf (walkR satp va (lookM l hole))) = #[.int .i64 (pteOf (walkR satp va (lookM l hole))).level, .int .u64 ((pteOf (walkR satp va (lookM l hole))).p0.toNat : Int), .int .u64 ((pteOf (walkR satp va (lookM l hole))).p1.toNat : Int), .int .u64 ((pteOf (walkR satp va (lookM l hole))).p2.toNat : Int), .int .u64 ((pteOf (walkR satp va (lookM l hole))).entry.toNat : Int)] := rfl
  rw [hP] at cM1 cM2
  clear hP
  generalize (walkR satp va (lookM l hole)).2.1 = er at cM1 cM2
  generalize (walkR satp va (lookM l hole)).2.2 = xs at cM1 cM2 hx3
  generalize (pteOf (walkR satp va (lookM l hole))).level = pl at cM1 cM2
  generalize ((pteOf (walkR satp va (lookM l hole))).p0.toNat : Int) = p0 at cM1 cM2
  generalize ((pteOf (walkR satp va (lookM l hole))).p1.toNat : Int) = p1 at cM1 cM2
  generalize ((pteOf (walkR satp va (lookM l hole))).p2.toNat : Int) = p2 at cM1 cM2
  generalize ((pteOf (walkR satp va (lookM l hole))).entry.toNat : Int) = en at cM1 cM2
  have CM1 := Lib.hid cM1
  have CM2 := Lib.hid cM2
  have HX := Lib.hid hx3
  clear hk1 hk2 hc cM1 cM2 hx3
  have cn1 := Lib.hid (walk_nilr satp va)
  have cn2 := Lib.hid (walked_nil satp va)
  generalize (if sext va 39 = va then (6 : Int) else 7) = ne at cn1 cn2
  go_enter Try.func6, Try.ntmps6
  go_wp2_with fail
  generalize ((w.alloc (.cells #[.slice A l.length c, .bool hole] 25)).alloc (.cells #[.slice none 0 0] 26)).alloc (.cells #[.slice none 0 0] 26) = W1 at HK HK2 ⊢
  refine (mkreader _ _ _ _ _ _).mono ?_
  rintro e w5 ⟨rfl, rfl⟩
  go_wp2_with fail
  refine (CM1.out _ HK.out).mono ?_
  rintro e w6 ⟨rfl, v, g, hv, hown, hg, ha⟩
  have hz1 := HK.out.z
  obtain ⟨A', c', rfl, hwd, hbk⟩ := wds_of_own hown
  have pg := Lib.hid (Pg.mk (w := w6.alloc (.cells #[.int .i64 pl, .int .u64 p0, .int .u64 p1, .int .u64 p2, .int .u64 en] 29)) (xs := xs) (bp := w6.heap.size) (r1 := w.heap.size + 1) (r2 := w.heap.size + 2) (cs := #[.int .i64 pl, .int .u64 p0, .int .u64 p1, .int .u64 p2, .int .u64 en]) (heap_alloc_new _ _) ((heap_alloc_old _ _ (by have := ha.size; omega)).trans hv)
    (hwd.keep' (by simp) (fun b e hb => heap_alloc_old _ _ hb)) (fun b e => by
      have := hown.lt b (hbk b 0 none e)
      omega) (by have := ha.size; omega) (by omega))
  have hz6 : w.heap.size < w6.heap.size := by have := ha.size; omega
  have hz7 : w.heap.size + 3 ≤ w6.heap.size := by have := ha.size; omega
  have k6 := HK2.out.other ha (by omega) (by omega)
  have cm0 : w6.cell? ⟨w.heap.size, 0, none⟩ = some (.slice A l.length c) := cell_of_row w6 _ 0 _ _ (0, 0) k6.m
  have cm1 : w6.cell? ⟨w.heap.size, 1, none⟩ = some (.bool hole) := cell_of_row w6 _ 1 _ _ (0, 0) k6.m
  have K6 := Lib.hid (k6.step ((Below.refl (w.heap.size + 3) w6).alloc hz7 (.cells #[.int .i64 pl, .int .u64 p0, .int .u64 p1, .int .u64 p2, .int .u64 en] 29)))
  clear hv hown hg ha HK HK2 hwd hbk hz1 k6
  go_wp2_with fail
  generalize w6.alloc (.cells #[.int .i64 pl, .int .u64 p0, .int .u64 p1, .int .u64 p2, .int .u64 en] 29) = W6 at K6 pg ⊢
  clear cm0 cm1
  refine (mkreader _ _ _ _ _ _).mono ?_
  rintro e w8 ⟨rfl, rfl⟩
  go_wp2_with fail
  refine (CM2.out _ K6.out).mono ?_
  rintro e w9 ⟨rfl, v2, g2, hv2, hown2, hg2, ha2⟩
  obtain ⟨A2', c2', rfl, hwd2, hbk2⟩ := wds_of_own hown2
  have pg9 := pg.out.keep ha2.size (fun k hk hne => ha2.block k hk (by simp; exact hne) (by simp))
  have hz := K6.out.z
  have W9 := Lib.hid (Pt.mk (w := w9.alloc (.cells #[.int .i64 pl, .int .u64 p0, .int .u64 p1, .int .u64 p2, .int .u64 en] 29)) (xs := xs) (n := xs.length) (bp := w6.heap.size) (bq := w9.heap.size) (r1 := w.heap.size + 1) (r2 := w.heap.size + 1 + 1) (A := A') (B := A2') (c := c') (d := c2') (cs := #[.int .i64 pl, .int .u64 p0, .int .u64 p1, .int .u64 p2, .int .u64 en])
    ((heap_alloc_old _ _ pg9.lt).trans pg9.p) (heap_alloc_new _ _) ((heap_alloc_old _ _ pg9.l1).trans pg9.l) ((heap_alloc_old _ _ (by have := ha2.size; omega)).trans hv2) (pg9.wa.keep' (by simp) (fun b e hb => heap_alloc_old _ _ hb)) (hwd2.keep' (by simp) (fun b e hb => heap_alloc_old _ _ hb)))
  have hz9 : w.heap.size ≤ w9.heap.size := by have := ha2.size; omega
  have HB := Lib.hid ((K6.out.b.trans (ha2.from (B := w.heap.size) (fun b e => by simp at e; omega) (fun b e => by simp at e) (by omega))).alloc hz9 (.cells #[.int .i64 pl, .int .u64 p0, .int .u64 p1, .int .u64 p2, .int .u64 en] 29))
  clear hv2 hown2 hg2 ha2 CM1 CM2 K6 hwd2 hbk2 pg pg9 hz
  go_wp2_with fail
  generalize w9.alloc (.cells #[.int .i64 pl, .int .u64 p0, .int .u64 p1, .int .u64 p2, .int .u64 en] 29) = W10 at W9 HB ⊢
  refine (cn1.out W10).mono ?_
  rintro e w11 ⟨rfl, hb11⟩
  have x11 := Lib.hid (Bk.new w11 #[.int .i64 0, .int .u64 0, .int .u64 0, .int .u64 0, .int .u64 0] 29)
  have b11 : Below W10.heap.size W10 (w11.alloc (.cells #[.int .i64 0, .int .u64 0, .int .u64 0, .int .u64 0, .int .u64 0] 29)) := hb11.alloc hb11.size _
  replace W9 := Lib.hid (W9.out.below b11)
  replace HB := Lib.hid (HB.out.trans (b11.mono HB.out.size))
  clear hb11 b11
  go_wp2_with fail
  generalize w11.alloc (.cells #[.int .i64 0, .int .u64 0, .int .u64 0, .int .u64 0, .int .u64 0] 29) = W12 at W9 HB x11 ⊢
  refine (cn2.out W12).mono ?_
  rintro e w13 ⟨rfl, hb13⟩
  have y13 := Lib.hid (Bk.new w13 #[.int .i64 0, .int .u64 0, .int .u64 0, .int .u64 0, .int .u64 0] 29)
  have b13 : Below W12.heap.size W12 (w13.alloc (.cells #[.int .i64 0, .int .u64 0, .int .u64 0, .int .u64 0, .int .u64 0] 29)) := hb13.alloc hb13.size _
  replace W9 := Lib.hid (W9.out.below b13)
  replace x11 := Lib.hid (x11.out.below b13)
  replace HB := Lib.hid (HB.out.trans (b13.mono HB.out.size))
  clear hb13 b13
  go_wp2_with fail
  generalize w13.alloc (.cells #[.int .i64 0, .int .u64 0, .int .u64 0, .int .u64 0, .int .u64 0] 29) = W14 at W9 HB x11 y13 ⊢
  refine (awake_any W14).mono ?_
  rintro e w15 ⟨rfl, hb15⟩
  replace W9 := Lib.hid (W9.out.below hb15)
  replace x11 := Lib.hid (x11.out.below hb15)
  replace y13 := Lib.hid (y13.out.below hb15)
  replace HB := Lib.hid (HB.out.trans (hb15.mono HB.out.size))
  clear hb15
  obtain ⟨⟨c0, c1, c2, c3, c4⟩, ⟨d0, d1, d2, d3, d4⟩, e1, e2⟩ := W9.out.cells
  go_wp2_with fail
  refine (wplain_true A' A2' xs.length c' c2' xs (by have := HX.out; omega) w15 W9.out.wa W9.out.wb).mono ?_
  rintro e w16 ⟨rfl, hq16⟩
  obtain ⟨f0, f1, f2, f3, f4⟩ := cells5 (x11.out.quiet hq16)
  obtain ⟨g0, g1, g2, g3, g4⟩ := cells5 (y13.out.quiet hq16)
  replace HB := Lib.hid (HB.out.trans ((hq16.below _).mono HB.out.size))
  clear hq16 c0 c1 c2 c3 c4 d0 d1 d2 d3 d4 e1 e2
  go_wp2_with fail
  refine (on_any satp priv _).mono ?_
  rintro e w17 ⟨rfl, rfl⟩
  go_wp2_with fail
  refine (ron_any satp priv _).mono ?_
  rintro e w18 ⟨rfl, rfl⟩
  go_wp2_with fail
  go_ret
  exact ⟨rfl, HB.out⟩
theorem walkWalks_cells (satp : Int) (w0 : (Lit.int .u64 satp).wf = true) (va : Int) (w1 : (Lit.int .u64 va).wf = true) (A : Option Addr) (c : Nat) (hole : Bool) (l : List (BitVec 64 × BitVec 64)) (w : World) (hc : MemIn w w.heap.size A l) (hmax : l.length ≤ 9223372036854775807) (priv : Int) (w3 : (Lit.int .i64 priv).wf = true) :
    Calls Try.prog 6 #[.int .u64 satp, .int .u64 va, .agg #[.slice A l.length c, .bool hole], .int .i64 priv] w fun e w' => e = .returned (.bool true) ∧ Below w.heap.size w w' := by
  obtain ⟨satp, rfl⟩ := u64_bv w0
  obtain ⟨va, rfl⟩ := u64_bv w1
  exact walkWalks_walk satp va A c hole l priv w hmax hc
end Go.Proofs.Ythjhcdkbajbpdaa
