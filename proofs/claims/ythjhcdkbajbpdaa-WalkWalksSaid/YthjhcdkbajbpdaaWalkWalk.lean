/- Contract: package walk's Walk, over any reader. -/
import Derived.Test.YthjhcdkbajbpdaaWalkState
import Derived.Laws.StructEq
import Derived.Deep.Cut
namespace Go.Proofs.Ythjhcdkbajbpdaa
open Go.RowKit Wd
set_option linter.unusedVariables false
set_option linter.unusedSimpArgs false
attribute [local go_sem] and_L or_L clr_L shl_12 mul8_L add_L
set_option maxRecDepth 8000

theorem fn_neq (K : FuncId) (c1 c2 : Value) (w : World) : (binOp .neq 33 (.func (.func K) #[] #[c1, c2]) .nilFunc).run Try.prog w = .ok (.bool true) w := by kernel_rfl
theorem fn_neq0 (w : World) : (binOp .neq 33 .nilFunc .nilFunc).run Try.prog w = .ok (.bool false) w := by kernel_rfl
attribute [local go_sem] fn_neq fn_neq0
def WRel (satp va : BitVec 64) (L : Look) (ba : Option Nat) (n0 : Nat) (R : World → Option Nat → List (BitVec 64) → Prop) (w : World) (g : Option Nat) (s9 s10 s11 : Value) (wr : World) : Prop :=
  ∃ (table : BitVec 64) (g' : Option Nat), s9 = .int .i64 6 ∧ s10 = .int .u64 (table.toNat : Int) ∧
    ((s11 = .int .i64 2 ∧ walkR satp va L = goW L va 2 table [] ∧ St ba n0 R w g wr [] g' #[.int .i64 0, .int .u64 0, .int .u64 0, .int .u64 0, .int .u64 0]) ∨
     (∃ x0 : BitVec 64, s11 = .int .i64 1 ∧ walkR satp va L = goW L va 1 table [x0] ∧ St ba n0 R w g wr [x0] g' #[.int .i64 0, .int .u64 (x0.toNat : Int), .int .u64 0, .int .u64 0, .int .u64 0]) ∨
     (∃ x0 x1 : BitVec 64, s11 = .int .i64 0 ∧ walkR satp va L = goW L va 0 table [x0, x1] ∧ St ba n0 R w g wr [x0, x1] g' #[.int .i64 0, .int .u64 (x0.toNat : Int), .int .u64 (x1.toNat : Int), .int .u64 0, .int .u64 0]))

set_option maxHeartbeats 8000000 in
theorem walk_ok (satp va : BitVec 64) (K : FuncId) (c1 c2 : Value) (L : Look) (ba : Option Nat) (n0 : Nat) (R : World → Option Nat → List (BitVec 64) → Prop) (hR : ReaderOk K c1 c2 L ba n0 R)
    (w : World) (g : Option Nat) (h0 : R w g []) (hn : n0 ≤ w.heap.size) (hg : ∀ k, g = some k → k < w.heap.size) (hs : sext va 39 = va) :
    Calls Try.prog 15 #[.int .u64 (satp.toNat : Int), .int .u64 (va.toNat : Int), .func (.func K) #[] #[c1, c2]] w fun e w' =>
      e = .returned (.tuple #[.agg (pteC (pteOf (walkR satp va L))), .int .i64 (walkR satp va L).2.1]) ∧ ∃ g', R w' g' (walkR satp va L).2.2 ∧ Newer w g g' ∧ Apart ba g w w' := by
  have HW := Lib.hid (show walkR satp va L = goW L va 2 (zext satp 44) [] from if_pos hs)
  have HS := Lib.hid hs
  have HR := Lib.hid hR
  have H0 := Lib.hid h0
  have HG := Lib.hid hg
  have HN := Lib.hid hn
  clear hs hR h0 hg hn
  go_enter Try.func15, Try.ntmps15
  go_wp2_with fail
  go_step3
  go_wp2_with fail
  refine (sext_any _ _ _).mono ?_
  rintro e w1 ⟨rfl, hq1⟩
  rw [HS.out]
  go_wp2_with fail
  refine (zext_any _ _ _).mono ?_
  rintro e w2 ⟨rfl, hq2⟩
  have hS := Lib.hid (St.start HR.out H0.out HN.out HG.out hq1 hq2)
  have hz : w1.heap.size = w.heap.size + 1 := by rw [hq1.heap]; simp
  rw [hz]
  clear hq1 hq2 hz H0 HG
  go_wp2_with fail
  go_step3
  go_wp2_with fail
  go_loopw [9, 10, 11] (fun s9 s10 s11 wr => WRel satp va L ba n0 R w g s9 s10 s11 wr) (fun _ _ i _ => (intOf i).toNat)
  case atStart => exact ⟨_, g, rfl, rfl, .inl ⟨rfl, HW.out, hS.out⟩⟩
  case round =>
    clear HW hS
    unfold WRel at hrel
    obtain ⟨table, g', rfl, rfl, hrel⟩ := hrel
    rcases hrel with ⟨rfl, hw, hS⟩ | ⟨x0, rfl, hw, hS⟩ | ⟨x0, x1, rfl, hw, hS⟩
    · have HF0 := Lib.hid hw
      clear hw
      go_wp2_with fail
      refine (field_any _ _ _ _).mono ?_
      rintro e1 w3 ⟨rfl, hq3⟩
      replace hS := hS.quiet HR.out hq3
      go_wp2_with fail
      refine (zext_any _ _ _).mono ?_
      rintro e1 w4 ⟨rfl, hq4⟩
      replace hS := hS.quiet HR.out hq4
      clear hq3 hq4
      have hent := HR.out.ent
      go_wp2_with fail
      clear hent
      rw [show zext (addW (shlW table 12) (mul8 (field va 38 30))) 56 = atW table va 2 from rfl]
      refine (HR.out.call w4 g' [] (atW table va 2) hS.hr (by simp) (by have := hS.sz; have := HN.out; omega)).mono ?_
      rintro e1 w5 ⟨rfl, g2, r2, nw2, ap2⟩
      replace hS := hS.read HR.out r2 nw2 ap2
      clear r2 nw2 ap2
      obtain ⟨cc, cf, dd, df⟩ := hS.cells
      cases hok : (L (atW table va 2)).2 with
      | false =>
        have HF := Lib.hid (HF0.out.trans (go_hole L va table 2 [] hok))
        clear hok HF0
        go_wp2_with fail
        rw [Exit.noGoto_ret]
        obtain ⟨hb, hr2, hn2, ha2⟩ := hS.out5 HR.out (.int .i64 0) (.int .u64 0) (.int .u64 0) (.int .u64 0) (.int .u64 0) rfl
        refine ret_pte (b := w.heap.size) (v := .int .i64 6) rfl rfl rfl hb rfl rfl ?_
        rw [HF.out]
        exact ⟨rfl, g2, hr2, hn2, ha2⟩
      | true =>
        have hx : St ba n0 R w g (w5.setCell ⟨w.heap.size + 1, 1, none⟩ (.int .u64 ((atW table va 2).toNat : Int))) [atW table va 2] g2 #[.int .i64 0, .int .u64 ((atW table va 2).toNat : Int), .int .u64 0, .int .u64 0, .int .u64 0] := hS.store HR.out 1 _
        replace hS := Lib.hid hx
        clear hx
        have HOK := Lib.hid hok
        clear hok
        have HB : Hid (badE (L (atW table va 2)).1 2 = (!mayW (L (atW table va 2)).1 || (leafW (L (atW table va 2)).1 && (((zext (field (L (atW table va 2)).1 53 10) 18).toNat : Int) != 0)) || (!leafW (L (atW table va 2)).1 && (decide (2 = 0) || (((andL (L (atW table va 2)).1 208).toNat : Int) != 0))))) := rfl
        go_upto_region 13 with fail
        generalize (w5.setCell { block := w.heap.size + 1, off := 1 } (Value.int IntKind.u64 ((atW table va 2).toNat : Int))) = w6 at hS ⊢
        clear cc cf dd df
        replace hS := hS.out
        obtain ⟨cc, cf, dd, df⟩ := hS.cells
        cases hm : mayW (L (atW table va 2)).1 with
        | false =>
          have HF := Lib.hid (HF0.out.trans (go_bad L va table 2 [] HOK.out (by rw [HB.out, hm]; rfl)))
          clear HF0 HB HOK
          go_wp2_with (first
            | (go_at_call 47; refine (wmay_any _ _).mono ?_; rintro e1 wq ⟨rfl, rfl⟩)
            | (go_at_call 48; refine (leaf_any _ _).mono ?_; rintro e1 wq ⟨rfl, rfl⟩)
            | (go_at_call 49; refine (ppn_any _ _).mono ?_; rintro e1 wq ⟨rfl, hq⟩; replace hS := hS.quiet HR.out hq; clear hq cc cf dd df; obtain ⟨cc, cf, dd, df⟩ := hS.cells)
            | (go_at_call 45; refine (zext_any _ _ _).mono ?_; rintro e1 wq ⟨rfl, hq⟩; replace hS := hS.quiet HR.out hq; clear hq cc cf dd df; obtain ⟨cc, cf, dd, df⟩ := hS.cells))
          rw [Exit.noGoto_ret]
          obtain ⟨hb, hr2, hn2, ha2⟩ := hS.out5 HR.out (.int .i64 0) (.int .u64 0) (.int .u64 0) (.int .u64 0) (.int .u64 0) rfl
          refine ret_pte (b := w.heap.size) (v := .int .i64 7) rfl rfl rfl hb rfl rfl ?_
          rw [HF.out]
          exact ⟨rfl, g2, hr2, hn2, ha2⟩
        | true =>
          cases hl : leafW (L (atW table va 2)).1 with
          | true =>
            cases hz : (((zext (field (L (atW table va 2)).1 53 10) 18).toNat : Int) != 0) with
            | true =>
              have HF := Lib.hid (HF0.out.trans (go_bad L va table 2 [] HOK.out (by rw [HB.out, hm, hl, hz]; rfl)))
              clear HF0 HB HOK
              go_wp2_with (first
                | (go_at_call 47; refine (wmay_any _ _).mono ?_; rintro e1 wq ⟨rfl, rfl⟩)
                | (go_at_call 48; refine (leaf_any _ _).mono ?_; rintro e1 wq ⟨rfl, rfl⟩)
                | (go_at_call 49; refine (ppn_any _ _).mono ?_; rintro e1 wq ⟨rfl, hq⟩; replace hS := hS.quiet HR.out hq; clear hq cc cf dd df; obtain ⟨cc, cf, dd, df⟩ := hS.cells)
                | (go_at_call 45; refine (zext_any _ _ _).mono ?_; rintro e1 wq ⟨rfl, hq⟩; replace hS := hS.quiet HR.out hq; clear hq cc cf dd df; obtain ⟨cc, cf, dd, df⟩ := hS.cells))
              rw [Exit.noGoto_ret]
              obtain ⟨hb, hr2, hn2, ha2⟩ := hS.out5 HR.out (.int .i64 0) (.int .u64 0) (.int .u64 0) (.int .u64 0) (.int .u64 0) rfl
              refine ret_pte (b := w.heap.size) (v := .int .i64 7) rfl rfl rfl hb rfl rfl ?_
              rw [HF.out]
              exact ⟨rfl, g2, hr2, hn2, ha2⟩
            | false =>
              have HF := Lib.hid (HF0.out.trans (go_leaf L va table 2 [] HOK.out (by rw [HB.out, hm, hl, hz]; rfl) hl))
              clear HF0 HB HOK
              go_wp2_with (first
                | (go_at_call 47; refine (wmay_any _ _).mono ?_; rintro e1 wq ⟨rfl, rfl⟩)
                | (go_at_call 48; refine (leaf_any _ _).mono ?_; rintro e1 wq ⟨rfl, rfl⟩)
                | (go_at_call 49; refine (ppn_any _ _).mono ?_; rintro e1 wq ⟨rfl, hq⟩; replace hS := hS.quiet HR.out hq; clear hq cc cf dd df; obtain ⟨cc, cf, dd, df⟩ := hS.cells)
                | (go_at_call 45; refine (zext_any _ _ _).mono ?_; rintro e1 wq ⟨rfl, hq⟩; replace hS := hS.quiet HR.out hq; clear hq cc cf dd df; obtain ⟨cc, cf, dd, df⟩ := hS.cells))
              rw [Exit.noGoto_ret]
              have h2 := (hS.store HR.out 0 (.int .i64 2)).store HR.out 4 (.int .u64 ((L (atW table va 2)).1.toNat : Int))
              obtain ⟨hb, hr2, hn2, ha2⟩ := h2.out5 HR.out (.int .i64 2) (.int .u64 ((atW table va 2).toNat : Int)) (.int .u64 0) (.int .u64 0) (.int .u64 ((L (atW table va 2)).1.toNat : Int)) rfl
              refine ret_pte (b := w.heap.size) (v := .int .i64 0) rfl rfl rfl hb rfl rfl ?_
              rw [HF.out]
              exact ⟨rfl, g2, hr2, hn2, ha2⟩
          | false =>
            cases ha : (((andL (L (atW table va 2)).1 208).toNat : Int) != 0) with
            | true =>
              have HF := Lib.hid (HF0.out.trans (go_bad L va table 2 [] HOK.out (by rw [HB.out, hm, hl, ha]; rfl)))
              clear HF0 HB HOK
              go_wp2_with (first
                | (go_at_call 47; refine (wmay_any _ _).mono ?_; rintro e1 wq ⟨rfl, rfl⟩)
                | (go_at_call 48; refine (leaf_any _ _).mono ?_; rintro e1 wq ⟨rfl, rfl⟩)
                | (go_at_call 49; refine (ppn_any _ _).mono ?_; rintro e1 wq ⟨rfl, hq⟩; replace hS := hS.quiet HR.out hq; clear hq cc cf dd df; obtain ⟨cc, cf, dd, df⟩ := hS.cells)
                | (go_at_call 45; refine (zext_any _ _ _).mono ?_; rintro e1 wq ⟨rfl, hq⟩; replace hS := hS.quiet HR.out hq; clear hq cc cf dd df; obtain ⟨cc, cf, dd, df⟩ := hS.cells))
              rw [Exit.noGoto_ret]
              obtain ⟨hb, hr2, hn2, ha2⟩ := hS.out5 HR.out (.int .i64 0) (.int .u64 0) (.int .u64 0) (.int .u64 0) (.int .u64 0) rfl
              refine ret_pte (b := w.heap.size) (v := .int .i64 7) rfl rfl rfl hb rfl rfl ?_
              rw [HF.out]
              exact ⟨rfl, g2, hr2, hn2, ha2⟩
            | false =>
              have HF := Lib.hid (HF0.out.trans (go_down L va table 1 [] HOK.out (by rw [HB.out, hm, hl, ha]; rfl) hl))
              clear HF0 HB HOK
              go_wp2_with (first
                | (go_at_call 47; refine (wmay_any _ _).mono ?_; rintro e1 wq ⟨rfl, rfl⟩)
                | (go_at_call 48; refine (leaf_any _ _).mono ?_; rintro e1 wq ⟨rfl, rfl⟩)
                | (go_at_call 49; refine (ppn_any _ _).mono ?_; rintro e1 wq ⟨rfl, hq⟩; replace hS := hS.quiet HR.out hq; clear hq cc cf dd df; obtain ⟨cc, cf, dd, df⟩ := hS.cells)
                | (go_at_call 45; refine (zext_any _ _ _).mono ?_; rintro e1 wq ⟨rfl, hq⟩; replace hS := hS.quiet HR.out hq; clear hq cc cf dd df; obtain ⟨cc, cf, dd, df⟩ := hS.cells))
              go_roundw
              case rel => exact ⟨_, g2, rfl, rfl, .inr (.inl ⟨_, rfl, HF.out, hS⟩)⟩
              case measure => simp [intOf]
    · have HF0 := Lib.hid hw
      clear hw
      go_wp2_with fail
      refine (field_any _ _ _ _).mono ?_
      rintro e1 w3 ⟨rfl, hq3⟩
      replace hS := hS.quiet HR.out hq3
      go_wp2_with fail
      refine (zext_any _ _ _).mono ?_
      rintro e1 w4 ⟨rfl, hq4⟩
      replace hS := hS.quiet HR.out hq4
      clear hq3 hq4
      have hent := HR.out.ent
      go_wp2_with fail
      clear hent
      rw [show zext (addW (shlW table 12) (mul8 (field va 29 21))) 56 = atW table va 1 from rfl]
      refine (HR.out.call w4 g' [x0] (atW table va 1) hS.hr (by simp) (by have := hS.sz; have := HN.out; omega)).mono ?_
      rintro e1 w5 ⟨rfl, g2, r2, nw2, ap2⟩
      replace hS := hS.read HR.out r2 nw2 ap2
      clear r2 nw2 ap2
      obtain ⟨cc, cf, dd, df⟩ := hS.cells
      cases hok : (L (atW table va 1)).2 with
      | false =>
        have HF := Lib.hid (HF0.out.trans (go_hole L va table 1 [x0] hok))
        clear hok HF0
        go_wp2_with fail
        rw [Exit.noGoto_ret]
        obtain ⟨hb, hr2, hn2, ha2⟩ := hS.out5 HR.out (.int .i64 0) (.int .u64 0) (.int .u64 0) (.int .u64 0) (.int .u64 0) rfl
        refine ret_pte (b := w.heap.size) (v := .int .i64 6) rfl rfl rfl hb rfl rfl ?_
        rw [HF.out]
        exact ⟨rfl, g2, hr2, hn2, ha2⟩
      | true =>
        have hx : St ba n0 R w g (w5.setCell ⟨w.heap.size + 1, 2, none⟩ (.int .u64 ((atW table va 1).toNat : Int))) [x0, atW table va 1] g2 #[.int .i64 0, .int .u64 ((x0).toNat : Int), .int .u64 ((atW table va 1).toNat : Int), .int .u64 0, .int .u64 0] := hS.store HR.out 2 _
        replace hS := Lib.hid hx
        clear hx
        have HOK := Lib.hid hok
        clear hok
        have HB : Hid (badE (L (atW table va 1)).1 1 = (!mayW (L (atW table va 1)).1 || (leafW (L (atW table va 1)).1 && (((zext (field (L (atW table va 1)).1 53 10) 9).toNat : Int) != 0)) || (!leafW (L (atW table va 1)).1 && (decide (1 = 0) || (((andL (L (atW table va 1)).1 208).toNat : Int) != 0))))) := rfl
        go_upto_region 13 with fail
        generalize (w5.setCell { block := w.heap.size + 1, off := 2 } (Value.int IntKind.u64 ((atW table va 1).toNat : Int))) = w6 at hS ⊢
        clear cc cf dd df
        replace hS := hS.out
        obtain ⟨cc, cf, dd, df⟩ := hS.cells
        cases hm : mayW (L (atW table va 1)).1 with
        | false =>
          have HF := Lib.hid (HF0.out.trans (go_bad L va table 1 [x0] HOK.out (by rw [HB.out, hm]; rfl)))
          clear HF0 HB HOK
          go_wp2_with (first
            | (go_at_call 47; refine (wmay_any _ _).mono ?_; rintro e1 wq ⟨rfl, rfl⟩)
            | (go_at_call 48; refine (leaf_any _ _).mono ?_; rintro e1 wq ⟨rfl, rfl⟩)
            | (go_at_call 49; refine (ppn_any _ _).mono ?_; rintro e1 wq ⟨rfl, hq⟩; replace hS := hS.quiet HR.out hq; clear hq cc cf dd df; obtain ⟨cc, cf, dd, df⟩ := hS.cells)
            | (go_at_call 45; refine (zext_any _ _ _).mono ?_; rintro e1 wq ⟨rfl, hq⟩; replace hS := hS.quiet HR.out hq; clear hq cc cf dd df; obtain ⟨cc, cf, dd, df⟩ := hS.cells))
          rw [Exit.noGoto_ret]
          obtain ⟨hb, hr2, hn2, ha2⟩ := hS.out5 HR.out (.int .i64 0) (.int .u64 0) (.int .u64 0) (.int .u64 0) (.int .u64 0) rfl
          refine ret_pte (b := w.heap.size) (v := .int .i64 7) rfl rfl rfl hb rfl rfl ?_
          rw [HF.out]
          exact ⟨rfl, g2, hr2, hn2, ha2⟩
        | true =>
          cases hl : leafW (L (atW table va 1)).1 with
          | true =>
            cases hz : (((zext (field (L (atW table va 1)).1 53 10) 9).toNat : Int) != 0) with
            | true =>
              have HF := Lib.hid (HF0.out.trans (go_bad L va table 1 [x0] HOK.out (by rw [HB.out, hm, hl, hz]; rfl)))
              clear HF0 HB HOK
              go_wp2_with (first
                | (go_at_call 47; refine (wmay_any _ _).mono ?_; rintro e1 wq ⟨rfl, rfl⟩)
                | (go_at_call 48; refine (leaf_any _ _).mono ?_; rintro e1 wq ⟨rfl, rfl⟩)
                | (go_at_call 49; refine (ppn_any _ _).mono ?_; rintro e1 wq ⟨rfl, hq⟩; replace hS := hS.quiet HR.out hq; clear hq cc cf dd df; obtain ⟨cc, cf, dd, df⟩ := hS.cells)
                | (go_at_call 45; refine (zext_any _ _ _).mono ?_; rintro e1 wq ⟨rfl, hq⟩; replace hS := hS.quiet HR.out hq; clear hq cc cf dd df; obtain ⟨cc, cf, dd, df⟩ := hS.cells))
              rw [Exit.noGoto_ret]
              obtain ⟨hb, hr2, hn2, ha2⟩ := hS.out5 HR.out (.int .i64 0) (.int .u64 0) (.int .u64 0) (.int .u64 0) (.int .u64 0) rfl
              refine ret_pte (b := w.heap.size) (v := .int .i64 7) rfl rfl rfl hb rfl rfl ?_
              rw [HF.out]
              exact ⟨rfl, g2, hr2, hn2, ha2⟩
            | false =>
              have HF := Lib.hid (HF0.out.trans (go_leaf L va table 1 [x0] HOK.out (by rw [HB.out, hm, hl, hz]; rfl) hl))
              clear HF0 HB HOK
              go_wp2_with (first
                | (go_at_call 47; refine (wmay_any _ _).mono ?_; rintro e1 wq ⟨rfl, rfl⟩)
                | (go_at_call 48; refine (leaf_any _ _).mono ?_; rintro e1 wq ⟨rfl, rfl⟩)
                | (go_at_call 49; refine (ppn_any _ _).mono ?_; rintro e1 wq ⟨rfl, hq⟩; replace hS := hS.quiet HR.out hq; clear hq cc cf dd df; obtain ⟨cc, cf, dd, df⟩ := hS.cells)
                | (go_at_call 45; refine (zext_any _ _ _).mono ?_; rintro e1 wq ⟨rfl, hq⟩; replace hS := hS.quiet HR.out hq; clear hq cc cf dd df; obtain ⟨cc, cf, dd, df⟩ := hS.cells))
              rw [Exit.noGoto_ret]
              have h2 := (hS.store HR.out 0 (.int .i64 1)).store HR.out 4 (.int .u64 ((L (atW table va 1)).1.toNat : Int))
              obtain ⟨hb, hr2, hn2, ha2⟩ := h2.out5 HR.out (.int .i64 1) (.int .u64 ((x0).toNat : Int)) (.int .u64 ((atW table va 1).toNat : Int)) (.int .u64 0) (.int .u64 ((L (atW table va 1)).1.toNat : Int)) rfl
              refine ret_pte (b := w.heap.size) (v := .int .i64 0) rfl rfl rfl hb rfl rfl ?_
              rw [HF.out]
              exact ⟨rfl, g2, hr2, hn2, ha2⟩
          | false =>
            cases ha : (((andL (L (atW table va 1)).1 208).toNat : Int) != 0) with
            | true =>
              have HF := Lib.hid (HF0.out.trans (go_bad L va table 1 [x0] HOK.out (by rw [HB.out, hm, hl, ha]; rfl)))
              clear HF0 HB HOK
              go_wp2_with (first
                | (go_at_call 47; refine (wmay_any _ _).mono ?_; rintro e1 wq ⟨rfl, rfl⟩)
                | (go_at_call 48; refine (leaf_any _ _).mono ?_; rintro e1 wq ⟨rfl, rfl⟩)
                | (go_at_call 49; refine (ppn_any _ _).mono ?_; rintro e1 wq ⟨rfl, hq⟩; replace hS := hS.quiet HR.out hq; clear hq cc cf dd df; obtain ⟨cc, cf, dd, df⟩ := hS.cells)
                | (go_at_call 45; refine (zext_any _ _ _).mono ?_; rintro e1 wq ⟨rfl, hq⟩; replace hS := hS.quiet HR.out hq; clear hq cc cf dd df; obtain ⟨cc, cf, dd, df⟩ := hS.cells))
              rw [Exit.noGoto_ret]
              obtain ⟨hb, hr2, hn2, ha2⟩ := hS.out5 HR.out (.int .i64 0) (.int .u64 0) (.int .u64 0) (.int .u64 0) (.int .u64 0) rfl
              refine ret_pte (b := w.heap.size) (v := .int .i64 7) rfl rfl rfl hb rfl rfl ?_
              rw [HF.out]
              exact ⟨rfl, g2, hr2, hn2, ha2⟩
            | false =>
              have HF := Lib.hid (HF0.out.trans (go_down L va table 0 [x0] HOK.out (by rw [HB.out, hm, hl, ha]; rfl) hl))
              clear HF0 HB HOK
              go_wp2_with (first
                | (go_at_call 47; refine (wmay_any _ _).mono ?_; rintro e1 wq ⟨rfl, rfl⟩)
                | (go_at_call 48; refine (leaf_any _ _).mono ?_; rintro e1 wq ⟨rfl, rfl⟩)
                | (go_at_call 49; refine (ppn_any _ _).mono ?_; rintro e1 wq ⟨rfl, hq⟩; replace hS := hS.quiet HR.out hq; clear hq cc cf dd df; obtain ⟨cc, cf, dd, df⟩ := hS.cells)
                | (go_at_call 45; refine (zext_any _ _ _).mono ?_; rintro e1 wq ⟨rfl, hq⟩; replace hS := hS.quiet HR.out hq; clear hq cc cf dd df; obtain ⟨cc, cf, dd, df⟩ := hS.cells))
              go_roundw
              case rel => exact ⟨_, g2, rfl, rfl, .inr (.inr ⟨_, _, rfl, HF.out, hS⟩)⟩
              case measure => simp [intOf]
    · have HF0 := Lib.hid hw
      clear hw
      go_wp2_with fail
      refine (field_any _ _ _ _).mono ?_
      rintro e1 w3 ⟨rfl, hq3⟩
      replace hS := hS.quiet HR.out hq3
      go_wp2_with fail
      refine (zext_any _ _ _).mono ?_
      rintro e1 w4 ⟨rfl, hq4⟩
      replace hS := hS.quiet HR.out hq4
      clear hq3 hq4
      have hent := HR.out.ent
      go_wp2_with fail
      clear hent
      rw [show zext (addW (shlW table 12) (mul8 (field va 20 12))) 56 = atW table va 0 from rfl]
      refine (HR.out.call w4 g' [x0, x1] (atW table va 0) hS.hr (by simp) (by have := hS.sz; have := HN.out; omega)).mono ?_
      rintro e1 w5 ⟨rfl, g2, r2, nw2, ap2⟩
      replace hS := hS.read HR.out r2 nw2 ap2
      clear r2 nw2 ap2
      obtain ⟨cc, cf, dd, df⟩ := hS.cells
      cases hok : (L (atW table va 0)).2 with
      | false =>
        have HF := Lib.hid (HF0.out.trans (go_hole L va table 0 [x0, x1] hok))
        clear hok HF0
        go_wp2_with fail
        rw [Exit.noGoto_ret]
        obtain ⟨hb, hr2, hn2, ha2⟩ := hS.out5 HR.out (.int .i64 0) (.int .u64 0) (.int .u64 0) (.int .u64 0) (.int .u64 0) rfl
        refine ret_pte (b := w.heap.size) (v := .int .i64 6) rfl rfl rfl hb rfl rfl ?_
        rw [HF.out]
        exact ⟨rfl, g2, hr2, hn2, ha2⟩
      | true =>
        have hx : St ba n0 R w g (w5.setCell ⟨w.heap.size + 1, 3, none⟩ (.int .u64 ((atW table va 0).toNat : Int))) [x0, x1, atW table va 0] g2 #[.int .i64 0, .int .u64 ((x0).toNat : Int), .int .u64 ((x1).toNat : Int), .int .u64 ((atW table va 0).toNat : Int), .int .u64 0] := hS.store HR.out 3 _
        replace hS := Lib.hid hx
        clear hx
        have HOK := Lib.hid hok
        clear hok
        have HB : Hid (badE (L (atW table va 0)).1 0 = (!mayW (L (atW table va 0)).1 || (leafW (L (atW table va 0)).1 && (((zext (field (L (atW table va 0)).1 53 10) 0).toNat : Int) != 0)) || (!leafW (L (atW table va 0)).1 && (decide (0 = 0) || (((andL (L (atW table va 0)).1 208).toNat : Int) != 0))))) := rfl
        go_upto_region 13 with fail
        generalize (w5.setCell { block := w.heap.size + 1, off := 3 } (Value.int IntKind.u64 ((atW table va 0).toNat : Int))) = w6 at hS ⊢
        clear cc cf dd df
        replace hS := hS.out
        obtain ⟨cc, cf, dd, df⟩ := hS.cells
        cases hm : mayW (L (atW table va 0)).1 with
        | false =>
          have HF := Lib.hid (HF0.out.trans (go_bad L va table 0 [x0, x1] HOK.out (by rw [HB.out, hm]; rfl)))
          clear HF0 HB HOK
          go_wp2_with (first
            | (go_at_call 47; refine (wmay_any _ _).mono ?_; rintro e1 wq ⟨rfl, rfl⟩)
            | (go_at_call 48; refine (leaf_any _ _).mono ?_; rintro e1 wq ⟨rfl, rfl⟩)
            | (go_at_call 49; refine (ppn_any _ _).mono ?_; rintro e1 wq ⟨rfl, hq⟩; replace hS := hS.quiet HR.out hq; clear hq cc cf dd df; obtain ⟨cc, cf, dd, df⟩ := hS.cells)
            | (go_at_call 45; refine (zext_any _ _ _).mono ?_; rintro e1 wq ⟨rfl, hq⟩; replace hS := hS.quiet HR.out hq; clear hq cc cf dd df; obtain ⟨cc, cf, dd, df⟩ := hS.cells))
          rw [Exit.noGoto_ret]
          obtain ⟨hb, hr2, hn2, ha2⟩ := hS.out5 HR.out (.int .i64 0) (.int .u64 0) (.int .u64 0) (.int .u64 0) (.int .u64 0) rfl
          refine ret_pte (b := w.heap.size) (v := .int .i64 7) rfl rfl rfl hb rfl rfl ?_
          rw [HF.out]
          exact ⟨rfl, g2, hr2, hn2, ha2⟩
        | true =>
          cases hl : leafW (L (atW table va 0)).1 with
          | true =>
            cases hz : (((zext (field (L (atW table va 0)).1 53 10) 0).toNat : Int) != 0) with
            | true =>
              have HF := Lib.hid (HF0.out.trans (go_bad L va table 0 [x0, x1] HOK.out (by rw [HB.out, hm, hl, hz]; rfl)))
              clear HF0 HB HOK
              go_wp2_with (first
                | (go_at_call 47; refine (wmay_any _ _).mono ?_; rintro e1 wq ⟨rfl, rfl⟩)
                | (go_at_call 48; refine (leaf_any _ _).mono ?_; rintro e1 wq ⟨rfl, rfl⟩)
                | (go_at_call 49; refine (ppn_any _ _).mono ?_; rintro e1 wq ⟨rfl, hq⟩; replace hS := hS.quiet HR.out hq; clear hq cc cf dd df; obtain ⟨cc, cf, dd, df⟩ := hS.cells)
                | (go_at_call 45; refine (zext_any _ _ _).mono ?_; rintro e1 wq ⟨rfl, hq⟩; replace hS := hS.quiet HR.out hq; clear hq cc cf dd df; obtain ⟨cc, cf, dd, df⟩ := hS.cells))
              rw [Exit.noGoto_ret]
              obtain ⟨hb, hr2, hn2, ha2⟩ := hS.out5 HR.out (.int .i64 0) (.int .u64 0) (.int .u64 0) (.int .u64 0) (.int .u64 0) rfl
              refine ret_pte (b := w.heap.size) (v := .int .i64 7) rfl rfl rfl hb rfl rfl ?_
              rw [HF.out]
              exact ⟨rfl, g2, hr2, hn2, ha2⟩
            | false =>
              have HF := Lib.hid (HF0.out.trans (go_leaf L va table 0 [x0, x1] HOK.out (by rw [HB.out, hm, hl, hz]; rfl) hl))
              clear HF0 HB HOK
              go_wp2_with (first
                | (go_at_call 47; refine (wmay_any _ _).mono ?_; rintro e1 wq ⟨rfl, rfl⟩)
                | (go_at_call 48; refine (leaf_any _ _).mono ?_; rintro e1 wq ⟨rfl, rfl⟩)
                | (go_at_call 49; refine (ppn_any _ _).mono ?_; rintro e1 wq ⟨rfl, hq⟩; replace hS := hS.quiet HR.out hq; clear hq cc cf dd df; obtain ⟨cc, cf, dd, df⟩ := hS.cells)
                | (go_at_call 45; refine (zext_any _ _ _).mono ?_; rintro e1 wq ⟨rfl, hq⟩; replace hS := hS.quiet HR.out hq; clear hq cc cf dd df; obtain ⟨cc, cf, dd, df⟩ := hS.cells))
              rw [Exit.noGoto_ret]
              have h2 := (hS.store HR.out 0 (.int .i64 0)).store HR.out 4 (.int .u64 ((L (atW table va 0)).1.toNat : Int))
              obtain ⟨hb, hr2, hn2, ha2⟩ := h2.out5 HR.out (.int .i64 0) (.int .u64 ((x0).toNat : Int)) (.int .u64 ((x1).toNat : Int)) (.int .u64 ((atW table va 0).toNat : Int)) (.int .u64 ((L (atW table va 0)).1.toNat : Int)) rfl
              refine ret_pte (b := w.heap.size) (v := .int .i64 0) rfl rfl rfl hb rfl rfl ?_
              rw [HF.out]
              exact ⟨rfl, g2, hr2, hn2, ha2⟩
          | false =>
            have HF := Lib.hid (HF0.out.trans (go_bad L va table 0 [x0, x1] HOK.out (by rw [HB.out, hm, hl]; rfl)))
            clear HF0 HB HOK
            go_wp2_with (first
              | (go_at_call 47; refine (wmay_any _ _).mono ?_; rintro e1 wq ⟨rfl, rfl⟩)
              | (go_at_call 48; refine (leaf_any _ _).mono ?_; rintro e1 wq ⟨rfl, rfl⟩)
              | (go_at_call 49; refine (ppn_any _ _).mono ?_; rintro e1 wq ⟨rfl, hq⟩; replace hS := hS.quiet HR.out hq; clear hq cc cf dd df; obtain ⟨cc, cf, dd, df⟩ := hS.cells)
              | (go_at_call 45; refine (zext_any _ _ _).mono ?_; rintro e1 wq ⟨rfl, hq⟩; replace hS := hS.quiet HR.out hq; clear hq cc cf dd df; obtain ⟨cc, cf, dd, df⟩ := hS.cells))
            rw [Exit.noGoto_ret]
            obtain ⟨hb, hr2, hn2, ha2⟩ := hS.out5 HR.out (.int .i64 0) (.int .u64 0) (.int .u64 0) (.int .u64 0) (.int .u64 0) rfl
            refine ret_pte (b := w.heap.size) (v := .int .i64 7) rfl rfl rfl hb rfl rfl ?_
            rw [HF.out]
            exact ⟨rfl, g2, hr2, hn2, ha2⟩
end Go.Proofs.Ythjhcdkbajbpdaa
