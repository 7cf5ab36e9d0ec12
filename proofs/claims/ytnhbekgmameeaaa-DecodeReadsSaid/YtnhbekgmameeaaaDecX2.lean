/- Contracts, by operations: DecA, DecB, DecD, DecE. -/
import Derived.Test.YtnhbekgmameeaaaIns
import Derived.Test.YtnhbekgmameeaaaShape
import Derived.Test.YtnhbekgmameeaaaAndL
import Derived.Test.YtnhbekgmameeaaaIns2
import Derived.Deep.RegionWith
namespace Go.Proofs.Ytnhbekgmameeaaa
section
open Go.RowKit Wd
set_option linter.unusedVariables false
set_option linter.unusedSimpArgs false
attribute [local go_sem] loadI_lit storeI_lit rowI_alloc rowI_drew rowI_setRow rowI_setCell setRow_allocI and_L
attribute [local go_sem ↓] loadI_run storeI_run'
set_option maxRecDepth 8000
theorem storeI_ins (w : World) (b : Nat) (i : Ins) (y0 y1 y2 y3 y4 y5 y6 y7 y8 y9 y10 : Value) : storeI w b (insC i) (some #[y0, y1, y2, y3, y4, y5, y6, y7, y8, y9, y10]) = .ok () (w.setRow b (insC i)) := if_pos ⟨rfl, by simp [insC, Value.oneCell']⟩
attribute [local go_sem] loadI_ins storeI_ins
set_option maxHeartbeats 40000000 in
theorem decode_55 (v : BitVec 32) (x gO g3 : Int) (h : fieldI v 6 0 = 55) (eO : Hid (gO = (fieldI v 6 0 : Nat))) (e3 : Hid (g3 = (fieldI v 14 12 : Nat))) (l3 : fieldI v 14 12 < 8)
    (cO : Hid (Mk Try.prog 23 #[.int .u32 x] (.int .i64 gO))) (c3 : Hid (Mk Try.prog 25 #[.int .u32 x] (.int .i64 g3))) (cd : Hid (Mk Try.prog 24 #[.int .u32 x] (.int .i64 (fieldI v 11 7 : Nat)))) (ca : Hid (Mk Try.prog 26 #[.int .u32 x] (.int .i64 (fieldI v 19 15 : Nat)))) (cb : Hid (Mk Try.prog 27 #[.int .u32 x] (.int .i64 (fieldI v 24 20 : Nat))))
    (ciU : Hid (Mk Try.prog 37 #[.int .u32 x] (.int .u64 ((immP v psU 32).toNat : Int)))) (w : World) :
    Calls Try.prog 40 #[.int .u32 x] w fun e w' => e = .returned (.agg (insC (decW v))) ∧ Below w.heap.size w w' := by
  replace l3 := Lib.hid l3
  replace h := Lib.hid h
  go_enter Try.func40, Try.ntmps40
  go_wp2_with fail
  go_step3
  go_wp2_with fail
  refine (c3.out _).mono ?_
  rintro e w1 ⟨rfl, hb1⟩
  go_wp2_with fail
  refine (cd.out _).mono ?_
  rintro e w2 ⟨rfl, hb2⟩
  go_wp2_with fail
  refine (ca.out _).mono ?_
  rintro e w3 ⟨rfl, hb3⟩
  go_wp2_with fail
  refine (cb.out _).mono ?_
  rintro e w4 ⟨rfl, hb4⟩
  go_wp2_with fail
  go_step3
  go_wp2_with fail
  refine (cO.out _).mono ?_
  rintro e w5 ⟨rfl, hb5⟩
  have B2 := hb1.trans (hb2.mono hb1.size)
  have B3 := B2.trans (hb3.mono B2.size)
  have B4 := B3.trans (hb4.mono B3.size)
  have B5 := B4.trans (hb5.mono B4.size)
  clear hb1 hb2 hb3 hb4 B2 B3 B4 c3 cd ca cb cO
  obtain ⟨r0, r1, BB⟩ := two_new B5
  clear B5 hb5
  replace r0 := Lib.hid r0
  replace r1 := Lib.hid r1
  replace BB := Lib.hid BB
  replace h := h.out
  replace l3 := l3.out
  have e := eO.out
  rw [h] at e
  simp at e
  subst e
  clear e3 l3
  have hr := Lib.hid (show decW v = ⟨1, 0, (fieldI v 11 7 : Nat), 0, 0, immP v psU 32, 0, false, false, false, 0⟩ from by unfold decW; rw [if_pos h])
  go_wp2_with fail
  refine (ciU.out _).mono ?_
  rintro e w6 ⟨rfl, hb6⟩
  have q0 := rowI_below r0.out hb6
  have B6 := Lib.hid (BB.out.trans (hb6.mono BB.out.size))
  clear hb6
  go_wp2_with (refine st_ins rfl _ _ rfl w.heap.size rfl _ q0 rfl _ rfl rfl (by simp [insC, Value.oneCell']) ?_; intro W2 hW hS)
  rw [Exit.noGoto_ret]
  exact ret_ins rfl rfl hW rfl rfl ⟨by rw [hr.out]; rfl, hS _ _ (Nat.le_refl _) (B6.out)⟩
set_option maxHeartbeats 40000000 in
theorem decode_23 (v : BitVec 32) (x gO g3 : Int) (h : fieldI v 6 0 = 23) (eO : Hid (gO = (fieldI v 6 0 : Nat))) (e3 : Hid (g3 = (fieldI v 14 12 : Nat))) (l3 : fieldI v 14 12 < 8)
    (cO : Hid (Mk Try.prog 23 #[.int .u32 x] (.int .i64 gO))) (c3 : Hid (Mk Try.prog 25 #[.int .u32 x] (.int .i64 g3))) (cd : Hid (Mk Try.prog 24 #[.int .u32 x] (.int .i64 (fieldI v 11 7 : Nat)))) (ca : Hid (Mk Try.prog 26 #[.int .u32 x] (.int .i64 (fieldI v 19 15 : Nat)))) (cb : Hid (Mk Try.prog 27 #[.int .u32 x] (.int .i64 (fieldI v 24 20 : Nat))))
    (ciU : Hid (Mk Try.prog 37 #[.int .u32 x] (.int .u64 ((immP v psU 32).toNat : Int)))) (w : World) :
    Calls Try.prog 40 #[.int .u32 x] w fun e w' => e = .returned (.agg (insC (decW v))) ∧ Below w.heap.size w w' := by
  replace l3 := Lib.hid l3
  replace h := Lib.hid h
  go_enter Try.func40, Try.ntmps40
  go_wp2_with fail
  go_step3
  go_wp2_with fail
  refine (c3.out _).mono ?_
  rintro e w1 ⟨rfl, hb1⟩
  go_wp2_with fail
  refine (cd.out _).mono ?_
  rintro e w2 ⟨rfl, hb2⟩
  go_wp2_with fail
  refine (ca.out _).mono ?_
  rintro e w3 ⟨rfl, hb3⟩
  go_wp2_with fail
  refine (cb.out _).mono ?_
  rintro e w4 ⟨rfl, hb4⟩
  go_wp2_with fail
  go_step3
  go_wp2_with fail
  refine (cO.out _).mono ?_
  rintro e w5 ⟨rfl, hb5⟩
  have B2 := hb1.trans (hb2.mono hb1.size)
  have B3 := B2.trans (hb3.mono B2.size)
  have B4 := B3.trans (hb4.mono B3.size)
  have B5 := B4.trans (hb5.mono B4.size)
  clear hb1 hb2 hb3 hb4 B2 B3 B4 c3 cd ca cb cO
  obtain ⟨r0, r1, BB⟩ := two_new B5
  clear B5 hb5
  replace r0 := Lib.hid r0
  replace r1 := Lib.hid r1
  replace BB := Lib.hid BB
  replace h := h.out
  replace l3 := l3.out
  have e := eO.out
  rw [h] at e
  simp at e
  subst e
  clear e3 l3
  have hr := Lib.hid (show decW v = ⟨2, 0, (fieldI v 11 7 : Nat), 0, 0, immP v psU 32, 0, false, false, false, 0⟩ from by unfold decW; rw [if_neg (by omega), if_pos h])
  go_wp2_with fail
  refine (ciU.out _).mono ?_
  rintro e w6 ⟨rfl, hb6⟩
  have q0 := rowI_below r0.out hb6
  have B6 := Lib.hid (BB.out.trans (hb6.mono BB.out.size))
  clear hb6
  go_wp2_with (refine st_ins rfl _ _ rfl w.heap.size rfl _ q0 rfl _ rfl rfl (by simp [insC, Value.oneCell']) ?_; intro W2 hW hS)
  rw [Exit.noGoto_ret]
  exact ret_ins rfl rfl hW rfl rfl ⟨by rw [hr.out]; rfl, hS _ _ (Nat.le_refl _) (B6.out)⟩
set_option maxHeartbeats 40000000 in
theorem decode_111 (v : BitVec 32) (x gO g3 : Int) (h : fieldI v 6 0 = 111) (eO : Hid (gO = (fieldI v 6 0 : Nat))) (e3 : Hid (g3 = (fieldI v 14 12 : Nat))) (l3 : fieldI v 14 12 < 8)
    (cO : Hid (Mk Try.prog 23 #[.int .u32 x] (.int .i64 gO))) (c3 : Hid (Mk Try.prog 25 #[.int .u32 x] (.int .i64 g3))) (cd : Hid (Mk Try.prog 24 #[.int .u32 x] (.int .i64 (fieldI v 11 7 : Nat)))) (ca : Hid (Mk Try.prog 26 #[.int .u32 x] (.int .i64 (fieldI v 19 15 : Nat)))) (cb : Hid (Mk Try.prog 27 #[.int .u32 x] (.int .i64 (fieldI v 24 20 : Nat))))
    (ciJ : Hid (Mk Try.prog 38 #[.int .u32 x] (.int .u64 ((immP v psJ 21).toNat : Int)))) (w : World) :
    Calls Try.prog 40 #[.int .u32 x] w fun e w' => e = .returned (.agg (insC (decW v))) ∧ Below w.heap.size w w' := by
  replace l3 := Lib.hid l3
  replace h := Lib.hid h
  go_enter Try.func40, Try.ntmps40
  go_wp2_with fail
  go_step3
  go_wp2_with fail
  refine (c3.out _).mono ?_
  rintro e w1 ⟨rfl, hb1⟩
  go_wp2_with fail
  refine (cd.out _).mono ?_
  rintro e w2 ⟨rfl, hb2⟩
  go_wp2_with fail
  refine (ca.out _).mono ?_
  rintro e w3 ⟨rfl, hb3⟩
  go_wp2_with fail
  refine (cb.out _).mono ?_
  rintro e w4 ⟨rfl, hb4⟩
  go_wp2_with fail
  go_step3
  go_wp2_with fail
  refine (cO.out _).mono ?_
  rintro e w5 ⟨rfl, hb5⟩
  have B2 := hb1.trans (hb2.mono hb1.size)
  have B3 := B2.trans (hb3.mono B2.size)
  have B4 := B3.trans (hb4.mono B3.size)
  have B5 := B4.trans (hb5.mono B4.size)
  clear hb1 hb2 hb3 hb4 B2 B3 B4 c3 cd ca cb cO
  obtain ⟨r0, r1, BB⟩ := two_new B5
  clear B5 hb5
  replace r0 := Lib.hid r0
  replace r1 := Lib.hid r1
  replace BB := Lib.hid BB
  replace h := h.out
  replace l3 := l3.out
  have e := eO.out
  rw [h] at e
  simp at e
  subst e
  clear e3 l3
  have hr := Lib.hid (show decW v = ⟨3, 0, (fieldI v 11 7 : Nat), 0, 0, immP v psJ 21, 0, false, false, false, 0⟩ from by unfold decW; rw [if_neg (by omega), if_neg (by omega), if_pos h])
  go_wp2_with fail
  refine (ciJ.out _).mono ?_
  rintro e w6 ⟨rfl, hb6⟩
  have q0 := rowI_below r0.out hb6
  have B6 := Lib.hid (BB.out.trans (hb6.mono BB.out.size))
  clear hb6
  go_wp2_with (refine st_ins rfl _ _ rfl w.heap.size rfl _ q0 rfl _ rfl rfl (by simp [insC, Value.oneCell']) ?_; intro W2 hW hS)
  rw [Exit.noGoto_ret]
  exact ret_ins rfl rfl hW rfl rfl ⟨by rw [hr.out]; rfl, hS _ _ (Nat.le_refl _) (B6.out)⟩
set_option maxHeartbeats 40000000 in
theorem decode_103 (v : BitVec 32) (x gO g3 : Int) (h : fieldI v 6 0 = 103) (eO : Hid (gO = (fieldI v 6 0 : Nat))) (e3 : Hid (g3 = (fieldI v 14 12 : Nat))) (l3 : fieldI v 14 12 < 8)
    (cO : Hid (Mk Try.prog 23 #[.int .u32 x] (.int .i64 gO))) (c3 : Hid (Mk Try.prog 25 #[.int .u32 x] (.int .i64 g3))) (cd : Hid (Mk Try.prog 24 #[.int .u32 x] (.int .i64 (fieldI v 11 7 : Nat)))) (ca : Hid (Mk Try.prog 26 #[.int .u32 x] (.int .i64 (fieldI v 19 15 : Nat)))) (cb : Hid (Mk Try.prog 27 #[.int .u32 x] (.int .i64 (fieldI v 24 20 : Nat))))
    (ciI : Hid (Mk Try.prog 34 #[.int .u32 x] (.int .u64 ((immP v psI 12).toNat : Int)))) (w : World) :
    Calls Try.prog 40 #[.int .u32 x] w fun e w' => e = .returned (.agg (insC (decW v))) ∧ Below w.heap.size w w' := by
  replace l3 := Lib.hid l3
  replace h := Lib.hid h
  go_enter Try.func40, Try.ntmps40
  go_wp2_with fail
  go_step3
  go_wp2_with fail
  refine (c3.out _).mono ?_
  rintro e w1 ⟨rfl, hb1⟩
  go_wp2_with fail
  refine (cd.out _).mono ?_
  rintro e w2 ⟨rfl, hb2⟩
  go_wp2_with fail
  refine (ca.out _).mono ?_
  rintro e w3 ⟨rfl, hb3⟩
  go_wp2_with fail
  refine (cb.out _).mono ?_
  rintro e w4 ⟨rfl, hb4⟩
  go_wp2_with fail
  go_step3
  go_wp2_with fail
  refine (cO.out _).mono ?_
  rintro e w5 ⟨rfl, hb5⟩
  have B2 := hb1.trans (hb2.mono hb1.size)
  have B3 := B2.trans (hb3.mono B2.size)
  have B4 := B3.trans (hb4.mono B3.size)
  have B5 := B4.trans (hb5.mono B4.size)
  clear hb1 hb2 hb3 hb4 B2 B3 B4 c3 cd ca cb cO
  obtain ⟨r0, r1, BB⟩ := two_new B5
  clear B5 hb5
  replace r0 := Lib.hid r0
  replace r1 := Lib.hid r1
  replace BB := Lib.hid BB
  replace h := h.out
  replace l3 := l3.out
  have e := eO.out
  rw [h] at e
  simp at e
  subst e
  clear l3
  by_cases k : fieldI v 14 12 = 0
  · have e := e3.out
    rw [k] at e
    simp at e
    subst e
    have hr := Lib.hid (show decW v = ⟨4, 0, (fieldI v 11 7 : Nat), (fieldI v 19 15 : Nat), 0, immP v psI 12, 0, false, false, false, 0⟩ from by unfold decW; rw [if_neg (by omega), if_neg (by omega), if_neg (by omega), if_pos h, if_pos k])
    go_wp2_with fail
    refine (ciI.out _).mono ?_
    rintro e w6 ⟨rfl, hb6⟩
    have q0 := rowI_below r0.out hb6
    have B6 := Lib.hid (BB.out.trans (hb6.mono BB.out.size))
    clear hb6
    go_wp2_with (refine st_ins rfl _ _ rfl w.heap.size rfl _ q0 rfl _ rfl rfl (by simp [insC, Value.oneCell']) ?_; intro W2 hW hS)
    rw [Exit.noGoto_ret]
    exact ret_ins rfl rfl hW rfl rfl ⟨by rw [hr.out]; rfl, hS _ _ (Nat.le_refl _) (B6.out)⟩
  · have n3 : (g3 != 0) = true := by have := e3.out; simp; omega
    have hr := Lib.hid (show decW v = noI from by unfold decW; rw [if_neg (by omega), if_neg (by omega), if_neg (by omega), if_pos h, if_neg k])
    have q0 := r0.out
    have q1 := r1.out
    go_wp2_with (refine st_ins rfl _ _ rfl w.heap.size rfl _ q0 rfl _ rfl rfl (by simp [insC, Value.oneCell']) ?_; intro W2 hW hS)
    rw [Exit.noGoto_ret]
    exact ret_ins rfl rfl hW rfl rfl ⟨by rw [hr.out]; rfl, hS _ _ (Nat.le_refl _) (BB.out)⟩
end
section
open Go.RowKit Wd
set_option linter.unusedVariables false
set_option linter.unusedSimpArgs false
attribute [local go_sem] loadI_lit storeI_lit rowI_alloc rowI_drew rowI_setRow rowI_setCell setRow_allocI and_L
attribute [local go_sem ↓] loadI_run storeI_run'
set_option maxRecDepth 8000
attribute [local go_sem] loadI_ins storeI_ins
set_option maxHeartbeats 40000000 in
theorem decode_99 (v : BitVec 32) (x gO g3 : Int) (h : fieldI v 6 0 = 99) (eO : Hid (gO = (fieldI v 6 0 : Nat))) (e3 : Hid (g3 = (fieldI v 14 12 : Nat))) (l3 : fieldI v 14 12 < 8)
    (cO : Hid (Mk Try.prog 23 #[.int .u32 x] (.int .i64 gO))) (c3 : Hid (Mk Try.prog 25 #[.int .u32 x] (.int .i64 g3))) (cd : Hid (Mk Try.prog 24 #[.int .u32 x] (.int .i64 (fieldI v 11 7 : Nat)))) (ca : Hid (Mk Try.prog 26 #[.int .u32 x] (.int .i64 (fieldI v 19 15 : Nat)))) (cb : Hid (Mk Try.prog 27 #[.int .u32 x] (.int .i64 (fieldI v 24 20 : Nat))))
    (ciB : Hid (Mk Try.prog 36 #[.int .u32 x] (.int .u64 ((immP v psB 13).toNat : Int)))) (w : World) :
    Calls Try.prog 40 #[.int .u32 x] w fun e w' => e = .returned (.agg (insC (decW v))) ∧ Below w.heap.size w w' := by
  replace l3 := Lib.hid l3
  replace h := Lib.hid h
  go_enter Try.func40, Try.ntmps40
  go_wp2_with fail
  go_step3
  go_wp2_with fail
  refine (c3.out _).mono ?_
  rintro e w1 ⟨rfl, hb1⟩
  go_wp2_with fail
  refine (cd.out _).mono ?_
  rintro e w2 ⟨rfl, hb2⟩
  go_wp2_with fail
  refine (ca.out _).mono ?_
  rintro e w3 ⟨rfl, hb3⟩
  go_wp2_with fail
  refine (cb.out _).mono ?_
  rintro e w4 ⟨rfl, hb4⟩
  go_wp2_with fail
  go_step3
  go_wp2_with fail
  refine (cO.out _).mono ?_
  rintro e w5 ⟨rfl, hb5⟩
  have B2 := hb1.trans (hb2.mono hb1.size)
  have B3 := B2.trans (hb3.mono B2.size)
  have B4 := B3.trans (hb4.mono B3.size)
  have B5 := B4.trans (hb5.mono B4.size)
  clear hb1 hb2 hb3 hb4 B2 B3 B4 c3 cd ca cb cO
  obtain ⟨r0, r1, BB⟩ := two_new B5
  clear B5 hb5
  replace r0 := Lib.hid r0
  replace r1 := Lib.hid r1
  replace BB := Lib.hid BB
  replace h := h.out
  replace l3 := l3.out
  have e := eO.out
  rw [h] at e
  simp at e
  subst e
  have hf : fieldI v 14 12 = 0 ∨ fieldI v 14 12 = 1 ∨ fieldI v 14 12 = 2 ∨ fieldI v 14 12 = 3 ∨ fieldI v 14 12 = 4 ∨ fieldI v 14 12 = 5 ∨ fieldI v 14 12 = 6 ∨ fieldI v 14 12 = 7 := by omega
  clear l3
  rcases hf with k | k | k | k | k | k | k | k
  · have e := e3.out
    rw [k] at e
    simp at e
    subst e
    have hr := Lib.hid (show decW v = ⟨5, (0 : Nat), 0, (fieldI v 19 15 : Nat), (fieldI v 24 20 : Nat), immP v psB 13, 0, false, false, false, 0⟩ from by unfold decW; rw [if_neg (by omega), if_neg (by omega), if_neg (by omega), if_neg (by omega), if_pos h, if_neg (by omega), k])
    go_wp2_with fail
    refine (ciB.out _).mono ?_
    rintro e w6 ⟨rfl, hb6⟩
    have q0 := rowI_below r0.out hb6
    have B6 := Lib.hid (BB.out.trans (hb6.mono BB.out.size))
    clear hb6
    go_wp2_with (refine st_ins rfl _ _ rfl w.heap.size rfl _ q0 rfl _ rfl rfl (by simp [insC, Value.oneCell']) ?_; intro W2 hW hS)
    rw [Exit.noGoto_ret]
    exact ret_ins rfl rfl hW rfl rfl ⟨by rw [hr.out]; rfl, hS _ _ (Nat.le_refl _) (B6.out)⟩
  · have e := e3.out
    rw [k] at e
    simp at e
    subst e
    have hr := Lib.hid (show decW v = ⟨5, (1 : Nat), 0, (fieldI v 19 15 : Nat), (fieldI v 24 20 : Nat), immP v psB 13, 0, false, false, false, 0⟩ from by unfold decW; rw [if_neg (by omega), if_neg (by omega), if_neg (by omega), if_neg (by omega), if_pos h, if_neg (by omega), k])
    go_wp2_with fail
    refine (ciB.out _).mono ?_
    rintro e w6 ⟨rfl, hb6⟩
    have q0 := rowI_below r0.out hb6
    have B6 := Lib.hid (BB.out.trans (hb6.mono BB.out.size))
    clear hb6
    go_wp2_with (refine st_ins rfl _ _ rfl w.heap.size rfl _ q0 rfl _ rfl rfl (by simp [insC, Value.oneCell']) ?_; intro W2 hW hS)
    rw [Exit.noGoto_ret]
    exact ret_ins rfl rfl hW rfl rfl ⟨by rw [hr.out]; rfl, hS _ _ (Nat.le_refl _) (B6.out)⟩
  · have e := e3.out
    rw [k] at e
    simp at e
    subst e
    have hr := Lib.hid (show decW v = noI from by unfold decW; rw [if_neg (by omega), if_neg (by omega), if_neg (by omega), if_neg (by omega), if_pos h, if_pos (by omega)])
    have q0 := r0.out
    have q1 := r1.out
    go_wp2_with (refine st_ins rfl _ _ rfl w.heap.size rfl _ q0 rfl _ rfl rfl (by simp [insC, Value.oneCell']) ?_; intro W2 hW hS)
    rw [Exit.noGoto_ret]
    exact ret_ins rfl rfl hW rfl rfl ⟨by rw [hr.out]; rfl, hS _ _ (Nat.le_refl _) (BB.out)⟩
  · have e := e3.out
    rw [k] at e
    simp at e
    subst e
    have hr := Lib.hid (show decW v = noI from by unfold decW; rw [if_neg (by omega), if_neg (by omega), if_neg (by omega), if_neg (by omega), if_pos h, if_pos (by omega)])
    have q0 := r0.out
    have q1 := r1.out
    go_wp2_with (refine st_ins rfl _ _ rfl w.heap.size rfl _ q0 rfl _ rfl rfl (by simp [insC, Value.oneCell']) ?_; intro W2 hW hS)
    rw [Exit.noGoto_ret]
    exact ret_ins rfl rfl hW rfl rfl ⟨by rw [hr.out]; rfl, hS _ _ (Nat.le_refl _) (BB.out)⟩
  · have e := e3.out
    rw [k] at e
    simp at e
    subst e
    have hr := Lib.hid (show decW v = ⟨5, (4 : Nat), 0, (fieldI v 19 15 : Nat), (fieldI v 24 20 : Nat), immP v psB 13, 0, false, false, false, 0⟩ from by unfold decW; rw [if_neg (by omega), if_neg (by omega), if_neg (by omega), if_neg (by omega), if_pos h, if_neg (by omega), k])
    go_wp2_with fail
    refine (ciB.out _).mono ?_
    rintro e w6 ⟨rfl, hb6⟩
    have q0 := rowI_below r0.out hb6
    have B6 := Lib.hid (BB.out.trans (hb6.mono BB.out.size))
    clear hb6
    go_wp2_with (refine st_ins rfl _ _ rfl w.heap.size rfl _ q0 rfl _ rfl rfl (by simp [insC, Value.oneCell']) ?_; intro W2 hW hS)
    rw [Exit.noGoto_ret]
    exact ret_ins rfl rfl hW rfl rfl ⟨by rw [hr.out]; rfl, hS _ _ (Nat.le_refl _) (B6.out)⟩
  · have e := e3.out
    rw [k] at e
    simp at e
    subst e
    have hr := Lib.hid (show decW v = ⟨5, (5 : Nat), 0, (fieldI v 19 15 : Nat), (fieldI v 24 20 : Nat), immP v psB 13, 0, false, false, false, 0⟩ from by unfold decW; rw [if_neg (by omega), if_neg (by omega), if_neg (by omega), if_neg (by omega), if_pos h, if_neg (by omega), k])
    go_wp2_with fail
    refine (ciB.out _).mono ?_
    rintro e w6 ⟨rfl, hb6⟩
    have q0 := rowI_below r0.out hb6
    have B6 := Lib.hid (BB.out.trans (hb6.mono BB.out.size))
    clear hb6
    go_wp2_with (refine st_ins rfl _ _ rfl w.heap.size rfl _ q0 rfl _ rfl rfl (by simp [insC, Value.oneCell']) ?_; intro W2 hW hS)
    rw [Exit.noGoto_ret]
    exact ret_ins rfl rfl hW rfl rfl ⟨by rw [hr.out]; rfl, hS _ _ (Nat.le_refl _) (B6.out)⟩
  · have e := e3.out
    rw [k] at e
    simp at e
    subst e
    have hr := Lib.hid (show decW v = ⟨5, (6 : Nat), 0, (fieldI v 19 15 : Nat), (fieldI v 24 20 : Nat), immP v psB 13, 0, false, false, false, 0⟩ from by unfold decW; rw [if_neg (by omega), if_neg (by omega), if_neg (by omega), if_neg (by omega), if_pos h, if_neg (by omega), k])
    go_wp2_with fail
    refine (ciB.out _).mono ?_
    rintro e w6 ⟨rfl, hb6⟩
    have q0 := rowI_below r0.out hb6
    have B6 := Lib.hid (BB.out.trans (hb6.mono BB.out.size))
    clear hb6
    go_wp2_with (refine st_ins rfl _ _ rfl w.heap.size rfl _ q0 rfl _ rfl rfl (by simp [insC, Value.oneCell']) ?_; intro W2 hW hS)
    rw [Exit.noGoto_ret]
    exact ret_ins rfl rfl hW rfl rfl ⟨by rw [hr.out]; rfl, hS _ _ (Nat.le_refl _) (B6.out)⟩
  · have e := e3.out
    rw [k] at e
    simp at e
    subst e
    have hr := Lib.hid (show decW v = ⟨5, (7 : Nat), 0, (fieldI v 19 15 : Nat), (fieldI v 24 20 : Nat), immP v psB 13, 0, false, false, false, 0⟩ from by unfold decW; rw [if_neg (by omega), if_neg (by omega), if_neg (by omega), if_neg (by omega), if_pos h, if_neg (by omega), k])
    go_wp2_with fail
    refine (ciB.out _).mono ?_
    rintro e w6 ⟨rfl, hb6⟩
    have q0 := rowI_below r0.out hb6
    have B6 := Lib.hid (BB.out.trans (hb6.mono BB.out.size))
    clear hb6
    go_wp2_with (refine st_ins rfl _ _ rfl w.heap.size rfl _ q0 rfl _ rfl rfl (by simp [insC, Value.oneCell']) ?_; intro W2 hW hS)
    rw [Exit.noGoto_ret]
    exact ret_ins rfl rfl hW rfl rfl ⟨by rw [hr.out]; rfl, hS _ _ (Nat.le_refl _) (B6.out)⟩
end
section
open Go.RowKit Wd
set_option linter.unusedVariables false
set_option linter.unusedSimpArgs false
attribute [local go_sem] loadI_lit storeI_lit rowI_alloc rowI_drew rowI_setRow rowI_setCell setRow_allocI and_L
attribute [local go_sem ↓] loadI_run storeI_run'
set_option maxRecDepth 8000
attribute [local go_sem] loadI_ins storeI_ins
set_option maxHeartbeats 40000000 in
theorem decode_35 (v : BitVec 32) (x gO g3 : Int) (h : fieldI v 6 0 = 35) (eO : Hid (gO = (fieldI v 6 0 : Nat))) (e3 : Hid (g3 = (fieldI v 14 12 : Nat))) (l3 : fieldI v 14 12 < 8)
    (cO : Hid (Mk Try.prog 23 #[.int .u32 x] (.int .i64 gO))) (c3 : Hid (Mk Try.prog 25 #[.int .u32 x] (.int .i64 g3))) (cd : Hid (Mk Try.prog 24 #[.int .u32 x] (.int .i64 (fieldI v 11 7 : Nat)))) (ca : Hid (Mk Try.prog 26 #[.int .u32 x] (.int .i64 (fieldI v 19 15 : Nat)))) (cb : Hid (Mk Try.prog 27 #[.int .u32 x] (.int .i64 (fieldI v 24 20 : Nat))))
    (ciS : Hid (Mk Try.prog 35 #[.int .u32 x] (.int .u64 ((immP v psS 12).toNat : Int)))) (w : World) :
    Calls Try.prog 40 #[.int .u32 x] w fun e w' => e = .returned (.agg (insC (decW v))) ∧ Below w.heap.size w w' := by
  replace l3 := Lib.hid l3
  replace h := Lib.hid h
  go_enter Try.func40, Try.ntmps40
  go_wp2_with fail
  go_step3
  go_wp2_with fail
  refine (c3.out _).mono ?_
  rintro e w1 ⟨rfl, hb1⟩
  go_wp2_with fail
  refine (cd.out _).mono ?_
  rintro e w2 ⟨rfl, hb2⟩
  go_wp2_with fail
  refine (ca.out _).mono ?_
  rintro e w3 ⟨rfl, hb3⟩
  go_wp2_with fail
  refine (cb.out _).mono ?_
  rintro e w4 ⟨rfl, hb4⟩
  go_wp2_with fail
  go_step3
  go_wp2_with fail
  refine (cO.out _).mono ?_
  rintro e w5 ⟨rfl, hb5⟩
  have B2 := hb1.trans (hb2.mono hb1.size)
  have B3 := B2.trans (hb3.mono B2.size)
  have B4 := B3.trans (hb4.mono B3.size)
  have B5 := B4.trans (hb5.mono B4.size)
  clear hb1 hb2 hb3 hb4 B2 B3 B4 c3 cd ca cb cO
  obtain ⟨r0, r1, BB⟩ := two_new B5
  clear B5 hb5
  replace r0 := Lib.hid r0
  replace r1 := Lib.hid r1
  replace BB := Lib.hid BB
  replace h := h.out
  replace l3 := l3.out
  have e := eO.out
  rw [h] at e
  simp at e
  subst e
  have hf : fieldI v 14 12 = 0 ∨ fieldI v 14 12 = 1 ∨ fieldI v 14 12 = 2 ∨ fieldI v 14 12 = 3 ∨ fieldI v 14 12 = 4 ∨ fieldI v 14 12 = 5 ∨ fieldI v 14 12 = 6 ∨ fieldI v 14 12 = 7 := by omega
  clear l3
  rcases hf with k | k | k | k | k | k | k | k
  · have e := e3.out
    rw [k] at e
    simp at e
    subst e
    have hr := Lib.hid (show decW v = ⟨7, 0, 0, (fieldI v 19 15 : Nat), (fieldI v 24 20 : Nat), immP v psS 12, sz 0, false, false, false, 0⟩ from by unfold decW; rw [if_neg (by omega), if_neg (by omega), if_neg (by omega), if_neg (by omega), if_neg (by omega), if_neg (by omega), if_pos h, if_pos (by omega), k])
    go_wp2_with fail
    go_region_with (go_at_call 35; refine (ciS.out _).mono ?_; rintro e w6 ⟨rfl, hb6⟩; obtain ⟨q0, qc, qf⟩ := row_drew r0.out hb6)
    have B6 := Lib.hid ((BB.out.drew).trans (hb6.mono (by have := BB.out.size; simpa using this)))
    clear hb6
    go_wp2_with fail
    rw [Exit.noGoto_ret]
    refine ret_ins (cs := insC ⟨7, 0, 0, (fieldI v 19 15 : Nat), (fieldI v 24 20 : Nat), immP v psS 12, sz 0, false, false, false, 0⟩) rfl rfl (by simp only [rowI_setCell, if_true, q0, Option.map_some]; rfl) rfl rfl ⟨by rw [hr.out], ?_⟩
    repeat (refine below_setCell ?_ _ _ _ (Nat.le_refl _))
    exact B6.out
  · have e := e3.out
    rw [k] at e
    simp at e
    subst e
    have hr := Lib.hid (show decW v = ⟨7, 0, 0, (fieldI v 19 15 : Nat), (fieldI v 24 20 : Nat), immP v psS 12, sz 1, false, false, false, 0⟩ from by unfold decW; rw [if_neg (by omega), if_neg (by omega), if_neg (by omega), if_neg (by omega), if_neg (by omega), if_neg (by omega), if_pos h, if_pos (by omega), k])
    go_wp2_with fail
    go_region_with (go_at_call 35; refine (ciS.out _).mono ?_; rintro e w6 ⟨rfl, hb6⟩; obtain ⟨q0, qc, qf⟩ := row_drew r0.out hb6)
    have B6 := Lib.hid ((BB.out.drew).trans (hb6.mono (by have := BB.out.size; simpa using this)))
    clear hb6
    go_wp2_with fail
    rw [Exit.noGoto_ret]
    refine ret_ins (cs := insC ⟨7, 0, 0, (fieldI v 19 15 : Nat), (fieldI v 24 20 : Nat), immP v psS 12, sz 1, false, false, false, 0⟩) rfl rfl (by simp only [rowI_setCell, if_true, q0, Option.map_some]; rfl) rfl rfl ⟨by rw [hr.out], ?_⟩
    repeat (refine below_setCell ?_ _ _ _ (Nat.le_refl _))
    exact B6.out
  · have e := e3.out
    rw [k] at e
    simp at e
    subst e
    have hr := Lib.hid (show decW v = ⟨7, 0, 0, (fieldI v 19 15 : Nat), (fieldI v 24 20 : Nat), immP v psS 12, sz 2, false, false, false, 0⟩ from by unfold decW; rw [if_neg (by omega), if_neg (by omega), if_neg (by omega), if_neg (by omega), if_neg (by omega), if_neg (by omega), if_pos h, if_pos (by omega), k])
    go_wp2_with fail
    go_region_with (go_at_call 35; refine (ciS.out _).mono ?_; rintro e w6 ⟨rfl, hb6⟩; obtain ⟨q0, qc, qf⟩ := row_drew r0.out hb6)
    have B6 := Lib.hid ((BB.out.drew).trans (hb6.mono (by have := BB.out.size; simpa using this)))
    clear hb6
    go_wp2_with fail
    rw [Exit.noGoto_ret]
    refine ret_ins (cs := insC ⟨7, 0, 0, (fieldI v 19 15 : Nat), (fieldI v 24 20 : Nat), immP v psS 12, sz 2, false, false, false, 0⟩) rfl rfl (by simp only [rowI_setCell, if_true, q0, Option.map_some]; rfl) rfl rfl ⟨by rw [hr.out], ?_⟩
    repeat (refine below_setCell ?_ _ _ _ (Nat.le_refl _))
    exact B6.out
  · have e := e3.out
    rw [k] at e
    simp at e
    subst e
    have hr := Lib.hid (show decW v = ⟨7, 0, 0, (fieldI v 19 15 : Nat), (fieldI v 24 20 : Nat), immP v psS 12, sz 3, false, false, false, 0⟩ from by unfold decW; rw [if_neg (by omega), if_neg (by omega), if_neg (by omega), if_neg (by omega), if_neg (by omega), if_neg (by omega), if_pos h, if_pos (by omega), k])
    go_wp2_with fail
    go_region_with (go_at_call 35; refine (ciS.out _).mono ?_; rintro e w6 ⟨rfl, hb6⟩; obtain ⟨q0, qc, qf⟩ := row_drew r0.out hb6)
    have B6 := Lib.hid ((BB.out.drew).trans (hb6.mono (by have := BB.out.size; simpa using this)))
    clear hb6
    go_wp2_with fail
    rw [Exit.noGoto_ret]
    refine ret_ins (cs := insC ⟨7, 0, 0, (fieldI v 19 15 : Nat), (fieldI v 24 20 : Nat), immP v psS 12, sz 3, false, false, false, 0⟩) rfl rfl (by simp only [rowI_setCell, if_true, q0, Option.map_some]; rfl) rfl rfl ⟨by rw [hr.out], ?_⟩
    repeat (refine below_setCell ?_ _ _ _ (Nat.le_refl _))
    exact B6.out
  · have e := e3.out
    rw [k] at e
    simp at e
    subst e
    have hr := Lib.hid (show decW v = noI from by unfold decW; rw [if_neg (by omega), if_neg (by omega), if_neg (by omega), if_neg (by omega), if_neg (by omega), if_neg (by omega), if_pos h, if_neg (by omega)])
    have q0 := r0.out
    have q1 := r1.out
    go_wp2_with (refine st_ins rfl _ _ rfl w.heap.size rfl _ q0 rfl _ rfl rfl (by simp [insC, Value.oneCell']) ?_; intro W2 hW hS)
    rw [Exit.noGoto_ret]
    exact ret_ins rfl rfl hW rfl rfl ⟨by rw [hr.out]; rfl, hS _ _ (Nat.le_refl _) (BB.out)⟩
  · have e := e3.out
    rw [k] at e
    simp at e
    subst e
    have hr := Lib.hid (show decW v = noI from by unfold decW; rw [if_neg (by omega), if_neg (by omega), if_neg (by omega), if_neg (by omega), if_neg (by omega), if_neg (by omega), if_pos h, if_neg (by omega)])
    have q0 := r0.out
    have q1 := r1.out
    go_wp2_with (refine st_ins rfl _ _ rfl w.heap.size rfl _ q0 rfl _ rfl rfl (by simp [insC, Value.oneCell']) ?_; intro W2 hW hS)
    rw [Exit.noGoto_ret]
    exact ret_ins rfl rfl hW rfl rfl ⟨by rw [hr.out]; rfl, hS _ _ (Nat.le_refl _) (BB.out)⟩
  · have e := e3.out
    rw [k] at e
    simp at e
    subst e
    have hr := Lib.hid (show decW v = noI from by unfold decW; rw [if_neg (by omega), if_neg (by omega), if_neg (by omega), if_neg (by omega), if_neg (by omega), if_neg (by omega), if_pos h, if_neg (by omega)])
    have q0 := r0.out
    have q1 := r1.out
    go_wp2_with (refine st_ins rfl _ _ rfl w.heap.size rfl _ q0 rfl _ rfl rfl (by simp [insC, Value.oneCell']) ?_; intro W2 hW hS)
    rw [Exit.noGoto_ret]
    exact ret_ins rfl rfl hW rfl rfl ⟨by rw [hr.out]; rfl, hS _ _ (Nat.le_refl _) (BB.out)⟩
  · have e := e3.out
    rw [k] at e
    simp at e
    subst e
    have hr := Lib.hid (show decW v = noI from by unfold decW; rw [if_neg (by omega), if_neg (by omega), if_neg (by omega), if_neg (by omega), if_neg (by omega), if_neg (by omega), if_pos h, if_neg (by omega)])
    have q0 := r0.out
    have q1 := r1.out
    go_wp2_with (refine st_ins rfl _ _ rfl w.heap.size rfl _ q0 rfl _ rfl rfl (by simp [insC, Value.oneCell']) ?_; intro W2 hW hS)
    rw [Exit.noGoto_ret]
    exact ret_ins rfl rfl hW rfl rfl ⟨by rw [hr.out]; rfl, hS _ _ (Nat.le_refl _) (BB.out)⟩
end
section
open Go.RowKit Wd
set_option linter.unusedVariables false
set_option linter.unusedSimpArgs false
attribute [local go_sem] loadI_lit storeI_lit rowI_alloc rowI_drew rowI_setRow rowI_setCell setRow_allocI and_L
attribute [local go_sem ↓] loadI_run storeI_run'
set_option maxRecDepth 8000
attribute [local go_sem] loadI_ins storeI_ins
set_option maxHeartbeats 40000000 in
theorem decode_19 (v : BitVec 32) (x gO g3 : Int) (h : fieldI v 6 0 = 19) (eO : Hid (gO = (fieldI v 6 0 : Nat))) (e3 : Hid (g3 = (fieldI v 14 12 : Nat))) (l3 : fieldI v 14 12 < 8)
    (cO : Hid (Mk Try.prog 23 #[.int .u32 x] (.int .i64 gO))) (c3 : Hid (Mk Try.prog 25 #[.int .u32 x] (.int .i64 g3))) (cd : Hid (Mk Try.prog 24 #[.int .u32 x] (.int .i64 (fieldI v 11 7 : Nat)))) (ca : Hid (Mk Try.prog 26 #[.int .u32 x] (.int .i64 (fieldI v 19 15 : Nat)))) (cb : Hid (Mk Try.prog 27 #[.int .u32 x] (.int .i64 (fieldI v 24 20 : Nat))))
    (cimm : Hid (Mk Try.prog 67 #[.int .u32 x] (.agg (insC (immD v))))) (w : World) :
    Calls Try.prog 40 #[.int .u32 x] w fun e w' => e = .returned (.agg (insC (decW v))) ∧ Below w.heap.size w w' := by
  replace l3 := Lib.hid l3
  replace h := Lib.hid h
  go_enter Try.func40, Try.ntmps40
  go_wp2_with fail
  go_step3
  go_wp2_with fail
  refine (c3.out _).mono ?_
  rintro e w1 ⟨rfl, hb1⟩
  go_wp2_with fail
  refine (cd.out _).mono ?_
  rintro e w2 ⟨rfl, hb2⟩
  go_wp2_with fail
  refine (ca.out _).mono ?_
  rintro e w3 ⟨rfl, hb3⟩
  go_wp2_with fail
  refine (cb.out _).mono ?_
  rintro e w4 ⟨rfl, hb4⟩
  go_wp2_with fail
  go_step3
  go_wp2_with fail
  refine (cO.out _).mono ?_
  rintro e w5 ⟨rfl, hb5⟩
  have B2 := hb1.trans (hb2.mono hb1.size)
  have B3 := B2.trans (hb3.mono B2.size)
  have B4 := B3.trans (hb4.mono B3.size)
  have B5 := B4.trans (hb5.mono B4.size)
  clear hb1 hb2 hb3 hb4 B2 B3 B4 c3 cd ca cb cO
  obtain ⟨r0, r1, BB⟩ := two_new B5
  clear B5 hb5
  replace r0 := Lib.hid r0
  replace r1 := Lib.hid r1
  replace BB := Lib.hid BB
  replace h := h.out
  replace l3 := l3.out
  have e := eO.out
  rw [h] at e
  simp at e
  subst e
  clear e3 l3
  have hr := Lib.hid (show decW v = immD v from by unfold decW; rw [if_neg (by omega), if_neg (by omega), if_neg (by omega), if_neg (by omega), if_neg (by omega), if_neg (by omega), if_neg (by omega), if_pos (.inl h)])
  go_wp2_with fail
  refine (cimm.out _).mono ?_
  rintro e w6 ⟨rfl, hb6⟩
  have q0 := rowI_below r0.out hb6
  have q1 := rowI_below r1.out hb6
  have B6 := Lib.hid (BB.out.trans (hb6.mono BB.out.size))
  clear hb6
  go_wp2_with (refine st_ins2 rfl _ _ rfl (w.heap.size + 1) rfl _ q1 rfl _ rfl rfl (ins_one _) ?_; intro W1 hW1 hS1 hK)
  replace q0 := (hK w.heap.size (by omega)).trans q0
  replace B6 := Lib.hid (hS1 _ _ (by omega) B6.out)
  clear q1 hS1 hK
  go_wp2_with fail
  rw [Exit.noGoto_ret]
  exact ret_ins (cs := insC (immD v)) rfl rfl (by rw [rowI_setRow, if_pos rfl, q0]; rfl) rfl rfl ⟨by rw [hr.out], below_row B6.out _ (Nat.le_refl _) _⟩
set_option maxHeartbeats 40000000 in
theorem decode_27 (v : BitVec 32) (x gO g3 : Int) (h : fieldI v 6 0 = 27) (eO : Hid (gO = (fieldI v 6 0 : Nat))) (e3 : Hid (g3 = (fieldI v 14 12 : Nat))) (l3 : fieldI v 14 12 < 8)
    (cO : Hid (Mk Try.prog 23 #[.int .u32 x] (.int .i64 gO))) (c3 : Hid (Mk Try.prog 25 #[.int .u32 x] (.int .i64 g3))) (cd : Hid (Mk Try.prog 24 #[.int .u32 x] (.int .i64 (fieldI v 11 7 : Nat)))) (ca : Hid (Mk Try.prog 26 #[.int .u32 x] (.int .i64 (fieldI v 19 15 : Nat)))) (cb : Hid (Mk Try.prog 27 #[.int .u32 x] (.int .i64 (fieldI v 24 20 : Nat))))
    (cimm : Hid (Mk Try.prog 67 #[.int .u32 x] (.agg (insC (immD v))))) (w : World) :
    Calls Try.prog 40 #[.int .u32 x] w fun e w' => e = .returned (.agg (insC (decW v))) ∧ Below w.heap.size w w' := by
  replace l3 := Lib.hid l3
  replace h := Lib.hid h
  go_enter Try.func40, Try.ntmps40
  go_wp2_with fail
  go_step3
  go_wp2_with fail
  refine (c3.out _).mono ?_
  rintro e w1 ⟨rfl, hb1⟩
  go_wp2_with fail
  refine (cd.out _).mono ?_
  rintro e w2 ⟨rfl, hb2⟩
  go_wp2_with fail
  refine (ca.out _).mono ?_
  rintro e w3 ⟨rfl, hb3⟩
  go_wp2_with fail
  refine (cb.out _).mono ?_
  rintro e w4 ⟨rfl, hb4⟩
  go_wp2_with fail
  go_step3
  go_wp2_with fail
  refine (cO.out _).mono ?_
  rintro e w5 ⟨rfl, hb5⟩
  have B2 := hb1.trans (hb2.mono hb1.size)
  have B3 := B2.trans (hb3.mono B2.size)
  have B4 := B3.trans (hb4.mono B3.size)
  have B5 := B4.trans (hb5.mono B4.size)
  clear hb1 hb2 hb3 hb4 B2 B3 B4 c3 cd ca cb cO
  obtain ⟨r0, r1, BB⟩ := two_new B5
  clear B5 hb5
  replace r0 := Lib.hid r0
  replace r1 := Lib.hid r1
  replace BB := Lib.hid BB
  replace h := h.out
  replace l3 := l3.out
  have e := eO.out
  rw [h] at e
  simp at e
  subst e
  clear e3 l3
  have hr := Lib.hid (show decW v = immD v from by unfold decW; rw [if_neg (by omega), if_neg (by omega), if_neg (by omega), if_neg (by omega), if_neg (by omega), if_neg (by omega), if_neg (by omega), if_pos (.inr h)])
  go_wp2_with fail
  refine (cimm.out _).mono ?_
  rintro e w6 ⟨rfl, hb6⟩
  have q0 := rowI_below r0.out hb6
  have q1 := rowI_below r1.out hb6
  have B6 := Lib.hid (BB.out.trans (hb6.mono BB.out.size))
  clear hb6
  go_wp2_with (refine st_ins2 rfl _ _ rfl (w.heap.size + 1) rfl _ q1 rfl _ rfl rfl (ins_one _) ?_; intro W1 hW1 hS1 hK)
  replace q0 := (hK w.heap.size (by omega)).trans q0
  replace B6 := Lib.hid (hS1 _ _ (by omega) B6.out)
  clear q1 hS1 hK
  go_wp2_with fail
  rw [Exit.noGoto_ret]
  exact ret_ins (cs := insC (immD v)) rfl rfl (by rw [rowI_setRow, if_pos rfl, q0]; rfl) rfl rfl ⟨by rw [hr.out], below_row B6.out _ (Nat.le_refl _) _⟩
set_option maxHeartbeats 40000000 in
theorem decode_51 (v : BitVec 32) (x gO g3 : Int) (h : fieldI v 6 0 = 51) (eO : Hid (gO = (fieldI v 6 0 : Nat))) (e3 : Hid (g3 = (fieldI v 14 12 : Nat))) (l3 : fieldI v 14 12 < 8)
    (cO : Hid (Mk Try.prog 23 #[.int .u32 x] (.int .i64 gO))) (c3 : Hid (Mk Try.prog 25 #[.int .u32 x] (.int .i64 g3))) (cd : Hid (Mk Try.prog 24 #[.int .u32 x] (.int .i64 (fieldI v 11 7 : Nat)))) (ca : Hid (Mk Try.prog 26 #[.int .u32 x] (.int .i64 (fieldI v 19 15 : Nat)))) (cb : Hid (Mk Try.prog 27 #[.int .u32 x] (.int .i64 (fieldI v 24 20 : Nat))))
    (creg : Hid (Mk Try.prog 68 #[.int .u32 x] (.agg (insC (regD v))))) (w : World) :
    Calls Try.prog 40 #[.int .u32 x] w fun e w' => e = .returned (.agg (insC (decW v))) ∧ Below w.heap.size w w' := by
  replace l3 := Lib.hid l3
  replace h := Lib.hid h
  go_enter Try.func40, Try.ntmps40
  go_wp2_with fail
  go_step3
  go_wp2_with fail
  refine (c3.out _).mono ?_
  rintro e w1 ⟨rfl, hb1⟩
  go_wp2_with fail
  refine (cd.out _).mono ?_
  rintro e w2 ⟨rfl, hb2⟩
  go_wp2_with fail
  refine (ca.out _).mono ?_
  rintro e w3 ⟨rfl, hb3⟩
  go_wp2_with fail
  refine (cb.out _).mono ?_
  rintro e w4 ⟨rfl, hb4⟩
  go_wp2_with fail
  go_step3
  go_wp2_with fail
  refine (cO.out _).mono ?_
  rintro e w5 ⟨rfl, hb5⟩
  have B2 := hb1.trans (hb2.mono hb1.size)
  have B3 := B2.trans (hb3.mono B2.size)
  have B4 := B3.trans (hb4.mono B3.size)
  have B5 := B4.trans (hb5.mono B4.size)
  clear hb1 hb2 hb3 hb4 B2 B3 B4 c3 cd ca cb cO
  obtain ⟨r0, r1, BB⟩ := two_new B5
  clear B5 hb5
  replace r0 := Lib.hid r0
  replace r1 := Lib.hid r1
  replace BB := Lib.hid BB
  replace h := h.out
  replace l3 := l3.out
  have e := eO.out
  rw [h] at e
  simp at e
  subst e
  clear e3 l3
  have hr := Lib.hid (show decW v = regD v from by unfold decW; rw [if_neg (by omega), if_neg (by omega), if_neg (by omega), if_neg (by omega), if_neg (by omega), if_neg (by omega), if_neg (by omega), if_neg (by omega), if_pos (.inl h)])
  go_wp2_with fail
  refine (creg.out _).mono ?_
  rintro e w6 ⟨rfl, hb6⟩
  have q0 := rowI_below r0.out hb6
  have q1 := rowI_below r1.out hb6
  have B6 := Lib.hid (BB.out.trans (hb6.mono BB.out.size))
  clear hb6
  go_wp2_with (refine st_ins2 rfl _ _ rfl (w.heap.size + 1) rfl _ q1 rfl _ rfl rfl (ins_one _) ?_; intro W1 hW1 hS1 hK)
  replace q0 := (hK w.heap.size (by omega)).trans q0
  replace B6 := Lib.hid (hS1 _ _ (by omega) B6.out)
  clear q1 hS1 hK
  go_wp2_with fail
  rw [Exit.noGoto_ret]
  exact ret_ins (cs := insC (regD v)) rfl rfl (by rw [rowI_setRow, if_pos rfl, q0]; rfl) rfl rfl ⟨by rw [hr.out], below_row B6.out _ (Nat.le_refl _) _⟩
set_option maxHeartbeats 40000000 in
theorem decode_59 (v : BitVec 32) (x gO g3 : Int) (h : fieldI v 6 0 = 59) (eO : Hid (gO = (fieldI v 6 0 : Nat))) (e3 : Hid (g3 = (fieldI v 14 12 : Nat))) (l3 : fieldI v 14 12 < 8)
    (cO : Hid (Mk Try.prog 23 #[.int .u32 x] (.int .i64 gO))) (c3 : Hid (Mk Try.prog 25 #[.int .u32 x] (.int .i64 g3))) (cd : Hid (Mk Try.prog 24 #[.int .u32 x] (.int .i64 (fieldI v 11 7 : Nat)))) (ca : Hid (Mk Try.prog 26 #[.int .u32 x] (.int .i64 (fieldI v 19 15 : Nat)))) (cb : Hid (Mk Try.prog 27 #[.int .u32 x] (.int .i64 (fieldI v 24 20 : Nat))))
    (creg : Hid (Mk Try.prog 68 #[.int .u32 x] (.agg (insC (regD v))))) (w : World) :
    Calls Try.prog 40 #[.int .u32 x] w fun e w' => e = .returned (.agg (insC (decW v))) ∧ Below w.heap.size w w' := by
  replace l3 := Lib.hid l3
  replace h := Lib.hid h
  go_enter Try.func40, Try.ntmps40
  go_wp2_with fail
  go_step3
  go_wp2_with fail
  refine (c3.out _).mono ?_
  rintro e w1 ⟨rfl, hb1⟩
  go_wp2_with fail
  refine (cd.out _).mono ?_
  rintro e w2 ⟨rfl, hb2⟩
  go_wp2_with fail
  refine (ca.out _).mono ?_
  rintro e w3 ⟨rfl, hb3⟩
  go_wp2_with fail
  refine (cb.out _).mono ?_
  rintro e w4 ⟨rfl, hb4⟩
  go_wp2_with fail
  go_step3
  go_wp2_with fail
  refine (cO.out _).mono ?_
  rintro e w5 ⟨rfl, hb5⟩
  have B2 := hb1.trans (hb2.mono hb1.size)
  have B3 := B2.trans (hb3.mono B2.size)
  have B4 := B3.trans (hb4.mono B3.size)
  have B5 := B4.trans (hb5.mono B4.size)
  clear hb1 hb2 hb3 hb4 B2 B3 B4 c3 cd ca cb cO
  obtain ⟨r0, r1, BB⟩ := two_new B5
  clear B5 hb5
  replace r0 := Lib.hid r0
  replace r1 := Lib.hid r1
  replace BB := Lib.hid BB
  replace h := h.out
  replace l3 := l3.out
  have e := eO.out
  rw [h] at e
  simp at e
  subst e
  clear e3 l3
  have hr := Lib.hid (show decW v = regD v from by unfold decW; rw [if_neg (by omega), if_neg (by omega), if_neg (by omega), if_neg (by omega), if_neg (by omega), if_neg (by omega), if_neg (by omega), if_neg (by omega), if_pos (.inr h)])
  go_wp2_with fail
  refine (creg.out _).mono ?_
  rintro e w6 ⟨rfl, hb6⟩
  have q0 := rowI_below r0.out hb6
  have q1 := rowI_below r1.out hb6
  have B6 := Lib.hid (BB.out.trans (hb6.mono BB.out.size))
  clear hb6
  go_wp2_with (refine st_ins2 rfl _ _ rfl (w.heap.size + 1) rfl _ q1 rfl _ rfl rfl (ins_one _) ?_; intro W1 hW1 hS1 hK)
  replace q0 := (hK w.heap.size (by omega)).trans q0
  replace B6 := Lib.hid (hS1 _ _ (by omega) B6.out)
  clear q1 hS1 hK
  go_wp2_with fail
  rw [Exit.noGoto_ret]
  exact ret_ins (cs := insC (regD v)) rfl rfl (by rw [rowI_setRow, if_pos rfl, q0]; rfl) rfl rfl ⟨by rw [hr.out], below_row B6.out _ (Nat.le_refl _) _⟩
set_option maxHeartbeats 40000000 in
theorem decode_47 (v : BitVec 32) (x gO g3 : Int) (h : fieldI v 6 0 = 47) (eO : Hid (gO = (fieldI v 6 0 : Nat))) (e3 : Hid (g3 = (fieldI v 14 12 : Nat))) (l3 : fieldI v 14 12 < 8)
    (cO : Hid (Mk Try.prog 23 #[.int .u32 x] (.int .i64 gO))) (c3 : Hid (Mk Try.prog 25 #[.int .u32 x] (.int .i64 g3))) (cd : Hid (Mk Try.prog 24 #[.int .u32 x] (.int .i64 (fieldI v 11 7 : Nat)))) (ca : Hid (Mk Try.prog 26 #[.int .u32 x] (.int .i64 (fieldI v 19 15 : Nat)))) (cb : Hid (Mk Try.prog 27 #[.int .u32 x] (.int .i64 (fieldI v 24 20 : Nat))))
    (camo : Hid (Mk Try.prog 69 #[.int .u32 x] (.agg (insC (amoD v))))) (w : World) :
    Calls Try.prog 40 #[.int .u32 x] w fun e w' => e = .returned (.agg (insC (decW v))) ∧ Below w.heap.size w w' := by
  replace l3 := Lib.hid l3
  replace h := Lib.hid h
  go_enter Try.func40, Try.ntmps40
  go_wp2_with fail
  go_step3
  go_wp2_with fail
  refine (c3.out _).mono ?_
  rintro e w1 ⟨rfl, hb1⟩
  go_wp2_with fail
  refine (cd.out _).mono ?_
  rintro e w2 ⟨rfl, hb2⟩
  go_wp2_with fail
  refine (ca.out _).mono ?_
  rintro e w3 ⟨rfl, hb3⟩
  go_wp2_with fail
  refine (cb.out _).mono ?_
  rintro e w4 ⟨rfl, hb4⟩
  go_wp2_with fail
  go_step3
  go_wp2_with fail
  refine (cO.out _).mono ?_
  rintro e w5 ⟨rfl, hb5⟩
  have B2 := hb1.trans (hb2.mono hb1.size)
  have B3 := B2.trans (hb3.mono B2.size)
  have B4 := B3.trans (hb4.mono B3.size)
  have B5 := B4.trans (hb5.mono B4.size)
  clear hb1 hb2 hb3 hb4 B2 B3 B4 c3 cd ca cb cO
  obtain ⟨r0, r1, BB⟩ := two_new B5
  clear B5 hb5
  replace r0 := Lib.hid r0
  replace r1 := Lib.hid r1
  replace BB := Lib.hid BB
  replace h := h.out
  replace l3 := l3.out
  have e := eO.out
  rw [h] at e
  simp at e
  subst e
  clear e3 l3
  have hr := Lib.hid (show decW v = amoD v from by unfold decW; rw [if_neg (by omega), if_neg (by omega), if_neg (by omega), if_neg (by omega), if_neg (by omega), if_neg (by omega), if_neg (by omega), if_neg (by omega), if_neg (by omega), if_neg (by omega), if_pos h])
  go_wp2_with fail
  refine (camo.out _).mono ?_
  rintro e w6 ⟨rfl, hb6⟩
  have q0 := rowI_below r0.out hb6
  have q1 := rowI_below r1.out hb6
  have B6 := Lib.hid (BB.out.trans (hb6.mono BB.out.size))
  clear hb6
  go_wp2_with (refine st_ins2 rfl _ _ rfl (w.heap.size + 1) rfl _ q1 rfl _ rfl rfl (ins_one _) ?_; intro W1 hW1 hS1 hK)
  replace q0 := (hK w.heap.size (by omega)).trans q0
  replace B6 := Lib.hid (hS1 _ _ (by omega) B6.out)
  clear q1 hS1 hK
  go_wp2_with fail
  rw [Exit.noGoto_ret]
  exact ret_ins (cs := insC (amoD v)) rfl rfl (by rw [rowI_setRow, if_pos rfl, q0]; rfl) rfl rfl ⟨by rw [hr.out], below_row B6.out _ (Nat.le_refl _) _⟩
set_option maxHeartbeats 40000000 in
theorem decode_115 (v : BitVec 32) (x gO g3 : Int) (h : fieldI v 6 0 = 115) (eO : Hid (gO = (fieldI v 6 0 : Nat))) (e3 : Hid (g3 = (fieldI v 14 12 : Nat))) (l3 : fieldI v 14 12 < 8)
    (cO : Hid (Mk Try.prog 23 #[.int .u32 x] (.int .i64 gO))) (c3 : Hid (Mk Try.prog 25 #[.int .u32 x] (.int .i64 g3))) (cd : Hid (Mk Try.prog 24 #[.int .u32 x] (.int .i64 (fieldI v 11 7 : Nat)))) (ca : Hid (Mk Try.prog 26 #[.int .u32 x] (.int .i64 (fieldI v 19 15 : Nat)))) (cb : Hid (Mk Try.prog 27 #[.int .u32 x] (.int .i64 (fieldI v 24 20 : Nat))))
    (csys : Hid (Mk Try.prog 70 #[.int .u32 x] (.agg (insC (sysD v))))) (w : World) :
    Calls Try.prog 40 #[.int .u32 x] w fun e w' => e = .returned (.agg (insC (decW v))) ∧ Below w.heap.size w w' := by
  replace l3 := Lib.hid l3
  replace h := Lib.hid h
  go_enter Try.func40, Try.ntmps40
  go_wp2_with fail
  go_step3
  go_wp2_with fail
  refine (c3.out _).mono ?_
  rintro e w1 ⟨rfl, hb1⟩
  go_wp2_with fail
  refine (cd.out _).mono ?_
  rintro e w2 ⟨rfl, hb2⟩
  go_wp2_with fail
  refine (ca.out _).mono ?_
  rintro e w3 ⟨rfl, hb3⟩
  go_wp2_with fail
  refine (cb.out _).mono ?_
  rintro e w4 ⟨rfl, hb4⟩
  go_wp2_with fail
  go_step3
  go_wp2_with fail
  refine (cO.out _).mono ?_
  rintro e w5 ⟨rfl, hb5⟩
  have B2 := hb1.trans (hb2.mono hb1.size)
  have B3 := B2.trans (hb3.mono B2.size)
  have B4 := B3.trans (hb4.mono B3.size)
  have B5 := B4.trans (hb5.mono B4.size)
  clear hb1 hb2 hb3 hb4 B2 B3 B4 c3 cd ca cb cO
  obtain ⟨r0, r1, BB⟩ := two_new B5
  clear B5 hb5
  replace r0 := Lib.hid r0
  replace r1 := Lib.hid r1
  replace BB := Lib.hid BB
  replace h := h.out
  replace l3 := l3.out
  have e := eO.out
  rw [h] at e
  simp at e
  subst e
  clear e3 l3
  have hr := Lib.hid (show decW v = sysD v from by unfold decW; rw [if_neg (by omega), if_neg (by omega), if_neg (by omega), if_neg (by omega), if_neg (by omega), if_neg (by omega), if_neg (by omega), if_neg (by omega), if_neg (by omega), if_neg (by omega), if_neg (by omega), if_pos h])
  go_wp2_with fail
  refine (csys.out _).mono ?_
  rintro e w6 ⟨rfl, hb6⟩
  have q0 := rowI_below r0.out hb6
  have q1 := rowI_below r1.out hb6
  have B6 := Lib.hid (BB.out.trans (hb6.mono BB.out.size))
  clear hb6
  go_wp2_with (refine st_ins2 rfl _ _ rfl (w.heap.size + 1) rfl _ q1 rfl _ rfl rfl (ins_one _) ?_; intro W1 hW1 hS1 hK)
  replace q0 := (hK w.heap.size (by omega)).trans q0
  replace B6 := Lib.hid (hS1 _ _ (by omega) B6.out)
  clear q1 hS1 hK
  go_wp2_with fail
  rw [Exit.noGoto_ret]
  exact ret_ins (cs := insC (sysD v)) rfl rfl (by rw [rowI_setRow, if_pos rfl, q0]; rfl) rfl rfl ⟨by rw [hr.out], below_row B6.out _ (Nat.le_refl _) _⟩
set_option maxHeartbeats 40000000 in
theorem decode_15 (v : BitVec 32) (x gO g3 : Int) (h : fieldI v 6 0 = 15) (eO : Hid (gO = (fieldI v 6 0 : Nat))) (e3 : Hid (g3 = (fieldI v 14 12 : Nat))) (l3 : fieldI v 14 12 < 8)
    (cO : Hid (Mk Try.prog 23 #[.int .u32 x] (.int .i64 gO))) (c3 : Hid (Mk Try.prog 25 #[.int .u32 x] (.int .i64 g3))) (cd : Hid (Mk Try.prog 24 #[.int .u32 x] (.int .i64 (fieldI v 11 7 : Nat)))) (ca : Hid (Mk Try.prog 26 #[.int .u32 x] (.int .i64 (fieldI v 19 15 : Nat)))) (cb : Hid (Mk Try.prog 27 #[.int .u32 x] (.int .i64 (fieldI v 24 20 : Nat)))) (w : World) :
    Calls Try.prog 40 #[.int .u32 x] w fun e w' => e = .returned (.agg (insC (decW v))) ∧ Below w.heap.size w w' := by
  replace l3 := Lib.hid l3
  replace h := Lib.hid h
  go_enter Try.func40, Try.ntmps40
  go_wp2_with fail
  go_step3
  go_wp2_with fail
  refine (c3.out _).mono ?_
  rintro e w1 ⟨rfl, hb1⟩
  go_wp2_with fail
  refine (cd.out _).mono ?_
  rintro e w2 ⟨rfl, hb2⟩
  go_wp2_with fail
  refine (ca.out _).mono ?_
  rintro e w3 ⟨rfl, hb3⟩
  go_wp2_with fail
  refine (cb.out _).mono ?_
  rintro e w4 ⟨rfl, hb4⟩
  go_wp2_with fail
  go_step3
  go_wp2_with fail
  refine (cO.out _).mono ?_
  rintro e w5 ⟨rfl, hb5⟩
  have B2 := hb1.trans (hb2.mono hb1.size)
  have B3 := B2.trans (hb3.mono B2.size)
  have B4 := B3.trans (hb4.mono B3.size)
  have B5 := B4.trans (hb5.mono B4.size)
  clear hb1 hb2 hb3 hb4 B2 B3 B4 c3 cd ca cb cO
  obtain ⟨r0, r1, BB⟩ := two_new B5
  clear B5 hb5
  replace r0 := Lib.hid r0
  replace r1 := Lib.hid r1
  replace BB := Lib.hid BB
  replace h := h.out
  replace l3 := l3.out
  have e := eO.out
  rw [h] at e
  simp at e
  subst e
  have hf : fieldI v 14 12 = 0 ∨ fieldI v 14 12 = 1 ∨ fieldI v 14 12 = 2 ∨ fieldI v 14 12 = 3 ∨ fieldI v 14 12 = 4 ∨ fieldI v 14 12 = 5 ∨ fieldI v 14 12 = 6 ∨ fieldI v 14 12 = 7 := by omega
  clear l3
  rcases hf with k | k | k | k | k | k | k | k
  · have e := e3.out
    rw [k] at e
    simp at e
    subst e
    have hr := Lib.hid (show decW v = opOnly 11 from by unfold decW; rw [if_neg (by omega), if_neg (by omega), if_neg (by omega), if_neg (by omega), if_neg (by omega), if_neg (by omega), if_neg (by omega), if_neg (by omega), if_neg (by omega), if_pos h, if_pos k])
    have q0 := r0.out
    go_wp2_with (refine st_ins rfl _ _ rfl w.heap.size rfl _ q0 rfl _ rfl rfl (by simp [insC, Value.oneCell']) ?_; intro W2 hW hS)
    rw [Exit.noGoto_ret]
    exact ret_ins rfl rfl hW rfl rfl ⟨by rw [hr.out]; rfl, hS _ _ (Nat.le_refl _) (BB.out)⟩
  · have e := e3.out
    rw [k] at e
    simp at e
    subst e
    have hr := Lib.hid (show decW v = opOnly 12 from by unfold decW; rw [if_neg (by omega), if_neg (by omega), if_neg (by omega), if_neg (by omega), if_neg (by omega), if_neg (by omega), if_neg (by omega), if_neg (by omega), if_neg (by omega), if_pos h, if_neg (by omega), if_pos k])
    have q0 := r0.out
    go_wp2_with (refine st_ins rfl _ _ rfl w.heap.size rfl _ q0 rfl _ rfl rfl (by simp [insC, Value.oneCell']) ?_; intro W2 hW hS)
    rw [Exit.noGoto_ret]
    exact ret_ins rfl rfl hW rfl rfl ⟨by rw [hr.out]; rfl, hS _ _ (Nat.le_refl _) (BB.out)⟩
  · have e := e3.out
    rw [k] at e
    simp at e
    subst e
    have hr := Lib.hid (show decW v = noI from by unfold decW; rw [if_neg (by omega), if_neg (by omega), if_neg (by omega), if_neg (by omega), if_neg (by omega), if_neg (by omega), if_neg (by omega), if_neg (by omega), if_neg (by omega), if_pos h, if_neg (by omega), if_neg (by omega)])
    have q0 := r0.out
    have q1 := r1.out
    go_wp2_with (refine st_ins rfl _ _ rfl w.heap.size rfl _ q0 rfl _ rfl rfl (by simp [insC, Value.oneCell']) ?_; intro W2 hW hS)
    rw [Exit.noGoto_ret]
    exact ret_ins rfl rfl hW rfl rfl ⟨by rw [hr.out]; rfl, hS _ _ (Nat.le_refl _) (BB.out)⟩
  · have e := e3.out
    rw [k] at e
    simp at e
    subst e
    have hr := Lib.hid (show decW v = noI from by unfold decW; rw [if_neg (by omega), if_neg (by omega), if_neg (by omega), if_neg (by omega), if_neg (by omega), if_neg (by omega), if_neg (by omega), if_neg (by omega), if_neg (by omega), if_pos h, if_neg (by omega), if_neg (by omega)])
    have q0 := r0.out
    have q1 := r1.out
    go_wp2_with (refine st_ins rfl _ _ rfl w.heap.size rfl _ q0 rfl _ rfl rfl (by simp [insC, Value.oneCell']) ?_; intro W2 hW hS)
    rw [Exit.noGoto_ret]
    exact ret_ins rfl rfl hW rfl rfl ⟨by rw [hr.out]; rfl, hS _ _ (Nat.le_refl _) (BB.out)⟩
  · have e := e3.out
    rw [k] at e
    simp at e
    subst e
    have hr := Lib.hid (show decW v = noI from by unfold decW; rw [if_neg (by omega), if_neg (by omega), if_neg (by omega), if_neg (by omega), if_neg (by omega), if_neg (by omega), if_neg (by omega), if_neg (by omega), if_neg (by omega), if_pos h, if_neg (by omega), if_neg (by omega)])
    have q0 := r0.out
    have q1 := r1.out
    go_wp2_with (refine st_ins rfl _ _ rfl w.heap.size rfl _ q0 rfl _ rfl rfl (by simp [insC, Value.oneCell']) ?_; intro W2 hW hS)
    rw [Exit.noGoto_ret]
    exact ret_ins rfl rfl hW rfl rfl ⟨by rw [hr.out]; rfl, hS _ _ (Nat.le_refl _) (BB.out)⟩
  · have e := e3.out
    rw [k] at e
    simp at e
    subst e
    have hr := Lib.hid (show decW v = noI from by unfold decW; rw [if_neg (by omega), if_neg (by omega), if_neg (by omega), if_neg (by omega), if_neg (by omega), if_neg (by omega), if_neg (by omega), if_neg (by omega), if_neg (by omega), if_pos h, if_neg (by omega), if_neg (by omega)])
    have q0 := r0.out
    have q1 := r1.out
    go_wp2_with (refine st_ins rfl _ _ rfl w.heap.size rfl _ q0 rfl _ rfl rfl (by simp [insC, Value.oneCell']) ?_; intro W2 hW hS)
    rw [Exit.noGoto_ret]
    exact ret_ins rfl rfl hW rfl rfl ⟨by rw [hr.out]; rfl, hS _ _ (Nat.le_refl _) (BB.out)⟩
  · have e := e3.out
    rw [k] at e
    simp at e
    subst e
    have hr := Lib.hid (show decW v = noI from by unfold decW; rw [if_neg (by omega), if_neg (by omega), if_neg (by omega), if_neg (by omega), if_neg (by omega), if_neg (by omega), if_neg (by omega), if_neg (by omega), if_neg (by omega), if_pos h, if_neg (by omega), if_neg (by omega)])
    have q0 := r0.out
    have q1 := r1.out
    go_wp2_with (refine st_ins rfl _ _ rfl w.heap.size rfl _ q0 rfl _ rfl rfl (by simp [insC, Value.oneCell']) ?_; intro W2 hW hS)
    rw [Exit.noGoto_ret]
    exact ret_ins rfl rfl hW rfl rfl ⟨by rw [hr.out]; rfl, hS _ _ (Nat.le_refl _) (BB.out)⟩
  · have e := e3.out
    rw [k] at e
    simp at e
    subst e
    have hr := Lib.hid (show decW v = noI from by unfold decW; rw [if_neg (by omega), if_neg (by omega), if_neg (by omega), if_neg (by omega), if_neg (by omega), if_neg (by omega), if_neg (by omega), if_neg (by omega), if_neg (by omega), if_pos h, if_neg (by omega), if_neg (by omega)])
    have q0 := r0.out
    have q1 := r1.out
    go_wp2_with (refine st_ins rfl _ _ rfl w.heap.size rfl _ q0 rfl _ rfl rfl (by simp [insC, Value.oneCell']) ?_; intro W2 hW hS)
    rw [Exit.noGoto_ret]
    exact ret_ins rfl rfl hW rfl rfl ⟨by rw [hr.out]; rfl, hS _ _ (Nat.le_refl _) (BB.out)⟩
set_option maxHeartbeats 40000000 in
theorem decode_no (v : BitVec 32) (x gO g3 : Int) (h : ¬ (fieldI v 6 0 = 55 ∨ fieldI v 6 0 = 23 ∨ fieldI v 6 0 = 111 ∨ fieldI v 6 0 = 103 ∨ fieldI v 6 0 = 99 ∨ fieldI v 6 0 = 3 ∨ fieldI v 6 0 = 35 ∨ fieldI v 6 0 = 19 ∨ fieldI v 6 0 = 27 ∨ fieldI v 6 0 = 51 ∨ fieldI v 6 0 = 59 ∨ fieldI v 6 0 = 15 ∨ fieldI v 6 0 = 47 ∨ fieldI v 6 0 = 115)) (eO : Hid (gO = (fieldI v 6 0 : Nat))) (e3 : Hid (g3 = (fieldI v 14 12 : Nat))) (l3 : fieldI v 14 12 < 8)
    (cO : Hid (Mk Try.prog 23 #[.int .u32 x] (.int .i64 gO))) (c3 : Hid (Mk Try.prog 25 #[.int .u32 x] (.int .i64 g3))) (cd : Hid (Mk Try.prog 24 #[.int .u32 x] (.int .i64 (fieldI v 11 7 : Nat)))) (ca : Hid (Mk Try.prog 26 #[.int .u32 x] (.int .i64 (fieldI v 19 15 : Nat)))) (cb : Hid (Mk Try.prog 27 #[.int .u32 x] (.int .i64 (fieldI v 24 20 : Nat)))) (w : World) :
    Calls Try.prog 40 #[.int .u32 x] w fun e w' => e = .returned (.agg (insC (decW v))) ∧ Below w.heap.size w w' := by
  replace l3 := Lib.hid l3
  replace h := Lib.hid h
  go_enter Try.func40, Try.ntmps40
  go_wp2_with fail
  go_step3
  go_wp2_with fail
  refine (c3.out _).mono ?_
  rintro e w1 ⟨rfl, hb1⟩
  go_wp2_with fail
  refine (cd.out _).mono ?_
  rintro e w2 ⟨rfl, hb2⟩
  go_wp2_with fail
  refine (ca.out _).mono ?_
  rintro e w3 ⟨rfl, hb3⟩
  go_wp2_with fail
  refine (cb.out _).mono ?_
  rintro e w4 ⟨rfl, hb4⟩
  go_wp2_with fail
  go_step3
  go_wp2_with fail
  refine (cO.out _).mono ?_
  rintro e w5 ⟨rfl, hb5⟩
  have B2 := hb1.trans (hb2.mono hb1.size)
  have B3 := B2.trans (hb3.mono B2.size)
  have B4 := B3.trans (hb4.mono B3.size)
  have B5 := B4.trans (hb5.mono B4.size)
  clear hb1 hb2 hb3 hb4 B2 B3 B4 c3 cd ca cb cO
  obtain ⟨r0, r1, BB⟩ := two_new B5
  clear B5 hb5
  replace r0 := Lib.hid r0
  replace r1 := Lib.hid r1
  replace BB := Lib.hid BB
  replace h := h.out
  replace l3 := l3.out
  have n55 : (gO == 55) = false := by have := eO.out; simp; omega
  have n23 : (gO == 23) = false := by have := eO.out; simp; omega
  have n111 : (gO == 111) = false := by have := eO.out; simp; omega
  have n103 : (gO == 103) = false := by have := eO.out; simp; omega
  have n99 : (gO == 99) = false := by have := eO.out; simp; omega
  have n3 : (gO == 3) = false := by have := eO.out; simp; omega
  have n35 : (gO == 35) = false := by have := eO.out; simp; omega
  have n19 : (gO == 19) = false := by have := eO.out; simp; omega
  have n27 : (gO == 27) = false := by have := eO.out; simp; omega
  have n51 : (gO == 51) = false := by have := eO.out; simp; omega
  have n59 : (gO == 59) = false := by have := eO.out; simp; omega
  have n15 : (gO == 15) = false := by have := eO.out; simp; omega
  have n47 : (gO == 47) = false := by have := eO.out; simp; omega
  have n115 : (gO == 115) = false := by have := eO.out; simp; omega
  have hr := Lib.hid (show decW v = noI from by unfold decW; rw [if_neg (by omega), if_neg (by omega), if_neg (by omega), if_neg (by omega), if_neg (by omega), if_neg (by omega), if_neg (by omega), if_neg (by omega), if_neg (by omega), if_neg (by omega), if_neg (by omega), if_neg (by omega)])
  have q0 := r0.out
  have q1 := r1.out
  go_wp2_with (refine st_ins rfl _ _ rfl w.heap.size rfl _ q0 rfl _ rfl rfl (by simp [insC, Value.oneCell']) ?_; intro W2 hW hS)
  rw [Exit.noGoto_ret]
  exact ret_ins rfl rfl hW rfl rfl ⟨by rw [hr.out]; rfl, hS _ _ (Nat.le_refl _) (BB.out)⟩
end
end Go.Proofs.Ytnhbekgmameeaaa
