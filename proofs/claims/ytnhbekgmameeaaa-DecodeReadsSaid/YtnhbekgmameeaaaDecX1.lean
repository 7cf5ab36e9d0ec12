/- Contracts, by operations: DecC1, DecC2, DecC3, DecC4. -/
import Derived.Test.YtnhbekgmameeaaaIns
import Derived.Test.YtnhbekgmameeaaaShape
import Derived.Test.YtnhbekgmameeaaaAndL
import Derived.Test.YtnhbekgmameeaaaIns2
import Derived.Deep.RegionWith
namespace Go.Proofs.Ytnhbekgmameeaaa
section
open Go.RowKit Wd
set_option linter.unusedVariables false
set_option linter.unusedSimpArgs false
attribute [local go_sem] loadI_lit storeI_lit rowI_alloc rowI_drew rowI_setRow rowI_setCell setRow_allocI and_L
attribute [local go_sem ↓] loadI_run storeI_run'
set_option maxRecDepth 8000
theorem storeI_ins (w : World) (b : Nat) (i : Ins) (y0 y1 y2 y3 y4 y5 y6 y7 y8 y9 y10 : Value) : storeI w b (insC i) (some #[y0, y1, y2, y3, y4, y5, y6, y7, y8, y9, y10]) = .ok () (w.setRow b (insC i)) := if_pos ⟨rfl, by simp [insC, Value.oneCell']⟩
attribute [local go_sem] loadI_ins storeI_ins
set_option maxHeartbeats 40000000 in
theorem decode_3_0 (v : BitVec 32) (x gO g3 : Int) (h : fieldI v 6 0 = 3) (k : fieldI v 14 12 = 0) (eO : Hid (gO = (fieldI v 6 0 : Nat))) (e3 : Hid (g3 = (fieldI v 14 12 : Nat))) (l3 : fieldI v 14 12 < 8)
    (cO : Hid (Mk Try.prog 23 #[.int .u32 x] (.int .i64 gO))) (c3 : Hid (Mk Try.prog 25 #[.int .u32 x] (.int .i64 g3))) (cd : Hid (Mk Try.prog 24 #[.int .u32 x] (.int .i64 (fieldI v 11 7 : Nat)))) (ca : Hid (Mk Try.prog 26 #[.int .u32 x] (.int .i64 (fieldI v 19 15 : Nat)))) (cb : Hid (Mk Try.prog 27 #[.int .u32 x] (.int .i64 (fieldI v 24 20 : Nat))))
    (ciI : Hid (Mk Try.prog 34 #[.int .u32 x] (.int .u64 ((immP v psI 12).toNat : Int)))) (w : World) :
    Calls Try.prog 40 #[.int .u32 x] w fun e w' => e = .returned (.agg (insC (decW v))) ∧ Below w.heap.size w w' := by
  replace l3 := Lib.hid l3
  replace h := Lib.hid h
  replace k := Lib.hid k
  go_enter Try.func40, Try.ntmps40
  go_wp2_with fail
  go_step3
  go_wp2_with fail
  refine (c3.out _).mono ?_
  rintro e w1 ⟨rfl, hb1⟩
  go_wp2_with fail
  refine (cd.out _).mono ?_
  rintro e w2 ⟨rfl, hb2⟩
  go_wp2_with fail
  refine (ca.out _).mono ?_
  rintro e w3 ⟨rfl, hb3⟩
  go_wp2_with fail
  refine (cb.out _).mono ?_
  rintro e w4 ⟨rfl, hb4⟩
  go_wp2_with fail
  go_step3
  go_wp2_with fail
  refine (cO.out _).mono ?_
  rintro e w5 ⟨rfl, hb5⟩
  have B2 := hb1.trans (hb2.mono hb1.size)
  have B3 := B2.trans (hb3.mono B2.size)
  have B4 := B3.trans (hb4.mono B3.size)
  have B5 := B4.trans (hb5.mono B4.size)
  clear hb1 hb2 hb3 hb4 B2 B3 B4 c3 cd ca cb cO
  obtain ⟨r0, r1, BB⟩ := two_new B5
  clear B5 hb5
  replace r0 := Lib.hid r0
  replace r1 := Lib.hid r1
  replace BB := Lib.hid BB
  replace h := h.out
  replace k := k.out
  replace l3 := l3.out
  have e := eO.out
  rw [h] at e
  simp at e
  subst e
  clear l3
  have e := e3.out
  rw [k] at e
  simp at e
  subst e
  have hr := Lib.hid (show decW v = ⟨6, 0, (fieldI v 11 7 : Nat), (fieldI v 19 15 : Nat), 0, immP v psI 12, sz (0 % 4), decide (0 < 4), false, false, 0⟩ from by unfold decW; rw [if_neg (by omega), if_neg (by omega), if_neg (by omega), if_neg (by omega), if_neg (by omega), if_pos h, if_pos (by omega), k])
  go_wp2_with fail
  go_region_with (go_at_call 34; refine (ciI.out _).mono ?_; rintro e w6 ⟨rfl, hb6⟩; obtain ⟨q0, qc, qf⟩ := row_drew r0.out hb6)
  have B6 := Lib.hid ((BB.out.drew).trans (hb6.mono (by have := BB.out.size; simpa using this)))
  clear hb6
  go_wp2_with fail
  rw [Exit.noGoto_ret]
  refine ret_ins (cs := insC ⟨6, 0, (fieldI v 11 7 : Nat), (fieldI v 19 15 : Nat), 0, immP v psI 12, sz (0 % 4), decide (0 < 4), false, false, 0⟩) rfl rfl (by simp only [rowI_setCell, if_true, q0, Option.map_some]; rfl) rfl rfl ⟨by rw [hr.out], ?_⟩
  repeat (refine below_setCell ?_ _ _ _ (Nat.le_refl _))
  exact B6.out
set_option maxHeartbeats 40000000 in
theorem decode_3_1 (v : BitVec 32) (x gO g3 : Int) (h : fieldI v 6 0 = 3) (k : fieldI v 14 12 = 1) (eO : Hid (gO = (fieldI v 6 0 : Nat))) (e3 : Hid (g3 = (fieldI v 14 12 : Nat))) (l3 : fieldI v 14 12 < 8)
    (cO : Hid (Mk Try.prog 23 #[.int .u32 x] (.int .i64 gO))) (c3 : Hid (Mk Try.prog 25 #[.int .u32 x] (.int .i64 g3))) (cd : Hid (Mk Try.prog 24 #[.int .u32 x] (.int .i64 (fieldI v 11 7 : Nat)))) (ca : Hid (Mk Try.prog 26 #[.int .u32 x] (.int .i64 (fieldI v 19 15 : Nat)))) (cb : Hid (Mk Try.prog 27 #[.int .u32 x] (.int .i64 (fieldI v 24 20 : Nat))))
    (ciI : Hid (Mk Try.prog 34 #[.int .u32 x] (.int .u64 ((immP v psI 12).toNat : Int)))) (w : World) :
    Calls Try.prog 40 #[.int .u32 x] w fun e w' => e = .returned (.agg (insC (decW v))) ∧ Below w.heap.size w w' := by
  replace l3 := Lib.hid l3
  replace h := Lib.hid h
  replace k := Lib.hid k
  go_enter Try.func40, Try.ntmps40
  go_wp2_with fail
  go_step3
  go_wp2_with fail
  refine (c3.out _).mono ?_
  rintro e w1 ⟨rfl, hb1⟩
  go_wp2_with fail
  refine (cd.out _).mono ?_
  rintro e w2 ⟨rfl, hb2⟩
  go_wp2_with fail
  refine (ca.out _).mono ?_
  rintro e w3 ⟨rfl, hb3⟩
  go_wp2_with fail
  refine (cb.out _).mono ?_
  rintro e w4 ⟨rfl, hb4⟩
  go_wp2_with fail
  go_step3
  go_wp2_with fail
  refine (cO.out _).mono ?_
  rintro e w5 ⟨rfl, hb5⟩
  have B2 := hb1.trans (hb2.mono hb1.size)
  have B3 := B2.trans (hb3.mono B2.size)
  have B4 := B3.trans (hb4.mono B3.size)
  have B5 := B4.trans (hb5.mono B4.size)
  clear hb1 hb2 hb3 hb4 B2 B3 B4 c3 cd ca cb cO
  obtain ⟨r0, r1, BB⟩ := two_new B5
  clear B5 hb5
  replace r0 := Lib.hid r0
  replace r1 := Lib.hid r1
  replace BB := Lib.hid BB
  replace h := h.out
  replace k := k.out
  replace l3 := l3.out
  have e := eO.out
  rw [h] at e
  simp at e
  subst e
  clear l3
  have e := e3.out
  rw [k] at e
  simp at e
  subst e
  have hr := Lib.hid (show decW v = ⟨6, 0, (fieldI v 11 7 : Nat), (fieldI v 19 15 : Nat), 0, immP v psI 12, sz (1 % 4), decide (1 < 4), false, false, 0⟩ from by unfold decW; rw [if_neg (by omega), if_neg (by omega), if_neg (by omega), if_neg (by omega), if_neg (by omega), if_pos h, if_pos (by omega), k])
  go_wp2_with fail
  go_region_with (go_at_call 34; refine (ciI.out _).mono ?_; rintro e w6 ⟨rfl, hb6⟩; obtain ⟨q0, qc, qf⟩ := row_drew r0.out hb6)
  have B6 := Lib.hid ((BB.out.drew).trans (hb6.mono (by have := BB.out.size; simpa using this)))
  clear hb6
  go_wp2_with fail
  rw [Exit.noGoto_ret]
  refine ret_ins (cs := insC ⟨6, 0, (fieldI v 11 7 : Nat), (fieldI v 19 15 : Nat), 0, immP v psI 12, sz (1 % 4), decide (1 < 4), false, false, 0⟩) rfl rfl (by simp only [rowI_setCell, if_true, q0, Option.map_some]; rfl) rfl rfl ⟨by rw [hr.out], ?_⟩
  repeat (refine below_setCell ?_ _ _ _ (Nat.le_refl _))
  exact B6.out
end
section
open Go.RowKit Wd
set_option linter.unusedVariables false
set_option linter.unusedSimpArgs false
attribute [local go_sem] loadI_lit storeI_lit rowI_alloc rowI_drew rowI_setRow rowI_setCell setRow_allocI and_L
attribute [local go_sem ↓] loadI_run storeI_run'
set_option maxRecDepth 8000
attribute [local go_sem] loadI_ins storeI_ins
set_option maxHeartbeats 40000000 in
theorem decode_3_2 (v : BitVec 32) (x gO g3 : Int) (h : fieldI v 6 0 = 3) (k : fieldI v 14 12 = 2) (eO : Hid (gO = (fieldI v 6 0 : Nat))) (e3 : Hid (g3 = (fieldI v 14 12 : Nat))) (l3 : fieldI v 14 12 < 8)
    (cO : Hid (Mk Try.prog 23 #[.int .u32 x] (.int .i64 gO))) (c3 : Hid (Mk Try.prog 25 #[.int .u32 x] (.int .i64 g3))) (cd : Hid (Mk Try.prog 24 #[.int .u32 x] (.int .i64 (fieldI v 11 7 : Nat)))) (ca : Hid (Mk Try.prog 26 #[.int .u32 x] (.int .i64 (fieldI v 19 15 : Nat)))) (cb : Hid (Mk Try.prog 27 #[.int .u32 x] (.int .i64 (fieldI v 24 20 : Nat))))
    (ciI : Hid (Mk Try.prog 34 #[.int .u32 x] (.int .u64 ((immP v psI 12).toNat : Int)))) (w : World) :
    Calls Try.prog 40 #[.int .u32 x] w fun e w' => e = .returned (.agg (insC (decW v))) ∧ Below w.heap.size w w' := by
  replace l3 := Lib.hid l3
  replace h := Lib.hid h
  replace k := Lib.hid k
  go_enter Try.func40, Try.ntmps40
  go_wp2_with fail
  go_step3
  go_wp2_with fail
  refine (c3.out _).mono ?_
  rintro e w1 ⟨rfl, hb1⟩
  go_wp2_with fail
  refine (cd.out _).mono ?_
  rintro e w2 ⟨rfl, hb2⟩
  go_wp2_with fail
  refine (ca.out _).mono ?_
  rintro e w3 ⟨rfl, hb3⟩
  go_wp2_with fail
  refine (cb.out _).mono ?_
  rintro e w4 ⟨rfl, hb4⟩
  go_wp2_with fail
  go_step3
  go_wp2_with fail
  refine (cO.out _).mono ?_
  rintro e w5 ⟨rfl, hb5⟩
  have B2 := hb1.trans (hb2.mono hb1.size)
  have B3 := B2.trans (hb3.mono B2.size)
  have B4 := B3.trans (hb4.mono B3.size)
  have B5 := B4.trans (hb5.mono B4.size)
  clear hb1 hb2 hb3 hb4 B2 B3 B4 c3 cd ca cb cO
  obtain ⟨r0, r1, BB⟩ := two_new B5
  clear B5 hb5
  replace r0 := Lib.hid r0
  replace r1 := Lib.hid r1
  replace BB := Lib.hid BB
  replace h := h.out
  replace k := k.out
  replace l3 := l3.out
  have e := eO.out
  rw [h] at e
  simp at e
  subst e
  clear l3
  have e := e3.out
  rw [k] at e
  simp at e
  subst e
  have hr := Lib.hid (show decW v = ⟨6, 0, (fieldI v 11 7 : Nat), (fieldI v 19 15 : Nat), 0, immP v psI 12, sz (2 % 4), decide (2 < 4), false, false, 0⟩ from by unfold decW; rw [if_neg (by omega), if_neg (by omega), if_neg (by omega), if_neg (by omega), if_neg (by omega), if_pos h, if_pos (by omega), k])
  go_wp2_with fail
  go_region_with (go_at_call 34; refine (ciI.out _).mono ?_; rintro e w6 ⟨rfl, hb6⟩; obtain ⟨q0, qc, qf⟩ := row_drew r0.out hb6)
  have B6 := Lib.hid ((BB.out.drew).trans (hb6.mono (by have := BB.out.size; simpa using this)))
  clear hb6
  go_wp2_with fail
  rw [Exit.noGoto_ret]
  refine ret_ins (cs := insC ⟨6, 0, (fieldI v 11 7 : Nat), (fieldI v 19 15 : Nat), 0, immP v psI 12, sz (2 % 4), decide (2 < 4), false, false, 0⟩) rfl rfl (by simp only [rowI_setCell, if_true, q0, Option.map_some]; rfl) rfl rfl ⟨by rw [hr.out], ?_⟩
  repeat (refine below_setCell ?_ _ _ _ (Nat.le_refl _))
  exact B6.out
set_option maxHeartbeats 40000000 in
theorem decode_3_3 (v : BitVec 32) (x gO g3 : Int) (h : fieldI v 6 0 = 3) (k : fieldI v 14 12 = 3) (eO : Hid (gO = (fieldI v 6 0 : Nat))) (e3 : Hid (g3 = (fieldI v 14 12 : Nat))) (l3 : fieldI v 14 12 < 8)
    (cO : Hid (Mk Try.prog 23 #[.int .u32 x] (.int .i64 gO))) (c3 : Hid (Mk Try.prog 25 #[.int .u32 x] (.int .i64 g3))) (cd : Hid (Mk Try.prog 24 #[.int .u32 x] (.int .i64 (fieldI v 11 7 : Nat)))) (ca : Hid (Mk Try.prog 26 #[.int .u32 x] (.int .i64 (fieldI v 19 15 : Nat)))) (cb : Hid (Mk Try.prog 27 #[.int .u32 x] (.int .i64 (fieldI v 24 20 : Nat))))
    (ciI : Hid (Mk Try.prog 34 #[.int .u32 x] (.int .u64 ((immP v psI 12).toNat : Int)))) (w : World) :
    Calls Try.prog 40 #[.int .u32 x] w fun e w' => e = .returned (.agg (insC (decW v))) ∧ Below w.heap.size w w' := by
  replace l3 := Lib.hid l3
  replace h := Lib.hid h
  replace k := Lib.hid k
  go_enter Try.func40, Try.ntmps40
  go_wp2_with fail
  go_step3
  go_wp2_with fail
  refine (c3.out _).mono ?_
  rintro e w1 ⟨rfl, hb1⟩
  go_wp2_with fail
  refine (cd.out _).mono ?_
  rintro e w2 ⟨rfl, hb2⟩
  go_wp2_with fail
  refine (ca.out _).mono ?_
  rintro e w3 ⟨rfl, hb3⟩
  go_wp2_with fail
  refine (cb.out _).mono ?_
  rintro e w4 ⟨rfl, hb4⟩
  go_wp2_with fail
  go_step3
  go_wp2_with fail
  refine (cO.out _).mono ?_
  rintro e w5 ⟨rfl, hb5⟩
  have B2 := hb1.trans (hb2.mono hb1.size)
  have B3 := B2.trans (hb3.mono B2.size)
  have B4 := B3.trans (hb4.mono B3.size)
  have B5 := B4.trans (hb5.mono B4.size)
  clear hb1 hb2 hb3 hb4 B2 B3 B4 c3 cd ca cb cO
  obtain ⟨r0, r1, BB⟩ := two_new B5
  clear B5 hb5
  replace r0 := Lib.hid r0
  replace r1 := Lib.hid r1
  replace BB := Lib.hid BB
  replace h := h.out
  replace k := k.out
  replace l3 := l3.out
  have e := eO.out
  rw [h] at e
  simp at e
  subst e
  clear l3
  have e := e3.out
  rw [k] at e
  simp at e
  subst e
  have hr := Lib.hid (show decW v = ⟨6, 0, (fieldI v 11 7 : Nat), (fieldI v 19 15 : Nat), 0, immP v psI 12, sz (3 % 4), decide (3 < 4), false, false, 0⟩ from by unfold decW; rw [if_neg (by omega), if_neg (by omega), if_neg (by omega), if_neg (by omega), if_neg (by omega), if_pos h, if_pos (by omega), k])
  go_wp2_with fail
  go_region_with (go_at_call 34; refine (ciI.out _).mono ?_; rintro e w6 ⟨rfl, hb6⟩; obtain ⟨q0, qc, qf⟩ := row_drew r0.out hb6)
  have B6 := Lib.hid ((BB.out.drew).trans (hb6.mono (by have := BB.out.size; simpa using this)))
  clear hb6
  go_wp2_with fail
  rw [Exit.noGoto_ret]
  refine ret_ins (cs := insC ⟨6, 0, (fieldI v 11 7 : Nat), (fieldI v 19 15 : Nat), 0, immP v psI 12, sz (3 % 4), decide (3 < 4), false, false, 0⟩) rfl rfl (by simp only [rowI_setCell, if_true, q0, Option.map_some]; rfl) rfl rfl ⟨by rw [hr.out], ?_⟩
  repeat (refine below_setCell ?_ _ _ _ (Nat.le_refl _))
  exact B6.out
end
section
open Go.RowKit Wd
set_option linter.unusedVariables false
set_option linter.unusedSimpArgs false
attribute [local go_sem] loadI_lit storeI_lit rowI_alloc rowI_drew rowI_setRow rowI_setCell setRow_allocI and_L
attribute [local go_sem ↓] loadI_run storeI_run'
set_option maxRecDepth 8000
attribute [local go_sem] loadI_ins storeI_ins
set_option maxHeartbeats 40000000 in
theorem decode_3_4 (v : BitVec 32) (x gO g3 : Int) (h : fieldI v 6 0 = 3) (k : fieldI v 14 12 = 4) (eO : Hid (gO = (fieldI v 6 0 : Nat))) (e3 : Hid (g3 = (fieldI v 14 12 : Nat))) (l3 : fieldI v 14 12 < 8)
    (cO : Hid (Mk Try.prog 23 #[.int .u32 x] (.int .i64 gO))) (c3 : Hid (Mk Try.prog 25 #[.int .u32 x] (.int .i64 g3))) (cd : Hid (Mk Try.prog 24 #[.int .u32 x] (.int .i64 (fieldI v 11 7 : Nat)))) (ca : Hid (Mk Try.prog 26 #[.int .u32 x] (.int .i64 (fieldI v 19 15 : Nat)))) (cb : Hid (Mk Try.prog 27 #[.int .u32 x] (.int .i64 (fieldI v 24 20 : Nat))))
    (ciI : Hid (Mk Try.prog 34 #[.int .u32 x] (.int .u64 ((immP v psI 12).toNat : Int)))) (w : World) :
    Calls Try.prog 40 #[.int .u32 x] w fun e w' => e = .returned (.agg (insC (decW v))) ∧ Below w.heap.size w w' := by
  replace l3 := Lib.hid l3
  replace h := Lib.hid h
  replace k := Lib.hid k
  go_enter Try.func40, Try.ntmps40
  go_wp2_with fail
  go_step3
  go_wp2_with fail
  refine (c3.out _).mono ?_
  rintro e w1 ⟨rfl, hb1⟩
  go_wp2_with fail
  refine (cd.out _).mono ?_
  rintro e w2 ⟨rfl, hb2⟩
  go_wp2_with fail
  refine (ca.out _).mono ?_
  rintro e w3 ⟨rfl, hb3⟩
  go_wp2_with fail
  refine (cb.out _).mono ?_
  rintro e w4 ⟨rfl, hb4⟩
  go_wp2_with fail
  go_step3
  go_wp2_with fail
  refine (cO.out _).mono ?_
  rintro e w5 ⟨rfl, hb5⟩
  have B2 := hb1.trans (hb2.mono hb1.size)
  have B3 := B2.trans (hb3.mono B2.size)
  have B4 := B3.trans (hb4.mono B3.size)
  have B5 := B4.trans (hb5.mono B4.size)
  clear hb1 hb2 hb3 hb4 B2 B3 B4 c3 cd ca cb cO
  obtain ⟨r0, r1, BB⟩ := two_new B5
  clear B5 hb5
  replace r0 := Lib.hid r0
  replace r1 := Lib.hid r1
  replace BB := Lib.hid BB
  replace h := h.out
  replace k := k.out
  replace l3 := l3.out
  have e := eO.out
  rw [h] at e
  simp at e
  subst e
  clear l3
  have e := e3.out
  rw [k] at e
  simp at e
  subst e
  have hr := Lib.hid (show decW v = ⟨6, 0, (fieldI v 11 7 : Nat), (fieldI v 19 15 : Nat), 0, immP v psI 12, sz (4 % 4), decide (4 < 4), false, false, 0⟩ from by unfold decW; rw [if_neg (by omega), if_neg (by omega), if_neg (by omega), if_neg (by omega), if_neg (by omega), if_pos h, if_pos (by omega), k])
  go_wp2_with fail
  go_region_with (go_at_call 34; refine (ciI.out _).mono ?_; rintro e w6 ⟨rfl, hb6⟩; obtain ⟨q0, qc, qf⟩ := row_drew r0.out hb6)
  have B6 := Lib.hid ((BB.out.drew).trans (hb6.mono (by have := BB.out.size; simpa using this)))
  clear hb6
  go_wp2_with fail
  rw [Exit.noGoto_ret]
  refine ret_ins (cs := insC ⟨6, 0, (fieldI v 11 7 : Nat), (fieldI v 19 15 : Nat), 0, immP v psI 12, sz (4 % 4), decide (4 < 4), false, false, 0⟩) rfl rfl (by simp only [rowI_setCell, if_true, q0, Option.map_some]; rfl) rfl rfl ⟨by rw [hr.out], ?_⟩
  repeat (refine below_setCell ?_ _ _ _ (Nat.le_refl _))
  exact B6.out
set_option maxHeartbeats 40000000 in
theorem decode_3_5 (v : BitVec 32) (x gO g3 : Int) (h : fieldI v 6 0 = 3) (k : fieldI v 14 12 = 5) (eO : Hid (gO = (fieldI v 6 0 : Nat))) (e3 : Hid (g3 = (fieldI v 14 12 : Nat))) (l3 : fieldI v 14 12 < 8)
    (cO : Hid (Mk Try.prog 23 #[.int .u32 x] (.int .i64 gO))) (c3 : Hid (Mk Try.prog 25 #[.int .u32 x] (.int .i64 g3))) (cd : Hid (Mk Try.prog 24 #[.int .u32 x] (.int .i64 (fieldI v 11 7 : Nat)))) (ca : Hid (Mk Try.prog 26 #[.int .u32 x] (.int .i64 (fieldI v 19 15 : Nat)))) (cb : Hid (Mk Try.prog 27 #[.int .u32 x] (.int .i64 (fieldI v 24 20 : Nat))))
    (ciI : Hid (Mk Try.prog 34 #[.int .u32 x] (.int .u64 ((immP v psI 12).toNat : Int)))) (w : World) :
    Calls Try.prog 40 #[.int .u32 x] w fun e w' => e = .returned (.agg (insC (decW v))) ∧ Below w.heap.size w w' := by
  replace l3 := Lib.hid l3
  replace h := Lib.hid h
  replace k := Lib.hid k
  go_enter Try.func40, Try.ntmps40
  go_wp2_with fail
  go_step3
  go_wp2_with fail
  refine (c3.out _).mono ?_
  rintro e w1 ⟨rfl, hb1⟩
  go_wp2_with fail
  refine (cd.out _).mono ?_
  rintro e w2 ⟨rfl, hb2⟩
  go_wp2_with fail
  refine (ca.out _).mono ?_
  rintro e w3 ⟨rfl, hb3⟩
  go_wp2_with fail
  refine (cb.out _).mono ?_
  rintro e w4 ⟨rfl, hb4⟩
  go_wp2_with fail
  go_step3
  go_wp2_with fail
  refine (cO.out _).mono ?_
  rintro e w5 ⟨rfl, hb5⟩
  have B2 := hb1.trans (hb2.mono hb1.size)
  have B3 := B2.trans (hb3.mono B2.size)
  have B4 := B3.trans (hb4.mono B3.size)
  have B5 := B4.trans (hb5.mono B4.size)
  clear hb1 hb2 hb3 hb4 B2 B3 B4 c3 cd ca cb cO
  obtain ⟨r0, r1, BB⟩ := two_new B5
  clear B5 hb5
  replace r0 := Lib.hid r0
  replace r1 := Lib.hid r1
  replace BB := Lib.hid BB
  replace h := h.out
  replace k := k.out
  replace l3 := l3.out
  have e := eO.out
  rw [h] at e
  simp at e
  subst e
  clear l3
  have e := e3.out
  rw [k] at e
  simp at e
  subst e
  have hr := Lib.hid (show decW v = ⟨6, 0, (fieldI v 11 7 : Nat), (fieldI v 19 15 : Nat), 0, immP v psI 12, sz (5 % 4), decide (5 < 4), false, false, 0⟩ from by unfold decW; rw [if_neg (by omega), if_neg (by omega), if_neg (by omega), if_neg (by omega), if_neg (by omega), if_pos h, if_pos (by omega), k])
  go_wp2_with fail
  go_region_with (go_at_call 34; refine (ciI.out _).mono ?_; rintro e w6 ⟨rfl, hb6⟩; obtain ⟨q0, qc, qf⟩ := row_drew r0.out hb6)
  have B6 := Lib.hid ((BB.out.drew).trans (hb6.mono (by have := BB.out.size; simpa using this)))
  clear hb6
  go_wp2_with fail
  rw [Exit.noGoto_ret]
  refine ret_ins (cs := insC ⟨6, 0, (fieldI v 11 7 : Nat), (fieldI v 19 15 : Nat), 0, immP v psI 12, sz (5 % 4), decide (5 < 4), false, false, 0⟩) rfl rfl (by simp only [rowI_setCell, if_true, q0, Option.map_some]; rfl) rfl rfl ⟨by rw [hr.out], ?_⟩
  repeat (refine below_setCell ?_ _ _ _ (Nat.le_refl _))
  exact B6.out
end
section
open Go.RowKit Wd
set_option linter.unusedVariables false
set_option linter.unusedSimpArgs false
attribute [local go_sem] loadI_lit storeI_lit rowI_alloc rowI_drew rowI_setRow rowI_setCell setRow_allocI and_L
attribute [local go_sem ↓] loadI_run storeI_run'
set_option maxRecDepth 8000
attribute [local go_sem] loadI_ins storeI_ins
set_option maxHeartbeats 40000000 in
theorem decode_3_6 (v : BitVec 32) (x gO g3 : Int) (h : fieldI v 6 0 = 3) (k : fieldI v 14 12 = 6) (eO : Hid (gO = (fieldI v 6 0 : Nat))) (e3 : Hid (g3 = (fieldI v 14 12 : Nat))) (l3 : fieldI v 14 12 < 8)
    (cO : Hid (Mk Try.prog 23 #[.int .u32 x] (.int .i64 gO))) (c3 : Hid (Mk Try.prog 25 #[.int .u32 x] (.int .i64 g3))) (cd : Hid (Mk Try.prog 24 #[.int .u32 x] (.int .i64 (fieldI v 11 7 : Nat)))) (ca : Hid (Mk Try.prog 26 #[.int .u32 x] (.int .i64 (fieldI v 19 15 : Nat)))) (cb : Hid (Mk Try.prog 27 #[.int .u32 x] (.int .i64 (fieldI v 24 20 : Nat))))
    (ciI : Hid (Mk Try.prog 34 #[.int .u32 x] (.int .u64 ((immP v psI 12).toNat : Int)))) (w : World) :
    Calls Try.prog 40 #[.int .u32 x] w fun e w' => e = .returned (.agg (insC (decW v))) ∧ Below w.heap.size w w' := by
  replace l3 := Lib.hid l3
  replace h := Lib.hid h
  replace k := Lib.hid k
  go_enter Try.func40, Try.ntmps40
  go_wp2_with fail
  go_step3
  go_wp2_with fail
  refine (c3.out _).mono ?_
  rintro e w1 ⟨rfl, hb1⟩
  go_wp2_with fail
  refine (cd.out _).mono ?_
  rintro e w2 ⟨rfl, hb2⟩
  go_wp2_with fail
  refine (ca.out _).mono ?_
  rintro e w3 ⟨rfl, hb3⟩
  go_wp2_with fail
  refine (cb.out _).mono ?_
  rintro e w4 ⟨rfl, hb4⟩
  go_wp2_with fail
  go_step3
  go_wp2_with fail
  refine (cO.out _).mono ?_
  rintro e w5 ⟨rfl, hb5⟩
  have B2 := hb1.trans (hb2.mono hb1.size)
  have B3 := B2.trans (hb3.mono B2.size)
  have B4 := B3.trans (hb4.mono B3.size)
  have B5 := B4.trans (hb5.mono B4.size)
  clear hb1 hb2 hb3 hb4 B2 B3 B4 c3 cd ca cb cO
  obtain ⟨r0, r1, BB⟩ := two_new B5
  clear B5 hb5
  replace r0 := Lib.hid r0
  replace r1 := Lib.hid r1
  replace BB := Lib.hid BB
  replace h := h.out
  replace k := k.out
  replace l3 := l3.out
  have e := eO.out
  rw [h] at e
  simp at e
  subst e
  clear l3
  have e := e3.out
  rw [k] at e
  simp at e
  subst e
  have hr := Lib.hid (show decW v = ⟨6, 0, (fieldI v 11 7 : Nat), (fieldI v 19 15 : Nat), 0, immP v psI 12, sz (6 % 4), decide (6 < 4), false, false, 0⟩ from by unfold decW; rw [if_neg (by omega), if_neg (by omega), if_neg (by omega), if_neg (by omega), if_neg (by omega), if_pos h, if_pos (by omega), k])
  go_wp2_with fail
  go_region_with (go_at_call 34; refine (ciI.out _).mono ?_; rintro e w6 ⟨rfl, hb6⟩; obtain ⟨q0, qc, qf⟩ := row_drew r0.out hb6)
  have B6 := Lib.hid ((BB.out.drew).trans (hb6.mono (by have := BB.out.size; simpa using this)))
  clear hb6
  go_wp2_with fail
  rw [Exit.noGoto_ret]
  refine ret_ins (cs := insC ⟨6, 0, (fieldI v 11 7 : Nat), (fieldI v 19 15 : Nat), 0, immP v psI 12, sz (6 % 4), decide (6 < 4), false, false, 0⟩) rfl rfl (by simp only [rowI_setCell, if_true, q0, Option.map_some]; rfl) rfl rfl ⟨by rw [hr.out], ?_⟩
  repeat (refine below_setCell ?_ _ _ _ (Nat.le_refl _))
  exact B6.out
set_option maxHeartbeats 40000000 in
theorem decode_3_7 (v : BitVec 32) (x gO g3 : Int) (h : fieldI v 6 0 = 3) (k : fieldI v 14 12 = 7) (eO : Hid (gO = (fieldI v 6 0 : Nat))) (e3 : Hid (g3 = (fieldI v 14 12 : Nat))) (l3 : fieldI v 14 12 < 8)
    (cO : Hid (Mk Try.prog 23 #[.int .u32 x] (.int .i64 gO))) (c3 : Hid (Mk Try.prog 25 #[.int .u32 x] (.int .i64 g3))) (cd : Hid (Mk Try.prog 24 #[.int .u32 x] (.int .i64 (fieldI v 11 7 : Nat)))) (ca : Hid (Mk Try.prog 26 #[.int .u32 x] (.int .i64 (fieldI v 19 15 : Nat)))) (cb : Hid (Mk Try.prog 27 #[.int .u32 x] (.int .i64 (fieldI v 24 20 : Nat))))
    (ciI : Hid (Mk Try.prog 34 #[.int .u32 x] (.int .u64 ((immP v psI 12).toNat : Int)))) (w : World) :
    Calls Try.prog 40 #[.int .u32 x] w fun e w' => e = .returned (.agg (insC (decW v))) ∧ Below w.heap.size w w' := by
  replace l3 := Lib.hid l3
  replace h := Lib.hid h
  replace k := Lib.hid k
  go_enter Try.func40, Try.ntmps40
  go_wp2_with fail
  go_step3
  go_wp2_with fail
  refine (c3.out _).mono ?_
  rintro e w1 ⟨rfl, hb1⟩
  go_wp2_with fail
  refine (cd.out _).mono ?_
  rintro e w2 ⟨rfl, hb2⟩
  go_wp2_with fail
  refine (ca.out _).mono ?_
  rintro e w3 ⟨rfl, hb3⟩
  go_wp2_with fail
  refine (cb.out _).mono ?_
  rintro e w4 ⟨rfl, hb4⟩
  go_wp2_with fail
  go_step3
  go_wp2_with fail
  refine (cO.out _).mono ?_
  rintro e w5 ⟨rfl, hb5⟩
  have B2 := hb1.trans (hb2.mono hb1.size)
  have B3 := B2.trans (hb3.mono B2.size)
  have B4 := B3.trans (hb4.mono B3.size)
  have B5 := B4.trans (hb5.mono B4.size)
  clear hb1 hb2 hb3 hb4 B2 B3 B4 c3 cd ca cb cO
  obtain ⟨r0, r1, BB⟩ := two_new B5
  clear B5 hb5
  replace r0 := Lib.hid r0
  replace r1 := Lib.hid r1
  replace BB := Lib.hid BB
  replace h := h.out
  replace k := k.out
  replace l3 := l3.out
  have e := eO.out
  rw [h] at e
  simp at e
  subst e
  clear l3
  have e := e3.out
  rw [k] at e
  simp at e
  subst e
  have hr := Lib.hid (show decW v = noI from by unfold decW; rw [if_neg (by omega), if_neg (by omega), if_neg (by omega), if_neg (by omega), if_neg (by omega), if_pos h, if_neg (by omega)])
  have q0 := r0.out
  have q1 := r1.out
  go_wp2_with (refine st_ins rfl _ _ rfl w.heap.size rfl _ q0 rfl _ rfl rfl (by simp [insC, Value.oneCell']) ?_; intro W2 hW hS)
  rw [Exit.noGoto_ret]
  exact ret_ins rfl rfl hW rfl rfl ⟨by rw [hr.out]; rfl, hS _ _ (Nat.le_refl _) (BB.out)⟩
end
end Go.Proofs.Ytnhbekgmameeaaa
