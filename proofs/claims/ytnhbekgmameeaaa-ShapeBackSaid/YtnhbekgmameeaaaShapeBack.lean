/- The law ShapeBack, walked: what is laid out is read again; each call answers true. -/
import Derived.Test.YtnhbekgmameeaaaShapeLaws
import Derived.Test.YtnhbekgmameeaaaShapeBackPlain
import Derived.Test.YtnhbekgmameeaaaFastLex
import Derived.Deep.RegionWith
namespace Go.Proofs.Ytnhbekgmameeaaa
open Go.RowKit Wd Go.BigFrame
set_option linter.unusedVariables false
set_option linter.unusedSimpArgs false
/-- A world that has at most made new memory. -/
structure Newer (w : World) where
  is : World
  below : Below w.heap.size w is
instance (w : World) : Nonempty (Newer w) := ⟨⟨w, Below.refl _ _⟩⟩
theorem Mk.newer {P : Program} {f : FuncId} {args : Array Value} {v : Value} (h : Mk P f args v) {w : World} {b : Newer w} :
    Calls P f args b.is fun e w'' => e = .returned v ∧ ∃ b' : Newer w, w'' = b'.is :=
  (h b.is).mono fun _ w' ⟨he, k⟩ => ⟨he, ⟨w', b.below.trans (k.mono b.below.size)⟩, rfl⟩
theorem wp_region_newer {P : Program} {id : Nat} {Q : Exit → Act → World → Prop} {a : Act} {w0 w : World} {l : List Oper} (hm : P.follows .mixedOrders = true) (hB : Region.lexB .any l.toArray = true) (hw : Below w0.heap.size w0 w)
    (h : wpQuiet P l.toArray (fun w' => ∃ b : Newer w0, w' = b.is) (fun a' => ∀ w', (∃ b : Newer w0, w' = b.is) → Q .normal a' w') l a) : (Code.region id l.toArray true).wp P Q a w :=
  wp_region_quiet (C := fun w' => ∃ b : Newer w0, w' = b.is) hm hB ⟨⟨_, hw.trans (Below.refl _ _).drew⟩, rfl⟩ (by simpa using h)
theorem Box.newer {w : World} {b : Nat} {x0 x1 x2 x3 x4 x5 x6 : Value} (h : Box w b [x0, x1, x2, x3, x4, x5, x6]) :
    (∀ g : Newer w, g.is.cell? ⟨b, 0, none⟩ = some x0) ∧ (∀ g : Newer w, g.is.cell? ⟨b, 1, none⟩ = some x1) ∧ (∀ g : Newer w, g.is.cell? ⟨b, 2, none⟩ = some x2) ∧ (∀ g : Newer w, g.is.cell? ⟨b, 3, none⟩ = some x3) ∧ (∀ g : Newer w, g.is.cell? ⟨b, 4, none⟩ = some x4) ∧ (∀ g : Newer w, g.is.cell? ⟨b, 5, none⟩ = some x5) ∧ (∀ g : Newer w, g.is.cell? ⟨b, 6, none⟩ = some x6) :=
  ⟨fun g => (h.below g.below).get rfl, fun g => (h.below g.below).get rfl, fun g => (h.below g.below).get rfl, fun g => (h.below g.below).get rfl, fun g => (h.below g.below).get rfl, fun g => (h.below g.below).get rfl, fun g => (h.below g.below).get rfl⟩
/-- What the decoders answer, where an encoding holds. -/
structure Decs (op rd f3 rs1 rs2 f7 imm : Int) (vR vI vS vB vU vJ : BitVec 32) (xR xI xS xB xU xJ : Int) : Prop where
  kROpcode : xR = 0 → Mk Try.prog 23 #[.int .u32 (vR.toNat : Int)] (.int .i64 op)
  kRRd : xR = 0 → Mk Try.prog 24 #[.int .u32 (vR.toNat : Int)] (.int .i64 rd)
  kRFunct3 : xR = 0 → Mk Try.prog 25 #[.int .u32 (vR.toNat : Int)] (.int .i64 f3)
  kRRs1 : xR = 0 → Mk Try.prog 26 #[.int .u32 (vR.toNat : Int)] (.int .i64 rs1)
  kRRs2 : xR = 0 → Mk Try.prog 27 #[.int .u32 (vR.toNat : Int)] (.int .i64 rs2)
  kRFunct7 : xR = 0 → Mk Try.prog 28 #[.int .u32 (vR.toNat : Int)] (.int .i64 f7)
  kIImmI : xI = 0 → Mk Try.prog 34 #[.int .u32 (vI.toNat : Int)] (.int .u64 (IntKind.u64.wrap imm))
  kIRd : xI = 0 → Mk Try.prog 24 #[.int .u32 (vI.toNat : Int)] (.int .i64 rd)
  kIRs1 : xI = 0 → Mk Try.prog 26 #[.int .u32 (vI.toNat : Int)] (.int .i64 rs1)
  kSImmS : xS = 0 → Mk Try.prog 35 #[.int .u32 (vS.toNat : Int)] (.int .u64 (IntKind.u64.wrap imm))
  kSRs2 : xS = 0 → Mk Try.prog 27 #[.int .u32 (vS.toNat : Int)] (.int .i64 rs2)
  kBImmB : xB = 0 → Mk Try.prog 36 #[.int .u32 (vB.toNat : Int)] (.int .u64 (IntKind.u64.wrap imm))
  kBFunct3 : xB = 0 → Mk Try.prog 25 #[.int .u32 (vB.toNat : Int)] (.int .i64 f3)
  kUImmU : xU = 0 → Mk Try.prog 37 #[.int .u32 (vU.toNat : Int)] (.int .u64 (IntKind.u64.wrap imm))
  kUOpcode : xU = 0 → Mk Try.prog 23 #[.int .u32 (vU.toNat : Int)] (.int .i64 op)
  kJImmJ : xJ = 0 → Mk Try.prog 38 #[.int .u32 (vJ.toNat : Int)] (.int .u64 (IntKind.u64.wrap imm))
  kJRd : xJ = 0 → Mk Try.prog 24 #[.int .u32 (vJ.toNat : Int)] (.int .i64 rd)
set_option maxRecDepth 20000 in
set_option maxHeartbeats 20000000 in
theorem back_no (op rd f3 rs1 rs2 f7 imm : Int) (vR vI vS vB vU vJ : BitVec 32) (xR xI xS xB xU xJ : Int) (w : World)
    (hR : Hid (encR op rd f3 rs1 rs2 f7 = (vR, xR))) (hI : Hid (encI op rd f3 rs1 imm = (vI, xI))) (hS : Hid (encS op f3 rs1 rs2 imm = (vS, xS))) (hB : Hid (encB op f3 rs1 rs2 imm = (vB, xB))) (hU : Hid (encU op rd imm = (vU, xU))) (hJ : Hid (encJ op rd imm = (vJ, xJ)))
    (D : Hid (Decs op rd f3 rs1 rs2 f7 imm vR vI vS vB vU vJ xR xI xS xB xU xJ))
    (hx : ¬ xR = 0) :
    Calls Try.prog 4 #[.agg #[.int .i64 op, .int .i64 rd, .int .i64 f3, .int .i64 rs1, .int .i64 rs2, .int .i64 f7, .int .i64 imm]] w fun e w' => e = .returned (.bool true) ∧ Below w.heap.size w w' := by
  have nR : (xR == 0) = false := by simpa using hx
  have mR : (xR != 0) = true := by simpa using hx
  have hb := Below.refl (w.alloc (.cells #[.int .i64 op, .int .i64 rd, .int .i64 f3, .int .i64 rs1, .int .i64 rs2, .int .i64 f7, .int .i64 imm] 33)).heap.size (w.alloc (.cells #[.int .i64 op, .int .i64 rd, .int .i64 f3, .int .i64 rs1, .int .i64 rs2, .int .i64 f7, .int .i64 imm] 33))
  have B := Lib.hid (Box.new w [.int .i64 op, .int .i64 rd, .int .i64 f3, .int .i64 rs1, .int .i64 rs2, .int .i64 f7, .int .i64 imm] 33)
  obtain ⟨c0, c1, c2, c3, c4, c5, c6⟩ := B.out.seven
  obtain ⟨d0, d1, d2, d3, d4, d5, d6⟩ := B.out.newer
  go_enter Try.func4, Try.ntmps4
  go_wp2_with (first
      | (go_at_call 21; refine ((sR_any _ _ _ _ _ _).at hb).mono ?_; clear hb c0 c1 c2 c3 c4 c5 c6; rintro e w1 ⟨rfl, hb⟩; obtain ⟨c0, c1, c2, c3, c4, c5, c6⟩ := (B.out.below hb).seven; rw [hR.out]; unfold encV)
      | (go_at_call 29; refine ((sI_any _ _ _ _ _).at hb).mono ?_; clear hb c0 c1 c2 c3 c4 c5 c6; rintro e w1 ⟨rfl, hb⟩; obtain ⟨c0, c1, c2, c3, c4, c5, c6⟩ := (B.out.below hb).seven; rw [hI.out]; unfold encV)
      | (go_at_call 30; refine ((sS_any _ _ _ _ _).at hb).mono ?_; clear hb c0 c1 c2 c3 c4 c5 c6; rintro e w1 ⟨rfl, hb⟩; obtain ⟨c0, c1, c2, c3, c4, c5, c6⟩ := (B.out.below hb).seven; rw [hS.out]; unfold encV)
      | (go_at_call 31; refine ((sB_any _ _ _ _ _).at hb).mono ?_; clear hb c0 c1 c2 c3 c4 c5 c6; rintro e w1 ⟨rfl, hb⟩; obtain ⟨c0, c1, c2, c3, c4, c5, c6⟩ := (B.out.below hb).seven; rw [hB.out]; unfold encV)
      | (go_at_call 32; refine ((sU_any _ _ _).at hb).mono ?_; clear hb c0 c1 c2 c3 c4 c5 c6; rintro e w1 ⟨rfl, hb⟩; obtain ⟨c0, c1, c2, c3, c4, c5, c6⟩ := (B.out.below hb).seven; rw [hU.out]; unfold encV)
      | (go_at_call 33; refine ((sJ_any _ _ _).at hb).mono ?_; clear hb c0 c1 c2 c3 c4 c5 c6; rintro e w1 ⟨rfl, hb⟩; obtain ⟨c0, c1, c2, c3, c4, c5, c6⟩ := (B.out.below hb).seven; rw [hJ.out]; unfold encV))
  refine wp_region_newer (by kernel_rfl) (lexB_of_fast _ (by kernel_rfl)) hb ?_
  repeat (first | go_big_quiet_step (first | (go_at_call 22; exact (awake_any).newer)) | (refine skip_same rfl (by kernel_rfl) (by kernel_rfl) ?_))
  refine wpQuiet_nil ?_
  rintro w1 ⟨b1, rfl⟩
  clear hb c0 c1 c2 c3 c4 c5 c6
  have hb := b1.below
  obtain ⟨c0, c1, c2, c3, c4, c5, c6⟩ := (B.out.below hb).seven
  go_wp2_with (first
      | (go_at_call 21; refine ((sR_any _ _ _ _ _ _).at hb).mono ?_; clear hb c0 c1 c2 c3 c4 c5 c6; rintro e w1 ⟨rfl, hb⟩; obtain ⟨c0, c1, c2, c3, c4, c5, c6⟩ := (B.out.below hb).seven; rw [hR.out]; unfold encV)
      | (go_at_call 29; refine ((sI_any _ _ _ _ _).at hb).mono ?_; clear hb c0 c1 c2 c3 c4 c5 c6; rintro e w1 ⟨rfl, hb⟩; obtain ⟨c0, c1, c2, c3, c4, c5, c6⟩ := (B.out.below hb).seven; rw [hI.out]; unfold encV)
      | (go_at_call 30; refine ((sS_any _ _ _ _ _).at hb).mono ?_; clear hb c0 c1 c2 c3 c4 c5 c6; rintro e w1 ⟨rfl, hb⟩; obtain ⟨c0, c1, c2, c3, c4, c5, c6⟩ := (B.out.below hb).seven; rw [hS.out]; unfold encV)
      | (go_at_call 31; refine ((sB_any _ _ _ _ _).at hb).mono ?_; clear hb c0 c1 c2 c3 c4 c5 c6; rintro e w1 ⟨rfl, hb⟩; obtain ⟨c0, c1, c2, c3, c4, c5, c6⟩ := (B.out.below hb).seven; rw [hB.out]; unfold encV)
      | (go_at_call 32; refine ((sU_any _ _ _).at hb).mono ?_; clear hb c0 c1 c2 c3 c4 c5 c6; rintro e w1 ⟨rfl, hb⟩; obtain ⟨c0, c1, c2, c3, c4, c5, c6⟩ := (B.out.below hb).seven; rw [hU.out]; unfold encV)
      | (go_at_call 33; refine ((sJ_any _ _ _).at hb).mono ?_; clear hb c0 c1 c2 c3 c4 c5 c6; rintro e w1 ⟨rfl, hb⟩; obtain ⟨c0, c1, c2, c3, c4, c5, c6⟩ := (B.out.below hb).seven; rw [hJ.out]; unfold encV))
  refine wp_region_newer (by kernel_rfl) (lexB_of_fast _ (by kernel_rfl)) hb ?_
  simp only [List.append_eq, List.cons_append, List.nil_append]
  rcases Decidable.em (xI = 0) with gI | gI
  · subst gI
    iterate 23 (first | go_big_quiet_step (first | (go_at_call 22; exact (awake_any).newer) | (go_at_call_of 34 vI; exact (D.out.kIImmI rfl).newer) | (go_at_call_of 24 vI; exact (D.out.kIRd rfl).newer) | (go_at_call_of 26 vI; exact (D.out.kIRs1 rfl).newer)) | (refine skip_same rfl (by kernel_rfl) (by kernel_rfl) ?_))
    rcases Decidable.em (xS = 0) with gS | gS
    · subst gS
      iterate 17 (first | go_big_quiet_step (first | (go_at_call 22; exact (awake_any).newer) | (go_at_call_of 34 vI; exact (D.out.kIImmI rfl).newer) | (go_at_call_of 24 vI; exact (D.out.kIRd rfl).newer) | (go_at_call_of 26 vI; exact (D.out.kIRs1 rfl).newer) | (go_at_call_of 35 vS; exact (D.out.kSImmS rfl).newer) | (go_at_call_of 27 vS; exact (D.out.kSRs2 rfl).newer)) | (refine skip_same rfl (by kernel_rfl) (by kernel_rfl) ?_))
      rcases Decidable.em (xB = 0) with gB | gB
      · subst gB
        iterate 17 (first | go_big_quiet_step (first | (go_at_call 22; exact (awake_any).newer) | (go_at_call_of 34 vI; exact (D.out.kIImmI rfl).newer) | (go_at_call_of 24 vI; exact (D.out.kIRd rfl).newer) | (go_at_call_of 26 vI; exact (D.out.kIRs1 rfl).newer) | (go_at_call_of 35 vS; exact (D.out.kSImmS rfl).newer) | (go_at_call_of 27 vS; exact (D.out.kSRs2 rfl).newer) | (go_at_call_of 36 vB; exact (D.out.kBImmB rfl).newer) | (go_at_call_of 25 vB; exact (D.out.kBFunct3 rfl).newer)) | (refine skip_same rfl (by kernel_rfl) (by kernel_rfl) ?_))
        rcases Decidable.em (xU = 0) with gU | gU
        · subst gU
          iterate 17 (first | go_big_quiet_step (first | (go_at_call 22; exact (awake_any).newer) | (go_at_call_of 34 vI; exact (D.out.kIImmI rfl).newer) | (go_at_call_of 24 vI; exact (D.out.kIRd rfl).newer) | (go_at_call_of 26 vI; exact (D.out.kIRs1 rfl).newer) | (go_at_call_of 35 vS; exact (D.out.kSImmS rfl).newer) | (go_at_call_of 27 vS; exact (D.out.kSRs2 rfl).newer) | (go_at_call_of 36 vB; exact (D.out.kBImmB rfl).newer) | (go_at_call_of 25 vB; exact (D.out.kBFunct3 rfl).newer) | (go_at_call_of 37 vU; exact (D.out.kUImmU rfl).newer) | (go_at_call_of 23 vU; exact (D.out.kUOpcode rfl).newer)) | (refine skip_same rfl (by kernel_rfl) (by kernel_rfl) ?_))
          rcases Decidable.em (xJ = 0) with gJ | gJ
          · subst gJ
            repeat (first | go_big_quiet_step (first | (go_at_call 22; exact (awake_any).newer) | (go_at_call_of 34 vI; exact (D.out.kIImmI rfl).newer) | (go_at_call_of 24 vI; exact (D.out.kIRd rfl).newer) | (go_at_call_of 26 vI; exact (D.out.kIRs1 rfl).newer) | (go_at_call_of 35 vS; exact (D.out.kSImmS rfl).newer) | (go_at_call_of 27 vS; exact (D.out.kSRs2 rfl).newer) | (go_at_call_of 36 vB; exact (D.out.kBImmB rfl).newer) | (go_at_call_of 25 vB; exact (D.out.kBFunct3 rfl).newer) | (go_at_call_of 37 vU; exact (D.out.kUImmU rfl).newer) | (go_at_call_of 23 vU; exact (D.out.kUOpcode rfl).newer) | (go_at_call_of 38 vJ; exact (D.out.kJImmJ rfl).newer) | (go_at_call_of 24 vJ; exact (D.out.kJRd rfl).newer)) | (refine skip_same rfl (by kernel_rfl) (by kernel_rfl) ?_))
            refine wpQuiet_nil ?_
            rintro w1 ⟨b1, rfl⟩
            go_wp2_with fail
            go_ret
            exact ⟨rfl, below_alloc b1.below⟩
          · have nJ : (xJ != 0) = true := by simpa using gJ
            repeat (first | go_big_quiet_step (first | (go_at_call 22; exact (awake_any).newer) | (go_at_call_of 34 vI; exact (D.out.kIImmI rfl).newer) | (go_at_call_of 24 vI; exact (D.out.kIRd rfl).newer) | (go_at_call_of 26 vI; exact (D.out.kIRs1 rfl).newer) | (go_at_call_of 35 vS; exact (D.out.kSImmS rfl).newer) | (go_at_call_of 27 vS; exact (D.out.kSRs2 rfl).newer) | (go_at_call_of 36 vB; exact (D.out.kBImmB rfl).newer) | (go_at_call_of 25 vB; exact (D.out.kBFunct3 rfl).newer) | (go_at_call_of 37 vU; exact (D.out.kUImmU rfl).newer) | (go_at_call_of 23 vU; exact (D.out.kUOpcode rfl).newer)) | (refine skip_same rfl (by kernel_rfl) (by kernel_rfl) ?_))
            refine wpQuiet_nil ?_
            rintro w1 ⟨b1, rfl⟩
            go_wp2_with fail
            go_ret
            exact ⟨rfl, below_alloc b1.below⟩
        · have nU : (xU != 0) = true := by simpa using gU
          iterate 17 (first | go_big_quiet_step (first | (go_at_call 22; exact (awake_any).newer) | (go_at_call_of 34 vI; exact (D.out.kIImmI rfl).newer) | (go_at_call_of 24 vI; exact (D.out.kIRd rfl).newer) | (go_at_call_of 26 vI; exact (D.out.kIRs1 rfl).newer) | (go_at_call_of 35 vS; exact (D.out.kSImmS rfl).newer) | (go_at_call_of 27 vS; exact (D.out.kSRs2 rfl).newer) | (go_at_call_of 36 vB; exact (D.out.kBImmB rfl).newer) | (go_at_call_of 25 vB; exact (D.out.kBFunct3 rfl).newer)) | (refine skip_same rfl (by kernel_rfl) (by kernel_rfl) ?_))
          rcases Decidable.em (xJ = 0) with gJ | gJ
          · subst gJ
            repeat (first | go_big_quiet_step (first | (go_at_call 22; exact (awake_any).newer) | (go_at_call_of 34 vI; exact (D.out.kIImmI rfl).newer) | (go_at_call_of 24 vI; exact (D.out.kIRd rfl).newer) | (go_at_call_of 26 vI; exact (D.out.kIRs1 rfl).newer) | (go_at_call_of 35 vS; exact (D.out.kSImmS rfl).newer) | (go_at_call_of 27 vS; exact (D.out.kSRs2 rfl).newer) | (go_at_call_of 36 vB; exact (D.out.kBImmB rfl).newer) | (go_at_call_of 25 vB; exact (D.out.kBFunct3 rfl).newer) | (go_at_call_of 38 vJ; exact (D.out.kJImmJ rfl).newer) | (go_at_call_of 24 vJ; exact (D.out.kJRd rfl).newer)) | (refine skip_same rfl (by kernel_rfl) (by kernel_rfl) ?_))
            refine wpQuiet_nil ?_
            rintro w1 ⟨b1, rfl⟩
            go_wp2_with fail
            go_ret
            exact ⟨rfl, below_alloc b1.below⟩
          · have nJ : (xJ != 0) = true := by simpa using gJ
            repeat (first | go_big_quiet_step (first | (go_at_call 22; exact (awake_any).newer) | (go_at_call_of 34 vI; exact (D.out.kIImmI rfl).newer) | (go_at_call_of 24 vI; exact (D.out.kIRd rfl).newer) | (go_at_call_of 26 vI; exact (D.out.kIRs1 rfl).newer) | (go_at_call_of 35 vS; exact (D.out.kSImmS rfl).newer) | (go_at_call_of 27 vS; exact (D.out.kSRs2 rfl).newer) | (go_at_call_of 36 vB; exact (D.out.kBImmB rfl).newer) | (go_at_call_of 25 vB; exact (D.out.kBFunct3 rfl).newer)) | (refine skip_same rfl (by kernel_rfl) (by kernel_rfl) ?_))
            refine wpQuiet_nil ?_
            rintro w1 ⟨b1, rfl⟩
            go_wp2_with fail
            go_ret
            exact ⟨rfl, below_alloc b1.below⟩
      · have nB : (xB != 0) = true := by simpa using gB
        iterate 17 (first | go_big_quiet_step (first | (go_at_call 22; exact (awake_any).newer) | (go_at_call_of 34 vI; exact (D.out.kIImmI rfl).newer) | (go_at_call_of 24 vI; exact (D.out.kIRd rfl).newer) | (go_at_call_of 26 vI; exact (D.out.kIRs1 rfl).newer) | (go_at_call_of 35 vS; exact (D.out.kSImmS rfl).newer) | (go_at_call_of 27 vS; exact (D.out.kSRs2 rfl).newer)) | (refine skip_same rfl (by kernel_rfl) (by kernel_rfl) ?_))
        rcases Decidable.em (xU = 0) with gU | gU
        · subst gU
          iterate 17 (first | go_big_quiet_step (first | (go_at_call 22; exact (awake_any).newer) | (go_at_call_of 34 vI; exact (D.out.kIImmI rfl).newer) | (go_at_call_of 24 vI; exact (D.out.kIRd rfl).newer) | (go_at_call_of 26 vI; exact (D.out.kIRs1 rfl).newer) | (go_at_call_of 35 vS; exact (D.out.kSImmS rfl).newer) | (go_at_call_of 27 vS; exact (D.out.kSRs2 rfl).newer) | (go_at_call_of 37 vU; exact (D.out.kUImmU rfl).newer) | (go_at_call_of 23 vU; exact (D.out.kUOpcode rfl).newer)) | (refine skip_same rfl (by kernel_rfl) (by kernel_rfl) ?_))
          rcases Decidable.em (xJ = 0) with gJ | gJ
          · subst gJ
            repeat (first | go_big_quiet_step (first | (go_at_call 22; exact (awake_any).newer) | (go_at_call_of 34 vI; exact (D.out.kIImmI rfl).newer) | (go_at_call_of 24 vI; exact (D.out.kIRd rfl).newer) | (go_at_call_of 26 vI; exact (D.out.kIRs1 rfl).newer) | (go_at_call_of 35 vS; exact (D.out.kSImmS rfl).newer) | (go_at_call_of 27 vS; exact (D.out.kSRs2 rfl).newer) | (go_at_call_of 37 vU; exact (D.out.kUImmU rfl).newer) | (go_at_call_of 23 vU; exact (D.out.kUOpcode rfl).newer) | (go_at_call_of 38 vJ; exact (D.out.kJImmJ rfl).newer) | (go_at_call_of 24 vJ; exact (D.out.kJRd rfl).newer)) | (refine skip_same rfl (by kernel_rfl) (by kernel_rfl) ?_))
            refine wpQuiet_nil ?_
            rintro w1 ⟨b1, rfl⟩
            go_wp2_with fail
            go_ret
            exact ⟨rfl, below_alloc b1.below⟩
          · have nJ : (xJ != 0) = true := by simpa using gJ
            repeat (first | go_big_quiet_step (first | (go_at_call 22; exact (awake_any).newer) | (go_at_call_of 34 vI; exact (D.out.kIImmI rfl).newer) | (go_at_call_of 24 vI; exact (D.out.kIRd rfl).newer) | (go_at_call_of 26 vI; exact (D.out.kIRs1 rfl).newer) | (go_at_call_of 35 vS; exact (D.out.kSImmS rfl).newer) | (go_at_call_of 27 vS; exact (D.out.kSRs2 rfl).newer) | (go_at_call_of 37 vU; exact (D.out.kUImmU rfl).newer) | (go_at_call_of 23 vU; exact (D.out.kUOpcode rfl).newer)) | (refine skip_same rfl (by kernel_rfl) (by kernel_rfl) ?_))
            refine wpQuiet_nil ?_
            rintro w1 ⟨b1, rfl⟩
            go_wp2_with fail
            go_ret
            exact ⟨rfl, below_alloc b1.below⟩
        · have nU : (xU != 0) = true := by simpa using gU
          iterate 17 (first | go_big_quiet_step (first | (go_at_call 22; exact (awake_any).newer) | (go_at_call_of 34 vI; exact (D.out.kIImmI rfl).newer) | (go_at_call_of 24 vI; exact (D.out.kIRd rfl).newer) | (go_at_call_of 26 vI; exact (D.out.kIRs1 rfl).newer) | (go_at_call_of 35 vS; exact (D.out.kSImmS rfl).newer) | (go_at_call_of 27 vS; exact (D.out.kSRs2 rfl).newer)) | (refine skip_same rfl (by kernel_rfl) (by kernel_rfl) ?_))
          rcases Decidable.em (xJ = 0) with gJ | gJ
          · subst gJ
            repeat (first | go_big_quiet_step (first | (go_at_call 22; exact (awake_any).newer) | (go_at_call_of 34 vI; exact (D.out.kIImmI rfl).newer) | (go_at_call_of 24 vI; exact (D.out.kIRd rfl).newer) | (go_at_call_of 26 vI; exact (D.out.kIRs1 rfl).newer) | (go_at_call_of 35 vS; exact (D.out.kSImmS rfl).newer) | (go_at_call_of 27 vS; exact (D.out.kSRs2 rfl).newer) | (go_at_call_of 38 vJ; exact (D.out.kJImmJ rfl).newer) | (go_at_call_of 24 vJ; exact (D.out.kJRd rfl).newer)) | (refine skip_same rfl (by kernel_rfl) (by kernel_rfl) ?_))
            refine wpQuiet_nil ?_
            rintro w1 ⟨b1, rfl⟩
            go_wp2_with fail
            go_ret
            exact ⟨rfl, below_alloc b1.below⟩
          · have nJ : (xJ != 0) = true := by simpa using gJ
            repeat (first | go_big_quiet_step (first | (go_at_call 22; exact (awake_any).newer) | (go_at_call_of 34 vI; exact (D.out.kIImmI rfl).newer) | (go_at_call_of 24 vI; exact (D.out.kIRd rfl).newer) | (go_at_call_of 26 vI; exact (D.out.kIRs1 rfl).newer) | (go_at_call_of 35 vS; exact (D.out.kSImmS rfl).newer) | (go_at_call_of 27 vS; exact (D.out.kSRs2 rfl).newer)) | (refine skip_same rfl (by kernel_rfl) (by kernel_rfl) ?_))
            refine wpQuiet_nil ?_
            rintro w1 ⟨b1, rfl⟩
            go_wp2_with fail
            go_ret
            exact ⟨rfl, below_alloc b1.below⟩
    · have nS : (xS != 0) = true := by simpa using gS
      iterate 17 (first | go_big_quiet_step (first | (go_at_call 22; exact (awake_any).newer) | (go_at_call_of 34 vI; exact (D.out.kIImmI rfl).newer) | (go_at_call_of 24 vI; exact (D.out.kIRd rfl).newer) | (go_at_call_of 26 vI; exact (D.out.kIRs1 rfl).newer)) | (refine skip_same rfl (by kernel_rfl) (by kernel_rfl) ?_))
      rcases Decidable.em (xB = 0) with gB | gB
      · subst gB
        iterate 17 (first | go_big_quiet_step (first | (go_at_call 22; exact (awake_any).newer) | (go_at_call_of 34 vI; exact (D.out.kIImmI rfl).newer) | (go_at_call_of 24 vI; exact (D.out.kIRd rfl).newer) | (go_at_call_of 26 vI; exact (D.out.kIRs1 rfl).newer) | (go_at_call_of 36 vB; exact (D.out.kBImmB rfl).newer) | (go_at_call_of 25 vB; exact (D.out.kBFunct3 rfl).newer)) | (refine skip_same rfl (by kernel_rfl) (by kernel_rfl) ?_))
        rcases Decidable.em (xU = 0) with gU | gU
        · subst gU
          iterate 17 (first | go_big_quiet_step (first | (go_at_call 22; exact (awake_any).newer) | (go_at_call_of 34 vI; exact (D.out.kIImmI rfl).newer) | (go_at_call_of 24 vI; exact (D.out.kIRd rfl).newer) | (go_at_call_of 26 vI; exact (D.out.kIRs1 rfl).newer) | (go_at_call_of 36 vB; exact (D.out.kBImmB rfl).newer) | (go_at_call_of 25 vB; exact (D.out.kBFunct3 rfl).newer) | (go_at_call_of 37 vU; exact (D.out.kUImmU rfl).newer) | (go_at_call_of 23 vU; exact (D.out.kUOpcode rfl).newer)) | (refine skip_same rfl (by kernel_rfl) (by kernel_rfl) ?_))
          rcases Decidable.em (xJ = 0) with gJ | gJ
          · subst gJ
            repeat (first | go_big_quiet_step (first | (go_at_call 22; exact (awake_any).newer) | (go_at_call_of 34 vI; exact (D.out.kIImmI rfl).newer) | (go_at_call_of 24 vI; exact (D.out.kIRd rfl).newer) | (go_at_call_of 26 vI; exact (D.out.kIRs1 rfl).newer) | (go_at_call_of 36 vB; exact (D.out.kBImmB rfl).newer) | (go_at_call_of 25 vB; exact (D.out.kBFunct3 rfl).newer) | (go_at_call_of 37 vU; exact (D.out.kUImmU rfl).newer) | (go_at_call_of 23 vU; exact (D.out.kUOpcode rfl).newer) | (go_at_call_of 38 vJ; exact (D.out.kJImmJ rfl).newer) | (go_at_call_of 24 vJ; exact (D.out.kJRd rfl).newer)) | (refine skip_same rfl (by kernel_rfl) (by kernel_rfl) ?_))
            refine wpQuiet_nil ?_
            rintro w1 ⟨b1, rfl⟩
            go_wp2_with fail
            go_ret
            exact ⟨rfl, below_alloc b1.below⟩
          · have nJ : (xJ != 0) = true := by simpa using gJ
            repeat (first | go_big_quiet_step (first | (go_at_call 22; exact (awake_any).newer) | (go_at_call_of 34 vI; exact (D.out.kIImmI rfl).newer) | (go_at_call_of 24 vI; exact (D.out.kIRd rfl).newer) | (go_at_call_of 26 vI; exact (D.out.kIRs1 rfl).newer) | (go_at_call_of 36 vB; exact (D.out.kBImmB rfl).newer) | (go_at_call_of 25 vB; exact (D.out.kBFunct3 rfl).newer) | (go_at_call_of 37 vU; exact (D.out.kUImmU rfl).newer) | (go_at_call_of 23 vU; exact (D.out.kUOpcode rfl).newer)) | (refine skip_same rfl (by kernel_rfl) (by kernel_rfl) ?_))
            refine wpQuiet_nil ?_
            rintro w1 ⟨b1, rfl⟩
            go_wp2_with fail
            go_ret
            exact ⟨rfl, below_alloc b1.below⟩
        · have nU : (xU != 0) = true := by simpa using gU
          iterate 17 (first | go_big_quiet_step (first | (go_at_call 22; exact (awake_any).newer) | (go_at_call_of 34 vI; exact (D.out.kIImmI rfl).newer) | (go_at_call_of 24 vI; exact (D.out.kIRd rfl).newer) | (go_at_call_of 26 vI; exact (D.out.kIRs1 rfl).newer) | (go_at_call_of 36 vB; exact (D.out.kBImmB rfl).newer) | (go_at_call_of 25 vB; exact (D.out.kBFunct3 rfl).newer)) | (refine skip_same rfl (by kernel_rfl) (by kernel_rfl) ?_))
          rcases Decidable.em (xJ = 0) with gJ | gJ
          · subst gJ
            repeat (first | go_big_quiet_step (first | (go_at_call 22; exact (awake_any).newer) | (go_at_call_of 34 vI; exact (D.out.kIImmI rfl).newer) | (go_at_call_of 24 vI; exact (D.out.kIRd rfl).newer) | (go_at_call_of 26 vI; exact (D.out.kIRs1 rfl).newer) | (go_at_call_of 36 vB; exact (D.out.kBImmB rfl).newer) | (go_at_call_of 25 vB; exact (D.out.kBFunct3 rfl).newer) | (go_at_call_of 38 vJ; exact (D.out.kJImmJ rfl).newer) | (go_at_call_of 24 vJ; exact (D.out.kJRd rfl).newer)) | (refine skip_same rfl (by kernel_rfl) (by kernel_rfl) ?_))
            refine wpQuiet_nil ?_
            rintro w1 ⟨b1, rfl⟩
            go_wp2_with fail
            go_ret
            exact ⟨rfl, below_alloc b1.below⟩
          · have nJ : (xJ != 0) = true := by simpa using gJ
            repeat (first | go_big_quiet_step (first | (go_at_call 22; exact (awake_any).newer) | (go_at_call_of 34 vI; exact (D.out.kIImmI rfl).newer) | (go_at_call_of 24 vI; exact (D.out.kIRd rfl).newer) | (go_at_call_of 26 vI; exact (D.out.kIRs1 rfl).newer) | (go_at_call_of 36 vB; exact (D.out.kBImmB rfl).newer) | (go_at_call_of 25 vB; exact (D.out.kBFunct3 rfl).newer)) | (refine skip_same rfl (by kernel_rfl) (by kernel_rfl) ?_))
            refine wpQuiet_nil ?_
            rintro w1 ⟨b1, rfl⟩
            go_wp2_with fail
            go_ret
            exact ⟨rfl, below_alloc b1.below⟩
      · have nB : (xB != 0) = true := by simpa using gB
        iterate 17 (first | go_big_quiet_step (first | (go_at_call 22; exact (awake_any).newer) | (go_at_call_of 34 vI; exact (D.out.kIImmI rfl).newer) | (go_at_call_of 24 vI; exact (D.out.kIRd rfl).newer) | (go_at_call_of 26 vI; exact (D.out.kIRs1 rfl).newer)) | (refine skip_same rfl (by kernel_rfl) (by kernel_rfl) ?_))
        rcases Decidable.em (xU = 0) with gU | gU
        · subst gU
          iterate 17 (first | go_big_quiet_step (first | (go_at_call 22; exact (awake_any).newer) | (go_at_call_of 34 vI; exact (D.out.kIImmI rfl).newer) | (go_at_call_of 24 vI; exact (D.out.kIRd rfl).newer) | (go_at_call_of 26 vI; exact (D.out.kIRs1 rfl).newer) | (go_at_call_of 37 vU; exact (D.out.kUImmU rfl).newer) | (go_at_call_of 23 vU; exact (D.out.kUOpcode rfl).newer)) | (refine skip_same rfl (by kernel_rfl) (by kernel_rfl) ?_))
          rcases Decidable.em (xJ = 0) with gJ | gJ
          · subst gJ
            repeat (first | go_big_quiet_step (first | (go_at_call 22; exact (awake_any).newer) | (go_at_call_of 34 vI; exact (D.out.kIImmI rfl).newer) | (go_at_call_of 24 vI; exact (D.out.kIRd rfl).newer) | (go_at_call_of 26 vI; exact (D.out.kIRs1 rfl).newer) | (go_at_call_of 37 vU; exact (D.out.kUImmU rfl).newer) | (go_at_call_of 23 vU; exact (D.out.kUOpcode rfl).newer) | (go_at_call_of 38 vJ; exact (D.out.kJImmJ rfl).newer) | (go_at_call_of 24 vJ; exact (D.out.kJRd rfl).newer)) | (refine skip_same rfl (by kernel_rfl) (by kernel_rfl) ?_))
            refine wpQuiet_nil ?_
            rintro w1 ⟨b1, rfl⟩
            go_wp2_with fail
            go_ret
            exact ⟨rfl, below_alloc b1.below⟩
          · have nJ : (xJ != 0) = true := by simpa using gJ
            repeat (first | go_big_quiet_step (first | (go_at_call 22; exact (awake_any).newer) | (go_at_call_of 34 vI; exact (D.out.kIImmI rfl).newer) | (go_at_call_of 24 vI; exact (D.out.kIRd rfl).newer) | (go_at_call_of 26 vI; exact (D.out.kIRs1 rfl).newer) | (go_at_call_of 37 vU; exact (D.out.kUImmU rfl).newer) | (go_at_call_of 23 vU; exact (D.out.kUOpcode rfl).newer)) | (refine skip_same rfl (by kernel_rfl) (by kernel_rfl) ?_))
            refine wpQuiet_nil ?_
            rintro w1 ⟨b1, rfl⟩
            go_wp2_with fail
            go_ret
            exact ⟨rfl, below_alloc b1.below⟩
        · have nU : (xU != 0) = true := by simpa using gU
          iterate 17 (first | go_big_quiet_step (first | (go_at_call 22; exact (awake_any).newer) | (go_at_call_of 34 vI; exact (D.out.kIImmI rfl).newer) | (go_at_call_of 24 vI; exact (D.out.kIRd rfl).newer) | (go_at_call_of 26 vI; exact (D.out.kIRs1 rfl).newer)) | (refine skip_same rfl (by kernel_rfl) (by kernel_rfl) ?_))
          rcases Decidable.em (xJ = 0) with gJ | gJ
          · subst gJ
            repeat (first | go_big_quiet_step (first | (go_at_call 22; exact (awake_any).newer) | (go_at_call_of 34 vI; exact (D.out.kIImmI rfl).newer) | (go_at_call_of 24 vI; exact (D.out.kIRd rfl).newer) | (go_at_call_of 26 vI; exact (D.out.kIRs1 rfl).newer) | (go_at_call_of 38 vJ; exact (D.out.kJImmJ rfl).newer) | (go_at_call_of 24 vJ; exact (D.out.kJRd rfl).newer)) | (refine skip_same rfl (by kernel_rfl) (by kernel_rfl) ?_))
            refine wpQuiet_nil ?_
            rintro w1 ⟨b1, rfl⟩
            go_wp2_with fail
            go_ret
            exact ⟨rfl, below_alloc b1.below⟩
          · have nJ : (xJ != 0) = true := by simpa using gJ
            repeat (first | go_big_quiet_step (first | (go_at_call 22; exact (awake_any).newer) | (go_at_call_of 34 vI; exact (D.out.kIImmI rfl).newer) | (go_at_call_of 24 vI; exact (D.out.kIRd rfl).newer) | (go_at_call_of 26 vI; exact (D.out.kIRs1 rfl).newer)) | (refine skip_same rfl (by kernel_rfl) (by kernel_rfl) ?_))
            refine wpQuiet_nil ?_
            rintro w1 ⟨b1, rfl⟩
            go_wp2_with fail
            go_ret
            exact ⟨rfl, below_alloc b1.below⟩
  · have nI : (xI != 0) = true := by simpa using gI
    iterate 23 (first | go_big_quiet_step (first | (go_at_call 22; exact (awake_any).newer)) | (refine skip_same rfl (by kernel_rfl) (by kernel_rfl) ?_))
    rcases Decidable.em (xS = 0) with gS | gS
    · subst gS
      iterate 17 (first | go_big_quiet_step (first | (go_at_call 22; exact (awake_any).newer) | (go_at_call_of 35 vS; exact (D.out.kSImmS rfl).newer) | (go_at_call_of 27 vS; exact (D.out.kSRs2 rfl).newer)) | (refine skip_same rfl (by kernel_rfl) (by kernel_rfl) ?_))
      rcases Decidable.em (xB = 0) with gB | gB
      · subst gB
        iterate 17 (first | go_big_quiet_step (first | (go_at_call 22; exact (awake_any).newer) | (go_at_call_of 35 vS; exact (D.out.kSImmS rfl).newer) | (go_at_call_of 27 vS; exact (D.out.kSRs2 rfl).newer) | (go_at_call_of 36 vB; exact (D.out.kBImmB rfl).newer) | (go_at_call_of 25 vB; exact (D.out.kBFunct3 rfl).newer)) | (refine skip_same rfl (by kernel_rfl) (by kernel_rfl) ?_))
        rcases Decidable.em (xU = 0) with gU | gU
        · subst gU
          iterate 17 (first | go_big_quiet_step (first | (go_at_call 22; exact (awake_any).newer) | (go_at_call_of 35 vS; exact (D.out.kSImmS rfl).newer) | (go_at_call_of 27 vS; exact (D.out.kSRs2 rfl).newer) | (go_at_call_of 36 vB; exact (D.out.kBImmB rfl).newer) | (go_at_call_of 25 vB; exact (D.out.kBFunct3 rfl).newer) | (go_at_call_of 37 vU; exact (D.out.kUImmU rfl).newer) | (go_at_call_of 23 vU; exact (D.out.kUOpcode rfl).newer)) | (refine skip_same rfl (by kernel_rfl) (by kernel_rfl) ?_))
          rcases Decidable.em (xJ = 0) with gJ | gJ
          · subst gJ
            repeat (first | go_big_quiet_step (first | (go_at_call 22; exact (awake_any).newer) | (go_at_call_of 35 vS; exact (D.out.kSImmS rfl).newer) | (go_at_call_of 27 vS; exact (D.out.kSRs2 rfl).newer) | (go_at_call_of 36 vB; exact (D.out.kBImmB rfl).newer) | (go_at_call_of 25 vB; exact (D.out.kBFunct3 rfl).newer) | (go_at_call_of 37 vU; exact (D.out.kUImmU rfl).newer) | (go_at_call_of 23 vU; exact (D.out.kUOpcode rfl).newer) | (go_at_call_of 38 vJ; exact (D.out.kJImmJ rfl).newer) | (go_at_call_of 24 vJ; exact (D.out.kJRd rfl).newer)) | (refine skip_same rfl (by kernel_rfl) (by kernel_rfl) ?_))
            refine wpQuiet_nil ?_
            rintro w1 ⟨b1, rfl⟩
            go_wp2_with fail
            go_ret
            exact ⟨rfl, below_alloc b1.below⟩
          · have nJ : (xJ != 0) = true := by simpa using gJ
            repeat (first | go_big_quiet_step (first | (go_at_call 22; exact (awake_any).newer) | (go_at_call_of 35 vS; exact (D.out.kSImmS rfl).newer) | (go_at_call_of 27 vS; exact (D.out.kSRs2 rfl).newer) | (go_at_call_of 36 vB; exact (D.out.kBImmB rfl).newer) | (go_at_call_of 25 vB; exact (D.out.kBFunct3 rfl).newer) | (go_at_call_of 37 vU; exact (D.out.kUImmU rfl).newer) | (go_at_call_of 23 vU; exact (D.out.kUOpcode rfl).newer)) | (refine skip_same rfl (by kernel_rfl) (by kernel_rfl) ?_))
            refine wpQuiet_nil ?_
            rintro w1 ⟨b1, rfl⟩
            go_wp2_with fail
            go_ret
            exact ⟨rfl, below_alloc b1.below⟩
        · have nU : (xU != 0) = true := by simpa using gU
          iterate 17 (first | go_big_quiet_step (first | (go_at_call 22; exact (awake_any).newer) | (go_at_call_of 35 vS; exact (D.out.kSImmS rfl).newer) | (go_at_call_of 27 vS; exact (D.out.kSRs2 rfl).newer) | (go_at_call_of 36 vB; exact (D.out.kBImmB rfl).newer) | (go_at_call_of 25 vB; exact (D.out.kBFunct3 rfl).newer)) | (refine skip_same rfl (by kernel_rfl) (by kernel_rfl) ?_))
          rcases Decidable.em (xJ = 0) with gJ | gJ
          · subst gJ
            repeat (first | go_big_quiet_step (first | (go_at_call 22; exact (awake_any).newer) | (go_at_call_of 35 vS; exact (D.out.kSImmS rfl).newer) | (go_at_call_of 27 vS; exact (D.out.kSRs2 rfl).newer) | (go_at_call_of 36 vB; exact (D.out.kBImmB rfl).newer) | (go_at_call_of 25 vB; exact (D.out.kBFunct3 rfl).newer) | (go_at_call_of 38 vJ; exact (D.out.kJImmJ rfl).newer) | (go_at_call_of 24 vJ; exact (D.out.kJRd rfl).newer)) | (refine skip_same rfl (by kernel_rfl) (by kernel_rfl) ?_))
            refine wpQuiet_nil ?_
            rintro w1 ⟨b1, rfl⟩
            go_wp2_with fail
            go_ret
            exact ⟨rfl, below_alloc b1.below⟩
          · have nJ : (xJ != 0) = true := by simpa using gJ
            repeat (first | go_big_quiet_step (first | (go_at_call 22; exact (awake_any).newer) | (go_at_call_of 35 vS; exact (D.out.kSImmS rfl).newer) | (go_at_call_of 27 vS; exact (D.out.kSRs2 rfl).newer) | (go_at_call_of 36 vB; exact (D.out.kBImmB rfl).newer) | (go_at_call_of 25 vB; exact (D.out.kBFunct3 rfl).newer)) | (refine skip_same rfl (by kernel_rfl) (by kernel_rfl) ?_))
            refine wpQuiet_nil ?_
            rintro w1 ⟨b1, rfl⟩
            go_wp2_with fail
            go_ret
            exact ⟨rfl, below_alloc b1.below⟩
      · have nB : (xB != 0) = true := by simpa using gB
        iterate 17 (first | go_big_quiet_step (first | (go_at_call 22; exact (awake_any).newer) | (go_at_call_of 35 vS; exact (D.out.kSImmS rfl).newer) | (go_at_call_of 27 vS; exact (D.out.kSRs2 rfl).newer)) | (refine skip_same rfl (by kernel_rfl) (by kernel_rfl) ?_))
        rcases Decidable.em (xU = 0) with gU | gU
        · subst gU
          iterate 17 (first | go_big_quiet_step (first | (go_at_call 22; exact (awake_any).newer) | (go_at_call_of 35 vS; exact (D.out.kSImmS rfl).newer) | (go_at_call_of 27 vS; exact (D.out.kSRs2 rfl).newer) | (go_at_call_of 37 vU; exact (D.out.kUImmU rfl).newer) | (go_at_call_of 23 vU; exact (D.out.kUOpcode rfl).newer)) | (refine skip_same rfl (by kernel_rfl) (by kernel_rfl) ?_))
          rcases Decidable.em (xJ = 0) with gJ | gJ
          · subst gJ
            repeat (first | go_big_quiet_step (first | (go_at_call 22; exact (awake_any).newer) | (go_at_call_of 35 vS; exact (D.out.kSImmS rfl).newer) | (go_at_call_of 27 vS; exact (D.out.kSRs2 rfl).newer) | (go_at_call_of 37 vU; exact (D.out.kUImmU rfl).newer) | (go_at_call_of 23 vU; exact (D.out.kUOpcode rfl).newer) | (go_at_call_of 38 vJ; exact (D.out.kJImmJ rfl).newer) | (go_at_call_of 24 vJ; exact (D.out.kJRd rfl).newer)) | (refine skip_same rfl (by kernel_rfl) (by kernel_rfl) ?_))
            refine wpQuiet_nil ?_
            rintro w1 ⟨b1, rfl⟩
            go_wp2_with fail
            go_ret
            exact ⟨rfl, below_alloc b1.below⟩
          · have nJ : (xJ != 0) = true := by simpa using gJ
            repeat (first | go_big_quiet_step (first | (go_at_call 22; exact (awake_any).newer) | (go_at_call_of 35 vS; exact (D.out.kSImmS rfl).newer) | (go_at_call_of 27 vS; exact (D.out.kSRs2 rfl).newer) | (go_at_call_of 37 vU; exact (D.out.kUImmU rfl).newer) | (go_at_call_of 23 vU; exact (D.out.kUOpcode rfl).newer)) | (refine skip_same rfl (by kernel_rfl) (by kernel_rfl) ?_))
            refine wpQuiet_nil ?_
            rintro w1 ⟨b1, rfl⟩
            go_wp2_with fail
            go_ret
            exact ⟨rfl, below_alloc b1.below⟩
        · have nU : (xU != 0) = true := by simpa using gU
          iterate 17 (first | go_big_quiet_step (first | (go_at_call 22; exact (awake_any).newer) | (go_at_call_of 35 vS; exact (D.out.kSImmS rfl).newer) | (go_at_call_of 27 vS; exact (D.out.kSRs2 rfl).newer)) | (refine skip_same rfl (by kernel_rfl) (by kernel_rfl) ?_))
          rcases Decidable.em (xJ = 0) with gJ | gJ
          · subst gJ
            repeat (first | go_big_quiet_step (first | (go_at_call 22; exact (awake_any).newer) | (go_at_call_of 35 vS; exact (D.out.kSImmS rfl).newer) | (go_at_call_of 27 vS; exact (D.out.kSRs2 rfl).newer) | (go_at_call_of 38 vJ; exact (D.out.kJImmJ rfl).newer) | (go_at_call_of 24 vJ; exact (D.out.kJRd rfl).newer)) | (refine skip_same rfl (by kernel_rfl) (by kernel_rfl) ?_))
            refine wpQuiet_nil ?_
            rintro w1 ⟨b1, rfl⟩
            go_wp2_with fail
            go_ret
            exact ⟨rfl, below_alloc b1.below⟩
          · have nJ : (xJ != 0) = true := by simpa using gJ
            repeat (first | go_big_quiet_step (first | (go_at_call 22; exact (awake_any).newer) | (go_at_call_of 35 vS; exact (D.out.kSImmS rfl).newer) | (go_at_call_of 27 vS; exact (D.out.kSRs2 rfl).newer)) | (refine skip_same rfl (by kernel_rfl) (by kernel_rfl) ?_))
            refine wpQuiet_nil ?_
            rintro w1 ⟨b1, rfl⟩
            go_wp2_with fail
            go_ret
            exact ⟨rfl, below_alloc b1.below⟩
    · have nS : (xS != 0) = true := by simpa using gS
      iterate 17 (first | go_big_quiet_step (first | (go_at_call 22; exact (awake_any).newer)) | (refine skip_same rfl (by kernel_rfl) (by kernel_rfl) ?_))
      rcases Decidable.em (xB = 0) with gB | gB
      · subst gB
        iterate 17 (first | go_big_quiet_step (first | (go_at_call 22; exact (awake_any).newer) | (go_at_call_of 36 vB; exact (D.out.kBImmB rfl).newer) | (go_at_call_of 25 vB; exact (D.out.kBFunct3 rfl).newer)) | (refine skip_same rfl (by kernel_rfl) (by kernel_rfl) ?_))
        rcases Decidable.em (xU = 0) with gU | gU
        · subst gU
          iterate 17 (first | go_big_quiet_step (first | (go_at_call 22; exact (awake_any).newer) | (go_at_call_of 36 vB; exact (D.out.kBImmB rfl).newer) | (go_at_call_of 25 vB; exact (D.out.kBFunct3 rfl).newer) | (go_at_call_of 37 vU; exact (D.out.kUImmU rfl).newer) | (go_at_call_of 23 vU; exact (D.out.kUOpcode rfl).newer)) | (refine skip_same rfl (by kernel_rfl) (by kernel_rfl) ?_))
          rcases Decidable.em (xJ = 0) with gJ | gJ
          · subst gJ
            repeat (first | go_big_quiet_step (first | (go_at_call 22; exact (awake_any).newer) | (go_at_call_of 36 vB; exact (D.out.kBImmB rfl).newer) | (go_at_call_of 25 vB; exact (D.out.kBFunct3 rfl).newer) | (go_at_call_of 37 vU; exact (D.out.kUImmU rfl).newer) | (go_at_call_of 23 vU; exact (D.out.kUOpcode rfl).newer) | (go_at_call_of 38 vJ; exact (D.out.kJImmJ rfl).newer) | (go_at_call_of 24 vJ; exact (D.out.kJRd rfl).newer)) | (refine skip_same rfl (by kernel_rfl) (by kernel_rfl) ?_))
            refine wpQuiet_nil ?_
            rintro w1 ⟨b1, rfl⟩
            go_wp2_with fail
            go_ret
            exact ⟨rfl, below_alloc b1.below⟩
          · have nJ : (xJ != 0) = true := by simpa using gJ
            repeat (first | go_big_quiet_step (first | (go_at_call 22; exact (awake_any).newer) | (go_at_call_of 36 vB; exact (D.out.kBImmB rfl).newer) | (go_at_call_of 25 vB; exact (D.out.kBFunct3 rfl).newer) | (go_at_call_of 37 vU; exact (D.out.kUImmU rfl).newer) | (go_at_call_of 23 vU; exact (D.out.kUOpcode rfl).newer)) | (refine skip_same rfl (by kernel_rfl) (by kernel_rfl) ?_))
            refine wpQuiet_nil ?_
            rintro w1 ⟨b1, rfl⟩
            go_wp2_with fail
            go_ret
            exact ⟨rfl, below_alloc b1.below⟩
        · have nU : (xU != 0) = true := by simpa using gU
          iterate 17 (first | go_big_quiet_step (first | (go_at_call 22; exact (awake_any).newer) | (go_at_call_of 36 vB; exact (D.out.kBImmB rfl).newer) | (go_at_call_of 25 vB; exact (D.out.kBFunct3 rfl).newer)) | (refine skip_same rfl (by kernel_rfl) (by kernel_rfl) ?_))
          rcases Decidable.em (xJ = 0) with gJ | gJ
          · subst gJ
            repeat (first | go_big_quiet_step (first | (go_at_call 22; exact (awake_any).newer) | (go_at_call_of 36 vB; exact (D.out.kBImmB rfl).newer) | (go_at_call_of 25 vB; exact (D.out.kBFunct3 rfl).newer) | (go_at_call_of 38 vJ; exact (D.out.kJImmJ rfl).newer) | (go_at_call_of 24 vJ; exact (D.out.kJRd rfl).newer)) | (refine skip_same rfl (by kernel_rfl) (by kernel_rfl) ?_))
            refine wpQuiet_nil ?_
            rintro w1 ⟨b1, rfl⟩
            go_wp2_with fail
            go_ret
            exact ⟨rfl, below_alloc b1.below⟩
          · have nJ : (xJ != 0) = true := by simpa using gJ
            repeat (first | go_big_quiet_step (first | (go_at_call 22; exact (awake_any).newer) | (go_at_call_of 36 vB; exact (D.out.kBImmB rfl).newer) | (go_at_call_of 25 vB; exact (D.out.kBFunct3 rfl).newer)) | (refine skip_same rfl (by kernel_rfl) (by kernel_rfl) ?_))
            refine wpQuiet_nil ?_
            rintro w1 ⟨b1, rfl⟩
            go_wp2_with fail
            go_ret
            exact ⟨rfl, below_alloc b1.below⟩
      · have nB : (xB != 0) = true := by simpa using gB
        iterate 17 (first | go_big_quiet_step (first | (go_at_call 22; exact (awake_any).newer)) | (refine skip_same rfl (by kernel_rfl) (by kernel_rfl) ?_))
        rcases Decidable.em (xU = 0) with gU | gU
        · subst gU
          iterate 17 (first | go_big_quiet_step (first | (go_at_call 22; exact (awake_any).newer) | (go_at_call_of 37 vU; exact (D.out.kUImmU rfl).newer) | (go_at_call_of 23 vU; exact (D.out.kUOpcode rfl).newer)) | (refine skip_same rfl (by kernel_rfl) (by kernel_rfl) ?_))
          rcases Decidable.em (xJ = 0) with gJ | gJ
          · subst gJ
            repeat (first | go_big_quiet_step (first | (go_at_call 22; exact (awake_any).newer) | (go_at_call_of 37 vU; exact (D.out.kUImmU rfl).newer) | (go_at_call_of 23 vU; exact (D.out.kUOpcode rfl).newer) | (go_at_call_of 38 vJ; exact (D.out.kJImmJ rfl).newer) | (go_at_call_of 24 vJ; exact (D.out.kJRd rfl).newer)) | (refine skip_same rfl (by kernel_rfl) (by kernel_rfl) ?_))
            refine wpQuiet_nil ?_
            rintro w1 ⟨b1, rfl⟩
            go_wp2_with fail
            go_ret
            exact ⟨rfl, below_alloc b1.below⟩
          · have nJ : (xJ != 0) = true := by simpa using gJ
            repeat (first | go_big_quiet_step (first | (go_at_call 22; exact (awake_any).newer) | (go_at_call_of 37 vU; exact (D.out.kUImmU rfl).newer) | (go_at_call_of 23 vU; exact (D.out.kUOpcode rfl).newer)) | (refine skip_same rfl (by kernel_rfl) (by kernel_rfl) ?_))
            refine wpQuiet_nil ?_
            rintro w1 ⟨b1, rfl⟩
            go_wp2_with fail
            go_ret
            exact ⟨rfl, below_alloc b1.below⟩
        · have nU : (xU != 0) = true := by simpa using gU
          iterate 17 (first | go_big_quiet_step (first | (go_at_call 22; exact (awake_any).newer)) | (refine skip_same rfl (by kernel_rfl) (by kernel_rfl) ?_))
          rcases Decidable.em (xJ = 0) with gJ | gJ
          · subst gJ
            repeat (first | go_big_quiet_step (first | (go_at_call 22; exact (awake_any).newer) | (go_at_call_of 38 vJ; exact (D.out.kJImmJ rfl).newer) | (go_at_call_of 24 vJ; exact (D.out.kJRd rfl).newer)) | (refine skip_same rfl (by kernel_rfl) (by kernel_rfl) ?_))
            refine wpQuiet_nil ?_
            rintro w1 ⟨b1, rfl⟩
            go_wp2_with fail
            go_ret
            exact ⟨rfl, below_alloc b1.below⟩
          · have nJ : (xJ != 0) = true := by simpa using gJ
            repeat (first | go_big_quiet_step (first | (go_at_call 22; exact (awake_any).newer)) | (refine skip_same rfl (by kernel_rfl) (by kernel_rfl) ?_))
            refine wpQuiet_nil ?_
            rintro w1 ⟨b1, rfl⟩
            go_wp2_with fail
            go_ret
            exact ⟨rfl, below_alloc b1.below⟩

set_option maxRecDepth 20000 in
set_option maxHeartbeats 20000000 in
theorem back_yes (op rd f3 rs1 rs2 f7 imm : Int) (vR vI vS vB vU vJ : BitVec 32) (xR xI xS xB xU xJ : Int) (w : World)
    (hR : Hid (encR op rd f3 rs1 rs2 f7 = (vR, xR))) (hI : Hid (encI op rd f3 rs1 imm = (vI, xI))) (hS : Hid (encS op f3 rs1 rs2 imm = (vS, xS))) (hB : Hid (encB op f3 rs1 rs2 imm = (vB, xB))) (hU : Hid (encU op rd imm = (vU, xU))) (hJ : Hid (encJ op rd imm = (vJ, xJ)))
    (D : Hid (Decs op rd f3 rs1 rs2 f7 imm vR vI vS vB vU vJ xR xI xS xB xU xJ))
    (hx : xR = 0) :
    Calls Try.prog 4 #[.agg #[.int .i64 op, .int .i64 rd, .int .i64 f3, .int .i64 rs1, .int .i64 rs2, .int .i64 f7, .int .i64 imm]] w fun e w' => e = .returned (.bool true) ∧ Below w.heap.size w w' := by
  subst hx
  have hb := Below.refl (w.alloc (.cells #[.int .i64 op, .int .i64 rd, .int .i64 f3, .int .i64 rs1, .int .i64 rs2, .int .i64 f7, .int .i64 imm] 33)).heap.size (w.alloc (.cells #[.int .i64 op, .int .i64 rd, .int .i64 f3, .int .i64 rs1, .int .i64 rs2, .int .i64 f7, .int .i64 imm] 33))
  have B := Lib.hid (Box.new w [.int .i64 op, .int .i64 rd, .int .i64 f3, .int .i64 rs1, .int .i64 rs2, .int .i64 f7, .int .i64 imm] 33)
  obtain ⟨c0, c1, c2, c3, c4, c5, c6⟩ := B.out.seven
  obtain ⟨d0, d1, d2, d3, d4, d5, d6⟩ := B.out.newer
  go_enter Try.func4, Try.ntmps4
  go_wp2_with (first
      | (go_at_call 21; refine ((sR_any _ _ _ _ _ _).at hb).mono ?_; clear hb c0 c1 c2 c3 c4 c5 c6; rintro e w1 ⟨rfl, hb⟩; obtain ⟨c0, c1, c2, c3, c4, c5, c6⟩ := (B.out.below hb).seven; rw [hR.out]; unfold encV)
      | (go_at_call 29; refine ((sI_any _ _ _ _ _).at hb).mono ?_; clear hb c0 c1 c2 c3 c4 c5 c6; rintro e w1 ⟨rfl, hb⟩; obtain ⟨c0, c1, c2, c3, c4, c5, c6⟩ := (B.out.below hb).seven; rw [hI.out]; unfold encV)
      | (go_at_call 30; refine ((sS_any _ _ _ _ _).at hb).mono ?_; clear hb c0 c1 c2 c3 c4 c5 c6; rintro e w1 ⟨rfl, hb⟩; obtain ⟨c0, c1, c2, c3, c4, c5, c6⟩ := (B.out.below hb).seven; rw [hS.out]; unfold encV)
      | (go_at_call 31; refine ((sB_any _ _ _ _ _).at hb).mono ?_; clear hb c0 c1 c2 c3 c4 c5 c6; rintro e w1 ⟨rfl, hb⟩; obtain ⟨c0, c1, c2, c3, c4, c5, c6⟩ := (B.out.below hb).seven; rw [hB.out]; unfold encV)
      | (go_at_call 32; refine ((sU_any _ _ _).at hb).mono ?_; clear hb c0 c1 c2 c3 c4 c5 c6; rintro e w1 ⟨rfl, hb⟩; obtain ⟨c0, c1, c2, c3, c4, c5, c6⟩ := (B.out.below hb).seven; rw [hU.out]; unfold encV)
      | (go_at_call 33; refine ((sJ_any _ _ _).at hb).mono ?_; clear hb c0 c1 c2 c3 c4 c5 c6; rintro e w1 ⟨rfl, hb⟩; obtain ⟨c0, c1, c2, c3, c4, c5, c6⟩ := (B.out.below hb).seven; rw [hJ.out]; unfold encV))
  refine wp_region_newer (by kernel_rfl) (lexB_of_fast _ (by kernel_rfl)) hb ?_
  repeat (first | go_big_quiet_step (first | (go_at_call 22; exact (awake_any).newer) | (go_at_call_of 23 vR; exact (D.out.kROpcode rfl).newer) | (go_at_call_of 24 vR; exact (D.out.kRRd rfl).newer) | (go_at_call_of 25 vR; exact (D.out.kRFunct3 rfl).newer) | (go_at_call_of 26 vR; exact (D.out.kRRs1 rfl).newer) | (go_at_call_of 27 vR; exact (D.out.kRRs2 rfl).newer) | (go_at_call_of 28 vR; exact (D.out.kRFunct7 rfl).newer)) | (refine skip_same rfl (by kernel_rfl) (by kernel_rfl) ?_))
  refine wpQuiet_nil ?_
  rintro w1 ⟨b1, rfl⟩
  clear hb c0 c1 c2 c3 c4 c5 c6
  have hb := b1.below
  obtain ⟨c0, c1, c2, c3, c4, c5, c6⟩ := (B.out.below hb).seven
  go_wp2_with (first
      | (go_at_call 21; refine ((sR_any _ _ _ _ _ _).at hb).mono ?_; clear hb c0 c1 c2 c3 c4 c5 c6; rintro e w1 ⟨rfl, hb⟩; obtain ⟨c0, c1, c2, c3, c4, c5, c6⟩ := (B.out.below hb).seven; rw [hR.out]; unfold encV)
      | (go_at_call 29; refine ((sI_any _ _ _ _ _).at hb).mono ?_; clear hb c0 c1 c2 c3 c4 c5 c6; rintro e w1 ⟨rfl, hb⟩; obtain ⟨c0, c1, c2, c3, c4, c5, c6⟩ := (B.out.below hb).seven; rw [hI.out]; unfold encV)
      | (go_at_call 30; refine ((sS_any _ _ _ _ _).at hb).mono ?_; clear hb c0 c1 c2 c3 c4 c5 c6; rintro e w1 ⟨rfl, hb⟩; obtain ⟨c0, c1, c2, c3, c4, c5, c6⟩ := (B.out.below hb).seven; rw [hS.out]; unfold encV)
      | (go_at_call 31; refine ((sB_any _ _ _ _ _).at hb).mono ?_; clear hb c0 c1 c2 c3 c4 c5 c6; rintro e w1 ⟨rfl, hb⟩; obtain ⟨c0, c1, c2, c3, c4, c5, c6⟩ := (B.out.below hb).seven; rw [hB.out]; unfold encV)
      | (go_at_call 32; refine ((sU_any _ _ _).at hb).mono ?_; clear hb c0 c1 c2 c3 c4 c5 c6; rintro e w1 ⟨rfl, hb⟩; obtain ⟨c0, c1, c2, c3, c4, c5, c6⟩ := (B.out.below hb).seven; rw [hU.out]; unfold encV)
      | (go_at_call 33; refine ((sJ_any _ _ _).at hb).mono ?_; clear hb c0 c1 c2 c3 c4 c5 c6; rintro e w1 ⟨rfl, hb⟩; obtain ⟨c0, c1, c2, c3, c4, c5, c6⟩ := (B.out.below hb).seven; rw [hJ.out]; unfold encV))
  refine wp_region_newer (by kernel_rfl) (lexB_of_fast _ (by kernel_rfl)) hb ?_
  simp only [List.append_eq, List.cons_append, List.nil_append]
  rcases Decidable.em (xI = 0) with gI | gI
  · subst gI
    iterate 23 (first | go_big_quiet_step (first | (go_at_call 22; exact (awake_any).newer) | (go_at_call_of 23 vR; exact (D.out.kROpcode rfl).newer) | (go_at_call_of 24 vR; exact (D.out.kRRd rfl).newer) | (go_at_call_of 25 vR; exact (D.out.kRFunct3 rfl).newer) | (go_at_call_of 26 vR; exact (D.out.kRRs1 rfl).newer) | (go_at_call_of 27 vR; exact (D.out.kRRs2 rfl).newer) | (go_at_call_of 28 vR; exact (D.out.kRFunct7 rfl).newer) | (go_at_call_of 34 vI; exact (D.out.kIImmI rfl).newer) | (go_at_call_of 24 vI; exact (D.out.kIRd rfl).newer) | (go_at_call_of 26 vI; exact (D.out.kIRs1 rfl).newer)) | (refine skip_same rfl (by kernel_rfl) (by kernel_rfl) ?_))
    rcases Decidable.em (xS = 0) with gS | gS
    · subst gS
      iterate 17 (first | go_big_quiet_step (first | (go_at_call 22; exact (awake_any).newer) | (go_at_call_of 23 vR; exact (D.out.kROpcode rfl).newer) | (go_at_call_of 24 vR; exact (D.out.kRRd rfl).newer) | (go_at_call_of 25 vR; exact (D.out.kRFunct3 rfl).newer) | (go_at_call_of 26 vR; exact (D.out.kRRs1 rfl).newer) | (go_at_call_of 27 vR; exact (D.out.kRRs2 rfl).newer) | (go_at_call_of 28 vR; exact (D.out.kRFunct7 rfl).newer) | (go_at_call_of 34 vI; exact (D.out.kIImmI rfl).newer) | (go_at_call_of 24 vI; exact (D.out.kIRd rfl).newer) | (go_at_call_of 26 vI; exact (D.out.kIRs1 rfl).newer) | (go_at_call_of 35 vS; exact (D.out.kSImmS rfl).newer) | (go_at_call_of 27 vS; exact (D.out.kSRs2 rfl).newer)) | (refine skip_same rfl (by kernel_rfl) (by kernel_rfl) ?_))
      rcases Decidable.em (xB = 0) with gB | gB
      · subst gB
        iterate 17 (first | go_big_quiet_step (first | (go_at_call 22; exact (awake_any).newer) | (go_at_call_of 23 vR; exact (D.out.kROpcode rfl).newer) | (go_at_call_of 24 vR; exact (D.out.kRRd rfl).newer) | (go_at_call_of 25 vR; exact (D.out.kRFunct3 rfl).newer) | (go_at_call_of 26 vR; exact (D.out.kRRs1 rfl).newer) | (go_at_call_of 27 vR; exact (D.out.kRRs2 rfl).newer) | (go_at_call_of 28 vR; exact (D.out.kRFunct7 rfl).newer) | (go_at_call_of 34 vI; exact (D.out.kIImmI rfl).newer) | (go_at_call_of 24 vI; exact (D.out.kIRd rfl).newer) | (go_at_call_of 26 vI; exact (D.out.kIRs1 rfl).newer) | (go_at_call_of 35 vS; exact (D.out.kSImmS rfl).newer) | (go_at_call_of 27 vS; exact (D.out.kSRs2 rfl).newer) | (go_at_call_of 36 vB; exact (D.out.kBImmB rfl).newer) | (go_at_call_of 25 vB; exact (D.out.kBFunct3 rfl).newer)) | (refine skip_same rfl (by kernel_rfl) (by kernel_rfl) ?_))
        rcases Decidable.em (xU = 0) with gU | gU
        · subst gU
          iterate 17 (first | go_big_quiet_step (first | (go_at_call 22; exact (awake_any).newer) | (go_at_call_of 23 vR; exact (D.out.kROpcode rfl).newer) | (go_at_call_of 24 vR; exact (D.out.kRRd rfl).newer) | (go_at_call_of 25 vR; exact (D.out.kRFunct3 rfl).newer) | (go_at_call_of 26 vR; exact (D.out.kRRs1 rfl).newer) | (go_at_call_of 27 vR; exact (D.out.kRRs2 rfl).newer) | (go_at_call_of 28 vR; exact (D.out.kRFunct7 rfl).newer) | (go_at_call_of 34 vI; exact (D.out.kIImmI rfl).newer) | (go_at_call_of 24 vI; exact (D.out.kIRd rfl).newer) | (go_at_call_of 26 vI; exact (D.out.kIRs1 rfl).newer) | (go_at_call_of 35 vS; exact (D.out.kSImmS rfl).newer) | (go_at_call_of 27 vS; exact (D.out.kSRs2 rfl).newer) | (go_at_call_of 36 vB; exact (D.out.kBImmB rfl).newer) | (go_at_call_of 25 vB; exact (D.out.kBFunct3 rfl).newer) | (go_at_call_of 37 vU; exact (D.out.kUImmU rfl).newer) | (go_at_call_of 23 vU; exact (D.out.kUOpcode rfl).newer)) | (refine skip_same rfl (by kernel_rfl) (by kernel_rfl) ?_))
          rcases Decidable.em (xJ = 0) with gJ | gJ
          · subst gJ
            repeat (first | go_big_quiet_step (first | (go_at_call 22; exact (awake_any).newer) | (go_at_call_of 23 vR; exact (D.out.kROpcode rfl).newer) | (go_at_call_of 24 vR; exact (D.out.kRRd rfl).newer) | (go_at_call_of 25 vR; exact (D.out.kRFunct3 rfl).newer) | (go_at_call_of 26 vR; exact (D.out.kRRs1 rfl).newer) | (go_at_call_of 27 vR; exact (D.out.kRRs2 rfl).newer) | (go_at_call_of 28 vR; exact (D.out.kRFunct7 rfl).newer) | (go_at_call_of 34 vI; exact (D.out.kIImmI rfl).newer) | (go_at_call_of 24 vI; exact (D.out.kIRd rfl).newer) | (go_at_call_of 26 vI; exact (D.out.kIRs1 rfl).newer) | (go_at_call_of 35 vS; exact (D.out.kSImmS rfl).newer) | (go_at_call_of 27 vS; exact (D.out.kSRs2 rfl).newer) | (go_at_call_of 36 vB; exact (D.out.kBImmB rfl).newer) | (go_at_call_of 25 vB; exact (D.out.kBFunct3 rfl).newer) | (go_at_call_of 37 vU; exact (D.out.kUImmU rfl).newer) | (go_at_call_of 23 vU; exact (D.out.kUOpcode rfl).newer) | (go_at_call_of 38 vJ; exact (D.out.kJImmJ rfl).newer) | (go_at_call_of 24 vJ; exact (D.out.kJRd rfl).newer)) | (refine skip_same rfl (by kernel_rfl) (by kernel_rfl) ?_))
            refine wpQuiet_nil ?_
            rintro w1 ⟨b1, rfl⟩
            go_wp2_with fail
            go_ret
            exact ⟨rfl, below_alloc b1.below⟩
          · have nJ : (xJ != 0) = true := by simpa using gJ
            repeat (first | go_big_quiet_step (first | (go_at_call 22; exact (awake_any).newer) | (go_at_call_of 23 vR; exact (D.out.kROpcode rfl).newer) | (go_at_call_of 24 vR; exact (D.out.kRRd rfl).newer) | (go_at_call_of 25 vR; exact (D.out.kRFunct3 rfl).newer) | (go_at_call_of 26 vR; exact (D.out.kRRs1 rfl).newer) | (go_at_call_of 27 vR; exact (D.out.kRRs2 rfl).newer) | (go_at_call_of 28 vR; exact (D.out.kRFunct7 rfl).newer) | (go_at_call_of 34 vI; exact (D.out.kIImmI rfl).newer) | (go_at_call_of 24 vI; exact (D.out.kIRd rfl).newer) | (go_at_call_of 26 vI; exact (D.out.kIRs1 rfl).newer) | (go_at_call_of 35 vS; exact (D.out.kSImmS rfl).newer) | (go_at_call_of 27 vS; exact (D.out.kSRs2 rfl).newer) | (go_at_call_of 36 vB; exact (D.out.kBImmB rfl).newer) | (go_at_call_of 25 vB; exact (D.out.kBFunct3 rfl).newer) | (go_at_call_of 37 vU; exact (D.out.kUImmU rfl).newer) | (go_at_call_of 23 vU; exact (D.out.kUOpcode rfl).newer)) | (refine skip_same rfl (by kernel_rfl) (by kernel_rfl) ?_))
            refine wpQuiet_nil ?_
            rintro w1 ⟨b1, rfl⟩
            go_wp2_with fail
            go_ret
            exact ⟨rfl, below_alloc b1.below⟩
        · have nU : (xU != 0) = true := by simpa using gU
          iterate 17 (first | go_big_quiet_step (first | (go_at_call 22; exact (awake_any).newer) | (go_at_call_of 23 vR; exact (D.out.kROpcode rfl).newer) | (go_at_call_of 24 vR; exact (D.out.kRRd rfl).newer) | (go_at_call_of 25 vR; exact (D.out.kRFunct3 rfl).newer) | (go_at_call_of 26 vR; exact (D.out.kRRs1 rfl).newer) | (go_at_call_of 27 vR; exact (D.out.kRRs2 rfl).newer) | (go_at_call_of 28 vR; exact (D.out.kRFunct7 rfl).newer) | (go_at_call_of 34 vI; exact (D.out.kIImmI rfl).newer) | (go_at_call_of 24 vI; exact (D.out.kIRd rfl).newer) | (go_at_call_of 26 vI; exact (D.out.kIRs1 rfl).newer) | (go_at_call_of 35 vS; exact (D.out.kSImmS rfl).newer) | (go_at_call_of 27 vS; exact (D.out.kSRs2 rfl).newer) | (go_at_call_of 36 vB; exact (D.out.kBImmB rfl).newer) | (go_at_call_of 25 vB; exact (D.out.kBFunct3 rfl).newer)) | (refine skip_same rfl (by kernel_rfl) (by kernel_rfl) ?_))
          rcases Decidable.em (xJ = 0) with gJ | gJ
          · subst gJ
            repeat (first | go_big_quiet_step (first | (go_at_call 22; exact (awake_any).newer) | (go_at_call_of 23 vR; exact (D.out.kROpcode rfl).newer) | (go_at_call_of 24 vR; exact (D.out.kRRd rfl).newer) | (go_at_call_of 25 vR; exact (D.out.kRFunct3 rfl).newer) | (go_at_call_of 26 vR; exact (D.out.kRRs1 rfl).newer) | (go_at_call_of 27 vR; exact (D.out.kRRs2 rfl).newer) | (go_at_call_of 28 vR; exact (D.out.kRFunct7 rfl).newer) | (go_at_call_of 34 vI; exact (D.out.kIImmI rfl).newer) | (go_at_call_of 24 vI; exact (D.out.kIRd rfl).newer) | (go_at_call_of 26 vI; exact (D.out.kIRs1 rfl).newer) | (go_at_call_of 35 vS; exact (D.out.kSImmS rfl).newer) | (go_at_call_of 27 vS; exact (D.out.kSRs2 rfl).newer) | (go_at_call_of 36 vB; exact (D.out.kBImmB rfl).newer) | (go_at_call_of 25 vB; exact (D.out.kBFunct3 rfl).newer) | (go_at_call_of 38 vJ; exact (D.out.kJImmJ rfl).newer) | (go_at_call_of 24 vJ; exact (D.out.kJRd rfl).newer)) | (refine skip_same rfl (by kernel_rfl) (by kernel_rfl) ?_))
            refine wpQuiet_nil ?_
            rintro w1 ⟨b1, rfl⟩
            go_wp2_with fail
            go_ret
            exact ⟨rfl, below_alloc b1.below⟩
          · have nJ : (xJ != 0) = true := by simpa using gJ
            repeat (first | go_big_quiet_step (first | (go_at_call 22; exact (awake_any).newer) | (go_at_call_of 23 vR; exact (D.out.kROpcode rfl).newer) | (go_at_call_of 24 vR; exact (D.out.kRRd rfl).newer) | (go_at_call_of 25 vR; exact (D.out.kRFunct3 rfl).newer) | (go_at_call_of 26 vR; exact (D.out.kRRs1 rfl).newer) | (go_at_call_of 27 vR; exact (D.out.kRRs2 rfl).newer) | (go_at_call_of 28 vR; exact (D.out.kRFunct7 rfl).newer) | (go_at_call_of 34 vI; exact (D.out.kIImmI rfl).newer) | (go_at_call_of 24 vI; exact (D.out.kIRd rfl).newer) | (go_at_call_of 26 vI; exact (D.out.kIRs1 rfl).newer) | (go_at_call_of 35 vS; exact (D.out.kSImmS rfl).newer) | (go_at_call_of 27 vS; exact (D.out.kSRs2 rfl).newer) | (go_at_call_of 36 vB; exact (D.out.kBImmB rfl).newer) | (go_at_call_of 25 vB; exact (D.out.kBFunct3 rfl).newer)) | (refine skip_same rfl (by kernel_rfl) (by kernel_rfl) ?_))
            refine wpQuiet_nil ?_
            rintro w1 ⟨b1, rfl⟩
            go_wp2_with fail
            go_ret
            exact ⟨rfl, below_alloc b1.below⟩
      · have nB : (xB != 0) = true := by simpa using gB
        iterate 17 (first | go_big_quiet_step (first | (go_at_call 22; exact (awake_any).newer) | (go_at_call_of 23 vR; exact (D.out.kROpcode rfl).newer) | (go_at_call_of 24 vR; exact (D.out.kRRd rfl).newer) | (go_at_call_of 25 vR; exact (D.out.kRFunct3 rfl).newer) | (go_at_call_of 26 vR; exact (D.out.kRRs1 rfl).newer) | (go_at_call_of 27 vR; exact (D.out.kRRs2 rfl).newer) | (go_at_call_of 28 vR; exact (D.out.kRFunct7 rfl).newer) | (go_at_call_of 34 vI; exact (D.out.kIImmI rfl).newer) | (go_at_call_of 24 vI; exact (D.out.kIRd rfl).newer) | (go_at_call_of 26 vI; exact (D.out.kIRs1 rfl).newer) | (go_at_call_of 35 vS; exact (D.out.kSImmS rfl).newer) | (go_at_call_of 27 vS; exact (D.out.kSRs2 rfl).newer)) | (refine skip_same rfl (by kernel_rfl) (by kernel_rfl) ?_))
        rcases Decidable.em (xU = 0) with gU | gU
        · subst gU
          iterate 17 (first | go_big_quiet_step (first | (go_at_call 22; exact (awake_any).newer) | (go_at_call_of 23 vR; exact (D.out.kROpcode rfl).newer) | (go_at_call_of 24 vR; exact (D.out.kRRd rfl).newer) | (go_at_call_of 25 vR; exact (D.out.kRFunct3 rfl).newer) | (go_at_call_of 26 vR; exact (D.out.kRRs1 rfl).newer) | (go_at_call_of 27 vR; exact (D.out.kRRs2 rfl).newer) | (go_at_call_of 28 vR; exact (D.out.kRFunct7 rfl).newer) | (go_at_call_of 34 vI; exact (D.out.kIImmI rfl).newer) | (go_at_call_of 24 vI; exact (D.out.kIRd rfl).newer) | (go_at_call_of 26 vI; exact (D.out.kIRs1 rfl).newer) | (go_at_call_of 35 vS; exact (D.out.kSImmS rfl).newer) | (go_at_call_of 27 vS; exact (D.out.kSRs2 rfl).newer) | (go_at_call_of 37 vU; exact (D.out.kUImmU rfl).newer) | (go_at_call_of 23 vU; exact (D.out.kUOpcode rfl).newer)) | (refine skip_same rfl (by kernel_rfl) (by kernel_rfl) ?_))
          rcases Decidable.em (xJ = 0) with gJ | gJ
          · subst gJ
            repeat (first | go_big_quiet_step (first | (go_at_call 22; exact (awake_any).newer) | (go_at_call_of 23 vR; exact (D.out.kROpcode rfl).newer) | (go_at_call_of 24 vR; exact (D.out.kRRd rfl).newer) | (go_at_call_of 25 vR; exact (D.out.kRFunct3 rfl).newer) | (go_at_call_of 26 vR; exact (D.out.kRRs1 rfl).newer) | (go_at_call_of 27 vR; exact (D.out.kRRs2 rfl).newer) | (go_at_call_of 28 vR; exact (D.out.kRFunct7 rfl).newer) | (go_at_call_of 34 vI; exact (D.out.kIImmI rfl).newer) | (go_at_call_of 24 vI; exact (D.out.kIRd rfl).newer) | (go_at_call_of 26 vI; exact (D.out.kIRs1 rfl).newer) | (go_at_call_of 35 vS; exact (D.out.kSImmS rfl).newer) | (go_at_call_of 27 vS; exact (D.out.kSRs2 rfl).newer) | (go_at_call_of 37 vU; exact (D.out.kUImmU rfl).newer) | (go_at_call_of 23 vU; exact (D.out.kUOpcode rfl).newer) | (go_at_call_of 38 vJ; exact (D.out.kJImmJ rfl).newer) | (go_at_call_of 24 vJ; exact (D.out.kJRd rfl).newer)) | (refine skip_same rfl (by kernel_rfl) (by kernel_rfl) ?_))
            refine wpQuiet_nil ?_
            rintro w1 ⟨b1, rfl⟩
            go_wp2_with fail
            go_ret
            exact ⟨rfl, below_alloc b1.below⟩
          · have nJ : (xJ != 0) = true := by simpa using gJ
            repeat (first | go_big_quiet_step (first | (go_at_call 22; exact (awake_any).newer) | (go_at_call_of 23 vR; exact (D.out.kROpcode rfl).newer) | (go_at_call_of 24 vR; exact (D.out.kRRd rfl).newer) | (go_at_call_of 25 vR; exact (D.out.kRFunct3 rfl).newer) | (go_at_call_of 26 vR; exact (D.out.kRRs1 rfl).newer) | (go_at_call_of 27 vR; exact (D.out.kRRs2 rfl).newer) | (go_at_call_of 28 vR; exact (D.out.kRFunct7 rfl).newer) | (go_at_call_of 34 vI; exact (D.out.kIImmI rfl).newer) | (go_at_call_of 24 vI; exact (D.out.kIRd rfl).newer) | (go_at_call_of 26 vI; exact (D.out.kIRs1 rfl).newer) | (go_at_call_of 35 vS; exact (D.out.kSImmS rfl).newer) | (go_at_call_of 27 vS; exact (D.out.kSRs2 rfl).newer) | (go_at_call_of 37 vU; exact (D.out.kUImmU rfl).newer) | (go_at_call_of 23 vU; exact (D.out.kUOpcode rfl).newer)) | (refine skip_same rfl (by kernel_rfl) (by kernel_rfl) ?_))
            refine wpQuiet_nil ?_
            rintro w1 ⟨b1, rfl⟩
            go_wp2_with fail
            go_ret
            exact ⟨rfl, below_alloc b1.below⟩
        · have nU : (xU != 0) = true := by simpa using gU
          iterate 17 (first | go_big_quiet_step (first | (go_at_call 22; exact (awake_any).newer) | (go_at_call_of 23 vR; exact (D.out.kROpcode rfl).newer) | (go_at_call_of 24 vR; exact (D.out.kRRd rfl).newer) | (go_at_call_of 25 vR; exact (D.out.kRFunct3 rfl).newer) | (go_at_call_of 26 vR; exact (D.out.kRRs1 rfl).newer) | (go_at_call_of 27 vR; exact (D.out.kRRs2 rfl).newer) | (go_at_call_of 28 vR; exact (D.out.kRFunct7 rfl).newer) | (go_at_call_of 34 vI; exact (D.out.kIImmI rfl).newer) | (go_at_call_of 24 vI; exact (D.out.kIRd rfl).newer) | (go_at_call_of 26 vI; exact (D.out.kIRs1 rfl).newer) | (go_at_call_of 35 vS; exact (D.out.kSImmS rfl).newer) | (go_at_call_of 27 vS; exact (D.out.kSRs2 rfl).newer)) | (refine skip_same rfl (by kernel_rfl) (by kernel_rfl) ?_))
          rcases Decidable.em (xJ = 0) with gJ | gJ
          · subst gJ
            repeat (first | go_big_quiet_step (first | (go_at_call 22; exact (awake_any).newer) | (go_at_call_of 23 vR; exact (D.out.kROpcode rfl).newer) | (go_at_call_of 24 vR; exact (D.out.kRRd rfl).newer) | (go_at_call_of 25 vR; exact (D.out.kRFunct3 rfl).newer) | (go_at_call_of 26 vR; exact (D.out.kRRs1 rfl).newer) | (go_at_call_of 27 vR; exact (D.out.kRRs2 rfl).newer) | (go_at_call_of 28 vR; exact (D.out.kRFunct7 rfl).newer) | (go_at_call_of 34 vI; exact (D.out.kIImmI rfl).newer) | (go_at_call_of 24 vI; exact (D.out.kIRd rfl).newer) | (go_at_call_of 26 vI; exact (D.out.kIRs1 rfl).newer) | (go_at_call_of 35 vS; exact (D.out.kSImmS rfl).newer) | (go_at_call_of 27 vS; exact (D.out.kSRs2 rfl).newer) | (go_at_call_of 38 vJ; exact (D.out.kJImmJ rfl).newer) | (go_at_call_of 24 vJ; exact (D.out.kJRd rfl).newer)) | (refine skip_same rfl (by kernel_rfl) (by kernel_rfl) ?_))
            refine wpQuiet_nil ?_
            rintro w1 ⟨b1, rfl⟩
            go_wp2_with fail
            go_ret
            exact ⟨rfl, below_alloc b1.below⟩
          · have nJ : (xJ != 0) = true := by simpa using gJ
            repeat (first | go_big_quiet_step (first | (go_at_call 22; exact (awake_any).newer) | (go_at_call_of 23 vR; exact (D.out.kROpcode rfl).newer) | (go_at_call_of 24 vR; exact (D.out.kRRd rfl).newer) | (go_at_call_of 25 vR; exact (D.out.kRFunct3 rfl).newer) | (go_at_call_of 26 vR; exact (D.out.kRRs1 rfl).newer) | (go_at_call_of 27 vR; exact (D.out.kRRs2 rfl).newer) | (go_at_call_of 28 vR; exact (D.out.kRFunct7 rfl).newer) | (go_at_call_of 34 vI; exact (D.out.kIImmI rfl).newer) | (go_at_call_of 24 vI; exact (D.out.kIRd rfl).newer) | (go_at_call_of 26 vI; exact (D.out.kIRs1 rfl).newer) | (go_at_call_of 35 vS; exact (D.out.kSImmS rfl).newer) | (go_at_call_of 27 vS; exact (D.out.kSRs2 rfl).newer)) | (refine skip_same rfl (by kernel_rfl) (by kernel_rfl) ?_))
            refine wpQuiet_nil ?_
            rintro w1 ⟨b1, rfl⟩
            go_wp2_with fail
            go_ret
            exact ⟨rfl, below_alloc b1.below⟩
    · have nS : (xS != 0) = true := by simpa using gS
      iterate 17 (first | go_big_quiet_step (first | (go_at_call 22; exact (awake_any).newer) | (go_at_call_of 23 vR; exact (D.out.kROpcode rfl).newer) | (go_at_call_of 24 vR; exact (D.out.kRRd rfl).newer) | (go_at_call_of 25 vR; exact (D.out.kRFunct3 rfl).newer) | (go_at_call_of 26 vR; exact (D.out.kRRs1 rfl).newer) | (go_at_call_of 27 vR; exact (D.out.kRRs2 rfl).newer) | (go_at_call_of 28 vR; exact (D.out.kRFunct7 rfl).newer) | (go_at_call_of 34 vI; exact (D.out.kIImmI rfl).newer) | (go_at_call_of 24 vI; exact (D.out.kIRd rfl).newer) | (go_at_call_of 26 vI; exact (D.out.kIRs1 rfl).newer)) | (refine skip_same rfl (by kernel_rfl) (by kernel_rfl) ?_))
      rcases Decidable.em (xB = 0) with gB | gB
      · subst gB
        iterate 17 (first | go_big_quiet_step (first | (go_at_call 22; exact (awake_any).newer) | (go_at_call_of 23 vR; exact (D.out.kROpcode rfl).newer) | (go_at_call_of 24 vR; exact (D.out.kRRd rfl).newer) | (go_at_call_of 25 vR; exact (D.out.kRFunct3 rfl).newer) | (go_at_call_of 26 vR; exact (D.out.kRRs1 rfl).newer) | (go_at_call_of 27 vR; exact (D.out.kRRs2 rfl).newer) | (go_at_call_of 28 vR; exact (D.out.kRFunct7 rfl).newer) | (go_at_call_of 34 vI; exact (D.out.kIImmI rfl).newer) | (go_at_call_of 24 vI; exact (D.out.kIRd rfl).newer) | (go_at_call_of 26 vI; exact (D.out.kIRs1 rfl).newer) | (go_at_call_of 36 vB; exact (D.out.kBImmB rfl).newer) | (go_at_call_of 25 vB; exact (D.out.kBFunct3 rfl).newer)) | (refine skip_same rfl (by kernel_rfl) (by kernel_rfl) ?_))
        rcases Decidable.em (xU = 0) with gU | gU
        · subst gU
          iterate 17 (first | go_big_quiet_step (first | (go_at_call 22; exact (awake_any).newer) | (go_at_call_of 23 vR; exact (D.out.kROpcode rfl).newer) | (go_at_call_of 24 vR; exact (D.out.kRRd rfl).newer) | (go_at_call_of 25 vR; exact (D.out.kRFunct3 rfl).newer) | (go_at_call_of 26 vR; exact (D.out.kRRs1 rfl).newer) | (go_at_call_of 27 vR; exact (D.out.kRRs2 rfl).newer) | (go_at_call_of 28 vR; exact (D.out.kRFunct7 rfl).newer) | (go_at_call_of 34 vI; exact (D.out.kIImmI rfl).newer) | (go_at_call_of 24 vI; exact (D.out.kIRd rfl).newer) | (go_at_call_of 26 vI; exact (D.out.kIRs1 rfl).newer) | (go_at_call_of 36 vB; exact (D.out.kBImmB rfl).newer) | (go_at_call_of 25 vB; exact (D.out.kBFunct3 rfl).newer) | (go_at_call_of 37 vU; exact (D.out.kUImmU rfl).newer) | (go_at_call_of 23 vU; exact (D.out.kUOpcode rfl).newer)) | (refine skip_same rfl (by kernel_rfl) (by kernel_rfl) ?_))
          rcases Decidable.em (xJ = 0) with gJ | gJ
          · subst gJ
            repeat (first | go_big_quiet_step (first | (go_at_call 22; exact (awake_any).newer) | (go_at_call_of 23 vR; exact (D.out.kROpcode rfl).newer) | (go_at_call_of 24 vR; exact (D.out.kRRd rfl).newer) | (go_at_call_of 25 vR; exact (D.out.kRFunct3 rfl).newer) | (go_at_call_of 26 vR; exact (D.out.kRRs1 rfl).newer) | (go_at_call_of 27 vR; exact (D.out.kRRs2 rfl).newer) | (go_at_call_of 28 vR; exact (D.out.kRFunct7 rfl).newer) | (go_at_call_of 34 vI; exact (D.out.kIImmI rfl).newer) | (go_at_call_of 24 vI; exact (D.out.kIRd rfl).newer) | (go_at_call_of 26 vI; exact (D.out.kIRs1 rfl).newer) | (go_at_call_of 36 vB; exact (D.out.kBImmB rfl).newer) | (go_at_call_of 25 vB; exact (D.out.kBFunct3 rfl).newer) | (go_at_call_of 37 vU; exact (D.out.kUImmU rfl).newer) | (go_at_call_of 23 vU; exact (D.out.kUOpcode rfl).newer) | (go_at_call_of 38 vJ; exact (D.out.kJImmJ rfl).newer) | (go_at_call_of 24 vJ; exact (D.out.kJRd rfl).newer)) | (refine skip_same rfl (by kernel_rfl) (by kernel_rfl) ?_))
            refine wpQuiet_nil ?_
            rintro w1 ⟨b1, rfl⟩
            go_wp2_with fail
            go_ret
            exact ⟨rfl, below_alloc b1.below⟩
          · have nJ : (xJ != 0) = true := by simpa using gJ
            repeat (first | go_big_quiet_step (first | (go_at_call 22; exact (awake_any).newer) | (go_at_call_of 23 vR; exact (D.out.kROpcode rfl).newer) | (go_at_call_of 24 vR; exact (D.out.kRRd rfl).newer) | (go_at_call_of 25 vR; exact (D.out.kRFunct3 rfl).newer) | (go_at_call_of 26 vR; exact (D.out.kRRs1 rfl).newer) | (go_at_call_of 27 vR; exact (D.out.kRRs2 rfl).newer) | (go_at_call_of 28 vR; exact (D.out.kRFunct7 rfl).newer) | (go_at_call_of 34 vI; exact (D.out.kIImmI rfl).newer) | (go_at_call_of 24 vI; exact (D.out.kIRd rfl).newer) | (go_at_call_of 26 vI; exact (D.out.kIRs1 rfl).newer) | (go_at_call_of 36 vB; exact (D.out.kBImmB rfl).newer) | (go_at_call_of 25 vB; exact (D.out.kBFunct3 rfl).newer) | (go_at_call_of 37 vU; exact (D.out.kUImmU rfl).newer) | (go_at_call_of 23 vU; exact (D.out.kUOpcode rfl).newer)) | (refine skip_same rfl (by kernel_rfl) (by kernel_rfl) ?_))
            refine wpQuiet_nil ?_
            rintro w1 ⟨b1, rfl⟩
            go_wp2_with fail
            go_ret
            exact ⟨rfl, below_alloc b1.below⟩
        · have nU : (xU != 0) = true := by simpa using gU
          iterate 17 (first | go_big_quiet_step (first | (go_at_call 22; exact (awake_any).newer) | (go_at_call_of 23 vR; exact (D.out.kROpcode rfl).newer) | (go_at_call_of 24 vR; exact (D.out.kRRd rfl).newer) | (go_at_call_of 25 vR; exact (D.out.kRFunct3 rfl).newer) | (go_at_call_of 26 vR; exact (D.out.kRRs1 rfl).newer) | (go_at_call_of 27 vR; exact (D.out.kRRs2 rfl).newer) | (go_at_call_of 28 vR; exact (D.out.kRFunct7 rfl).newer) | (go_at_call_of 34 vI; exact (D.out.kIImmI rfl).newer) | (go_at_call_of 24 vI; exact (D.out.kIRd rfl).newer) | (go_at_call_of 26 vI; exact (D.out.kIRs1 rfl).newer) | (go_at_call_of 36 vB; exact (D.out.kBImmB rfl).newer) | (go_at_call_of 25 vB; exact (D.out.kBFunct3 rfl).newer)) | (refine skip_same rfl (by kernel_rfl) (by kernel_rfl) ?_))
          rcases Decidable.em (xJ = 0) with gJ | gJ
          · subst gJ
            repeat (first | go_big_quiet_step (first | (go_at_call 22; exact (awake_any).newer) | (go_at_call_of 23 vR; exact (D.out.kROpcode rfl).newer) | (go_at_call_of 24 vR; exact (D.out.kRRd rfl).newer) | (go_at_call_of 25 vR; exact (D.out.kRFunct3 rfl).newer) | (go_at_call_of 26 vR; exact (D.out.kRRs1 rfl).newer) | (go_at_call_of 27 vR; exact (D.out.kRRs2 rfl).newer) | (go_at_call_of 28 vR; exact (D.out.kRFunct7 rfl).newer) | (go_at_call_of 34 vI; exact (D.out.kIImmI rfl).newer) | (go_at_call_of 24 vI; exact (D.out.kIRd rfl).newer) | (go_at_call_of 26 vI; exact (D.out.kIRs1 rfl).newer) | (go_at_call_of 36 vB; exact (D.out.kBImmB rfl).newer) | (go_at_call_of 25 vB; exact (D.out.kBFunct3 rfl).newer) | (go_at_call_of 38 vJ; exact (D.out.kJImmJ rfl).newer) | (go_at_call_of 24 vJ; exact (D.out.kJRd rfl).newer)) | (refine skip_same rfl (by kernel_rfl) (by kernel_rfl) ?_))
            refine wpQuiet_nil ?_
            rintro w1 ⟨b1, rfl⟩
            go_wp2_with fail
            go_ret
            exact ⟨rfl, below_alloc b1.below⟩
          · have nJ : (xJ != 0) = true := by simpa using gJ
            repeat (first | go_big_quiet_step (first | (go_at_call 22; exact (awake_any).newer) | (go_at_call_of 23 vR; exact (D.out.kROpcode rfl).newer) | (go_at_call_of 24 vR; exact (D.out.kRRd rfl).newer) | (go_at_call_of 25 vR; exact (D.out.kRFunct3 rfl).newer) | (go_at_call_of 26 vR; exact (D.out.kRRs1 rfl).newer) | (go_at_call_of 27 vR; exact (D.out.kRRs2 rfl).newer) | (go_at_call_of 28 vR; exact (D.out.kRFunct7 rfl).newer) | (go_at_call_of 34 vI; exact (D.out.kIImmI rfl).newer) | (go_at_call_of 24 vI; exact (D.out.kIRd rfl).newer) | (go_at_call_of 26 vI; exact (D.out.kIRs1 rfl).newer) | (go_at_call_of 36 vB; exact (D.out.kBImmB rfl).newer) | (go_at_call_of 25 vB; exact (D.out.kBFunct3 rfl).newer)) | (refine skip_same rfl (by kernel_rfl) (by kernel_rfl) ?_))
            refine wpQuiet_nil ?_
            rintro w1 ⟨b1, rfl⟩
            go_wp2_with fail
            go_ret
            exact ⟨rfl, below_alloc b1.below⟩
      · have nB : (xB != 0) = true := by simpa using gB
        iterate 17 (first | go_big_quiet_step (first | (go_at_call 22; exact (awake_any).newer) | (go_at_call_of 23 vR; exact (D.out.kROpcode rfl).newer) | (go_at_call_of 24 vR; exact (D.out.kRRd rfl).newer) | (go_at_call_of 25 vR; exact (D.out.kRFunct3 rfl).newer) | (go_at_call_of 26 vR; exact (D.out.kRRs1 rfl).newer) | (go_at_call_of 27 vR; exact (D.out.kRRs2 rfl).newer) | (go_at_call_of 28 vR; exact (D.out.kRFunct7 rfl).newer) | (go_at_call_of 34 vI; exact (D.out.kIImmI rfl).newer) | (go_at_call_of 24 vI; exact (D.out.kIRd rfl).newer) | (go_at_call_of 26 vI; exact (D.out.kIRs1 rfl).newer)) | (refine skip_same rfl (by kernel_rfl) (by kernel_rfl) ?_))
        rcases Decidable.em (xU = 0) with gU | gU
        · subst gU
          iterate 17 (first | go_big_quiet_step (first | (go_at_call 22; exact (awake_any).newer) | (go_at_call_of 23 vR; exact (D.out.kROpcode rfl).newer) | (go_at_call_of 24 vR; exact (D.out.kRRd rfl).newer) | (go_at_call_of 25 vR; exact (D.out.kRFunct3 rfl).newer) | (go_at_call_of 26 vR; exact (D.out.kRRs1 rfl).newer) | (go_at_call_of 27 vR; exact (D.out.kRRs2 rfl).newer) | (go_at_call_of 28 vR; exact (D.out.kRFunct7 rfl).newer) | (go_at_call_of 34 vI; exact (D.out.kIImmI rfl).newer) | (go_at_call_of 24 vI; exact (D.out.kIRd rfl).newer) | (go_at_call_of 26 vI; exact (D.out.kIRs1 rfl).newer) | (go_at_call_of 37 vU; exact (D.out.kUImmU rfl).newer) | (go_at_call_of 23 vU; exact (D.out.kUOpcode rfl).newer)) | (refine skip_same rfl (by kernel_rfl) (by kernel_rfl) ?_))
          rcases Decidable.em (xJ = 0) with gJ | gJ
          · subst gJ
            repeat (first | go_big_quiet_step (first | (go_at_call 22; exact (awake_any).newer) | (go_at_call_of 23 vR; exact (D.out.kROpcode rfl).newer) | (go_at_call_of 24 vR; exact (D.out.kRRd rfl).newer) | (go_at_call_of 25 vR; exact (D.out.kRFunct3 rfl).newer) | (go_at_call_of 26 vR; exact (D.out.kRRs1 rfl).newer) | (go_at_call_of 27 vR; exact (D.out.kRRs2 rfl).newer) | (go_at_call_of 28 vR; exact (D.out.kRFunct7 rfl).newer) | (go_at_call_of 34 vI; exact (D.out.kIImmI rfl).newer) | (go_at_call_of 24 vI; exact (D.out.kIRd rfl).newer) | (go_at_call_of 26 vI; exact (D.out.kIRs1 rfl).newer) | (go_at_call_of 37 vU; exact (D.out.kUImmU rfl).newer) | (go_at_call_of 23 vU; exact (D.out.kUOpcode rfl).newer) | (go_at_call_of 38 vJ; exact (D.out.kJImmJ rfl).newer) | (go_at_call_of 24 vJ; exact (D.out.kJRd rfl).newer)) | (refine skip_same rfl (by kernel_rfl) (by kernel_rfl) ?_))
            refine wpQuiet_nil ?_
            rintro w1 ⟨b1, rfl⟩
            go_wp2_with fail
            go_ret
            exact ⟨rfl, below_alloc b1.below⟩
          · have nJ : (xJ != 0) = true := by simpa using gJ
            repeat (first | go_big_quiet_step (first | (go_at_call 22; exact (awake_any).newer) | (go_at_call_of 23 vR; exact (D.out.kROpcode rfl).newer) | (go_at_call_of 24 vR; exact (D.out.kRRd rfl).newer) | (go_at_call_of 25 vR; exact (D.out.kRFunct3 rfl).newer) | (go_at_call_of 26 vR; exact (D.out.kRRs1 rfl).newer) | (go_at_call_of 27 vR; exact (D.out.kRRs2 rfl).newer) | (go_at_call_of 28 vR; exact (D.out.kRFunct7 rfl).newer) | (go_at_call_of 34 vI; exact (D.out.kIImmI rfl).newer) | (go_at_call_of 24 vI; exact (D.out.kIRd rfl).newer) | (go_at_call_of 26 vI; exact (D.out.kIRs1 rfl).newer) | (go_at_call_of 37 vU; exact (D.out.kUImmU rfl).newer) | (go_at_call_of 23 vU; exact (D.out.kUOpcode rfl).newer)) | (refine skip_same rfl (by kernel_rfl) (by kernel_rfl) ?_))
            refine wpQuiet_nil ?_
            rintro w1 ⟨b1, rfl⟩
            go_wp2_with fail
            go_ret
            exact ⟨rfl, below_alloc b1.below⟩
        · have nU : (xU != 0) = true := by simpa using gU
          iterate 17 (first | go_big_quiet_step (first | (go_at_call 22; exact (awake_any).newer) | (go_at_call_of 23 vR; exact (D.out.kROpcode rfl).newer) | (go_at_call_of 24 vR; exact (D.out.kRRd rfl).newer) | (go_at_call_of 25 vR; exact (D.out.kRFunct3 rfl).newer) | (go_at_call_of 26 vR; exact (D.out.kRRs1 rfl).newer) | (go_at_call_of 27 vR; exact (D.out.kRRs2 rfl).newer) | (go_at_call_of 28 vR; exact (D.out.kRFunct7 rfl).newer) | (go_at_call_of 34 vI; exact (D.out.kIImmI rfl).newer) | (go_at_call_of 24 vI; exact (D.out.kIRd rfl).newer) | (go_at_call_of 26 vI; exact (D.out.kIRs1 rfl).newer)) | (refine skip_same rfl (by kernel_rfl) (by kernel_rfl) ?_))
          rcases Decidable.em (xJ = 0) with gJ | gJ
          · subst gJ
            repeat (first | go_big_quiet_step (first | (go_at_call 22; exact (awake_any).newer) | (go_at_call_of 23 vR; exact (D.out.kROpcode rfl).newer) | (go_at_call_of 24 vR; exact (D.out.kRRd rfl).newer) | (go_at_call_of 25 vR; exact (D.out.kRFunct3 rfl).newer) | (go_at_call_of 26 vR; exact (D.out.kRRs1 rfl).newer) | (go_at_call_of 27 vR; exact (D.out.kRRs2 rfl).newer) | (go_at_call_of 28 vR; exact (D.out.kRFunct7 rfl).newer) | (go_at_call_of 34 vI; exact (D.out.kIImmI rfl).newer) | (go_at_call_of 24 vI; exact (D.out.kIRd rfl).newer) | (go_at_call_of 26 vI; exact (D.out.kIRs1 rfl).newer) | (go_at_call_of 38 vJ; exact (D.out.kJImmJ rfl).newer) | (go_at_call_of 24 vJ; exact (D.out.kJRd rfl).newer)) | (refine skip_same rfl (by kernel_rfl) (by kernel_rfl) ?_))
            refine wpQuiet_nil ?_
            rintro w1 ⟨b1, rfl⟩
            go_wp2_with fail
            go_ret
            exact ⟨rfl, below_alloc b1.below⟩
          · have nJ : (xJ != 0) = true := by simpa using gJ
            repeat (first | go_big_quiet_step (first | (go_at_call 22; exact (awake_any).newer) | (go_at_call_of 23 vR; exact (D.out.kROpcode rfl).newer) | (go_at_call_of 24 vR; exact (D.out.kRRd rfl).newer) | (go_at_call_of 25 vR; exact (D.out.kRFunct3 rfl).newer) | (go_at_call_of 26 vR; exact (D.out.kRRs1 rfl).newer) | (go_at_call_of 27 vR; exact (D.out.kRRs2 rfl).newer) | (go_at_call_of 28 vR; exact (D.out.kRFunct7 rfl).newer) | (go_at_call_of 34 vI; exact (D.out.kIImmI rfl).newer) | (go_at_call_of 24 vI; exact (D.out.kIRd rfl).newer) | (go_at_call_of 26 vI; exact (D.out.kIRs1 rfl).newer)) | (refine skip_same rfl (by kernel_rfl) (by kernel_rfl) ?_))
            refine wpQuiet_nil ?_
            rintro w1 ⟨b1, rfl⟩
            go_wp2_with fail
            go_ret
            exact ⟨rfl, below_alloc b1.below⟩
  · have nI : (xI != 0) = true := by simpa using gI
    iterate 23 (first | go_big_quiet_step (first | (go_at_call 22; exact (awake_any).newer) | (go_at_call_of 23 vR; exact (D.out.kROpcode rfl).newer) | (go_at_call_of 24 vR; exact (D.out.kRRd rfl).newer) | (go_at_call_of 25 vR; exact (D.out.kRFunct3 rfl).newer) | (go_at_call_of 26 vR; exact (D.out.kRRs1 rfl).newer) | (go_at_call_of 27 vR; exact (D.out.kRRs2 rfl).newer) | (go_at_call_of 28 vR; exact (D.out.kRFunct7 rfl).newer)) | (refine skip_same rfl (by kernel_rfl) (by kernel_rfl) ?_))
    rcases Decidable.em (xS = 0) with gS | gS
    · subst gS
      iterate 17 (first | go_big_quiet_step (first | (go_at_call 22; exact (awake_any).newer) | (go_at_call_of 23 vR; exact (D.out.kROpcode rfl).newer) | (go_at_call_of 24 vR; exact (D.out.kRRd rfl).newer) | (go_at_call_of 25 vR; exact (D.out.kRFunct3 rfl).newer) | (go_at_call_of 26 vR; exact (D.out.kRRs1 rfl).newer) | (go_at_call_of 27 vR; exact (D.out.kRRs2 rfl).newer) | (go_at_call_of 28 vR; exact (D.out.kRFunct7 rfl).newer) | (go_at_call_of 35 vS; exact (D.out.kSImmS rfl).newer) | (go_at_call_of 27 vS; exact (D.out.kSRs2 rfl).newer)) | (refine skip_same rfl (by kernel_rfl) (by kernel_rfl) ?_))
      rcases Decidable.em (xB = 0) with gB | gB
      · subst gB
        iterate 17 (first | go_big_quiet_step (first | (go_at_call 22; exact (awake_any).newer) | (go_at_call_of 23 vR; exact (D.out.kROpcode rfl).newer) | (go_at_call_of 24 vR; exact (D.out.kRRd rfl).newer) | (go_at_call_of 25 vR; exact (D.out.kRFunct3 rfl).newer) | (go_at_call_of 26 vR; exact (D.out.kRRs1 rfl).newer) | (go_at_call_of 27 vR; exact (D.out.kRRs2 rfl).newer) | (go_at_call_of 28 vR; exact (D.out.kRFunct7 rfl).newer) | (go_at_call_of 35 vS; exact (D.out.kSImmS rfl).newer) | (go_at_call_of 27 vS; exact (D.out.kSRs2 rfl).newer) | (go_at_call_of 36 vB; exact (D.out.kBImmB rfl).newer) | (go_at_call_of 25 vB; exact (D.out.kBFunct3 rfl).newer)) | (refine skip_same rfl (by kernel_rfl) (by kernel_rfl) ?_))
        rcases Decidable.em (xU = 0) with gU | gU
        · subst gU
          iterate 17 (first | go_big_quiet_step (first | (go_at_call 22; exact (awake_any).newer) | (go_at_call_of 23 vR; exact (D.out.kROpcode rfl).newer) | (go_at_call_of 24 vR; exact (D.out.kRRd rfl).newer) | (go_at_call_of 25 vR; exact (D.out.kRFunct3 rfl).newer) | (go_at_call_of 26 vR; exact (D.out.kRRs1 rfl).newer) | (go_at_call_of 27 vR; exact (D.out.kRRs2 rfl).newer) | (go_at_call_of 28 vR; exact (D.out.kRFunct7 rfl).newer) | (go_at_call_of 35 vS; exact (D.out.kSImmS rfl).newer) | (go_at_call_of 27 vS; exact (D.out.kSRs2 rfl).newer) | (go_at_call_of 36 vB; exact (D.out.kBImmB rfl).newer) | (go_at_call_of 25 vB; exact (D.out.kBFunct3 rfl).newer) | (go_at_call_of 37 vU; exact (D.out.kUImmU rfl).newer) | (go_at_call_of 23 vU; exact (D.out.kUOpcode rfl).newer)) | (refine skip_same rfl (by kernel_rfl) (by kernel_rfl) ?_))
          rcases Decidable.em (xJ = 0) with gJ | gJ
          · subst gJ
            repeat (first | go_big_quiet_step (first | (go_at_call 22; exact (awake_any).newer) | (go_at_call_of 23 vR; exact (D.out.kROpcode rfl).newer) | (go_at_call_of 24 vR; exact (D.out.kRRd rfl).newer) | (go_at_call_of 25 vR; exact (D.out.kRFunct3 rfl).newer) | (go_at_call_of 26 vR; exact (D.out.kRRs1 rfl).newer) | (go_at_call_of 27 vR; exact (D.out.kRRs2 rfl).newer) | (go_at_call_of 28 vR; exact (D.out.kRFunct7 rfl).newer) | (go_at_call_of 35 vS; exact (D.out.kSImmS rfl).newer) | (go_at_call_of 27 vS; exact (D.out.kSRs2 rfl).newer) | (go_at_call_of 36 vB; exact (D.out.kBImmB rfl).newer) | (go_at_call_of 25 vB; exact (D.out.kBFunct3 rfl).newer) | (go_at_call_of 37 vU; exact (D.out.kUImmU rfl).newer) | (go_at_call_of 23 vU; exact (D.out.kUOpcode rfl).newer) | (go_at_call_of 38 vJ; exact (D.out.kJImmJ rfl).newer) | (go_at_call_of 24 vJ; exact (D.out.kJRd rfl).newer)) | (refine skip_same rfl (by kernel_rfl) (by kernel_rfl) ?_))
            refine wpQuiet_nil ?_
            rintro w1 ⟨b1, rfl⟩
            go_wp2_with fail
            go_ret
            exact ⟨rfl, below_alloc b1.below⟩
          · have nJ : (xJ != 0) = true := by simpa using gJ
            repeat (first | go_big_quiet_step (first | (go_at_call 22; exact (awake_any).newer) | (go_at_call_of 23 vR; exact (D.out.kROpcode rfl).newer) | (go_at_call_of 24 vR; exact (D.out.kRRd rfl).newer) | (go_at_call_of 25 vR; exact (D.out.kRFunct3 rfl).newer) | (go_at_call_of 26 vR; exact (D.out.kRRs1 rfl).newer) | (go_at_call_of 27 vR; exact (D.out.kRRs2 rfl).newer) | (go_at_call_of 28 vR; exact (D.out.kRFunct7 rfl).newer) | (go_at_call_of 35 vS; exact (D.out.kSImmS rfl).newer) | (go_at_call_of 27 vS; exact (D.out.kSRs2 rfl).newer) | (go_at_call_of 36 vB; exact (D.out.kBImmB rfl).newer) | (go_at_call_of 25 vB; exact (D.out.kBFunct3 rfl).newer) | (go_at_call_of 37 vU; exact (D.out.kUImmU rfl).newer) | (go_at_call_of 23 vU; exact (D.out.kUOpcode rfl).newer)) | (refine skip_same rfl (by kernel_rfl) (by kernel_rfl) ?_))
            refine wpQuiet_nil ?_
            rintro w1 ⟨b1, rfl⟩
            go_wp2_with fail
            go_ret
            exact ⟨rfl, below_alloc b1.below⟩
        · have nU : (xU != 0) = true := by simpa using gU
          iterate 17 (first | go_big_quiet_step (first | (go_at_call 22; exact (awake_any).newer) | (go_at_call_of 23 vR; exact (D.out.kROpcode rfl).newer) | (go_at_call_of 24 vR; exact (D.out.kRRd rfl).newer) | (go_at_call_of 25 vR; exact (D.out.kRFunct3 rfl).newer) | (go_at_call_of 26 vR; exact (D.out.kRRs1 rfl).newer) | (go_at_call_of 27 vR; exact (D.out.kRRs2 rfl).newer) | (go_at_call_of 28 vR; exact (D.out.kRFunct7 rfl).newer) | (go_at_call_of 35 vS; exact (D.out.kSImmS rfl).newer) | (go_at_call_of 27 vS; exact (D.out.kSRs2 rfl).newer) | (go_at_call_of 36 vB; exact (D.out.kBImmB rfl).newer) | (go_at_call_of 25 vB; exact (D.out.kBFunct3 rfl).newer)) | (refine skip_same rfl (by kernel_rfl) (by kernel_rfl) ?_))
          rcases Decidable.em (xJ = 0) with gJ | gJ
          · subst gJ
            repeat (first | go_big_quiet_step (first | (go_at_call 22; exact (awake_any).newer) | (go_at_call_of 23 vR; exact (D.out.kROpcode rfl).newer) | (go_at_call_of 24 vR; exact (D.out.kRRd rfl).newer) | (go_at_call_of 25 vR; exact (D.out.kRFunct3 rfl).newer) | (go_at_call_of 26 vR; exact (D.out.kRRs1 rfl).newer) | (go_at_call_of 27 vR; exact (D.out.kRRs2 rfl).newer) | (go_at_call_of 28 vR; exact (D.out.kRFunct7 rfl).newer) | (go_at_call_of 35 vS; exact (D.out.kSImmS rfl).newer) | (go_at_call_of 27 vS; exact (D.out.kSRs2 rfl).newer) | (go_at_call_of 36 vB; exact (D.out.kBImmB rfl).newer) | (go_at_call_of 25 vB; exact (D.out.kBFunct3 rfl).newer) | (go_at_call_of 38 vJ; exact (D.out.kJImmJ rfl).newer) | (go_at_call_of 24 vJ; exact (D.out.kJRd rfl).newer)) | (refine skip_same rfl (by kernel_rfl) (by kernel_rfl) ?_))
            refine wpQuiet_nil ?_
            rintro w1 ⟨b1, rfl⟩
            go_wp2_with fail
            go_ret
            exact ⟨rfl, below_alloc b1.below⟩
          · have nJ : (xJ != 0) = true := by simpa using gJ
            repeat (first | go_big_quiet_step (first | (go_at_call 22; exact (awake_any).newer) | (go_at_call_of 23 vR; exact (D.out.kROpcode rfl).newer) | (go_at_call_of 24 vR; exact (D.out.kRRd rfl).newer) | (go_at_call_of 25 vR; exact (D.out.kRFunct3 rfl).newer) | (go_at_call_of 26 vR; exact (D.out.kRRs1 rfl).newer) | (go_at_call_of 27 vR; exact (D.out.kRRs2 rfl).newer) | (go_at_call_of 28 vR; exact (D.out.kRFunct7 rfl).newer) | (go_at_call_of 35 vS; exact (D.out.kSImmS rfl).newer) | (go_at_call_of 27 vS; exact (D.out.kSRs2 rfl).newer) | (go_at_call_of 36 vB; exact (D.out.kBImmB rfl).newer) | (go_at_call_of 25 vB; exact (D.out.kBFunct3 rfl).newer)) | (refine skip_same rfl (by kernel_rfl) (by kernel_rfl) ?_))
            refine wpQuiet_nil ?_
            rintro w1 ⟨b1, rfl⟩
            go_wp2_with fail
            go_ret
            exact ⟨rfl, below_alloc b1.below⟩
      · have nB : (xB != 0) = true := by simpa using gB
        iterate 17 (first | go_big_quiet_step (first | (go_at_call 22; exact (awake_any).newer) | (go_at_call_of 23 vR; exact (D.out.kROpcode rfl).newer) | (go_at_call_of 24 vR; exact (D.out.kRRd rfl).newer) | (go_at_call_of 25 vR; exact (D.out.kRFunct3 rfl).newer) | (go_at_call_of 26 vR; exact (D.out.kRRs1 rfl).newer) | (go_at_call_of 27 vR; exact (D.out.kRRs2 rfl).newer) | (go_at_call_of 28 vR; exact (D.out.kRFunct7 rfl).newer) | (go_at_call_of 35 vS; exact (D.out.kSImmS rfl).newer) | (go_at_call_of 27 vS; exact (D.out.kSRs2 rfl).newer)) | (refine skip_same rfl (by kernel_rfl) (by kernel_rfl) ?_))
        rcases Decidable.em (xU = 0) with gU | gU
        · subst gU
          iterate 17 (first | go_big_quiet_step (first | (go_at_call 22; exact (awake_any).newer) | (go_at_call_of 23 vR; exact (D.out.kROpcode rfl).newer) | (go_at_call_of 24 vR; exact (D.out.kRRd rfl).newer) | (go_at_call_of 25 vR; exact (D.out.kRFunct3 rfl).newer) | (go_at_call_of 26 vR; exact (D.out.kRRs1 rfl).newer) | (go_at_call_of 27 vR; exact (D.out.kRRs2 rfl).newer) | (go_at_call_of 28 vR; exact (D.out.kRFunct7 rfl).newer) | (go_at_call_of 35 vS; exact (D.out.kSImmS rfl).newer) | (go_at_call_of 27 vS; exact (D.out.kSRs2 rfl).newer) | (go_at_call_of 37 vU; exact (D.out.kUImmU rfl).newer) | (go_at_call_of 23 vU; exact (D.out.kUOpcode rfl).newer)) | (refine skip_same rfl (by kernel_rfl) (by kernel_rfl) ?_))
          rcases Decidable.em (xJ = 0) with gJ | gJ
          · subst gJ
            repeat (first | go_big_quiet_step (first | (go_at_call 22; exact (awake_any).newer) | (go_at_call_of 23 vR; exact (D.out.kROpcode rfl).newer) | (go_at_call_of 24 vR; exact (D.out.kRRd rfl).newer) | (go_at_call_of 25 vR; exact (D.out.kRFunct3 rfl).newer) | (go_at_call_of 26 vR; exact (D.out.kRRs1 rfl).newer) | (go_at_call_of 27 vR; exact (D.out.kRRs2 rfl).newer) | (go_at_call_of 28 vR; exact (D.out.kRFunct7 rfl).newer) | (go_at_call_of 35 vS; exact (D.out.kSImmS rfl).newer) | (go_at_call_of 27 vS; exact (D.out.kSRs2 rfl).newer) | (go_at_call_of 37 vU; exact (D.out.kUImmU rfl).newer) | (go_at_call_of 23 vU; exact (D.out.kUOpcode rfl).newer) | (go_at_call_of 38 vJ; exact (D.out.kJImmJ rfl).newer) | (go_at_call_of 24 vJ; exact (D.out.kJRd rfl).newer)) | (refine skip_same rfl (by kernel_rfl) (by kernel_rfl) ?_))
            refine wpQuiet_nil ?_
            rintro w1 ⟨b1, rfl⟩
            go_wp2_with fail
            go_ret
            exact ⟨rfl, below_alloc b1.below⟩
          · have nJ : (xJ != 0) = true := by simpa using gJ
            repeat (first | go_big_quiet_step (first | (go_at_call 22; exact (awake_any).newer) | (go_at_call_of 23 vR; exact (D.out.kROpcode rfl).newer) | (go_at_call_of 24 vR; exact (D.out.kRRd rfl).newer) | (go_at_call_of 25 vR; exact (D.out.kRFunct3 rfl).newer) | (go_at_call_of 26 vR; exact (D.out.kRRs1 rfl).newer) | (go_at_call_of 27 vR; exact (D.out.kRRs2 rfl).newer) | (go_at_call_of 28 vR; exact (D.out.kRFunct7 rfl).newer) | (go_at_call_of 35 vS; exact (D.out.kSImmS rfl).newer) | (go_at_call_of 27 vS; exact (D.out.kSRs2 rfl).newer) | (go_at_call_of 37 vU; exact (D.out.kUImmU rfl).newer) | (go_at_call_of 23 vU; exact (D.out.kUOpcode rfl).newer)) | (refine skip_same rfl (by kernel_rfl) (by kernel_rfl) ?_))
            refine wpQuiet_nil ?_
            rintro w1 ⟨b1, rfl⟩
            go_wp2_with fail
            go_ret
            exact ⟨rfl, below_alloc b1.below⟩
        · have nU : (xU != 0) = true := by simpa using gU
          iterate 17 (first | go_big_quiet_step (first | (go_at_call 22; exact (awake_any).newer) | (go_at_call_of 23 vR; exact (D.out.kROpcode rfl).newer) | (go_at_call_of 24 vR; exact (D.out.kRRd rfl).newer) | (go_at_call_of 25 vR; exact (D.out.kRFunct3 rfl).newer) | (go_at_call_of 26 vR; exact (D.out.kRRs1 rfl).newer) | (go_at_call_of 27 vR; exact (D.out.kRRs2 rfl).newer) | (go_at_call_of 28 vR; exact (D.out.kRFunct7 rfl).newer) | (go_at_call_of 35 vS; exact (D.out.kSImmS rfl).newer) | (go_at_call_of 27 vS; exact (D.out.kSRs2 rfl).newer)) | (refine skip_same rfl (by kernel_rfl) (by kernel_rfl) ?_))
          rcases Decidable.em (xJ = 0) with gJ | gJ
          · subst gJ
            repeat (first | go_big_quiet_step (first | (go_at_call 22; exact (awake_any).newer) | (go_at_call_of 23 vR; exact (D.out.kROpcode rfl).newer) | (go_at_call_of 24 vR; exact (D.out.kRRd rfl).newer) | (go_at_call_of 25 vR; exact (D.out.kRFunct3 rfl).newer) | (go_at_call_of 26 vR; exact (D.out.kRRs1 rfl).newer) | (go_at_call_of 27 vR; exact (D.out.kRRs2 rfl).newer) | (go_at_call_of 28 vR; exact (D.out.kRFunct7 rfl).newer) | (go_at_call_of 35 vS; exact (D.out.kSImmS rfl).newer) | (go_at_call_of 27 vS; exact (D.out.kSRs2 rfl).newer) | (go_at_call_of 38 vJ; exact (D.out.kJImmJ rfl).newer) | (go_at_call_of 24 vJ; exact (D.out.kJRd rfl).newer)) | (refine skip_same rfl (by kernel_rfl) (by kernel_rfl) ?_))
            refine wpQuiet_nil ?_
            rintro w1 ⟨b1, rfl⟩
            go_wp2_with fail
            go_ret
            exact ⟨rfl, below_alloc b1.below⟩
          · have nJ : (xJ != 0) = true := by simpa using gJ
            repeat (first | go_big_quiet_step (first | (go_at_call 22; exact (awake_any).newer) | (go_at_call_of 23 vR; exact (D.out.kROpcode rfl).newer) | (go_at_call_of 24 vR; exact (D.out.kRRd rfl).newer) | (go_at_call_of 25 vR; exact (D.out.kRFunct3 rfl).newer) | (go_at_call_of 26 vR; exact (D.out.kRRs1 rfl).newer) | (go_at_call_of 27 vR; exact (D.out.kRRs2 rfl).newer) | (go_at_call_of 28 vR; exact (D.out.kRFunct7 rfl).newer) | (go_at_call_of 35 vS; exact (D.out.kSImmS rfl).newer) | (go_at_call_of 27 vS; exact (D.out.kSRs2 rfl).newer)) | (refine skip_same rfl (by kernel_rfl) (by kernel_rfl) ?_))
            refine wpQuiet_nil ?_
            rintro w1 ⟨b1, rfl⟩
            go_wp2_with fail
            go_ret
            exact ⟨rfl, below_alloc b1.below⟩
    · have nS : (xS != 0) = true := by simpa using gS
      iterate 17 (first | go_big_quiet_step (first | (go_at_call 22; exact (awake_any).newer) | (go_at_call_of 23 vR; exact (D.out.kROpcode rfl).newer) | (go_at_call_of 24 vR; exact (D.out.kRRd rfl).newer) | (go_at_call_of 25 vR; exact (D.out.kRFunct3 rfl).newer) | (go_at_call_of 26 vR; exact (D.out.kRRs1 rfl).newer) | (go_at_call_of 27 vR; exact (D.out.kRRs2 rfl).newer) | (go_at_call_of 28 vR; exact (D.out.kRFunct7 rfl).newer)) | (refine skip_same rfl (by kernel_rfl) (by kernel_rfl) ?_))
      rcases Decidable.em (xB = 0) with gB | gB
      · subst gB
        iterate 17 (first | go_big_quiet_step (first | (go_at_call 22; exact (awake_any).newer) | (go_at_call_of 23 vR; exact (D.out.kROpcode rfl).newer) | (go_at_call_of 24 vR; exact (D.out.kRRd rfl).newer) | (go_at_call_of 25 vR; exact (D.out.kRFunct3 rfl).newer) | (go_at_call_of 26 vR; exact (D.out.kRRs1 rfl).newer) | (go_at_call_of 27 vR; exact (D.out.kRRs2 rfl).newer) | (go_at_call_of 28 vR; exact (D.out.kRFunct7 rfl).newer) | (go_at_call_of 36 vB; exact (D.out.kBImmB rfl).newer) | (go_at_call_of 25 vB; exact (D.out.kBFunct3 rfl).newer)) | (refine skip_same rfl (by kernel_rfl) (by kernel_rfl) ?_))
        rcases Decidable.em (xU = 0) with gU | gU
        · subst gU
          iterate 17 (first | go_big_quiet_step (first | (go_at_call 22; exact (awake_any).newer) | (go_at_call_of 23 vR; exact (D.out.kROpcode rfl).newer) | (go_at_call_of 24 vR; exact (D.out.kRRd rfl).newer) | (go_at_call_of 25 vR; exact (D.out.kRFunct3 rfl).newer) | (go_at_call_of 26 vR; exact (D.out.kRRs1 rfl).newer) | (go_at_call_of 27 vR; exact (D.out.kRRs2 rfl).newer) | (go_at_call_of 28 vR; exact (D.out.kRFunct7 rfl).newer) | (go_at_call_of 36 vB; exact (D.out.kBImmB rfl).newer) | (go_at_call_of 25 vB; exact (D.out.kBFunct3 rfl).newer) | (go_at_call_of 37 vU; exact (D.out.kUImmU rfl).newer) | (go_at_call_of 23 vU; exact (D.out.kUOpcode rfl).newer)) | (refine skip_same rfl (by kernel_rfl) (by kernel_rfl) ?_))
          rcases Decidable.em (xJ = 0) with gJ | gJ
          · subst gJ
            repeat (first | go_big_quiet_step (first | (go_at_call 22; exact (awake_any).newer) | (go_at_call_of 23 vR; exact (D.out.kROpcode rfl).newer) | (go_at_call_of 24 vR; exact (D.out.kRRd rfl).newer) | (go_at_call_of 25 vR; exact (D.out.kRFunct3 rfl).newer) | (go_at_call_of 26 vR; exact (D.out.kRRs1 rfl).newer) | (go_at_call_of 27 vR; exact (D.out.kRRs2 rfl).newer) | (go_at_call_of 28 vR; exact (D.out.kRFunct7 rfl).newer) | (go_at_call_of 36 vB; exact (D.out.kBImmB rfl).newer) | (go_at_call_of 25 vB; exact (D.out.kBFunct3 rfl).newer) | (go_at_call_of 37 vU; exact (D.out.kUImmU rfl).newer) | (go_at_call_of 23 vU; exact (D.out.kUOpcode rfl).newer) | (go_at_call_of 38 vJ; exact (D.out.kJImmJ rfl).newer) | (go_at_call_of 24 vJ; exact (D.out.kJRd rfl).newer)) | (refine skip_same rfl (by kernel_rfl) (by kernel_rfl) ?_))
            refine wpQuiet_nil ?_
            rintro w1 ⟨b1, rfl⟩
            go_wp2_with fail
            go_ret
            exact ⟨rfl, below_alloc b1.below⟩
          · have nJ : (xJ != 0) = true := by simpa using gJ
            repeat (first | go_big_quiet_step (first | (go_at_call 22; exact (awake_any).newer) | (go_at_call_of 23 vR; exact (D.out.kROpcode rfl).newer) | (go_at_call_of 24 vR; exact (D.out.kRRd rfl).newer) | (go_at_call_of 25 vR; exact (D.out.kRFunct3 rfl).newer) | (go_at_call_of 26 vR; exact (D.out.kRRs1 rfl).newer) | (go_at_call_of 27 vR; exact (D.out.kRRs2 rfl).newer) | (go_at_call_of 28 vR; exact (D.out.kRFunct7 rfl).newer) | (go_at_call_of 36 vB; exact (D.out.kBImmB rfl).newer) | (go_at_call_of 25 vB; exact (D.out.kBFunct3 rfl).newer) | (go_at_call_of 37 vU; exact (D.out.kUImmU rfl).newer) | (go_at_call_of 23 vU; exact (D.out.kUOpcode rfl).newer)) | (refine skip_same rfl (by kernel_rfl) (by kernel_rfl) ?_))
            refine wpQuiet_nil ?_
            rintro w1 ⟨b1, rfl⟩
            go_wp2_with fail
            go_ret
            exact ⟨rfl, below_alloc b1.below⟩
        · have nU : (xU != 0) = true := by simpa using gU
          iterate 17 (first | go_big_quiet_step (first | (go_at_call 22; exact (awake_any).newer) | (go_at_call_of 23 vR; exact (D.out.kROpcode rfl).newer) | (go_at_call_of 24 vR; exact (D.out.kRRd rfl).newer) | (go_at_call_of 25 vR; exact (D.out.kRFunct3 rfl).newer) | (go_at_call_of 26 vR; exact (D.out.kRRs1 rfl).newer) | (go_at_call_of 27 vR; exact (D.out.kRRs2 rfl).newer) | (go_at_call_of 28 vR; exact (D.out.kRFunct7 rfl).newer) | (go_at_call_of 36 vB; exact (D.out.kBImmB rfl).newer) | (go_at_call_of 25 vB; exact (D.out.kBFunct3 rfl).newer)) | (refine skip_same rfl (by kernel_rfl) (by kernel_rfl) ?_))
          rcases Decidable.em (xJ = 0) with gJ | gJ
          · subst gJ
            repeat (first | go_big_quiet_step (first | (go_at_call 22; exact (awake_any).newer) | (go_at_call_of 23 vR; exact (D.out.kROpcode rfl).newer) | (go_at_call_of 24 vR; exact (D.out.kRRd rfl).newer) | (go_at_call_of 25 vR; exact (D.out.kRFunct3 rfl).newer) | (go_at_call_of 26 vR; exact (D.out.kRRs1 rfl).newer) | (go_at_call_of 27 vR; exact (D.out.kRRs2 rfl).newer) | (go_at_call_of 28 vR; exact (D.out.kRFunct7 rfl).newer) | (go_at_call_of 36 vB; exact (D.out.kBImmB rfl).newer) | (go_at_call_of 25 vB; exact (D.out.kBFunct3 rfl).newer) | (go_at_call_of 38 vJ; exact (D.out.kJImmJ rfl).newer) | (go_at_call_of 24 vJ; exact (D.out.kJRd rfl).newer)) | (refine skip_same rfl (by kernel_rfl) (by kernel_rfl) ?_))
            refine wpQuiet_nil ?_
            rintro w1 ⟨b1, rfl⟩
            go_wp2_with fail
            go_ret
            exact ⟨rfl, below_alloc b1.below⟩
          · have nJ : (xJ != 0) = true := by simpa using gJ
            repeat (first | go_big_quiet_step (first | (go_at_call 22; exact (awake_any).newer) | (go_at_call_of 23 vR; exact (D.out.kROpcode rfl).newer) | (go_at_call_of 24 vR; exact (D.out.kRRd rfl).newer) | (go_at_call_of 25 vR; exact (D.out.kRFunct3 rfl).newer) | (go_at_call_of 26 vR; exact (D.out.kRRs1 rfl).newer) | (go_at_call_of 27 vR; exact (D.out.kRRs2 rfl).newer) | (go_at_call_of 28 vR; exact (D.out.kRFunct7 rfl).newer) | (go_at_call_of 36 vB; exact (D.out.kBImmB rfl).newer) | (go_at_call_of 25 vB; exact (D.out.kBFunct3 rfl).newer)) | (refine skip_same rfl (by kernel_rfl) (by kernel_rfl) ?_))
            refine wpQuiet_nil ?_
            rintro w1 ⟨b1, rfl⟩
            go_wp2_with fail
            go_ret
            exact ⟨rfl, below_alloc b1.below⟩
      · have nB : (xB != 0) = true := by simpa using gB
        iterate 17 (first | go_big_quiet_step (first | (go_at_call 22; exact (awake_any).newer) | (go_at_call_of 23 vR; exact (D.out.kROpcode rfl).newer) | (go_at_call_of 24 vR; exact (D.out.kRRd rfl).newer) | (go_at_call_of 25 vR; exact (D.out.kRFunct3 rfl).newer) | (go_at_call_of 26 vR; exact (D.out.kRRs1 rfl).newer) | (go_at_call_of 27 vR; exact (D.out.kRRs2 rfl).newer) | (go_at_call_of 28 vR; exact (D.out.kRFunct7 rfl).newer)) | (refine skip_same rfl (by kernel_rfl) (by kernel_rfl) ?_))
        rcases Decidable.em (xU = 0) with gU | gU
        · subst gU
          iterate 17 (first | go_big_quiet_step (first | (go_at_call 22; exact (awake_any).newer) | (go_at_call_of 23 vR; exact (D.out.kROpcode rfl).newer) | (go_at_call_of 24 vR; exact (D.out.kRRd rfl).newer) | (go_at_call_of 25 vR; exact (D.out.kRFunct3 rfl).newer) | (go_at_call_of 26 vR; exact (D.out.kRRs1 rfl).newer) | (go_at_call_of 27 vR; exact (D.out.kRRs2 rfl).newer) | (go_at_call_of 28 vR; exact (D.out.kRFunct7 rfl).newer) | (go_at_call_of 37 vU; exact (D.out.kUImmU rfl).newer) | (go_at_call_of 23 vU; exact (D.out.kUOpcode rfl).newer)) | (refine skip_same rfl (by kernel_rfl) (by kernel_rfl) ?_))
          rcases Decidable.em (xJ = 0) with gJ | gJ
          · subst gJ
            repeat (first | go_big_quiet_step (first | (go_at_call 22; exact (awake_any).newer) | (go_at_call_of 23 vR; exact (D.out.kROpcode rfl).newer) | (go_at_call_of 24 vR; exact (D.out.kRRd rfl).newer) | (go_at_call_of 25 vR; exact (D.out.kRFunct3 rfl).newer) | (go_at_call_of 26 vR; exact (D.out.kRRs1 rfl).newer) | (go_at_call_of 27 vR; exact (D.out.kRRs2 rfl).newer) | (go_at_call_of 28 vR; exact (D.out.kRFunct7 rfl).newer) | (go_at_call_of 37 vU; exact (D.out.kUImmU rfl).newer) | (go_at_call_of 23 vU; exact (D.out.kUOpcode rfl).newer) | (go_at_call_of 38 vJ; exact (D.out.kJImmJ rfl).newer) | (go_at_call_of 24 vJ; exact (D.out.kJRd rfl).newer)) | (refine skip_same rfl (by kernel_rfl) (by kernel_rfl) ?_))
            refine wpQuiet_nil ?_
            rintro w1 ⟨b1, rfl⟩
            go_wp2_with fail
            go_ret
            exact ⟨rfl, below_alloc b1.below⟩
          · have nJ : (xJ != 0) = true := by simpa using gJ
            repeat (first | go_big_quiet_step (first | (go_at_call 22; exact (awake_any).newer) | (go_at_call_of 23 vR; exact (D.out.kROpcode rfl).newer) | (go_at_call_of 24 vR; exact (D.out.kRRd rfl).newer) | (go_at_call_of 25 vR; exact (D.out.kRFunct3 rfl).newer) | (go_at_call_of 26 vR; exact (D.out.kRRs1 rfl).newer) | (go_at_call_of 27 vR; exact (D.out.kRRs2 rfl).newer) | (go_at_call_of 28 vR; exact (D.out.kRFunct7 rfl).newer) | (go_at_call_of 37 vU; exact (D.out.kUImmU rfl).newer) | (go_at_call_of 23 vU; exact (D.out.kUOpcode rfl).newer)) | (refine skip_same rfl (by kernel_rfl) (by kernel_rfl) ?_))
            refine wpQuiet_nil ?_
            rintro w1 ⟨b1, rfl⟩
            go_wp2_with fail
            go_ret
            exact ⟨rfl, below_alloc b1.below⟩
        · have nU : (xU != 0) = true := by simpa using gU
          iterate 17 (first | go_big_quiet_step (first | (go_at_call 22; exact (awake_any).newer) | (go_at_call_of 23 vR; exact (D.out.kROpcode rfl).newer) | (go_at_call_of 24 vR; exact (D.out.kRRd rfl).newer) | (go_at_call_of 25 vR; exact (D.out.kRFunct3 rfl).newer) | (go_at_call_of 26 vR; exact (D.out.kRRs1 rfl).newer) | (go_at_call_of 27 vR; exact (D.out.kRRs2 rfl).newer) | (go_at_call_of 28 vR; exact (D.out.kRFunct7 rfl).newer)) | (refine skip_same rfl (by kernel_rfl) (by kernel_rfl) ?_))
          rcases Decidable.em (xJ = 0) with gJ | gJ
          · subst gJ
            repeat (first | go_big_quiet_step (first | (go_at_call 22; exact (awake_any).newer) | (go_at_call_of 23 vR; exact (D.out.kROpcode rfl).newer) | (go_at_call_of 24 vR; exact (D.out.kRRd rfl).newer) | (go_at_call_of 25 vR; exact (D.out.kRFunct3 rfl).newer) | (go_at_call_of 26 vR; exact (D.out.kRRs1 rfl).newer) | (go_at_call_of 27 vR; exact (D.out.kRRs2 rfl).newer) | (go_at_call_of 28 vR; exact (D.out.kRFunct7 rfl).newer) | (go_at_call_of 38 vJ; exact (D.out.kJImmJ rfl).newer) | (go_at_call_of 24 vJ; exact (D.out.kJRd rfl).newer)) | (refine skip_same rfl (by kernel_rfl) (by kernel_rfl) ?_))
            refine wpQuiet_nil ?_
            rintro w1 ⟨b1, rfl⟩
            go_wp2_with fail
            go_ret
            exact ⟨rfl, below_alloc b1.below⟩
          · have nJ : (xJ != 0) = true := by simpa using gJ
            repeat (first | go_big_quiet_step (first | (go_at_call 22; exact (awake_any).newer) | (go_at_call_of 23 vR; exact (D.out.kROpcode rfl).newer) | (go_at_call_of 24 vR; exact (D.out.kRRd rfl).newer) | (go_at_call_of 25 vR; exact (D.out.kRFunct3 rfl).newer) | (go_at_call_of 26 vR; exact (D.out.kRRs1 rfl).newer) | (go_at_call_of 27 vR; exact (D.out.kRRs2 rfl).newer) | (go_at_call_of 28 vR; exact (D.out.kRFunct7 rfl).newer)) | (refine skip_same rfl (by kernel_rfl) (by kernel_rfl) ?_))
            refine wpQuiet_nil ?_
            rintro w1 ⟨b1, rfl⟩
            go_wp2_with fail
            go_ret
            exact ⟨rfl, below_alloc b1.below⟩

end Go.Proofs.Ytnhbekgmameeaaa
