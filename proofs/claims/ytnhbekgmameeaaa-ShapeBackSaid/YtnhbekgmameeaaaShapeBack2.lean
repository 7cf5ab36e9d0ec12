/- The law ShapeBack: each call answers true. -/
import Derived.Test.YtnhbekgmameeaaaShapeBack
namespace Go.Proofs.Ytnhbekgmameeaaa
open Go.RowKit Wd
theorem nums_of7 {cs : Array Value} (h : Flat.All2 (List.replicate 7 (.int .i64)) cs.toList) :
    ∃ op rd f3 rs1 rs2 f7 imm : Int, cs = #[.int .i64 op, .int .i64 rd, .int .i64 f3, .int .i64 rs1, .int .i64 rs2, .int .i64 f7, .int .i64 imm] ∧ -9223372036854775808 ≤ imm ∧ imm ≤ 9223372036854775807 := by
  obtain ⟨zs, hl, hv, hw⟩ := h.ints
  match zs, hl with
  | [op, rd, f3, rs1, rs2, f7, imm], _ =>
    refine ⟨op, rd, f3, rs1, rs2, f7, imm, ?_, i64_bd (hw imm (by simp))⟩
    cases cs
    simpa using hv
theorem shapeBack_cells (cs : Array Value) (h : Flat.All2 (List.replicate 7 (.int .i64)) cs.toList) (w : World) :
    Calls Try.prog 4 #[.agg cs] w fun e w' => e = .returned (.bool true) ∧ Below w.heap.size w w' := by
  obtain ⟨op, rd, f3, rs1, rs2, f7, imm, rfl, _⟩ := nums_of7 h
  obtain ⟨vR, xR, hR⟩ : ∃ v x, encR op rd f3 rs1 rs2 f7 = (v, x) := ⟨_, _, rfl⟩
  obtain ⟨vI, xI, hI⟩ : ∃ v x, encI op rd f3 rs1 imm = (v, x) := ⟨_, _, rfl⟩
  obtain ⟨vS, xS, hS⟩ : ∃ v x, encS op f3 rs1 rs2 imm = (v, x) := ⟨_, _, rfl⟩
  obtain ⟨vB, xB, hB⟩ : ∃ v x, encB op f3 rs1 rs2 imm = (v, x) := ⟨_, _, rfl⟩
  obtain ⟨vU, xU, hU⟩ : ∃ v x, encU op rd imm = (v, x) := ⟨_, _, rfl⟩
  obtain ⟨vJ, xJ, hJ⟩ : ∃ v x, encJ op rd imm = (v, x) := ⟨_, _, rfl⟩
  have kROpcode : xR = 0 → Mk Try.prog 23 #[.int .u32 (vR.toNat : Int)] (.int .i64 op) := fun hx => by
    have := (pOpcode_any vR).mk
    rw [(back_R hR hx).1] at this
    exact this
  have kRRd : xR = 0 → Mk Try.prog 24 #[.int .u32 (vR.toNat : Int)] (.int .i64 rd) := fun hx => by
    have := (pRd_any vR).mk
    rw [(back_R hR hx).2.1] at this
    exact this
  have kRFunct3 : xR = 0 → Mk Try.prog 25 #[.int .u32 (vR.toNat : Int)] (.int .i64 f3) := fun hx => by
    have := (pFunct3_any vR).mk
    rw [(back_R hR hx).2.2.1] at this
    exact this
  have kRRs1 : xR = 0 → Mk Try.prog 26 #[.int .u32 (vR.toNat : Int)] (.int .i64 rs1) := fun hx => by
    have := (pRs1_any vR).mk
    rw [(back_R hR hx).2.2.2.1] at this
    exact this
  have kRRs2 : xR = 0 → Mk Try.prog 27 #[.int .u32 (vR.toNat : Int)] (.int .i64 rs2) := fun hx => by
    have := (pRs2_any vR).mk
    rw [(back_R hR hx).2.2.2.2.1] at this
    exact this
  have kRFunct7 : xR = 0 → Mk Try.prog 28 #[.int .u32 (vR.toNat : Int)] (.int .i64 f7) := fun hx => by
    have := (pFunct7_any vR).mk
    rw [(back_R hR hx).2.2.2.2.2] at this
    exact this
  have kIImmI : xI = 0 → Mk Try.prog 34 #[.int .u32 (vI.toNat : Int)] (.int .u64 (IntKind.u64.wrap imm)) := fun hx => by
    have := immI_any vI
    rw [(back_I hI hx).1] at this
    rw [w64]
    exact this
  have kIRd : xI = 0 → Mk Try.prog 24 #[.int .u32 (vI.toNat : Int)] (.int .i64 rd) := fun hx => by
    have := (pRd_any vI).mk
    rw [(back_I hI hx).2.1] at this
    exact this
  have kIRs1 : xI = 0 → Mk Try.prog 26 #[.int .u32 (vI.toNat : Int)] (.int .i64 rs1) := fun hx => by
    have := (pRs1_any vI).mk
    rw [(back_I hI hx).2.2] at this
    exact this
  have kSImmS : xS = 0 → Mk Try.prog 35 #[.int .u32 (vS.toNat : Int)] (.int .u64 (IntKind.u64.wrap imm)) := fun hx => by
    have := immS_any vS
    rw [(back_S hS hx).1] at this
    rw [w64]
    exact this
  have kSRs2 : xS = 0 → Mk Try.prog 27 #[.int .u32 (vS.toNat : Int)] (.int .i64 rs2) := fun hx => by
    have := (pRs2_any vS).mk
    rw [(back_S hS hx).2] at this
    exact this
  have kBImmB : xB = 0 → Mk Try.prog 36 #[.int .u32 (vB.toNat : Int)] (.int .u64 (IntKind.u64.wrap imm)) := fun hx => by
    have := immB_any vB
    rw [(back_B hB hx).1] at this
    rw [w64]
    exact this
  have kBFunct3 : xB = 0 → Mk Try.prog 25 #[.int .u32 (vB.toNat : Int)] (.int .i64 f3) := fun hx => by
    have := (pFunct3_any vB).mk
    rw [(back_B hB hx).2] at this
    exact this
  have kUImmU : xU = 0 → Mk Try.prog 37 #[.int .u32 (vU.toNat : Int)] (.int .u64 (IntKind.u64.wrap imm)) := fun hx => by
    have := immU_any vU
    rw [(back_U hU hx).1] at this
    rw [w64]
    exact this
  have kUOpcode : xU = 0 → Mk Try.prog 23 #[.int .u32 (vU.toNat : Int)] (.int .i64 op) := fun hx => by
    have := (pOpcode_any vU).mk
    rw [(back_U hU hx).2] at this
    exact this
  have kJImmJ : xJ = 0 → Mk Try.prog 38 #[.int .u32 (vJ.toNat : Int)] (.int .u64 (IntKind.u64.wrap imm)) := fun hx => by
    have := immJ_any vJ
    rw [(back_J hJ hx).1] at this
    rw [w64]
    exact this
  have kJRd : xJ = 0 → Mk Try.prog 24 #[.int .u32 (vJ.toNat : Int)] (.int .i64 rd) := fun hx => by
    have := (pRd_any vJ).mk
    rw [(back_J hJ hx).2] at this
    exact this
  have D : Decs op rd f3 rs1 rs2 f7 imm vR vI vS vB vU vJ xR xI xS xB xU xJ := ⟨kROpcode, kRRd, kRFunct3, kRRs1, kRRs2, kRFunct7, kIImmI, kIRd, kIRs1, kSImmS, kSRs2, kBImmB, kBFunct3, kUImmU, kUOpcode, kJImmJ, kJRd⟩
  by_cases hx : xR = 0
  · exact back_yes op rd f3 rs1 rs2 f7 imm vR vI vS vB vU vJ xR xI xS xB xU xJ w (Lib.hid hR) (Lib.hid hI) (Lib.hid hS) (Lib.hid hB) (Lib.hid hU) (Lib.hid hJ) (Lib.hid D) hx
  · exact back_no op rd f3 rs1 rs2 f7 imm vR vI vS vB vU vJ xR xI xS xB xU xJ w (Lib.hid hR) (Lib.hid hI) (Lib.hid hS) (Lib.hid hB) (Lib.hid hU) (Lib.hid hJ) (Lib.hid D) hx
end Go.Proofs.Ytnhbekgmameeaaa
