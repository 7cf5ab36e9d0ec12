/- awake, and the laws ShapeFields and ShapeImms, walked: each call answers true. -/
import Derived.Test.YtjcmlpddmmelhaaShapeRefForms
import Derived.Test.YtjcmlpddmmelhaaBox
import Derived.Test.YtjcmlpddmmelhaaFlat
namespace Go.Proofs.Ytjcmlpddmmelhaa
open Go.RowKit Wd

theorem awakeI : Mk Try.prog 26 #[.int .i64 19, .int .i64 5, .int .i64 0, .int .i64 6, .int .i64 (-1)] (.tuple #[.int .u32 4294115987, .int .i64 0]) := by
  have h := sI_any 19 5 0 6 (-1)
  rw [show encI 19 5 0 6 (-1) = (4294115987#32, 0) by decide +kernel] at h
  exact h
theorem awakeRd : Qt Try.prog 14 #[.int .u32 4294115987] (.int .i64 5) := by
  have h := pRd_any 4294115987#32
  rw [show fieldI 4294115987#32 11 7 = 5 by decide +kernel] at h
  exact h
theorem awake_any : Mk Try.prog 11 #[] (.bool true) := by
  intro w
  have hb := Below.refl w.heap.size w
  go_enter Try.func11, Try.ntmps11
  go_wp2_with (first
    | (go_at_call 26; refine ((awakeI).at hb).mono ?_; clear hb; rintro e w1 ⟨rfl, hb⟩)
    | (go_at_call 14; refine ((awakeRd).mk.at hb).mono ?_; clear hb; rintro e w1 ⟨rfl, hb⟩))
  go_ret
  exact ⟨rfl, hb⟩

theorem shapeFields_walk (a : Int) (wa : (Lit.int .u32 a).wf = true) (w : World) :
    Calls Try.prog 3 #[.int .u32 a] w fun e w' => e = .returned (.bool true) ∧ Below w.heap.size w w' := by
  obtain ⟨v, rfl⟩ := u32_bv wa
  clear wa
  have hb := Below.refl w.heap.size w
  go_enter Try.func3, Try.ntmps3
  go_wp2_with (first
    | (go_at_call 11; refine ((awake_any).at hb).mono ?_; clear hb; rintro e w1 ⟨rfl, hb⟩)
    | (go_at_call 12; refine ((pOpcode_any _).mk.at hb).mono ?_; clear hb; rintro e w1 ⟨rfl, hb⟩)
    | (go_at_call 14; refine ((pRd_any _).mk.at hb).mono ?_; clear hb; rintro e w1 ⟨rfl, hb⟩)
    | (go_at_call 16; refine ((pRs1_any _).mk.at hb).mono ?_; clear hb; rintro e w1 ⟨rfl, hb⟩)
    | (go_at_call 18; refine ((pRs2_any _).mk.at hb).mono ?_; clear hb; rintro e w1 ⟨rfl, hb⟩)
    | (go_at_call 20; refine ((pFunct3_any _).mk.at hb).mono ?_; clear hb; rintro e w1 ⟨rfl, hb⟩)
    | (go_at_call 22; refine ((pFunct7_any _).mk.at hb).mono ?_; clear hb; rintro e w1 ⟨rfl, hb⟩)
    | (go_at_call 13; refine ((rOpcode_any _).mk.at hb).mono ?_; clear hb; rintro e w1 ⟨rfl, hb⟩)
    | (go_at_call 15; refine ((rRd_any _).mk.at hb).mono ?_; clear hb; rintro e w1 ⟨rfl, hb⟩)
    | (go_at_call 17; refine ((rRs1_any _).mk.at hb).mono ?_; clear hb; rintro e w1 ⟨rfl, hb⟩)
    | (go_at_call 19; refine ((rRs2_any _).mk.at hb).mono ?_; clear hb; rintro e w1 ⟨rfl, hb⟩)
    | (go_at_call 21; refine ((rFunct3_any _).mk.at hb).mono ?_; clear hb; rintro e w1 ⟨rfl, hb⟩)
    | (go_at_call 23; refine ((rFunct7_any _).mk.at hb).mono ?_; clear hb; rintro e w1 ⟨rfl, hb⟩))
  go_ret
  exact ⟨rfl, hb⟩

namespace Wd
def rimmL (c : Int) : List Int := if c = 73 then lI else if c = 83 then lS else if c = 66 then lB else if c = 85 then lU else lJ
end Wd
theorem rimm_c (w : BitVec 32) (c : Int) (h : c = 73 ∨ c = 83 ∨ c = 66 ∨ c = 85 ∨ c = 74) : Mk Try.prog 31 #[.int .u32 (w.toNat : Int), .int .u8 c] (.int .u64 ((immR w (rimmL c)).toNat : Int)) := by
  rcases h with rfl | rfl | rfl | rfl | rfl
  · exact rimmI_any w
  · exact rimmS_any w
  · exact rimmB_any w
  · exact rimmU_any w
  · exact rimmJ_any w
set_option maxHeartbeats 1000000 in
theorem shapeImms_walk (a : Int) (wa : (Lit.int .u32 a).wf = true) (w : World) :
    Calls Try.prog 5 #[.int .u32 a] w fun e w' => e = .returned (.bool true) ∧ Below w.heap.size w w' := by
  obtain ⟨v, rfl⟩ := u32_bv wa
  clear wa
  have hb := Below.refl w.heap.size w
  have sI := Lib.hid (show immP v psI 12 = immR v (rimmL 73) from sameI v)
  have sS := Lib.hid (show immP v psS 12 = immR v (rimmL 83) from sameS v)
  have sB := Lib.hid (show immP v psB 13 = immR v (rimmL 66) from sameB v)
  have sU := Lib.hid (show immP v psU 32 = immR v (rimmL 85) from sameU v)
  have sJ := Lib.hid (show immP v psJ 21 = immR v (rimmL 74) from sameJ v)
  go_enter Try.func5, Try.ntmps5
  go_wp2_with (first
    | (go_at_call 11; refine ((awake_any).at hb).mono ?_; clear hb; rintro e w1 ⟨rfl, hb⟩)
    | (go_at_call 30; refine ((immI_any _).at hb).mono ?_; clear hb; rintro e w1 ⟨rfl, hb⟩; rw [sI.out])
    | (go_at_call 32; refine ((immS_any _).at hb).mono ?_; clear hb; rintro e w1 ⟨rfl, hb⟩; rw [sS.out])
    | (go_at_call 33; refine ((immB_any _).at hb).mono ?_; clear hb; rintro e w1 ⟨rfl, hb⟩; rw [sB.out])
    | (go_at_call 34; refine ((immU_any _).at hb).mono ?_; clear hb; rintro e w1 ⟨rfl, hb⟩; rw [sU.out])
    | (go_at_call 35; refine ((immJ_any _).at hb).mono ?_; clear hb; rintro e w1 ⟨rfl, hb⟩; rw [sJ.out])
    | (go_at_call 31; refine ((rimm_c _ _ (by decide)).at hb).mono ?_; clear hb; rintro e w1 ⟨rfl, hb⟩))
  go_ret
  exact ⟨rfl, hb⟩
set_option maxHeartbeats 1000000 in
theorem shapeLays_walk (op rd f3 rs1 rs2 f7 imm : Int) (w : World) :
    Calls Try.prog 4 #[.agg #[.int .i64 op, .int .i64 rd, .int .i64 f3, .int .i64 rs1, .int .i64 rs2, .int .i64 f7, .int .i64 imm]] w fun e w' => e = .returned (.bool true) ∧ Below w.heap.size w w' := by
  have hb := Below.refl (w.alloc (.cells #[.int .i64 op, .int .i64 rd, .int .i64 f3, .int .i64 rs1, .int .i64 rs2, .int .i64 f7, .int .i64 imm] 27)).heap.size (w.alloc (.cells #[.int .i64 op, .int .i64 rd, .int .i64 f3, .int .i64 rs1, .int .i64 rs2, .int .i64 f7, .int .i64 imm] 27))
  have B := Lib.hid (Box.new w [.int .i64 op, .int .i64 rd, .int .i64 f3, .int .i64 rs1, .int .i64 rs2, .int .i64 f7, .int .i64 imm] 27)
  obtain ⟨c0, c1, c2, c3, c4, c5, c6⟩ := B.out.seven
  go_enter Try.func4, Try.ntmps4
  go_wp2_with (first
    | (go_at_call 11; refine ((awake_any).at hb).mono ?_; clear hb c0 c1 c2 c3 c4 c5 c6; rintro e w1 ⟨rfl, hb⟩; obtain ⟨c0, c1, c2, c3, c4, c5, c6⟩ := (B.out.below hb).seven)
    | (go_at_call 24; refine ((sR_any _ _ _ _ _ _).at hb).mono ?_; clear hb c0 c1 c2 c3 c4 c5 c6; rintro e w1 ⟨rfl, hb⟩; obtain ⟨c0, c1, c2, c3, c4, c5, c6⟩ := (B.out.below hb).seven; unfold encV)
    | (go_at_call 25; refine ((rR_any _ _ _ _ _ _).at hb).mono ?_; clear hb c0 c1 c2 c3 c4 c5 c6; rintro e w1 ⟨rfl, hb⟩; obtain ⟨c0, c1, c2, c3, c4, c5, c6⟩ := (B.out.below hb).seven; unfold encV)
    | (go_at_call 26; refine ((sI_any _ _ _ _ _).at hb).mono ?_; clear hb c0 c1 c2 c3 c4 c5 c6; rintro e w1 ⟨rfl, hb⟩; obtain ⟨c0, c1, c2, c3, c4, c5, c6⟩ := (B.out.below hb).seven; unfold encV)
    | (go_at_call 27; refine ((rI_any _ _ _ _ _).at hb).mono ?_; clear hb c0 c1 c2 c3 c4 c5 c6; rintro e w1 ⟨rfl, hb⟩; obtain ⟨c0, c1, c2, c3, c4, c5, c6⟩ := (B.out.below hb).seven; unfold encV)
    | (go_at_call 28; refine ((sS_any _ _ _ _ _).at hb).mono ?_; clear hb c0 c1 c2 c3 c4 c5 c6; rintro e w1 ⟨rfl, hb⟩; obtain ⟨c0, c1, c2, c3, c4, c5, c6⟩ := (B.out.below hb).seven; unfold encV)
    | (go_at_call 29; refine ((rS_any _ _ _ _ _).at hb).mono ?_; clear hb c0 c1 c2 c3 c4 c5 c6; rintro e w1 ⟨rfl, hb⟩; obtain ⟨c0, c1, c2, c3, c4, c5, c6⟩ := (B.out.below hb).seven; unfold encV))
  go_ret
  exact ⟨rfl, below_alloc hb⟩

set_option maxHeartbeats 1000000 in
theorem shapeJumps_walk (op rd f3 rs1 rs2 f7 imm : Int) (w : World) :
    Calls Try.prog 6 #[.agg #[.int .i64 op, .int .i64 rd, .int .i64 f3, .int .i64 rs1, .int .i64 rs2, .int .i64 f7, .int .i64 imm]] w fun e w' => e = .returned (.bool true) ∧ Below w.heap.size w w' := by
  have hb := Below.refl (w.alloc (.cells #[.int .i64 op, .int .i64 rd, .int .i64 f3, .int .i64 rs1, .int .i64 rs2, .int .i64 f7, .int .i64 imm] 27)).heap.size (w.alloc (.cells #[.int .i64 op, .int .i64 rd, .int .i64 f3, .int .i64 rs1, .int .i64 rs2, .int .i64 f7, .int .i64 imm] 27))
  have B := Lib.hid (Box.new w [.int .i64 op, .int .i64 rd, .int .i64 f3, .int .i64 rs1, .int .i64 rs2, .int .i64 f7, .int .i64 imm] 27)
  obtain ⟨c0, c1, c2, c3, c4, c5, c6⟩ := B.out.seven
  go_enter Try.func6, Try.ntmps6
  go_wp2_with (first
    | (go_at_call 11; refine ((awake_any).at hb).mono ?_; clear hb c0 c1 c2 c3 c4 c5 c6; rintro e w1 ⟨rfl, hb⟩; obtain ⟨c0, c1, c2, c3, c4, c5, c6⟩ := (B.out.below hb).seven)
    | (go_at_call 36; refine ((sB_any _ _ _ _ _).at hb).mono ?_; clear hb c0 c1 c2 c3 c4 c5 c6; rintro e w1 ⟨rfl, hb⟩; obtain ⟨c0, c1, c2, c3, c4, c5, c6⟩ := (B.out.below hb).seven; unfold encV)
    | (go_at_call 37; refine ((rB_any _ _ _ _ _).at hb).mono ?_; clear hb c0 c1 c2 c3 c4 c5 c6; rintro e w1 ⟨rfl, hb⟩; obtain ⟨c0, c1, c2, c3, c4, c5, c6⟩ := (B.out.below hb).seven; unfold encV)
    | (go_at_call 38; refine ((sU_any _ _ _).at hb).mono ?_; clear hb c0 c1 c2 c3 c4 c5 c6; rintro e w1 ⟨rfl, hb⟩; obtain ⟨c0, c1, c2, c3, c4, c5, c6⟩ := (B.out.below hb).seven; unfold encV)
    | (go_at_call 39; refine ((rU_any _ _ _).at hb).mono ?_; clear hb c0 c1 c2 c3 c4 c5 c6; rintro e w1 ⟨rfl, hb⟩; obtain ⟨c0, c1, c2, c3, c4, c5, c6⟩ := (B.out.below hb).seven; unfold encV)
    | (go_at_call 40; refine ((sJ_any _ _ _).at hb).mono ?_; clear hb c0 c1 c2 c3 c4 c5 c6; rintro e w1 ⟨rfl, hb⟩; obtain ⟨c0, c1, c2, c3, c4, c5, c6⟩ := (B.out.below hb).seven; unfold encV)
    | (go_at_call 41; refine ((rJ_any _ _ _).at hb).mono ?_; clear hb c0 c1 c2 c3 c4 c5 c6; rintro e w1 ⟨rfl, hb⟩; obtain ⟨c0, c1, c2, c3, c4, c5, c6⟩ := (B.out.below hb).seven; unfold encV))
  go_ret
  exact ⟨rfl, below_alloc hb⟩
/-- Seven numbers. -/
theorem nums_of {cs : Array Value} (h : Flat.All2 (List.replicate 7 (.int .i64)) cs.toList) :
    ∃ op rd f3 rs1 rs2 f7 imm : Int, cs = #[.int .i64 op, .int .i64 rd, .int .i64 f3, .int .i64 rs1, .int .i64 rs2, .int .i64 f7, .int .i64 imm] ∧ -9223372036854775808 ≤ imm ∧ imm ≤ 9223372036854775807 := by
  obtain ⟨zs, hl, hv, hw⟩ := h.ints
  match zs, hl with
  | [op, rd, f3, rs1, rs2, f7, imm], _ =>
    refine ⟨op, rd, f3, rs1, rs2, f7, imm, ?_, i64_bd (hw imm (by simp))⟩
    cases cs
    simpa using hv
theorem shapeLays_cells (cs : Array Value) (h : Flat.All2 (List.replicate 7 (.int .i64)) cs.toList) (w : World) :
    Calls Try.prog 4 #[.agg cs] w fun e w' => e = .returned (.bool true) ∧ Below w.heap.size w w' := by
  obtain ⟨op, rd, f3, rs1, rs2, f7, imm, rfl, _⟩ := nums_of h
  exact shapeLays_walk op rd f3 rs1 rs2 f7 imm w
theorem shapeJumps_cells (cs : Array Value) (h : Flat.All2 (List.replicate 7 (.int .i64)) cs.toList) (w : World) :
    Calls Try.prog 6 #[.agg cs] w fun e w' => e = .returned (.bool true) ∧ Below w.heap.size w w' := by
  obtain ⟨op, rd, f3, rs1, rs2, f7, imm, rfl, _⟩ := nums_of h
  exact shapeJumps_walk op rd f3 rs1 rs2 f7 imm w
end Go.Proofs.Ytjcmlpddmmelhaa
