/- The law AmoHolds, walked. -/
import Derived.Test.YthijheijognhmaaAmoHolds
namespace Go.Proofs.Ythijheijognhmaa
open Go.RowKit Wd
set_option linter.unusedVariables false
set_option linter.unusedSimpArgs false
attribute [local go_sem] zeroH_run hart_size hart_set_res hart_get_res hart_set_resAt hart_get_resAt hart_set_resAt0 loadR_hart storeR_hart rowAt_alloc rowAt_drew setRow_drew setRow_alloc_if
attribute [local go_sem ↓] load_row store_row
set_option maxRecDepth 4000
theorem holds_mk (h : Hart) (a : BitVec 64) : Mk Try.prog 20 #[.agg (hartC h), .int .u64 (a.toNat : Int)] (.bool (holdsB h a)) := fun w => holds_any h a w
theorem rholds_mk (h : Hart) (a : BitVec 64) : Mk Try.prog 21 #[.agg (hartC h), .int .u64 (a.toNat : Int)] (.bool (holdsB h a)) := fun w => rholds_any h a w
theorem rhold_mk (h : Hart) (a : BitVec 64) : Mk Try.prog 22 #[.agg (hartC h), .int .u64 (a.toNat : Int)] (.agg (hartC { h with res := true, resAt := granW a })) := fun w => rhold_any h a w
theorem rclear_mk (h : Hart) : Mk Try.prog 23 #[.agg (hartC h)] (.agg (hartC { h with res := false, resAt := 0#64 })) := fun w => rclear_any h w
theorem held_same (h : Hart) (a o : BitVec 64) : holdsB { h with res := true, resAt := granW a } o = ((a.toNat : Int) / 8 == (o.toNat : Int) / 8) := by
  show (true && (((granW a).toNat : Int) == ((granW o).toNat : Int))) = _
  rw [Bool.true_and, Bool.eq_iff_iff, beq_iff_eq, beq_iff_eq]
  have := gran_same a o
  omega
theorem wrap_eighth (a : BitVec 64) : IntKind.u64.wrap ((a.toNat : Int) / 8) = (a.toNat : Int) / 8 := by
  have := a.isLt
  rw [w64, BitVec.toNat_ofInt]
  omega
theorem held_not (h : Hart) (o : BitVec 64) : holdsB { h with res := false, resAt := 0#64 } o = false := rfl
set_option maxHeartbeats 4000000 in
theorem amoHolds_walk (h : Hart) (a o : BitVec 64) (hp : (Lit.int .i64 h.priv).wf = true) (w : World) :
    Calls Try.prog 5 #[.agg (hartC h), .int .u64 (a.toNat : Int), .int .u64 (o.toNat : Int)] w fun e w' => e = .returned (.bool true) ∧ Below w.heap.size w w' := by
  have hr : rowAt (w.alloc (.cells (hartC h) 28)) w.heap.size = some (hartC h) := by rw [rowAt_alloc, if_pos rfl]
  go_enter Try.func5, Try.ntmps5
  go_upto_region 1 with fail
  go_cut [7, 8] from 9 (fun s7 s8 wx => ∃ b1 b2, s7 = .pointer (some ⟨b1, 0, none⟩) ∧ s8 = .pointer (some ⟨b2, 0, none⟩) ∧ rowAt wx b1 = some (hartC { h with res := true, resAt := granW a }) ∧ rowAt wx b2 = some (hartC { h with res := false, resAt := 0#64 }) ∧ rowAt wx w.heap.size = some (hartC h) ∧ Below w.heap.size w wx)
  case first =>
    go_region_held3 (fun w' => rowAt w' w.heap.size = some (hartC h)) ((exact rowAt_below hr (by (repeat (first | with_reducible exact Below.refl _ _ | refine Below.drew ?_ | refine Below.alloc ?_ (by simp <;> omega) _)))))
     (first
      | (go_at_call 15; refine (hold_any _ _ _).mono ?_; rintro e w1 ⟨rfl, c1, c2, rfl⟩)
      | (go_at_call 16; refine (clear_any _ _).mono ?_; rintro e w1 ⟨rfl, c3, c4, rfl⟩))
    all_goals
      go_wp2_with fail
      go_meet
      case rel =>
        refine ⟨_, _, rfl, rfl, ?_, ?_, ?_, ?_⟩
        · simp [rowAt_alloc, rowAt_drew]
          try (intros; omega)
        · simp [rowAt_alloc, rowAt_drew]
          try (intros; omega)
        · exact rowAt_below hr (by (repeat (first | with_reducible exact Below.refl _ _ | refine Below.drew ?_ | refine Below.alloc ?_ (by simp <;> omega) _)))
        · (repeat (first | with_reducible exact Below.refl _ _ | refine Below.drew ?_ | refine Below.alloc ?_ (by simp <;> omega) _))
  case rest =>
    obtain ⟨b1, b2, rfl, rfl, r1, r2, r0, hb⟩ := hcut
    have e1 := eq_hart { h with res := true, resAt := granW a } hp
    have e2 := eq_hart { h with res := false, resAt := 0#64 } hp
    have f2 := held_not h o
    by_cases hq : (a.toNat : Int) / 8 = (o.toNat : Int) / 8
    · have f1 : holdsB { h with res := true, resAt := granW a } o = true := by rw [held_same]; simpa using hq
      have q1 : (a.toNat : Int).tdiv 8 = (o.toNat : Int).tdiv 8 := by rw [Int.tdiv_eq_ediv_of_nonneg (by omega), Int.tdiv_eq_ediv_of_nonneg (by omega)]; exact hq
      go_wp2_with fail
      go_region_held3 (fun w' => Below wc.heap.size wc w' ∧ rowAt w' w.heap.size = some (hartC h) ∧ rowAt w' b1 = some (hartC { h with res := true, resAt := granW a }) ∧ rowAt w' b2 = some (hartC { h with res := false, resAt := 0#64 })) (first | exact ⟨hb1, rowAt_below r0 hb1, rowAt_below r1 hb1, rowAt_below r2 hb1⟩ | exact ⟨(Below.refl _ _).drew, r0, r1, r2⟩ | exact ⟨Below.refl _ _, r0, r1, r2⟩)
       (first
        | (go_at_call 17; refine ((awake_any.mk).at (‹_ ∧ _›.1)).mono ?_; rintro e w1 ⟨rfl, hb1⟩)
        | (go_at_call 18; refine (((gran_any _).qt.mk).at (‹_ ∧ _›.1)).mono ?_; rintro e w1 ⟨rfl, hb1⟩)
        | (go_at_call 19; refine (((rgran_any _).qt.mk).at (‹_ ∧ _›.1)).mono ?_; rintro e w1 ⟨rfl, hb1⟩)
        | (go_at_call 20; refine ((holds_mk _ _).at (‹_ ∧ _›.1)).mono ?_; rintro e w1 ⟨rfl, hb1⟩)
        | (go_at_call 21; refine ((rholds_mk _ _).at (‹_ ∧ _›.1)).mono ?_; rintro e w1 ⟨rfl, hb1⟩)
        | (go_at_call 22; refine ((rhold_mk _ _).at (‹_ ∧ _›.1)).mono ?_; rintro e w1 ⟨rfl, hb1⟩)
        | (go_at_call 23; refine ((rclear_mk _).at (‹_ ∧ _›.1)).mono ?_; rintro e w1 ⟨rfl, hb1⟩))
      all_goals
        go_wp2_with fail
        go_ret
        exact ⟨rfl, hb.trans (hb1.mono hb.size)⟩
    · have f1 : holdsB { h with res := true, resAt := granW a } o = false := by rw [held_same]; simpa using hq
      have q1 : ¬ (a.toNat : Int).tdiv 8 = (o.toNat : Int).tdiv 8 := by rw [Int.tdiv_eq_ediv_of_nonneg (by omega), Int.tdiv_eq_ediv_of_nonneg (by omega)]; exact hq
      have q2 : (IntKind.u64.wrap ((a.toNat : Int) / 8) == IntKind.u64.wrap ((o.toNat : Int) / 8)) = false := by rw [wrap_eighth, wrap_eighth]; simpa using hq
      go_wp2_with fail
      go_region_held3 (fun w' => Below wc.heap.size wc w' ∧ rowAt w' w.heap.size = some (hartC h) ∧ rowAt w' b1 = some (hartC { h with res := true, resAt := granW a }) ∧ rowAt w' b2 = some (hartC { h with res := false, resAt := 0#64 })) (first | exact ⟨hb1, rowAt_below r0 hb1, rowAt_below r1 hb1, rowAt_below r2 hb1⟩ | exact ⟨(Below.refl _ _).drew, r0, r1, r2⟩ | exact ⟨Below.refl _ _, r0, r1, r2⟩)
       (first
        | (go_at_call 17; refine ((awake_any.mk).at (‹_ ∧ _›.1)).mono ?_; rintro e w1 ⟨rfl, hb1⟩)
        | (go_at_call 18; refine (((gran_any _).qt.mk).at (‹_ ∧ _›.1)).mono ?_; rintro e w1 ⟨rfl, hb1⟩)
        | (go_at_call 19; refine (((rgran_any _).qt.mk).at (‹_ ∧ _›.1)).mono ?_; rintro e w1 ⟨rfl, hb1⟩)
        | (go_at_call 20; refine ((holds_mk _ _).at (‹_ ∧ _›.1)).mono ?_; rintro e w1 ⟨rfl, hb1⟩)
        | (go_at_call 21; refine ((rholds_mk _ _).at (‹_ ∧ _›.1)).mono ?_; rintro e w1 ⟨rfl, hb1⟩)
        | (go_at_call 22; refine ((rhold_mk _ _).at (‹_ ∧ _›.1)).mono ?_; rintro e w1 ⟨rfl, hb1⟩)
        | (go_at_call 23; refine ((rclear_mk _).at (‹_ ∧ _›.1)).mono ?_; rintro e w1 ⟨rfl, hb1⟩))
      all_goals
        go_wp2_with fail
        go_ret
        exact ⟨rfl, hb.trans (hb1.mono hb.size)⟩
theorem amoHolds_cells (cs : Array Value) (hc : Flat.All2 leafH cs.toList) (a : Int) (wa : (Lit.int .u64 a).wf = true) (o : Int) (wo : (Lit.int .u64 o).wf = true) (w : World) :
    Calls Try.prog 5 #[.agg cs, .int .u64 a, .int .u64 o] w fun e w' => e = .returned (.bool true) ∧ Below w.heap.size w w' := by
  obtain ⟨k, rfl, hp⟩ := hart_of hc
  obtain ⟨a, rfl⟩ := u64_bv wa
  obtain ⟨o, rfl⟩ := u64_bv wo
  exact amoHolds_walk k a o hp w
end Go.Proofs.Ythijheijognhmaa
