/- The law DecodeBack, walked: each call answers true. -/
import Derived.Test.YtnhbekgmameeaaaDecAwake
import Derived.Test.YtnhbekgmameeaaaEncodeP
namespace Go.Proofs.Ytnhbekgmameeaaa
open Go.RowKit Wd
set_option linter.unusedVariables false
set_option linter.unusedSimpArgs false
attribute [local go_sem] loadI_lit storeI_lit rowI_alloc rowI_drew rowI_setRow rowI_setCell setRow_allocI loadI_ins storeI_ins
attribute [local go_sem ↓] loadI_run storeI_run' eq_ins
set_option maxRecDepth 20000
theorem andNot_zero (u v : BitVec 32) (h : u &&& ~~~v = 0#32) : bits .andNot .u32 (u.toNat : Int) (v.toNat : Int) = 0 := by
  rw [andNot32, of32, of32, h]
  rfl
set_option maxHeartbeats 8000000 in
theorem back_at (v u : BitVec 32) (i : Ins) (e : Int) (q1 : (e == 0) = (i.op != 0)) (cD : Hid (Mk Try.prog 40 #[.int .u32 (v.toNat : Int)] (.agg (insC i)))) (cE : Hid (Mk Try.prog 43 #[.agg (insC i)] (.tuple #[.int .u32 (u.toNat : Int), .int .i64 e])))
    (hc : (i.op = 0 ∧ e = 7) ∨ (i.op ≠ 0 ∧ e = 0 ∧ bits .andNot .u32 (u.toNat : Int) (v.toNat : Int) = 0 ∧ Mk Try.prog 40 #[.int .u32 (u.toNat : Int)] (.agg (insC i)))) (w : World) :
    Calls Try.prog 9 #[.int .u32 (v.toNat : Int)] w fun e w' => e = .returned (.bool true) ∧ Below w.heap.size w w' := by
  have hs : insB i i = true := (insB_iff i i).2 rfl
  replace hc := Lib.hid hc
  clear q1
  go_enter Try.func9, Try.ntmps9
  go_wp2_with fail
  refine (cD.out _).mono ?_
  rintro en w1 ⟨rfl, hb1⟩
  replace hb1 := Lib.hid hb1
  go_wp2_with fail
  refine (cE.out _).mono ?_
  rintro en w2 ⟨rfl, hb2⟩
  have r0 : rowI (w1.alloc (.cells (insC i) 44)) w1.heap.size = some (insC i) := by rw [rowI_alloc, if_pos rfl, if_pos rfl]
  have r2 := Lib.hid (rowI_below r0 hb2)
  have B2 := Lib.hid (hb1.out.trans ((below_alloc hb2).mono hb1.out.size))
  clear hb1 hb2 r0 cD cE
  go_wp2_with fail
  refine (awake_any _).mono ?_
  rintro en w3 ⟨rfl, hb3⟩
  have r3 := rowI_below r2.out hb3
  have B3 := Lib.hid (B2.out.trans (hb3.mono B2.out.size))
  have c0 : w3.cell? ⟨w1.heap.size, 0, none⟩ = some (.int .i64 i.op) := cell_of_row _ _ 0 _ _ (0, 0) (rowI_heap r3)
  have lr : ∀ g : Late w3, rowI g.is w1.heap.size = some (insC i) := fun g => rowI_below r3 g.below
  clear hb3 r2 B2 r3
  rcases hc.out with ⟨h1, rfl⟩ | ⟨h1, rfl, h2, cU⟩
  · have f1 : (i.op != 0) = false := by simpa using h1
    clear hc h1
    go_wp2_with fail
    refine wp_region_late (by kernel_rfl) (lexB_of_fast _ (by kernel_rfl)) (Below.refl _ _) ?_
    repeat (first | go_big_quiet_step (fail) | (refine skip_same rfl (by kernel_rfl) (by kernel_rfl) ?_))
    refine wpQuiet_nil ?_
    rintro w4 ⟨b1, rfl⟩
    go_wp2_with fail
    go_ret
    exact ⟨rfl, B3.out.trans (b1.below.mono B3.out.size)⟩
  · have f1 : (i.op != 0) = true := by simpa using h1
    replace cU := Lib.hid cU
    clear hc h1
    go_wp2_with fail
    refine wp_region_late (by kernel_rfl) (lexB_of_fast _ (by kernel_rfl)) (Below.refl _ _) ?_
    repeat (first | go_big_quiet_step ((go_at_call 40; exact (cU.out).late)) | (refine skip_same rfl (by kernel_rfl) (by kernel_rfl) ?_))
    refine wpQuiet_nil ?_
    rintro w4 ⟨b1, rfl⟩
    go_wp2_with fail
    go_ret
    exact ⟨rfl, B3.out.trans (b1.below.mono B3.out.size)⟩
theorem decodeBack_walk (a : Int) (wa : (Lit.int .u32 a).wf = true) (w : World) :
    Calls Try.prog 9 #[.int .u32 a] w fun e w' => e = .returned (.bool true) ∧ Below w.heap.size w w' := by
  obtain ⟨v, rfl⟩ := u32_bv wa
  have hE := pEncode_any (decW v)
  unfold encV at hE
  by_cases h0 : (decW v).op = 0
  · rw [enc_no v h0] at hE
    exact back_at v 0#32 (decW v) 7 (by rw [h0]; rfl) (Lib.hid (decode_any v)) (Lib.hid hE) (.inl ⟨h0, rfl⟩) w
  · obtain ⟨u, h1, h2, h3⟩ := enc_of v h0
    rw [h1] at hE
    have hD := decode_any u
    rw [h2] at hD
    exact back_at v u (decW v) 0 (by simpa using h0) (Lib.hid (decode_any v)) (Lib.hid hE) (.inr ⟨h0, rfl, andNot_zero u v h3, hD⟩) w
end Go.Proofs.Ytnhbekgmameeaaa
