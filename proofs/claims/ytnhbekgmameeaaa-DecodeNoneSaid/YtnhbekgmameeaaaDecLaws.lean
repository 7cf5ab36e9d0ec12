/- The laws DecodeOrder and DecodeNone, walked: each call answers true. -/
import Derived.Test.YtnhbekgmameeaaaDecAwake
namespace Go.Proofs.Ytnhbekgmameeaaa
open Go.RowKit Wd
set_option linter.unusedVariables false
set_option linter.unusedSimpArgs false
attribute [local go_sem] loadI_lit storeI_lit rowI_alloc rowI_drew rowI_setRow rowI_setCell setRow_allocI loadI_ins storeI_ins insC_0 ordA_walk ordF_walk xorW_walk
attribute [local go_sem ↓] loadI_run storeI_run' eq_ins eq_ins0
set_option maxRecDepth 8000
theorem late_row {w : World} {b : Nat} {cs : Array Value} (h : rowI w b = some cs) : (∀ g : Late w, rowI g.is b = some cs) ∧ ∀ (g : Late w) (o : Nat), g.is.cell? ⟨b, o, none⟩ = cs[o]? :=
  ⟨fun g => rowI_below h g.below, fun g o => cell_of_row _ _ o _ _ (0, 0) (rowI_heap (rowI_below h g.below))⟩
set_option maxHeartbeats 4000000 in
theorem decodeOrder_walk (a : Int) (wa : (Lit.int .u32 a).wf = true) (b : Int) (wb : (Lit.int .u32 b).wf = true) (w : World) :
    Calls Try.prog 6 #[.int .u32 a, .int .u32 b] w fun e w' => e = .returned (.bool true) ∧ Below w.heap.size w w' := by
  obtain ⟨v, rfl⟩ := u32_bv wa
  obtain ⟨m, rfl⟩ := u32_bv wb
  clear wa wb
  obtain ⟨i, hi⟩ : ∃ i, i = decW v := ⟨_, rfl⟩
  have qA := Lib.hid (show (i.op = 20 ∨ i.op = 21 ∨ i.op = 22) → decW (xorW v (ordA m)) = i from by rw [hi]; exact order_amo v m)
  have qF := Lib.hid (show (i.op = 11 ∨ i.op = 12) → decW (xorW v (ordF m)) = i from by rw [hi]; exact order_fence v m)
  have cD : Mk Try.prog 40 #[.int .u32 (v.toNat : Int)] (.agg (insC i)) := by rw [hi]; exact decode_any v
  replace cD := Lib.hid cD
  replace hi := Lib.hid hi
  go_enter Try.func6, Try.ntmps6
  go_wp2_with fail
  refine (cD.out _).mono ?_
  rintro e w1 ⟨rfl, hb1⟩
  replace hb1 := Lib.hid hb1
  go_wp2_with fail
  refine (awake_any _).mono ?_
  rintro e w2 ⟨rfl, hb2⟩
  have r0 : rowI (w1.alloc (.cells (insC i) 44)) w1.heap.size = some (insC i) := by rw [rowI_alloc, if_pos rfl, if_pos rfl]
  have r2 := rowI_below r0 hb2
  have c0 : w2.cell? ⟨w1.heap.size, 0, none⟩ = some (.int .i64 i.op) := cell_of_row _ _ 0 _ _ (0, 0) (rowI_heap r2)
  have B2 := Lib.hid (hb1.out.trans ((below_alloc hb2).mono hb1.out.size))
  obtain ⟨lr, _⟩ := late_row r2
  clear hb1 hb2 r0 cD
  by_cases h20 : i.op = 20
  · have hq := (insB_iff _ _).2 (qA.out (by omega))
    clear hi qA qF 
    go_wp2_with fail
    refine wp_region_late (by kernel_rfl) (lexB_of_fast _ (by kernel_rfl)) (Below.refl _ _) ?_
    repeat (first | go_big_quiet_step ((go_at_call 40; exact (decode_any _).late)) | (refine skip_same rfl (by kernel_rfl) (by kernel_rfl) ?_))
    refine wpQuiet_nil ?_
    rintro w3 ⟨b1, rfl⟩
    go_wp2_with fail
    go_ret
    exact ⟨rfl, B2.out.trans (b1.below.mono B2.out.size)⟩
  by_cases h21 : i.op = 21
  · have hq := (insB_iff _ _).2 (qA.out (by omega))
    clear hi qA qF  h20
    go_wp2_with fail
    refine wp_region_late (by kernel_rfl) (lexB_of_fast _ (by kernel_rfl)) (Below.refl _ _) ?_
    repeat (first | go_big_quiet_step ((go_at_call 40; exact (decode_any _).late)) | (refine skip_same rfl (by kernel_rfl) (by kernel_rfl) ?_))
    refine wpQuiet_nil ?_
    rintro w3 ⟨b1, rfl⟩
    go_wp2_with fail
    go_ret
    exact ⟨rfl, B2.out.trans (b1.below.mono B2.out.size)⟩
  by_cases h22 : i.op = 22
  · have hq := (insB_iff _ _).2 (qA.out (by omega))
    clear hi qA qF  h20 h21
    go_wp2_with fail
    refine wp_region_late (by kernel_rfl) (lexB_of_fast _ (by kernel_rfl)) (Below.refl _ _) ?_
    repeat (first | go_big_quiet_step ((go_at_call 40; exact (decode_any _).late)) | (refine skip_same rfl (by kernel_rfl) (by kernel_rfl) ?_))
    refine wpQuiet_nil ?_
    rintro w3 ⟨b1, rfl⟩
    go_wp2_with fail
    go_ret
    exact ⟨rfl, B2.out.trans (b1.below.mono B2.out.size)⟩
  by_cases h11 : i.op = 11
  · have hq := (insB_iff _ _).2 (qF.out (by omega))
    clear hi qA qF  h20 h21 h22
    go_wp2_with fail
    refine wp_region_late (by kernel_rfl) (lexB_of_fast _ (by kernel_rfl)) (Below.refl _ _) ?_
    repeat (first | go_big_quiet_step ((go_at_call 40; exact (decode_any _).late)) | (refine skip_same rfl (by kernel_rfl) (by kernel_rfl) ?_))
    refine wpQuiet_nil ?_
    rintro w3 ⟨b1, rfl⟩
    go_wp2_with fail
    go_ret
    exact ⟨rfl, B2.out.trans (b1.below.mono B2.out.size)⟩
  by_cases h12 : i.op = 12
  · have hq := (insB_iff _ _).2 (qF.out (by omega))
    clear hi qA qF  h20 h21 h22 h11
    go_wp2_with fail
    refine wp_region_late (by kernel_rfl) (lexB_of_fast _ (by kernel_rfl)) (Below.refl _ _) ?_
    repeat (first | go_big_quiet_step ((go_at_call 40; exact (decode_any _).late)) | (refine skip_same rfl (by kernel_rfl) (by kernel_rfl) ?_))
    refine wpQuiet_nil ?_
    rintro w3 ⟨b1, rfl⟩
    go_wp2_with fail
    go_ret
    exact ⟨rfl, B2.out.trans (b1.below.mono B2.out.size)⟩
  have f20 : (i.op == 20) = false := by simpa using h20
  have f21 : (i.op == 21) = false := by simpa using h21
  have f22 : (i.op == 22) = false := by simpa using h22
  have f11 : (i.op == 11) = false := by simpa using h11
  have f12 : (i.op == 12) = false := by simpa using h12
  clear hi qA qF h20 h21 h22 h11 h12
  go_wp2_with fail
  go_ret
  exact ⟨rfl, B2.out⟩
end Go.Proofs.Ytnhbekgmameeaaa
