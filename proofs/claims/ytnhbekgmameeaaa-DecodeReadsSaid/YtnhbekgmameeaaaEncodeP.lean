/- Contract: decode's Encode. -/
import Derived.Test.YtnhbekgmameeaaaEncode
import Derived.Test.YtnhbekgmameeaaaDecode
import Derived.Test.YtnhbekgmameeaaaInsEq
namespace Go.Proofs.Ytnhbekgmameeaaa
open Go.RowKit Wd
set_option linter.unusedVariables false
set_option linter.unusedSimpArgs false
attribute [local go_sem] loadI_lit loadI_ins rowI_alloc rowI_drew rowI_drewN
attribute [local go_sem ↓] loadI_run eq_ins
set_option maxRecDepth 20000
set_option maxHeartbeats 8000000 in
theorem pEncode_any (i : Ins) : Mk Try.prog 43 #[.agg (insC i)] (encV (encF layC i)) := by
  intro w
  have cL := Lib.hid (ilay_any i)
  obtain ⟨v, e, hr⟩ : ∃ v e, layC i = (v, e) := ⟨_, _, rfl⟩
  have cL : Hid (Mk Try.prog 72 #[.agg (insC i)] (.tuple #[.int .u32 (v.toNat : Int), .int .i64 e])) := Lib.hid (by
    have := ilay_any i
    unfold encV at this
    rw [hr] at this
    exact this)
  have r0 : rowI (w.alloc (.cells (insC i) 44)) w.heap.size = some (insC i) := by rw [rowI_alloc, if_pos rfl, if_pos rfl]
  have lr : ∀ g : Late (w.alloc (.cells (insC i) 44)), rowI g.is w.heap.size = some (insC i) := fun g => rowI_below r0 g.below
  have l0 : ∀ g : Late (w.alloc (.cells (insC i) 44)), g.is.cell? ⟨w.heap.size, 0, none⟩ = some (.int .i64 i.op) := fun g => cell_of_row _ _ 0 _ _ (0, 0) (rowI_heap (lr g))
  have hU := Lib.hid (show encF layC i = if e = 0 ∧ i.op ≠ 0 ∧ insB (decW v) i = true then (v, 0) else (0#32, 7) from by unfold encF; rw [hr])
  clear hr
  by_cases h1 : e = 0
  · by_cases h2 : i.op = 0
    · rw [hU.out, if_neg (fun a => a.2.1 h2)]
      subst h1
      clear hU
      go_enter Try.func43, Try.ntmps43
      go_wp2_with fail
      refine (cL.out _).mono ?_
      rintro en w1 ⟨rfl, hb⟩
      go_wp2_with fail
      refine wp_region_late (by kernel_rfl) (lexB_of_fast _ (by kernel_rfl)) hb ?_
      repeat (first | go_big_quiet_step ((go_at_call 40; exact (decode_any _).late)) | (refine skip_same rfl (by kernel_rfl) (by kernel_rfl) ?_))
      refine wpQuiet_nil ?_
      rintro w2 ⟨b1, rfl⟩
      clear hb
      have hb := b1.below
      go_wp2_with fail
      go_ret2
      exact ⟨rfl, below_alloc hb⟩
    · have f2 : (i.op == 0) = false := by simpa using h2
      cases h3 : insB (decW v) i
      · rw [hU.out, if_neg (fun a => by rw [h3] at a; simp at a)]
        subst h1
        clear h2
        clear hU
        go_enter Try.func43, Try.ntmps43
        go_wp2_with fail
        refine (cL.out _).mono ?_
        rintro en w1 ⟨rfl, hb⟩
        go_wp2_with fail
        refine wp_region_late (by kernel_rfl) (lexB_of_fast _ (by kernel_rfl)) hb ?_
        repeat (first | go_big_quiet_step ((go_at_call 40; exact (decode_any _).late)) | (refine skip_same rfl (by kernel_rfl) (by kernel_rfl) ?_))
        refine wpQuiet_nil ?_
        rintro w2 ⟨b1, rfl⟩
        clear hb
        have hb := b1.below
        go_wp2_with fail
        go_ret2
        exact ⟨rfl, below_alloc hb⟩
      · rw [hU.out, if_pos ⟨h1, h2, h3⟩]
        subst h1
        clear h2
        clear hU
        go_enter Try.func43, Try.ntmps43
        go_wp2_with fail
        refine (cL.out _).mono ?_
        rintro en w1 ⟨rfl, hb⟩
        go_wp2_with fail
        refine wp_region_late (by kernel_rfl) (lexB_of_fast _ (by kernel_rfl)) hb ?_
        repeat (first | go_big_quiet_step ((go_at_call 40; exact (decode_any _).late)) | (refine skip_same rfl (by kernel_rfl) (by kernel_rfl) ?_))
        refine wpQuiet_nil ?_
        rintro w2 ⟨b1, rfl⟩
        clear hb
        have hb := b1.below
        go_wp2_with fail
        go_ret2
        exact ⟨rfl, below_alloc hb⟩
  · rw [hU.out, if_neg (fun a => h1 a.1)]
    have f1 : (e != 0) = true := by simpa using h1
    clear h1
    clear hU
    go_enter Try.func43, Try.ntmps43
    go_wp2_with fail
    refine (cL.out _).mono ?_
    rintro en w1 ⟨rfl, hb⟩
    go_wp2_with fail
    refine wp_region_late (by kernel_rfl) (lexB_of_fast _ (by kernel_rfl)) hb ?_
    repeat (first | go_big_quiet_step ((go_at_call 40; exact (decode_any _).late)) | (refine skip_same rfl (by kernel_rfl) (by kernel_rfl) ?_))
    refine wpQuiet_nil ?_
    rintro w2 ⟨b1, rfl⟩
    clear hb
    have hb := b1.below
    go_wp2_with fail
    go_ret2
    exact ⟨rfl, below_alloc hb⟩
end Go.Proofs.Ytnhbekgmameeaaa
