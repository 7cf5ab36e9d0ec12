/- Contracts: the document's TLB is made, emptied. -/
import Derived.Test.YthjhcdkbajbpdaaRtlbLook
import Derived.Test.YthjhcdkbajbpdaaTlbForget
namespace Go.Proofs.Ythjhcdkbajbpdaa
open Go.RowKit Wd Pl
set_option linter.unusedVariables false
set_option linter.unusedSimpArgs false
set_option maxRecDepth 8000
theorem rmk_2 (w : World) : (Instr.makeSlice 101 (.int .i64 2) (.int .i64 2)).run Try.prog w = .ok (.slice (some ⟨w.heap.size, 0, none⟩) 2 2) (w.alloc (.cells (mkC 2) 111)) := by kernel_rfl
theorem rmk_4 (w : World) : (Instr.makeSlice 101 (.int .i64 4) (.int .i64 4)).run Try.prog w = .ok (.slice (some ⟨w.heap.size, 0, none⟩) 4 4) (w.alloc (.cells (mkC 4) 111)) := by kernel_rfl
theorem rmk_8 (w : World) : (Instr.makeSlice 101 (.int .i64 8) (.int .i64 8)).run Try.prog w = .ok (.slice (some ⟨w.heap.size, 0, none⟩) 8 8) (w.alloc (.cells (mkC 8) 111)) := by kernel_rfl
attribute [local go_sem] rmk_2 rmk_4 rmk_8
set_option maxHeartbeats 1000000 in
theorem rnew_ok (n : Nat) (h : n = 2 ∨ n = 4 ∨ n = 8) (w : World) : Calls Try.prog 41 #[.int .i64 (n : Int)] w fun e w' =>
    e = .returned (.tuple #[.pointer (some ⟨w.heap.size + 1, 0, none⟩), .int .i64 0]) ∧ Tb w' 103 111 (w.heap.size + 1) w.heap.size (mkW n) 0 ∧ Below w.heap.size w w' := by
  rcases h with rfl | rfl | rfl
  all_goals
    go_enter Try.func41, Try.ntmps41
    go_wp2_with fail
    go_ret2
  · exact ⟨rfl, by
      refine tb_made (n := 2) (c := 2) (.inl rfl) ?_ ((Bk.new w (mkC 2) 111).alloc _) (by omega)
      have := Bk.new (w.alloc (.cells (mkC 2) 111)) #[.slice (some ⟨w.heap.size, 0, none⟩) 2 2, .int .i64 0] 103
      simpa using this, ((Below.refl _ _).alloc (Nat.le_refl _) _).alloc (by simp) _⟩
  · exact ⟨rfl, by
      refine tb_made (n := 4) (c := 4) (.inr (.inl rfl)) ?_ ((Bk.new w (mkC 4) 111).alloc _) (by omega)
      have := Bk.new (w.alloc (.cells (mkC 4) 111)) #[.slice (some ⟨w.heap.size, 0, none⟩) 4 4, .int .i64 0] 103
      simpa using this, ((Below.refl _ _).alloc (Nat.le_refl _) _).alloc (by simp) _⟩
  · exact ⟨rfl, by
      refine tb_made (n := 8) (c := 8) (.inr (.inr rfl)) ?_ ((Bk.new w (mkC 8) 111).alloc _) (by omega)
      have := Bk.new (w.alloc (.cells (mkC 8) 111)) #[.slice (some ⟨w.heap.size, 0, none⟩) 8 8, .int .i64 0] 103
      simpa using this, ((Below.refl _ _).alloc (Nat.le_refl _) _).alloc (by simp) _⟩
theorem rnew_no (n : Int) (h : ¬ (n = 2 ∨ n = 4 ∨ n = 8)) (w : World) : Calls Try.prog 41 #[.int .i64 n] w fun e w' =>
    e = .returned (.tuple #[.pointer none, .int .i64 1]) ∧ Below w.heap.size w w' := by
  have h2 : (n != 2) = true := bne_iff_ne.2 (by omega)
  have h4 : (n != 4) = true := bne_iff_ne.2 (by omega)
  have h8 : (n != 8) = true := bne_iff_ne.2 (by omega)
  clear h
  go_enter Try.func41, Try.ntmps41
  go_wp2_with fail
  go_ret2
  exact ⟨rfl, Below.refl _ _⟩
set_option maxHeartbeats 1000000 in
theorem rflush_any (p q : Nat) (ws : List Wy) (st : Int) (w : World) (h : Tb w 103 111 p q ws st) : Calls Try.prog 66 #[.pointer (some ⟨p, 0, none⟩)] w fun e w' =>
    e = .returned (.tuple #[]) ∧ Tb w' 103 111 p w.heap.size (mkW ws.length) 0 ∧ Only [p] w w' := by
  obtain ⟨c, hb⟩ := h.box
  have hl := h.len
  have c0 := hb.get (o := 0) rfl
  have c1 := hb.get (o := 1) rfl
  have f0 : ∀ o, w.frozen? ⟨p, o, none⟩ = false := hb.free
  have HB := Lib.hid hb
  have hp := hb.lt
  generalize ws.length = n at *
  clear h hb
  rcases hl with rfl | rfl | rfl
  all_goals
    go_enter Try.func66, Try.ntmps66
    go_wp2_with fail
    refine bodyPost_end (results_none rfl _ _ _) rfl ?_
  · exact ⟨rfl, flush_tb 2 (.inl rfl) p c _ st w _ _ HB.out⟩
  · exact ⟨rfl, flush_tb 4 (.inr (.inl rfl)) p c _ st w _ _ HB.out⟩
  · exact ⟨rfl, flush_tb 8 (.inr (.inr rfl)) p c _ st w _ _ HB.out⟩
end Go.Proofs.Ythjhcdkbajbpdaa
