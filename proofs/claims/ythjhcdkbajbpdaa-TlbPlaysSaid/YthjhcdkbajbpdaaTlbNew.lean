/- Contracts: a TLB is made, emptied; how many entries it has. -/
import Derived.Test.YthjhcdkbajbpdaaTlbPlain
import Derived.Test.YthjhcdkbajbpdaaTlbAll
namespace Go.Proofs.Ythjhcdkbajbpdaa
open Go.RowKit Wd Pl
set_option linter.unusedVariables false
set_option linter.unusedSimpArgs false
set_option maxRecDepth 8000
namespace Wd
def mkC (n : Nat) : Array Value := ((List.replicate n (wyC noWy)).flatten).toArray
def mkW (n : Nat) : List Wy := List.replicate n noWy
theorem mkW_at (n i : Nat) : wyAt (mkW n) i = noWy := by
  unfold wyAt mkW
  by_cases h : i < n
  · simp [List.getD, h]
  · simp [List.getD, h]
end Wd
theorem mk_2 (w : World) : (Instr.makeSlice 92 (.int .i64 2) (.int .i64 2)).run Try.prog w = .ok (.slice (some ⟨w.heap.size, 0, none⟩) 2 2) (w.alloc (.cells (mkC 2) 99)) := by kernel_rfl
theorem mk_4 (w : World) : (Instr.makeSlice 92 (.int .i64 4) (.int .i64 4)).run Try.prog w = .ok (.slice (some ⟨w.heap.size, 0, none⟩) 4 4) (w.alloc (.cells (mkC 4) 99)) := by kernel_rfl
theorem mk_8 (w : World) : (Instr.makeSlice 92 (.int .i64 8) (.int .i64 8)).run Try.prog w = .ok (.slice (some ⟨w.heap.size, 0, none⟩) 8 8) (w.alloc (.cells (mkC 8) 99)) := by kernel_rfl
attribute [local go_sem] mk_2 mk_4 mk_8
theorem mkC_row (n : Nat) (h : n = 2 ∨ n = 4 ∨ n = 8) : ∀ i, i < (mkW n).length → ∀ j, j < 7 → (mkC n)[i * 7 + j]? = (wyC (wyAt (mkW n) i))[j]? := by
  intro i hi j hj
  rw [mkW_at]
  rw [show (mkW n).length = n by simp [mkW]] at hi
  have k : ∀ n, n ≤ 8 → ∀ i, i < n → ∀ j, j < 7 → (mkC n)[i * 7 + j]? = (wyC noWy)[j]? := by
    intro n hn i hi j hj
    unfold mkC
    rw [List.getElem?_toArray]
    have e : ∀ n i, i < n → ((List.replicate n (wyC noWy)).flatten)[i * 7 + j]? = (wyC noWy)[j]? := by
      intro n
      induction n with
      | zero => intro i hi; omega
      | succ n ih =>
        intro i hi
        rw [List.replicate_succ, List.flatten_cons]
        cases i with
        | zero =>
          rw [List.getElem?_append_left (by simp [wyC, noWy]; omega)]
          simp
        | succ i =>
          rw [List.getElem?_append_right (by simp [wyC, noWy]; omega)]
          rw [show (i + 1) * 7 + j - (wyC noWy).length = i * 7 + j by simp [wyC, noWy]; omega]
          exact ih i (by omega)
    exact e n i hi
  exact k n (by omega) i hi j hj
theorem tb_made {w : World} {tT tW : TypeId} {p q n c : Nat} (h : n = 2 ∨ n = 4 ∨ n = 8) (hp : Bk w p #[.slice (some ⟨q, 0, none⟩) n c, .int .i64 0] tT) (hq : Bk w q (mkC n) tW) (hne : p ≠ q) : Tb w tT tW p q (mkW n) 0 := by
  have hl : (mkW n).length = n := by simp [mkW]
  refine ⟨by rw [hl]; exact h, ⟨c, by rw [hl]; exact hp⟩, ⟨_, hq, mkC_row n h⟩, hne, fun i hi => ?_⟩
  rw [mkW_at] at hi
  cases hi
set_option maxHeartbeats 1000000 in
theorem new_ok (n : Nat) (h : n = 2 ∨ n = 4 ∨ n = 8) (w : World) : Calls Try.prog 33 #[.int .i64 (n : Int)] w fun e w' =>
    e = .returned (.tuple #[.pointer (some ⟨w.heap.size + 1, 0, none⟩), .int .i64 0]) ∧ Tb w' 94 99 (w.heap.size + 1) w.heap.size (mkW n) 0 ∧ Below w.heap.size w w' := by
  have cM := Lib.hid (pmay_any 0 n)
  have hm : mayB 0 n = true := by rcases h with rfl | rfl | rfl <;> rfl
  rw [hm] at cM
  clear hm
  rcases h with rfl | rfl | rfl
  all_goals
    go_enter Try.func33, Try.ntmps33
    go_wp2_with fail
    refine (cM.out _).mono ?_
    rintro e w1 ⟨rfl, hq⟩
    have HQ := Lib.hid hq
    clear hq
    go_wp2_with fail
    go_ret2
    have hz := HQ.out.size
  · exact ⟨by rw [← hz]; rfl, by
      rw [← hz]
      refine tb_made (n := 2) (c := 2) (.inl rfl) ?_ ((Bk.new w1 (mkC 2) 99).alloc _) (by omega)
      have := Bk.new (w1.alloc (.cells (mkC 2) 99)) #[.slice (some ⟨w1.heap.size, 0, none⟩) 2 2, .int .i64 0] 94
      simpa using this, ((HQ.out.below _).alloc (by omega) _).alloc (by simp; omega) _⟩
  · exact ⟨by rw [← hz]; rfl, by
      rw [← hz]
      refine tb_made (n := 4) (c := 4) (.inr (.inl rfl)) ?_ ((Bk.new w1 (mkC 4) 99).alloc _) (by omega)
      have := Bk.new (w1.alloc (.cells (mkC 4) 99)) #[.slice (some ⟨w1.heap.size, 0, none⟩) 4 4, .int .i64 0] 94
      simpa using this, ((HQ.out.below _).alloc (by omega) _).alloc (by simp; omega) _⟩
  · exact ⟨by rw [← hz]; rfl, by
      rw [← hz]
      refine tb_made (n := 8) (c := 8) (.inr (.inr rfl)) ?_ ((Bk.new w1 (mkC 8) 99).alloc _) (by omega)
      have := Bk.new (w1.alloc (.cells (mkC 8) 99)) #[.slice (some ⟨w1.heap.size, 0, none⟩) 8 8, .int .i64 0] 94
      simpa using this, ((HQ.out.below _).alloc (by omega) _).alloc (by simp; omega) _⟩
theorem new_no (n : Int) (h : ¬ (n = 2 ∨ n = 4 ∨ n = 8)) (w : World) : Calls Try.prog 33 #[.int .i64 n] w fun e w' =>
    e = .returned (.tuple #[.pointer none, .int .i64 1]) ∧ Below w.heap.size w w' := by
  have cM := Lib.hid (pmay_any 0 n)
  have hm : mayB 0 n = false := by
    unfold mayB
    rw [beq_eq_false_iff_ne.2 (show n ≠ 2 by omega), beq_eq_false_iff_ne.2 (show n ≠ 4 by omega), beq_eq_false_iff_ne.2 (show n ≠ 8 by omega)]
    rfl
  rw [hm] at cM
  clear hm h
  go_enter Try.func33, Try.ntmps33
  go_wp2_with fail
  refine (cM.out _).mono ?_
  rintro e w1 ⟨rfl, hq⟩
  go_wp2_with fail
  go_ret2
  exact ⟨rfl, hq.below _⟩
theorem len_any (p q : Nat) (ws : List Wy) (st : Int) (w : World) (h : Tb w 94 99 p q ws st) : Calls Try.prog 37 #[.pointer (some ⟨p, 0, none⟩)] w fun e w' =>
    e = .returned (.int .i64 ((entL ws ws.length).length : Int)) ∧ Below w.heap.size w w' := by
  have cA := Lib.hid (all_any p q ws st w h)
  clear h
  go_enter Try.func37, Try.ntmps37
  go_wp2_with fail
  refine cA.out.mono ?_
  rintro e w1 ⟨v, rfl, hown, hb⟩
  rcases hown.2 with ⟨rfl, h0⟩ | ⟨g, cap, cur, rfl, _⟩
  · have H0 := Lib.hid h0
    have HB := Lib.hid hb
    clear hown h0 hb
    go_wp2_with fail
    go_ret
    exact ⟨by rw [H0.out]; rfl, HB.out⟩
  · have HB := Lib.hid hb
    clear hown hb
    go_wp2_with fail
    go_ret
    exact ⟨rfl, HB.out⟩
end Go.Proofs.Ythjhcdkbajbpdaa
