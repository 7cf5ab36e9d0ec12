/- The laws PlruTells and PlruSpares, walked: each call answers true. -/
import Derived.Test.YtgnffkdijokhfaaPlruFinite
namespace Go.Proofs.Ytgnffkdijokhfaa
open Go.RowKit Pl

theorem awake_any : Qt Try.prog 7 #[] (.bool true) := by
  intro w
  have hq := Quiet.refl w
  have h1 : Qt Try.prog 12 #[.int .i64 0, .int .i64 4, .int .i64 0] (.int .i64 3) := ptouch_any 0 4 0
  have h2 : Qt Try.prog 10 #[.int .i64 3, .int .i64 4] (.int .i64 2) := pvictim_any 3 4
  have H1 := Lib.hid h1
  have H2 := Lib.hid h2
  clear h1 h2
  go_enter Try.func7, Try.ntmps7
  go_wp2_with (first
    | (go_at_call 12; refine (H1.out.at hq).mono ?_; clear hq; rintro e w1 ⟨rfl, hq⟩)
    | (go_at_call 10; refine (H2.out.at hq).mono ?_; clear hq; rintro e w1 ⟨rfl, hq⟩))
  go_ret
  exact ⟨rfl, hq⟩

theorem plruTells_walk (a0 a1 a2 : Int) (_ : (Lit.int .i64 a0).wf = true) (_ : (Lit.int .i64 a1).wf = true) (_ : (Lit.int .i64 a2).wf = true) (w : World) :
    Calls Try.prog 3 #[.int .i64 a0, .int .i64 a1, .int .i64 a2] w fun e w' => e = .returned (.bool true) ∧ Grown w w' := by
  have hq := Quiet.refl w
  go_enter Try.func3, Try.ntmps3
  go_wp2_with (first
    | (go_at_call 7; refine (awake_any.at hq).mono ?_; clear hq; rintro e w1 ⟨rfl, hq⟩)
    | (go_at_call 8; refine ((pmay_any _ _).at hq).mono ?_; clear hq; rintro e w1 ⟨rfl, hq⟩)
    | (go_at_call 9; refine ((rmay_any _ _).at hq).mono ?_; clear hq; rintro e w1 ⟨rfl, hq⟩)
    | (go_at_call 10; refine ((pvictim_any _ _).at hq).mono ?_; clear hq; rintro e w1 ⟨rfl, hq⟩)
    | (go_at_call 11; refine ((rvictim_any _ _).at hq).mono ?_; clear hq; rintro e w1 ⟨rfl, hq⟩)
    | (go_at_call 12; refine ((ptouch_any _ _ _).at hq).mono ?_; clear hq; rintro e w1 ⟨rfl, hq⟩)
    | (go_at_call 13; refine ((rtouch_any _ _ _).at hq).mono ?_; clear hq; rintro e w1 ⟨rfl, hq⟩))
  go_ret
  exact ⟨ret_bool (by simp), hq.grown⟩

theorem plruSpares_walk (a0 a1 a2 : Int) (_ : (Lit.int .i64 a0).wf = true) (_ : (Lit.int .i64 a1).wf = true) (_ : (Lit.int .i64 a2).wf = true) (w : World) :
    Calls Try.prog 4 #[.int .i64 a0, .int .i64 a1, .int .i64 a2] w fun e w' => e = .returned (.bool true) ∧ Grown w w' := by
  have hq := Quiet.refl w
  by_cases hm : mayB a0 a1 = true
  · by_cases h1 : 0 ≤ a2
    · by_cases h2 : a2 < a1
      · obtain ⟨e1, e2, e3, _⟩ := spares a0 a1 a2 hm h1 h2
        have e2' : (victim (touch a0 a1 a2) a1 != a2) = true := by simpa using e2
        clear e2
        go_enter Try.func4, Try.ntmps4
        go_wp2_with (first
          | (go_at_call 7; refine (awake_any.at hq).mono ?_; clear hq; rintro e w1 ⟨rfl, hq⟩)
          | (go_at_call 8; refine ((pmay_any _ _).at hq).mono ?_; clear hq; rintro e w1 ⟨rfl, hq⟩)
          | (go_at_call 10; refine ((pvictim_any _ _).at hq).mono ?_; clear hq; rintro e w1 ⟨rfl, hq⟩)
          | (go_at_call 12; refine ((ptouch_any _ _ _).at hq).mono ?_; clear hq; rintro e w1 ⟨rfl, hq⟩))
        go_ret
        exact ⟨rfl, hq.grown⟩
      · go_enter Try.func4, Try.ntmps4
        go_wp2_with (first
          | (go_at_call 7; refine (awake_any.at hq).mono ?_; clear hq; rintro e w1 ⟨rfl, hq⟩)
          | (go_at_call 8; refine ((pmay_any _ _).at hq).mono ?_; clear hq; rintro e w1 ⟨rfl, hq⟩))
        go_ret
        exact ⟨rfl, hq.grown⟩
    · go_enter Try.func4, Try.ntmps4
      go_wp2_with (first
        | (go_at_call 7; refine (awake_any.at hq).mono ?_; clear hq; rintro e w1 ⟨rfl, hq⟩)
        | (go_at_call 8; refine ((pmay_any _ _).at hq).mono ?_; clear hq; rintro e w1 ⟨rfl, hq⟩))
      go_ret
      exact ⟨rfl, hq.grown⟩
  · have hm' : mayB a0 a1 = false := by simpa using hm
    clear hm
    go_enter Try.func4, Try.ntmps4
    go_wp2_with (first
      | (go_at_call 7; refine (awake_any.at hq).mono ?_; clear hq; rintro e w1 ⟨rfl, hq⟩)
      | (go_at_call 8; refine ((pmay_any _ _).at hq).mono ?_; clear hq; rintro e w1 ⟨rfl, hq⟩))
    go_ret
    exact ⟨rfl, hq.grown⟩

/-- The local array's cells behind k rounds. -/
def Had (w0 : World) (B w L n k : Nat) (wr : World) : Prop :=
  (∀ j, j < 8 → wr.cell? ⟨B, j, none⟩ = some (.bool (visited w L n k j)) ∧ wr.frozen? ⟨B, j, none⟩ = false) ∧ Below w0.heap.size w0 wr ∧ w0.heap.size ≤ B
theorem Had.quiet {w0 : World} {B w L n k : Nat} {wr w2 : World} (h : Had w0 B w L n k wr) (hq : Quiet wr w2) : Had w0 B w L n k w2 := by
  obtain ⟨m, rfl⟩ := hq
  exact ⟨h.1, h.2.1.trans (below_drewN (Below.refl _ _) m), h.2.2⟩
theorem Had.start (w0 w1 : World) (hq : Quiet w0 w1) (w L n : Nat) (t : TypeId) :
    Had w0 w1.heap.size w L n 0 (w1.alloc (.cells #[.bool false, .bool false, .bool false, .bool false, .bool false, .bool false, .bool false, .bool false] t)) := by
  refine ⟨fun j hj => ⟨?_, ?_⟩, (hq.below _).alloc (by rw [hq.size]; exact Nat.le_refl _) _, by rw [hq.size]; exact Nat.le_refl _⟩
  · have : (w1.alloc (.cells #[.bool false, .bool false, .bool false, .bool false, .bool false, .bool false, .bool false, .bool false] t)).heap[w1.heap.size]? = some (.cells #[.bool false, .bool false, .bool false, .bool false, .bool false, .bool false, .bool false, .bool false] t) := by
      show (w1.heap.push _)[w1.heap.size]? = _
      simp
    rw [cell_of_row _ _ _ _ _ (0, 0) this]
    match j, hj with
    | 0, _ => rfl
    | 1, _ => rfl
    | 2, _ => rfl
    | 3, _ => rfl
    | 4, _ => rfl
    | 5, _ => rfl
    | 6, _ => rfl
    | 7, _ => rfl
  · have : (w1.alloc (.cells #[.bool false, .bool false, .bool false, .bool false, .bool false, .bool false, .bool false, .bool false] t)).heap[w1.heap.size]? = some (.cells #[.bool false, .bool false, .bool false, .bool false, .bool false, .bool false, .bool false, .bool false] t) := by
      show (w1.heap.push _)[w1.heap.size]? = _
      simp
    simp only [World.frozen?]
    rw [this]
    simp
theorem Had.step {w0 : World} {B w L n k : Nat} {wr : World} (h : Had w0 B w L n k wr) (hv : vic w L n k < 8) : Had w0 B w L n (k + 1) (wr.setCell ⟨B, vic w L n k, none⟩ (.bool true)) := by
  refine ⟨fun j hj => ⟨?_, ?_⟩, h.2.1.setCell h.2.2 _, h.2.2⟩
  · by_cases e : vic w L n k = j
    · subst e
      have := (h.1 _ hv).1
      rw [World.cell?_setCell_same _ _ _ this]
      simp [visited]
    · rw [World.cell?_setCell_other _ _ _ _ (by intro c; injection c with _ c; exact e c), (h.1 j hj).1]
      simp [visited, e]
  · rw [World.frozen?_setCell]
    exact (h.1 j hj).2

theorem plruRound_yes (w L m n : Nat) (ht : Tree w L m) (hn : n < m) (w0 : World) :
    Calls Try.prog 5 #[.int .i64 (n : Int), .int .i64 (w : Int)] w0 fun e w' => e = .returned (.bool true) ∧ Below w0.heap.size w0 w' := by
  have hq := Quiet.refl w0
  have hm := tree_may ht hn
  have hsm := tree_small ht
  have hall := Lib.hid (round_ok ht hn)
  go_enter Try.func5, Try.ntmps5
  go_wp2_with (first
    | (go_at_call 7; refine (awake_any.at hq).mono ?_; clear hq; rintro e w1 ⟨rfl, hq⟩)
    | (go_at_call 8; refine ((pmay_any _ _).at hq).mono ?_; clear hq; rintro e w1 ⟨rfl, hq⟩))
  have hst := Lib.hid (Had.start w0 w1 hq w L n 27)
  clear hq
  go_loopw [6, 7] (fun s i wr => ∃ k : Nat, k ≤ w ∧ i = .int .i64 (k : Int) ∧ s = .int .i64 (st w L n k : Nat) ∧ Had w0 w1.heap.size w L n k wr) (fun _ i _ => w - (intOf i).toNat)
  case atStart => exact ⟨0, by omega, rfl, rfl, hst.out⟩
  case round =>
    obtain ⟨k, hk, rfl, rfl, hhad⟩ := hrel
    by_cases hlt : k < w
    · have hv := Lib.hid (st_victim ht hn k hk).1
      have hv2 := (st_victim ht hn k hk).2
      have hv8 : vic w L n k < 8 := by omega
      have htc := Lib.hid (st_touch ht hn k hk)
      have hno := Lib.hid (visited_no w L n k (vic w L n k) (hall.out.1 k hlt).2)
      have HH := Lib.hid hhad
      clear hhad
      go_wp2_with (first
        | (go_at_call 10; refine (pvictim_any _ _ _).mono ?_; rintro e w2 ⟨rfl, hq2⟩; rw [hv.out]; have H2 := Lib.hid (HH.out.quiet hq2); have c1 := (H2.out.1 _ hv8).1; rw [hno.out] at c1; have f1 := (H2.out.1 _ hv8).2)
        | (go_at_call 12; refine (ptouch_any _ _ _ _).mono ?_; rintro e w3 ⟨rfl, hq3⟩; rw [htc.out]))
      go_roundw
      case rel => exact ⟨k + 1, by omega, by go_num, rfl, (H2.out.step hv8).quiet hq3⟩
      case measure => simp [intOf]; omega
    · have hkw : k = w := by omega
      subst hkw
      rw [hall.out.2]
      have HH := Lib.hid hhad
      clear hhad
      go_wp2
      go_ret
      exact ⟨rfl, HH.out.2.1⟩

theorem plruRound_walk (a0 a1 : Int) (_ : (Lit.int .i64 a0).wf = true) (_ : (Lit.int .i64 a1).wf = true) (w : World) :
    Calls Try.prog 5 #[.int .i64 a0, .int .i64 a1] w fun e w' => e = .returned (.bool true) ∧ Below w.heap.size w w' := by
  by_cases hm : mayB a0 a1 = true
  · obtain ⟨v, L, m, n, ht, rfl, rfl, hn, _⟩ := tree_of a0 a1 hm
    exact plruRound_yes v L m n ht hn w
  · have hq := Quiet.refl w
    have hm' : mayB a0 a1 = false := by simpa using hm
    clear hm
    go_enter Try.func5, Try.ntmps5
    go_wp2_with (first
      | (go_at_call 7; refine (awake_any.at hq).mono ?_; clear hq; rintro e w1 ⟨rfl, hq⟩)
      | (go_at_call 8; refine ((pmay_any _ _).at hq).mono ?_; clear hq; rintro e w1 ⟨rfl, hq⟩))
    go_ret
    exact ⟨rfl, hq.below _⟩
end Go.Proofs.Ytgnffkdijokhfaa
