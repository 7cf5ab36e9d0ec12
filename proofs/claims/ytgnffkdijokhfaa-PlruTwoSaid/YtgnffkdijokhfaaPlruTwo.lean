/- The law PlruTwo, walked: whatever is touched, the call answers true. -/
import Derived.Test.YtgnffkdijokhfaaPlruLaws
namespace Go.Proofs.Ytgnffkdijokhfaa
open Go.RowKit Pl

namespace Pl
theorem may_start (n : Int) (h : n = 2 ∨ n = 4 ∨ n = 8) : mayB 0 n = true := by rcases h with rfl | rfl | rfl <;> rfl
theorem two_next (st y : Int) (h : mayB st 2 = true) (h1 : 0 ≤ y) (h2 : y < 2) : mayB (touch st 2 y) 2 = true ∧ victim (touch st 2 y) 2 = 1 - y := by
  obtain ⟨e1, e2, _, _⟩ := spares st 2 y h h1 h2
  refine ⟨e1, ?_⟩
  obtain ⟨w, L, m, n, ht, hw, hn, hnm, _⟩ := tree_of _ 2 e1
  have hv := tree_victim ht hnm
  rw [hn, hw] at e2 ⊢
  omega
end Pl

theorem rem_bd (t : Int) (n : Int) (hn : 1 ≤ n) : 0 ≤ (IntKind.u64.wrap t).tmod n ∧ (IntKind.u64.wrap t).tmod n < n := by
  have h0 : 0 ≤ IntKind.u64.wrap t := by rw [IntKind.wrap_u64]; omega
  rw [Int.tmod_eq_emod_of_nonneg h0]
  exact ⟨Int.emod_nonneg _ (by omega), Int.emod_lt_of_pos _ (by omega)⟩

/-- What is known of the touches: each of them is a number, below the heap's old size. -/
def Told (w : World) (b off len : Nat) : Prop := b < w.heap.size ∧ ∀ i, i < len → ∃ t, w.cell? ⟨b, off + i, none⟩ = some (.int .i64 t)
theorem Told.at_ {w wr : World} {b off len : Nat} (h : Told w b off len) (hb : Below w.heap.size w wr) (i : Nat) (hi : i < len) : ∃ t, wr.cell? ⟨b, off + i, none⟩ = some (.int .i64 t) := by
  obtain ⟨t, ht⟩ := h.2 i hi
  exact ⟨t, (hb.cell (p := ⟨b, off + i, none⟩) h.1).trans ht⟩

theorem two_walk (b off len cap : Nat) (hlen : len ≤ 9223372036854775807) (a1 : Int) (w : World) (ht : Told w b off len) (hr : (IntKind.u64.wrap a1).tmod 3 = 0) :
    Calls Try.prog 6 #[.slice (some ⟨b, off, none⟩) len cap, .int .i64 a1] w fun e w' => e = .returned (.bool true) ∧ Below w.heap.size w w' := by
  have HT := Lib.hid ht
  clear ht
  go_enter Try.func6, Try.ntmps6
  go_wp2_with (first
    | (go_at_call 7; refine (awake_any _).mono ?_; rintro e w1 ⟨rfl, hq⟩))
  have hst := Lib.hid (((Below.refl w.heap.size w).alloc (Nat.le_refl _) _).trans (hq.below _))
  clear hq
  go_loopw [6, 7, 8] (fun s l i wr => ∃ (k : Nat) (st la : Int), k ≤ len ∧ i = .int .i64 (k : Int) ∧ s = .int .i64 st ∧ l = .int .i64 la ∧ mayB st 2 = true ∧ (la = -1 ∨ (0 ≤ la ∧ la ≤ 1 ∧ victim st 2 = 1 - la)) ∧ Below w.heap.size w wr) (fun _ _ i _ => len - (intOf i).toNat)
  case atStart => exact ⟨0, 0, -1, by omega, rfl, rfl, rfl, rfl, .inl rfl, hst.out⟩
  case round =>
    obtain ⟨k, st, la, hk, rfl, rfl, rfl, hm, hla, hb⟩ := hrel
    have HL := Lib.hid hla
    have HB := Lib.hid hb
    have HM := Lib.hid hm
    clear hla hb hm
    by_cases hlt : k < len
    · by_cases h60 : k < 60
      · obtain ⟨t, hct⟩ := HT.out.at_ HB.out k hlt
        obtain ⟨y1, hy1⟩ : ∃ y, (IntKind.u64.wrap t).tmod 1 = y := ⟨_, rfl⟩
        obtain ⟨y, hy⟩ : ∃ y, (IntKind.u64.wrap t).tmod 2 = y := ⟨_, rfl⟩
        have hyb := rem_bd t 2 (by omega)
        rw [hy] at hyb
        have hyb1 := rem_bd t 1 (by omega)
        rw [hy1] at hyb1
        have hn := Lib.hid (two_next st y HM.out hyb.1 hyb.2)
        go_wp2_with (first
          | (go_at_call 12; refine (ptouch_any _ _ _ _).mono ?_; rintro e w3 ⟨rfl, hq3⟩))
        go_roundw
        case rel => exact ⟨k + 1, touch st 2 y, y, by omega, by go_num, rfl, rfl, hn.out.1, .inr ⟨by omega, by omega, hn.out.2⟩, HB.out.trans (hq3.below _)⟩
        case measure => simp [intOf]; omega
      · rcases HL.out with h | ⟨h1, h2, h3⟩
        · subst h
          go_wp2
          go_ret
          exact ⟨rfl, HB.out⟩
        · go_wp2_with (first
            | (go_at_call 10; refine (pvictim_any _ _ _).mono ?_; rintro e w3 ⟨rfl, hq3⟩))
          go_ret
          exact ⟨rfl, HB.out.trans (hq3.below _)⟩
    · rcases HL.out with h | ⟨h1, h2, h3⟩
      · subst h
        go_wp2
        go_ret
        exact ⟨rfl, HB.out⟩
      · go_wp2_with (first
          | (go_at_call 10; refine (pvictim_any _ _ _).mono ?_; rintro e w3 ⟨rfl, hq3⟩))
        go_ret
        exact ⟨rfl, HB.out.trans (hq3.below _)⟩

theorem big4_walk (b off len cap : Nat) (hlen : len ≤ 9223372036854775807) (a1 : Int) (w : World) (ht : Told w b off len) (hr : (IntKind.u64.wrap a1).tmod 3 = 1) :
    Calls Try.prog 6 #[.slice (some ⟨b, off, none⟩) len cap, .int .i64 a1] w fun e w' => e = .returned (.bool true) ∧ Below w.heap.size w w' := by
  have HT := Lib.hid ht
  clear ht
  go_enter Try.func6, Try.ntmps6
  go_wp2_with (first
    | (go_at_call 7; refine (awake_any _).mono ?_; rintro e w1 ⟨rfl, hq⟩))
  have hst := Lib.hid (((Below.refl w.heap.size w).alloc (Nat.le_refl _) _).trans (hq.below _))
  clear hq
  go_loopw [6, 7, 8] (fun s l i wr => ∃ (k : Nat) (st la : Int), k ≤ len ∧ i = .int .i64 (k : Int) ∧ s = .int .i64 st ∧ l = .int .i64 la ∧ mayB st 4 = true ∧ Below w.heap.size w wr) (fun _ _ i _ => len - (intOf i).toNat)
  case atStart => exact ⟨0, 0, -1, by omega, rfl, rfl, rfl, rfl, hst.out⟩
  case round =>
    obtain ⟨k, st, la, hk, rfl, rfl, rfl, hm, hb⟩ := hrel
    have HB := Lib.hid hb
    have HM := Lib.hid hm
    clear hb hm
    by_cases hlt : k < len
    · by_cases h60 : k < 60
      · obtain ⟨t, hct⟩ := HT.out.at_ HB.out k hlt
        obtain ⟨y, hy⟩ : ∃ y, (IntKind.u64.wrap t).tmod 2 = y := ⟨_, rfl⟩
        have hyb := rem_bd t 2 (by omega)
        rw [hy] at hyb
        obtain ⟨hn, _, _, hv⟩ := spares st 4 y HM.out hyb.1 (by omega)
        replace hv : 2 ≤ victim (touch st 4 y) 4 := hv (by omega)
        have HN := Lib.hid hn
        clear hn
        go_wp2_with (first
          | (go_at_call 12; refine (ptouch_any _ _ _ _).mono ?_; rintro e w3 ⟨rfl, hq3⟩)
          | (go_at_call 10; refine (pvictim_any _ _ _).mono ?_; rintro e w4 ⟨rfl, hq4⟩))
        go_roundw
        case rel => exact ⟨k + 1, touch st 4 y, y, by omega, by go_num, rfl, rfl, HN.out, (HB.out.trans (hq3.below _)).trans (hq4.below _)⟩
        case measure => simp [intOf]; omega
      · go_wp2
        go_ret
        exact ⟨rfl, HB.out⟩
    · go_wp2
      go_ret
      exact ⟨rfl, HB.out⟩

theorem big8_walk (b off len cap : Nat) (hlen : len ≤ 9223372036854775807) (a1 : Int) (w : World) (ht : Told w b off len) (hr : (IntKind.u64.wrap a1).tmod 3 = 2) :
    Calls Try.prog 6 #[.slice (some ⟨b, off, none⟩) len cap, .int .i64 a1] w fun e w' => e = .returned (.bool true) ∧ Below w.heap.size w w' := by
  have HT := Lib.hid ht
  clear ht
  go_enter Try.func6, Try.ntmps6
  go_wp2_with (first
    | (go_at_call 7; refine (awake_any _).mono ?_; rintro e w1 ⟨rfl, hq⟩))
  have hst := Lib.hid (((Below.refl w.heap.size w).alloc (Nat.le_refl _) _).trans (hq.below _))
  clear hq
  go_loopw [6, 7, 8] (fun s l i wr => ∃ (k : Nat) (st la : Int), k ≤ len ∧ i = .int .i64 (k : Int) ∧ s = .int .i64 st ∧ l = .int .i64 la ∧ mayB st 8 = true ∧ Below w.heap.size w wr) (fun _ _ i _ => len - (intOf i).toNat)
  case atStart => exact ⟨0, 0, -1, by omega, rfl, rfl, rfl, rfl, hst.out⟩
  case round =>
    obtain ⟨k, st, la, hk, rfl, rfl, rfl, hm, hb⟩ := hrel
    have HB := Lib.hid hb
    have HM := Lib.hid hm
    clear hb hm
    by_cases hlt : k < len
    · by_cases h60 : k < 60
      · obtain ⟨t, hct⟩ := HT.out.at_ HB.out k hlt
        obtain ⟨y, hy⟩ : ∃ y, (IntKind.u64.wrap t).tmod 4 = y := ⟨_, rfl⟩
        have hyb := rem_bd t 4 (by omega)
        rw [hy] at hyb
        obtain ⟨hn, _, _, hv⟩ := spares st 8 y HM.out hyb.1 (by omega)
        replace hv : 4 ≤ victim (touch st 8 y) 8 := hv (by omega)
        have HN := Lib.hid hn
        clear hn
        go_wp2_with (first
          | (go_at_call 12; refine (ptouch_any _ _ _ _).mono ?_; rintro e w3 ⟨rfl, hq3⟩)
          | (go_at_call 10; refine (pvictim_any _ _ _).mono ?_; rintro e w4 ⟨rfl, hq4⟩))
        go_roundw
        case rel => exact ⟨k + 1, touch st 8 y, y, by omega, by go_num, rfl, rfl, HN.out, (HB.out.trans (hq3.below _)).trans (hq4.below _)⟩
        case measure => simp [intOf]; omega
      · go_wp2
        go_ret
        exact ⟨rfl, HB.out⟩
    · go_wp2
      go_ret
      exact ⟨rfl, HB.out⟩

theorem none_walk (A : Option Addr) (cap : Nat) (a1 : Int) (w : World) :
    Calls Try.prog 6 #[.slice A 0 cap, .int .i64 a1] w fun e w' => e = .returned (.bool true) ∧ Below w.heap.size w w' := by
  have hb := rem_bd a1 3 (by omega)
  have hc : (IntKind.u64.wrap a1).tmod 3 = 0 ∨ (IntKind.u64.wrap a1).tmod 3 = 1 ∨ (IntKind.u64.wrap a1).tmod 3 = 2 := by omega
  clear hb
  rcases hc with hr | hr | hr
  all_goals
    go_enter Try.func6, Try.ntmps6
    go_wp2_with (first
      | (go_at_call 7; refine (awake_any _).mono ?_; rintro e w1 ⟨rfl, hq⟩))
    have hst := Lib.hid (((Below.refl w.heap.size w).alloc (Nat.le_refl _) _).trans (hq.below _))
    clear hq
    refine wp_loop_rounds 1 ?_
    rw [rounds_succ]
    go_wp2
    go_ret
    exact ⟨rfl, hst.out⟩

theorem plruTwo_walk (a0 : Option Addr) (len cap : Nat) (zs : List Int) (a1 : Int) (w : World) (w0 : (a0 = none ∧ len = 0 ∧ cap = 0 ∧ zs = []) ∨
      ∃ x, a0 = some x ∧ len ≤ cap ∧ cap ≤ maxLen ∧ zs.length = cap ∧ (∀ i, i < zs.length → w.cell? (x.add i) = some (.int .i64 (zs.getD i 0))) ∧ ∀ n ∈ zs, (Lit.int .i64 n).wf = true) :
    Calls Try.prog 6 #[.slice a0 len cap, .int .i64 a1] w fun e w' => e = .returned (.bool true) ∧ Below w.heap.size w w' := by
  rcases Nat.eq_zero_or_pos len with h0 | h0
  · subst h0
    exact none_walk a0 cap a1 w
  · rcases w0 with ⟨_, h, _⟩ | ⟨x, rfl, hl, hm, hz, hcell, _⟩
    · omega
    · obtain ⟨b, off, rfl, hc⟩ := ints_at hcell (by omega)
      have ht : Told w b off len := ⟨World.block_lt_of_cell? w _ (hc 0 (by omega)), fun i hi => ⟨_, hc i (by omega)⟩⟩
      have hlen : len ≤ 9223372036854775807 := by unfold maxLen at hm; omega
      have hb := rem_bd a1 3 (by omega)
      have hc : (IntKind.u64.wrap a1).tmod 3 = 0 ∨ (IntKind.u64.wrap a1).tmod 3 = 1 ∨ (IntKind.u64.wrap a1).tmod 3 = 2 := by omega
      rcases hc with hr | hr | hr
      · exact two_walk b off len cap hlen a1 w ht hr
      · exact big4_walk b off len cap hlen a1 w ht hr
      · exact big8_walk b off len cap hlen a1 w ht hr
end Go.Proofs.Ytgnffkdijokhfaa
