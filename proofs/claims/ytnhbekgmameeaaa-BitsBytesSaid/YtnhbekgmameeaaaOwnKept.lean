/- Contracts: Own, Plain and Kept of package tappethelp, over bytes. -/
import Derived.Test.YtnhbekgmameeaaaSame
import Derived.OwnWalk
import Derived.Deep.DeepAppendRoom
import Derived.Laws.AppendOwnNone
namespace Go.Proofs.Ytnhbekgmameeaaa
open Go.RowKit Wd
set_option linter.unusedVariables false
set_option linter.unusedSimpArgs false
theorem plain1_any (x : Int) : Qt Try.prog 78 #[.int .u8 x, .int .u8 x] (.bool true) := by
  intro w
  go_enter Try.func78, Try.ntmps78
  go_wp2
  go_ret
  exact ⟨by simp, Quiet.refl _⟩
theorem same_true (A B : Option Addr) (n c d : Nat) (xs : List Int) (hn : n ≤ 140737488351232) (w : World) (ha : Octets w A n xs) (hb : Octets w B n xs) :
    Calls Try.prog 77 #[.slice A n c, .slice B n d, .func (.func 78) #[] #[]] w fun e w' => e = .returned (.bool true) ∧ Quiet w w' := by
  have HA := Lib.hid ha
  have HB := Lib.hid hb
  clear ha hb
  go_enter Try.func77, Try.ntmps77
  go_wp2_with fail
  go_loopw [7] (fun i wr => ∃ k : Nat, k ≤ n ∧ i = .int .i64 (k : Int) ∧ Quiet w wr) (fun i _ => n - (intOf i).toNat)
  case atStart => exact ⟨0, Nat.zero_le _, rfl, Quiet.refl _⟩
  case round =>
    obtain ⟨k, hk, rfl, hq⟩ := hrel
    by_cases hlt : k < n
    · obtain ⟨m, rfl⟩ := hq
      obtain ⟨b, off, rfl, _, hc0⟩ := HA.out.2 (by omega)
      have hc := hc0 k hlt
      clear hc0
      obtain ⟨b2, off2, rfl, _, hc1⟩ := HB.out.2 (by omega)
      have hd := hc1 k hlt
      clear hc1
      generalize xs.getD k 0 = x at hc hd
      have p1 := plain1_any x
      go_wp2_with fail
      go_quiet ((go_at_call 78; exact p1.quiet2))
      go_wp2
      go_roundw
      case rel => exact ⟨k + 1, by omega, by go_num, ⟨_, rfl⟩⟩
      case measure => simp [intOf]; omega
    · go_wp2
      go_ret
      exact ⟨rfl, hq⟩
theorem plain_true (A B : Option Addr) (n c d : Nat) (xs : List Int) (hn : n ≤ 140737488351232) (w : World) (ha : Octets w A n xs) (hb : Octets w B n xs) :
    Calls Try.prog 53 #[.slice A n c, .slice B n d] w fun e w' => e = .returned (.bool true) ∧ Quiet w w' := by
  have h := same_true A B n c d xs hn w ha hb
  clear ha hb
  go_enter Try.func53, Try.ntmps53
  go_wp2_with fail
  refine h.mono ?_
  rintro e w1 ⟨rfl, hq⟩
  go_wp2
  go_ret
  exact ⟨rfl, hq⟩
theorem getD_l (xs ys : List Int) (i : Nat) (h : i < xs.length) : (xs ++ ys).getD i 0 = xs.getD i 0 := by
  simp [List.getD, List.getElem?_append_left h]
theorem getD_r (xs ys : List Int) (i : Nat) : (xs ++ ys).getD (xs.length + i) 0 = ys.getD i 0 := by
  simp [List.getD, List.getElem?_append_right (Nat.le_add_right xs.length i)]
theorem kept_true (b : Nat) (B : Option Addr) (n d : Nat) (xs : List Int) (hn : n ≤ 140737488351232) (w : World) (ha : Octets w (some ⟨b, 0, none⟩) (n + 3) (xs ++ [71, 71, 71])) (hb : Octets w B n xs) :
    Calls Try.prog 19 #[.slice (some ⟨b, 0, none⟩) n (n + 3), .slice B n d, .int .u8 71] w fun e w' => e = .returned (.bool true) ∧ Quiet w w' := by
  have hl : xs.length = n := hb.1
  have hp : Octets w (some ⟨b, 0, none⟩) n xs := ⟨hl, fun h0 => by
    obtain ⟨b', off, e, hlt, hc⟩ := ha.2 (by omega)
    refine ⟨b', off, e, hlt, fun i hi => ?_⟩
    rw [hc i (by omega), getD_l _ _ _ (by omega)]⟩
  have hr : ∀ k, k < 3 → w.cell? ⟨b, n + k, none⟩ = some (.int .u8 71) := fun k hk => by
    obtain ⟨b', off, e, hlt, hc⟩ := ha.2 (by omega)
    cases e
    have h := hc (n + k) (by omega)
    rw [Nat.zero_add] at h
    rw [h, ← hl, getD_r]
    match k, hk with
    | 0, _ => rfl
    | 1, _ => rfl
    | 2, _ => rfl
  have h := plain_true (some ⟨b, 0, none⟩) B n (n + 3) d xs hn w hp hb
  clear ha hb hp
  go_enter Try.func19, Try.ntmps19
  go_wp2_with fail
  refine h.mono ?_
  rintro e w1 ⟨rfl, hq⟩
  have n1 : ¬ (n : Int) + 3 < (n : Int) + 3 := by omega
  go_wp2_with fail
  go_loopw [8] (fun i wr => ∃ k : Nat, k ≤ 3 ∧ i = .int .i64 ((n : Int) + k) ∧ Quiet w wr) (fun i _ => n + 3 - (intOf i).toNat)
  case atStart => exact ⟨0, Nat.zero_le _, by simp, hq⟩
  case round =>
    obtain ⟨k, hk, rfl, hq⟩ := hrel
    obtain ⟨m, rfl⟩ := hq
    by_cases hlt : k < 3
    · have hc := hr k hlt
      go_wp2
      go_roundw
      case rel => exact ⟨k + 1, by omega, by go_num, ⟨_, rfl⟩⟩
      case measure => simp [intOf]; omega
    · go_wp2
      go_ret
      exact ⟨rfl, ⟨_, rfl⟩⟩
/-- A row under the loop: the list, then k cells of the filling, room for three. -/
structure Fill (w0 w : World) (g n : Nat) (xs : List Int) (k : Nat) : Prop where
  head : ∀ j, j < n → w.cell? ⟨g, j, none⟩ = some (.int .u8 (xs.getD j 0))
  done : ∀ j, j < k → w.cell? ⟨g, n + j, none⟩ = some (.int .u8 71)
  room : ∀ j, j < 3 → ∃ v, w.cell? ⟨g, n + j, none⟩ = some v
  frz : ∀ o, w.frozen? ⟨g, o, none⟩ = false
  lt : g < w.heap.size
  below : Below w0.heap.size w0 w
theorem Fill.step {w0 w : World} {g n : Nat} {xs : List Int} {k : Nat} (h : Fill w0 w g n xs k) (hk : k < 3) (hg : w0.heap.size ≤ g) : Fill w0 (w.setCell ⟨g, n + k, none⟩ (.int .u8 71)) g n xs (k + 1) := by
  obtain ⟨v, hv⟩ := h.room k hk
  have same := World.cell?_setCell_same w ⟨g, n + k, none⟩ (.int .u8 71) hv
  have other : ∀ o, o ≠ n + k → (w.setCell ⟨g, n + k, none⟩ (.int .u8 71)).cell? ⟨g, o, none⟩ = w.cell? ⟨g, o, none⟩ := fun o ho => World.cell?_setCell_other w _ _ _ (by intro e; simp at e; try omega)
  refine ⟨fun j hj => ?_, fun j hj => ?_, fun j hj => ?_, fun o => ?_, ?_, h.below.setCell hg _⟩
  · rw [other j (by omega)]; exact h.head j hj
  · by_cases e : j = k
    · subst e; exact same
    · rw [other _ (by omega)]; exact h.done j (by omega)
  · by_cases e : j = k
    · subst e; exact ⟨_, same⟩
    · rw [other _ (by omega)]; exact h.room j hj
  · rw [World.frozen?_setCell]; exact h.frz o
  · simpa [World.setCell] using h.lt
theorem Fill.octets {w0 w : World} {g n : Nat} {xs : List Int} (h : Fill w0 w g n xs 3) (hl : xs.length = n) : Octets w (some ⟨g, 0, none⟩) (n + 3) (xs ++ [71, 71, 71]) := by
  refine ⟨by simp [hl], fun _ => ⟨g, 0, rfl, h.lt, fun i hi => ?_⟩⟩
  rw [Nat.zero_add]
  by_cases hj : i < n
  · rw [getD_l _ _ _ (by omega)]; exact h.head i hj
  · obtain ⟨j, rfl⟩ : ∃ j, i = n + j := ⟨i - n, by omega⟩
    rw [h.done j (by omega), ← hl, getD_r]
    match j, (by omega : j < 3) with
    | 0, _ => rfl
    | 1, _ => rfl
    | 2, _ => rfl
theorem fill_start {w0 w : World} {n m : Nat} {xs : List Int} {v : Value} (hv : v = .slice (some ⟨w0.heap.size, 0, none⟩) m (n + 3)) (h : w.ownsRow w0.heap.size 5 1 v n (xs.map (Value.int .u8))) (hm : m = n) (hb : Below w0.heap.size w0 w) : Fill w0 w w0.heap.size n xs 0 := by
  subst hm
  have hl : xs.length = m := by simpa using h.1
  rcases h.2 with ⟨e, _⟩ | ⟨g, cap, cur, e, _, hg, hnc, _, hcs, htake⟩
  · rw [hv] at e; cases e
  · rw [hv] at e
    cases e
    have hc : ∀ o, w.cell? ⟨w0.heap.size, o, none⟩ = cur[o]? := fun o => cell_of_row _ _ o _ _ (0, 0) hg
    refine ⟨fun j hj => ?_, fun j hj => by omega, fun j hj => ?_, fun o => frozen_of_row _ _ o _ _ hg, ?_, hb⟩
    · rw [hc]
      have e1 : (cur.toList.take (m * 1))[j]? = some (Value.int .u8 (xs.getD j 0)) := by
        rw [htake]
        simp [List.getD, List.getElem?_eq_getElem (show j < xs.length by omega)]
      rw [List.getElem?_take_of_lt (by omega)] at e1
      simpa using e1
    · rw [hc]
      exact ⟨_, Array.getElem?_eq_getElem (by omega)⟩
    · by_cases g1 : w0.heap.size < w.heap.size
      · exact g1
      · rw [Array.getElem?_eq_none (by omega)] at hg; simp at hg
theorem own_any (A : Option Addr) (n c : Nat) (xs : List Int) (hA : A = none → n = 0 ∧ c = 0) (hn : n ≤ 140737488351232) (w : World) (ho : Octets w A n xs) :
    Calls Try.prog 12 #[.slice A n c, .int .u8 71] w fun e w' =>
      e = .returned (.slice (some ⟨w.heap.size, 0, none⟩) n (n + 3)) ∧ Octets w' (some ⟨w.heap.size, 0, none⟩) (n + 3) (xs ++ [71, 71, 71]) ∧ Below w.heap.size w w' := by
  obtain ⟨i0, hi0, hz0, hz1, hz2⟩ := info_parts info_byte
  have hl : xs.length = n := ho.1
  have HO := Lib.hid ho
  clear ho
  have hL : (xs.map (Value.int .u8)).length = n * 1 := by simp [hl]
  cases A with
  | none =>
    obtain ⟨rfl, rfl⟩ := hA rfl
    obtain rfl := List.eq_nil_of_length_eq_zero hl
    go_enter Try.func12, Try.ntmps12
    go_wp2_with (at_make; refine wpList_make_own _ rfl _ _ 23 rfl w.heap.size 5 i0 (.int .u8 0) 1 Try.underlying23 hi0 hz0 hz1 .i64 .i64 _ (0 + 3) rfl rfl (by omega) (by rw [hz2]; omega) (by unfold maxLen; omega) (Nat.le_refl _) ?_)
    intro w1 hown1 hg1
    have B1 : Below w.heap.size w w1 := (Below.refl _ _).grown hg1 (Nat.le_refl _) (fun k hk => by simp at hk)
    go_wp2_with (at_builtin; refine wpList_append_own_none rfl _ _ 23 rfl w.heap.size 5 i0 1 Try.underlying23 hi0 _ 0 [] rfl hown1 rfl ?_)
    have h3 : w1.ownsRow w.heap.size 5 1 (.slice (some ⟨w.heap.size, 0, none⟩) 0 (0 + 3)) 0 (([] : List Int).map (Value.int .u8)) := by simpa using hown1
    have F0 := Lib.hid (fill_start (w0 := w) (w := w1) (m := 0) rfl h3 (by omega) B1)
    clear hown1 B1 h3
    go_wp2_with fail
    go_loopw [7] (fun i wr => ∃ k : Nat, k ≤ 3 ∧ i = .int .i64 (k : Int) ∧ Fill w wr w.heap.size 0 [] k) (fun i _ => 3 - (intOf i).toNat)
    case atStart => exact ⟨0, Nat.zero_le _, by simp, F0.out⟩
    case round =>
      obtain ⟨k, hk, rfl, hF⟩ := hrel
      by_cases hlt : k < 3
      · obtain ⟨v, hv⟩ := hF.room k hlt
        have hz := hF.frz (0 + k)
        have FF := hF.step hlt (Nat.le_refl _)
        rw [Nat.zero_add] at FF hv hz
        replace FF := Lib.hid FF
        clear hF
        go_wp2
        go_roundw
        case rel => exact ⟨k + 1, by omega, by go_num, FF.out⟩
        case measure => simp [intOf]; omega
      · obtain rfl : k = 3 := by omega
        go_wp2
        go_ret
        exact ⟨rfl, hF.octets hl, hF.below⟩
  | some ad =>
    go_enter Try.func12, Try.ntmps12
    go_wp2_with (at_make; refine wpList_make_own _ rfl _ _ 23 rfl w.heap.size 5 i0 (.int .u8 0) 1 Try.underlying23 hi0 hz0 hz1 .i64 .i64 _ (n + 3) rfl rfl (by omega) (by rw [hz2]; omega) (by unfold maxLen; omega) (Nat.le_refl _) ?_)
    intro w1 hown1 hg1
    have B1 : Below w.heap.size w w1 := (Below.refl _ _).grown hg1 (Nat.le_refl _) (fun k hk => by simp at hk)
    have hnews : ∀ j u, (xs.map (Value.int .u8))[j]? = some u → w1.cell? (ad.add j) = some u := fun j u hu => by
      have hj : j < n := by
        by_cases g : j < n
        · exact g
        · rw [List.getElem?_eq_none (by simp; omega)] at hu; simp at hu
      obtain ⟨b, off, e, _, hc⟩ := (HO.out.below B1).2 (by omega)
      cases e
      have h1 := hc j hj
      have e2 : u = .int .u8 (xs.getD j 0) := by
        simp [List.getElem?_eq_getElem (show j < xs.length by omega)] at hu
        simp [List.getD, List.getElem?_eq_getElem (show j < xs.length by omega), hu]
      rw [e2, ← h1]
      by_cases h0 : j = 0
      · subst h0; simp [Addr.add]
      · simp [Addr.add, h0]
    have hone : ∀ u ∈ xs.map (Value.int .u8), u.oneCell' = true := fun u hu => by
      obtain ⟨x, _, rfl⟩ := List.mem_map.1 hu
      rfl
    replace hnews := Lib.hid hnews
    have B1s := B1.size
    replace B1 := Lib.hid B1
    go_wp2_with (at_builtin; refine wpList_append_own_spare _ rfl _ _ 23 rfl w.heap.size 5 i0 1 Try.underlying23 hi0 hz1 w.heap.size 0 (n + 3) [] rfl hown1 ad n c (xs.map (Value.int .u8)) rfl hL hnews.out hone (by omega) ?_)
    intro w2 hown2 hg2
    have B2 : Below w.heap.size w w2 := B1.out.grown hg2 B1s (fun k hk => by cases hk; exact Nat.le_refl _)
    have hown3 : w2.ownsRow w.heap.size 5 1 (.slice (some ⟨w.heap.size, 0, none⟩) n (n + 3)) n (xs.map (Value.int .u8)) := by simpa using hown2
    clear hown2 hown1 hnews hg2 hg1 B1 B1s hone
    have F0 := Lib.hid (fill_start (w0 := w) (w := w2) (m := n) rfl hown3 (by omega) B2)
    clear hown3 B2
    go_wp2_with fail
    go_loopw [7] (fun i wr => ∃ k : Nat, k ≤ 3 ∧ i = .int .i64 ((n : Int) + k) ∧ Fill w wr w.heap.size n xs k) (fun i _ => n + 3 - (intOf i).toNat)
    case atStart => exact ⟨0, Nat.zero_le _, by simp, F0.out⟩
    case round =>
      obtain ⟨k, hk, rfl, hF⟩ := hrel
      by_cases hlt : k < 3
      · obtain ⟨v, hv⟩ := hF.room k hlt
        have hz := hF.frz (n + k)
        have FF := Lib.hid (hF.step hlt (Nat.le_refl _))
        clear hF
        go_wp2
        go_roundw
        case rel => exact ⟨k + 1, by omega, by go_num, FF.out⟩
        case measure => simp [intOf]; omega
      · obtain rfl : k = 3 := by omega
        go_wp2
        go_ret
        exact ⟨rfl, hF.octets hl, hF.below⟩
end Go.Proofs.Ytnhbekgmameeaaa
