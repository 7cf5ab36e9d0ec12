/- Contract: Plain of package tappethelp over words: two lists that read alike are alike. -/
import Derived.Test.YthjhcdkbajbpdaaWalkReader
import Derived.BigQuiet
namespace Go.Proofs.Ythjhcdkbajbpdaa
open Go.RowKit Wd
set_option linter.unusedVariables false
set_option linter.unusedSimpArgs false
/-- The slice's first n cells are these words. -/
def Wds (w : World) (A : Option Addr) (n : Nat) (xs : List (BitVec 64)) : Prop :=
  xs.length = n ∧ (0 < n → ∃ b, A = some ⟨b, 0, none⟩ ∧ b < w.heap.size ∧ ∀ i, i < n → w.cell? ⟨b, i, none⟩ = some (.int .u64 ((xs.getD i 0#64).toNat : Int)))
theorem Wds.keep {w w' : World} {A : Option Addr} {n : Nat} {xs : List (BitVec 64)} (h : Wds w A n xs) (hs : w.heap.size ≤ w'.heap.size) (hh : ∀ b, A = some ⟨b, 0, none⟩ → w'.heap[b]? = w.heap[b]?) : Wds w' A n xs :=
  ⟨h.1, fun hn => by
    obtain ⟨b, e, hlt, hc⟩ := h.2 hn
    exact ⟨b, e, by omega, fun i hi => (World.cell?_of_block (hh b e)).trans (hc i hi)⟩⟩
theorem Wds.below {w w' : World} {A : Option Addr} {n : Nat} {xs : List (BitVec 64)} (h : Wds w A n xs) (hb : Below w.heap.size w w') : Wds w' A n xs :=
  ⟨h.1, fun hn => by
    obtain ⟨b, e, hlt, hc⟩ := h.2 hn
    exact ⟨b, e, by have := hb.size; omega, fun i hi => (hb.cell (p := ⟨b, i, none⟩) hlt).trans (hc i hi)⟩⟩
theorem wds_of_own {w : World} {base : Nat} {e : TypeId} {sv : Value} {n : Nat} {xs : List (BitVec 64)} (h : w.ownsRow base e 1 sv n (wordsV xs)) : ∃ A c, sv = .slice A n c ∧ Wds w A n xs ∧ ∀ b o s, A = some ⟨b, o, s⟩ → sv.ownBlock = some b := by
  have hl : xs.length = n := by simpa [wordsV] using h.1
  rcases Nat.eq_zero_or_pos n with h0 | h0
  · rcases h.2 with ⟨rfl, _⟩ | ⟨g, cap, cur, rfl, _⟩
    · subst h0
      exact ⟨none, 0, rfl, ⟨hl, fun h => absurd h (by omega)⟩, fun b o s e => by simp at e⟩
    · exact ⟨_, cap, rfl, ⟨hl, fun h => absurd h (by omega)⟩, fun b o s e => by simp at e; simp [Value.ownBlock, e]⟩
  · obtain ⟨g, cap, rfl, hb, hlt⟩ := h.form h0
    refine ⟨_, cap, rfl, ⟨hl, fun _ => ⟨g, rfl, hlt, fun i hi => ?_⟩⟩, fun b o s e => by simp at e; simp [Value.ownBlock, e]⟩
    rw [h.cellAt i (by omega)]
    simp [wordsV, List.getD, List.getElem?_eq_getElem (show i < xs.length by omega)]
theorem wplain1_any (x : Int) : Qt Try.prog 52 #[.int .u64 x, .int .u64 x] (.bool true) := by
  intro w
  go_enter Try.func52, Try.ntmps52
  go_wp2
  go_ret
  exact ⟨by simp, Quiet.refl _⟩
theorem wsame_true (A B : Option Addr) (n c d : Nat) (xs : List (BitVec 64)) (hn : n ≤ 140737488351232) (w : World) (ha : Wds w A n xs) (hb : Wds w B n xs) :
    Calls Try.prog 51 #[.slice A n c, .slice B n d, .func (.func 52) #[] #[]] w fun e w' => e = .returned (.bool true) ∧ Quiet w w' := by
  have HA := Lib.hid ha
  have HB := Lib.hid hb
  clear ha hb
  go_enter Try.func51, Try.ntmps51
  go_wp2_with fail
  go_loopw [7] (fun i wr => ∃ k : Nat, k ≤ n ∧ i = .int .i64 (k : Int) ∧ Quiet w wr) (fun i _ => n - (intOf i).toNat)
  case atStart => exact ⟨0, Nat.zero_le _, rfl, Quiet.refl _⟩
  case round =>
    obtain ⟨k, hk, rfl, hq⟩ := hrel
    by_cases hlt : k < n
    · obtain ⟨m, rfl⟩ := hq
      obtain ⟨b, rfl, _, hc0⟩ := HA.out.2 (by omega)
      have hc := hc0 k hlt
      clear hc0
      obtain ⟨b2, rfl, _, hc1⟩ := HB.out.2 (by omega)
      have hd := hc1 k hlt
      clear hc1
      generalize ((xs.getD k 0#64).toNat : Int) = x at hc hd
      have p1 := wplain1_any x
      go_wp2_with fail
      go_quiet ((go_at_call 52; exact p1.quiet2))
      go_wp2
      go_roundw
      case rel => exact ⟨k + 1, by omega, by go_num, ⟨_, rfl⟩⟩
      case measure => simp [intOf]; omega
    · go_wp2
      go_ret
      exact ⟨rfl, hq⟩
theorem wplain_true (A B : Option Addr) (n c d : Nat) (xs : List (BitVec 64)) (hn : n ≤ 140737488351232) (w : World) (ha : Wds w A n xs) (hb : Wds w B n xs) :
    Calls Try.prog 18 #[.slice A n c, .slice B n d] w fun e w' => e = .returned (.bool true) ∧ Quiet w w' := by
  have h := wsame_true A B n c d xs hn w ha hb
  clear ha hb
  go_enter Try.func18, Try.ntmps18
  go_wp2_with fail
  refine h.mono ?_
  rintro e w1 ⟨rfl, hq⟩
  go_wp2
  go_ret
  exact ⟨rfl, hq⟩
end Go.Proofs.Ythjhcdkbajbpdaa
