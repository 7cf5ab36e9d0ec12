/- Contract: Plain of package tappethelp over the entries of a TLB: two lists that read alike are alike. -/
import Derived.Test.YthjhcdkbajbpdaaTlbEnts
import Derived.Test.YthjhcdkbajbpdaaPteEq
import Derived.BigQuiet
import Derived.Deep.RegionWith
namespace Go.Proofs.Ythjhcdkbajbpdaa
open Go.RowKit Wd
set_option linter.unusedVariables false
set_option linter.unusedSimpArgs false
set_option maxRecDepth 100000
attribute [local go_sem ↓] eq_entry_same
theorem eplain1_any (v a0 a1 a2 a3 a4 : Int) : Mk Try.prog 89 #[.agg #[.int .u64 v, .int .i64 a0, .int .u64 a1, .int .u64 a2, .int .u64 a3, .int .u64 a4], .agg #[.int .u64 v, .int .i64 a0, .int .u64 a1, .int .u64 a2, .int .u64 a3, .int .u64 a4]] (.bool true) := by
  intro w
  go_enter Try.func89, Try.ntmps89
  go_wp2
  go_ret
  exact ⟨rfl, ((Below.refl _ _).alloc (Nat.le_refl _) _).alloc (by simp) _⟩
set_option maxHeartbeats 4000000 in
theorem esame_true (A B : Option Addr) (c d : Nat) (L : List Wy) (hn : L.length ≤ 140737488351232) (b1 b2 : Nat) (w : World) (ha : Ents w b1 A L) (hb : Ents w b2 B L) :
    Calls Try.prog 88 #[.slice A L.length c, .slice B L.length d, .func (.func 89) #[] #[]] w fun e w' => e = .returned (.bool true) ∧ Below w.heap.size w w' := by
  have HA := Lib.hid ha
  have HB := Lib.hid hb
  clear ha hb
  go_enter Try.func88, Try.ntmps88
  go_wp2_with fail
  go_loopw [7] (fun i wr => ∃ k : Nat, k ≤ L.length ∧ i = .int .i64 (k : Int) ∧ Below w.heap.size w wr) (fun i _ => L.length - (intOf i).toNat)
  case atStart => exact ⟨0, Nat.zero_le _, rfl, Below.refl _ _⟩
  case round =>
    obtain ⟨k, hk, rfl, hq⟩ := hrel
    by_cases hlt : k < L.length
    · have HQ := Lib.hid hq
      obtain ⟨b, rfl, _, _, hc0⟩ := (HA.out.below hq) (by omega)
      obtain ⟨c0, c1, c2, c3, c4, c5⟩ := hc0 k hlt
      clear hc0
      obtain ⟨b2, rfl, _, _, hc1⟩ := (HB.out.below hq) (by omega)
      obtain ⟨d0, d1, d2, d3, d4, d5⟩ := hc1 k hlt
      clear hc1 hq
      have p1 := Lib.hid (eplain1_any ((wyAt L k).vpn.toNat : Int) (wyAt L k).lv (wyAt L k).p0 (wyAt L k).p1 (wyAt L k).p2 (wyAt L k).en)
      generalize ((wyAt L k).vpn.toNat : Int) = x0 at c0 d0 p1
      generalize (wyAt L k).lv = x1 at c1 d1 p1
      generalize (wyAt L k).p0 = x2 at c2 d2 p1
      generalize (wyAt L k).p1 = x3 at c3 d3 p1
      generalize (wyAt L k).p2 = x4 at c4 d4 p1
      generalize (wyAt L k).en = x5 at c5 d5 p1
      go_wp2_with fail
      go_region_with (go_at_call 89; refine (p1.out _).mono ?_; rintro e w3 ⟨rfl, hb3⟩)
      all_goals
        go_wp2_with fail
        go_roundw
        case rel => exact ⟨k + 1, by omega, by go_num, HQ.out.trans (((Quiet.below ⟨_, rfl⟩ _).trans hb3).mono HQ.out.size)⟩
        case measure => simp [intOf]; omega
    · go_wp2
      go_ret
      exact ⟨rfl, hq⟩
theorem eplain_true (A B : Option Addr) (c d : Nat) (L : List Wy) (hn : L.length ≤ 140737488351232) (b1 b2 : Nat) (w : World) (ha : Ents w b1 A L) (hb : Ents w b2 B L) :
    Calls Try.prog 69 #[.slice A L.length c, .slice B L.length d] w fun e w' => e = .returned (.bool true) ∧ Below w.heap.size w w' := by
  have h := esame_true A B c d L hn b1 b2 w ha hb
  clear ha hb
  go_enter Try.func69, Try.ntmps69
  go_wp2_with fail
  refine h.mono ?_
  rintro e w1 ⟨rfl, hq⟩
  go_wp2
  go_ret
  exact ⟨rfl, hq⟩
end Go.Proofs.Ythjhcdkbajbpdaa
