/- Contracts: the entries of a TLB, and how many. -/
import Derived.Test.YthjhcdkbajbpdaaTlbPlain
import Derived.Test.YthjhcdkbajbpdaaTlbLook
import Derived.Deep.RegionLaw
import Derived.Deep.AppendLies
import Derived.OwnWalk
import Derived.Outline
namespace Go.Proofs.Ythjhcdkbajbpdaa
open Go.RowKit Wd
set_option linter.unusedVariables false
set_option linter.unusedSimpArgs false
set_option maxRecDepth 8000
theorem info_entry : (Try.prog.info? 67).map (fun i => (i.zero, i.size, i.bytes)) = some (some (.agg #[.int .u64 0, .int .i64 0, .int .u64 0, .int .u64 0, .int .u64 0, .int .u64 0]), 6, 48) := by kernel_rfl
namespace Wd
def entV (y : Wy) : List Value := [.int .u64 (y.vpn.toNat : Int), .int .i64 y.lv, .int .u64 y.p0, .int .u64 y.p1, .int .u64 y.p2, .int .u64 y.en]
/-- The entries of the first k ways. -/
def entL (ws : List Wy) (k : Nat) : List Wy := ((List.range k).map (wyAt ws)).filter (·.is)
def entC (l : List Wy) : List Value := l.flatMap entV
theorem entL_zero (ws : List Wy) : entL ws 0 = [] := rfl
theorem entL_yes (ws : List Wy) (k : Nat) (h : (wyAt ws k).is = true) : entL ws (k + 1) = entL ws k ++ [wyAt ws k] := by
  unfold entL
  rw [List.range_succ, List.map_append, List.filter_append]
  simp [h]
theorem entL_no (ws : List Wy) (k : Nat) (h : (wyAt ws k).is = false) : entL ws (k + 1) = entL ws k := by
  unfold entL
  rw [List.range_succ, List.map_append, List.filter_append]
  simp [h]
theorem entL_le (ws : List Wy) (k : Nat) : (entL ws k).length ≤ k := by
  unfold entL
  have := List.length_filter_le (fun y : Wy => y.is) ((List.range k).map (wyAt ws))
  simpa using this
theorem add_at (b j : Nat) : (⟨b, 0, none⟩ : Addr).add j = ⟨b, 0 + j, none⟩ := by
  unfold Addr.add
  split <;> simp_all
theorem entC_snoc (l : List Wy) (y : Wy) : entC (l ++ [y]) = entC l ++ entV y := by
  unfold entC
  rw [List.flatMap_append]
  simp
theorem entC_len (l : List Wy) : (entC l).length = l.length * 6 := by
  induction l with
  | nil => rfl
  | cons y l ih =>
    unfold entC at *
    rw [List.flatMap_cons, List.length_append, ih]
    simp [entV]
    omega
end Wd
set_option maxHeartbeats 2000000 in
theorem all_any (p q : Nat) (ws : List Wy) (st : Int) (w : World) (h : Tb w 94 99 p q ws st) : Calls Try.prog 38 #[.pointer (some ⟨p, 0, none⟩)] w fun e w' =>
    ∃ v, e = .returned v ∧ w'.ownsRow w.heap.size 67 6 v (entL ws ws.length).length (entC (entL ws ws.length)) ∧ Below w.heap.size w w' := by
  obtain ⟨i0, hi0, hz0, hz1, hz2⟩ := info_parts info_entry
  obtain ⟨c, hb⟩ := h.box
  have hlen := h.len
  have c0 := hb.get (o := 0) rfl
  have H := Lib.hid h
  have hmx : (ws.length : Int) ≤ 8 := by omega
  have hmn : ws.length ≤ 8 := by omega
  clear h hb hlen
  go_enter Try.func38, Try.ntmps38
  go_wp2_with fail
  go_loopw [3, 13] (fun v i wr => ∃ k : Nat, k ≤ ws.length ∧ i = .int .i64 (k : Int) ∧ Below w.heap.size w wr ∧ wr.ownsRow w.heap.size 67 6 v (entL ws k).length (entC (entL ws k))) (fun _ i _ => ws.length - (intOf i).toNat)
  case atStart => exact ⟨0, Nat.zero_le _, rfl, Below.refl _ _, World.ownsRow_nil _ _ _ _⟩
  case round =>
    clear c0
    obtain ⟨k, hk, rfl, hbe, hown⟩ := hrel
    have HB := Lib.hid hbe
    have hT := Lib.hid (H.out.below hbe)
    have hbs := hbe.size
    clear hbe
    by_cases hlt : k < ws.length
    · obtain ⟨d0, d1, d2, d3, d4, d5, d6⟩ := hT.out.way k hlt
      cases hof : (wyAt ws k).is with
      | false =>
        have he := Lib.hid (entL_no ws k hof)
        have HOWN := Lib.hid hown
        rw [hof] at d0
        clear hof hown
        go_wp2_with fail
        go_roundw
        case rel => exact ⟨k + 1, by omega, by go_num, HB.out.alloc hbs _, by rw [he.out]; exact HOWN.out.alloc _⟩
        case measure => simp [intOf]; omega
      | true =>
        have he := Lib.hid (entL_yes ws k hof)
        have hle := entL_le ws k
        rw [hof] at d0
        clear hof
        have HOWN := Lib.hid hown
        clear hown
        go_wp2_with (at_builtin; (refine wpList_append_own _ rfl _ _ 63 rfl w.heap.size 67 i0 _ 6 48 Try.underlying63 hi0 hz0 hz1 hz2 rfl (by omega) _ _ _ rfl ((HOWN.out.alloc _).alloc _) ⟨wr.heap.size + 1, 0, none⟩ 1 1 (entV (wyAt ws k)) rfl rfl ?c1 ?c2 ?c3 ?c4 ?c5 ?_))
        case c1 =>
          intro j u hu
          have hb := Bk.new (wr.alloc (.cells #[.bool true, .int .u64 ((wyAt ws k).vpn.toNat : Int), .int .i64 (wyAt ws k).lv, .int .u64 (wyAt ws k).p0, .int .u64 (wyAt ws k).p1, .int .u64 (wyAt ws k).p2, .int .u64 (wyAt ws k).en] 99)) (entV (wyAt ws k)).toArray 67
          rw [add_at]
          have hc := hb.cell j
          rw [show (wr.alloc (.cells #[.bool true, .int .u64 ((wyAt ws k).vpn.toNat : Int), .int .i64 (wyAt ws k).lv, .int .u64 (wyAt ws k).p0, .int .u64 (wyAt ws k).p1, .int .u64 (wyAt ws k).p2, .int .u64 (wyAt ws k).en] 99)).heap.size = wr.heap.size + 1 from by simp] at hc
          rw [Nat.zero_add]
          refine Eq.trans ?_ hu
          exact hc.trans (by simp)
        case c2 =>
          intro u hu
          unfold entV at hu
          simp only [List.mem_cons, List.not_mem_nil, or_false] at hu
          rcases hu with rfl | rfl | rfl | rfl | rfl | rfl <;> rfl
        case c3 => unfold maxLen; omega
        case c4 => omega
        case c5 => simp; omega
        intro v' w1 hown1 hgrow _
        have hb2 : Below w.heap.size w w1 := ((HB.out.alloc hbs _).alloc (by simp; omega) _).grown hgrow (by simp; omega) (fun b hb => (HOWN.out.lt b hb).1)
        have HB2 := Lib.hid hb2
        have HOWN1 := Lib.hid hown1
        clear hb2 hown1 hgrow d0 d1 d2 d3 d4 d5 d6 HOWN
        go_wp2_with fail
        go_roundw
        case rel => exact ⟨k + 1, by omega, by go_num, HB2.out, by rw [he.out, entC_snoc, List.length_append]; exact HOWN1.out⟩
        case measure => simp [intOf]; omega
    · obtain rfl : k = ws.length := by omega
      have HOWN := Lib.hid hown
      clear hown
      go_wp2_with fail
      go_ret
      exact ⟨_, rfl, HOWN.out, HB.out⟩
end Go.Proofs.Ythjhcdkbajbpdaa
