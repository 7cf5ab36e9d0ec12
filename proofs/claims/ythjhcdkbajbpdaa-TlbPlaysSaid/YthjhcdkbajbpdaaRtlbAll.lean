/- Contract: the entries of the document's TLB. -/
import Derived.Test.YthjhcdkbajbpdaaTlbAll
import Derived.Outline
namespace Go.Proofs.Ythjhcdkbajbpdaa
open Go.RowKit Wd
set_option linter.unusedVariables false
set_option linter.unusedSimpArgs false
set_option maxRecDepth 8000
set_option maxHeartbeats 2000000 in
theorem rall_any (p q : Nat) (ws : List Wy) (st : Int) (w : World) (h : Tb w 103 111 p q ws st) : Calls Try.prog 68 #[.pointer (some ⟨p, 0, none⟩)] w fun e w' =>
    ∃ v, e = .returned v ∧ w'.ownsRow w.heap.size 67 6 v (entL ws ws.length).length (entC (entL ws ws.length)) ∧ Below w.heap.size w w' := by
  obtain ⟨i0, hi0, hz0, hz1, hz2⟩ := info_parts info_entry
  obtain ⟨c, hb⟩ := h.box
  have hlen := h.len
  have c0 := hb.get (o := 0) rfl
  have H := Lib.hid h
  have hmx : (ws.length : Int) ≤ 8 := by omega
  have hmn : ws.length ≤ 8 := by omega
  clear h hb hlen
  go_enter Try.func68, Try.ntmps68
  go_wp2_with fail
  go_loopw [3, 4] (fun v i wr => ∃ k : Nat, k ≤ ws.length ∧ i = .int .i64 (k : Int) ∧ Below w.heap.size w wr ∧ wr.ownsRow w.heap.size 67 6 v (entL ws k).length (entC (entL ws k))) (fun _ i _ => ws.length - (intOf i).toNat)
  case atStart => exact ⟨0, Nat.zero_le _, rfl, Below.refl _ _, World.ownsRow_nil _ _ _ _⟩
  case round =>
    clear c0
    obtain ⟨k, hk, rfl, hbe, hown⟩ := hrel
    have HB := Lib.hid hbe
    have hT := Lib.hid (H.out.below hbe)
    have hbs := hbe.size
    obtain ⟨c2, hb2⟩ := hT.out.box
    have c0 := hb2.get (o := 0) rfl
    clear hb2
    clear hbe
    by_cases hlt : k < ws.length
    · obtain ⟨d0, d1, d2, d3, d4, d5, d6⟩ := hT.out.way k hlt
      cases hof : (wyAt ws k).is with
      | false =>
        have he := Lib.hid (entL_no ws k hof)
        have HOWN := Lib.hid hown
        rw [hof] at d0
        clear hof hown
        go_wp2_with fail
        go_roundw
        case rel => exact ⟨k + 1, by omega, by go_num, HB.out, by rw [he.out]; exact HOWN.out⟩
        case measure => simp [intOf]; omega
      | true =>
        have he := Lib.hid (entL_yes ws k hof)
        have hle := entL_le ws k
        rw [hof] at d0
        clear hof
        have HOWN := Lib.hid hown
        clear hown
        go_wp2_with (at_builtin; (refine wpList_append_own _ rfl _ _ 63 rfl w.heap.size 67 i0 _ 6 48 Try.underlying63 hi0 hz0 hz1 hz2 rfl (by omega) _ _ _ rfl (HOWN.out.alloc _) ⟨wr.heap.size, 0, none⟩ 1 1 (entV (wyAt ws k)) rfl rfl ?c1 ?c2 ?c3 ?c4 ?c5 ?_))
        case c1 =>
          intro j u hu
          have hb := Bk.new wr (entV (wyAt ws k)).toArray 67
          rw [add_at]
          have hc := hb.cell j
          rw [Nat.zero_add]
          refine Eq.trans ?_ hu
          exact hc.trans (by simp)
        case c2 =>
          intro u hu
          unfold entV at hu
          simp only [List.mem_cons, List.not_mem_nil, or_false] at hu
          rcases hu with rfl | rfl | rfl | rfl | rfl | rfl <;> rfl
        case c3 => unfold maxLen; omega
        case c4 => omega
        case c5 => simp; omega
        intro v' w1 hown1 hgrow _
        have hb2 : Below w.heap.size w w1 := (HB.out.alloc hbs _).grown hgrow (by simp; omega) (fun b hb => (HOWN.out.lt b hb).1)
        have HB2 := Lib.hid hb2
        have HOWN1 := Lib.hid hown1
        clear hb2 hown1 hgrow d0 d1 d2 d3 d4 d5 d6 HOWN
        go_wp2_with fail
        go_roundw
        case rel => exact ⟨k + 1, by omega, by go_num, HB2.out, by rw [he.out, entC_snoc, List.length_append]; exact HOWN1.out⟩
        case measure => simp [intOf]; omega
    · obtain rfl : k = ws.length := by omega
      have HOWN := Lib.hid hown
      clear hown
      go_wp2_with fail
      go_ret
      exact ⟨_, rfl, HOWN.out, HB.out⟩
end Go.Proofs.Ythjhcdkbajbpdaa
