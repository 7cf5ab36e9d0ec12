/- The law TlbPlays, walked: each call answers true. -/
import Derived.Test.YthjhcdkbajbpdaaTlbStep
import Derived.Deep.Cut
import Derived.Deep.CutRange
import Derived.Deep.CutBlock
namespace Go.Proofs.Ythjhcdkbajbpdaa
open Go.RowKit Wd Pl
set_option linter.unusedVariables false
set_option linter.unusedSimpArgs false
set_option maxRecDepth 100000
theorem rnew_at (n : Nat) (h : n = 2 ∨ n = 4 ∨ n = 8) (w : World) (k : Nat) (hk : w.heap.size = k) : Calls Try.prog 41 #[.int .i64 (n : Int)] w fun e w' =>
    e = .returned (.tuple #[.pointer (some ⟨k + 1, 0, none⟩), .int .i64 0]) ∧ Tb w' 103 111 (k + 1) k (mkW n) 0 ∧ Below w.heap.size w w' := by
  subst hk
  exact rnew_ok n h w
set_option maxHeartbeats 4000000 in
theorem tlbPlays_no (ways : Int) (A : Option Addr) (n c : Nat) (w : World) (hno : ¬ (ways = 2 ∨ ways = 4 ∨ ways = 8)) :
    Calls Try.prog 13 #[.int .i64 ways, .slice A n c] w fun e w' => e = .returned (.bool true) ∧ Below w.heap.size w w' := by
  have c1 := Lib.hid (new_no ways hno)
  have c2 := Lib.hid (rnew_no ways hno)
  clear hno
  go_enter Try.func13, Try.ntmps13
  go_wp2_with fail
  refine (c1.out _).mono ?_
  rintro e w1 ⟨rfl, hb1⟩
  have HB1 := Lib.hid hb1
  clear hb1 c1
  go_wp2_with fail
  refine (c2.out _).mono ?_
  rintro e w2 ⟨rfl, hb2⟩
  have HB2 := Lib.hid (HB1.out.trans (hb2.mono HB1.out.size))
  clear hb2 c2 HB1
  go_wp2_with fail
  refine (tawake_any _).mono ?_
  rintro e w3 ⟨rfl, hb3⟩
  have HB3 := Lib.hid (HB2.out.trans (hb3.mono HB2.out.size))
  clear hb3 HB2
  go_wp2_with fail
  go_ret
  exact ⟨rfl, HB3.out⟩
theorem Pair.fork {w0 w w1 w2 : World} {p q p2 q2 p3 q3 : Nat} {ws ws2 ws3 : List Wy} {st st2 st3 : Int} (h : Pair w0 w p q ws st p2 q2 ws2 st2) (hb : Below w.heap.size w w1) (ht : Tb w1 94 99 p3 q3 ws3 st3)
    (h1 : w.heap.size ≤ p3) (h2 : w.heap.size ≤ q3) (ho : Only [p] w1 w2) : Pair w0 w2 p3 q3 ws3 st3 p2 q2 ws2 st2 := by
  obtain ⟨n1, n2, n3, n4⟩ := h.ne
  obtain ⟨l1, l2, l3, l4⟩ := h.lo
  have e1 := h.r.pl
  have e2 := h.r.ql
  have e3 := h.b.size
  have e4 := h.t.pl
  have e5 := hb.size
  exact ⟨ht.only ho (by simp; omega) (by simp; omega), (h.r.below hb).only ho (by simp; omega) (by simp; omega), (h.b.trans (hb.mono e3)).trans (ho.below (fun x hx => by simp at hx; omega) (by omega)), by omega, by omega⟩
set_option maxHeartbeats 4000000 in
theorem tlbPlays_ok (m : Nat) (hm : m = 2 ∨ m = 4 ∨ m = 8) (A : Option Addr) (c : Nat) (l : List Sop) (w : World) (hmax : l.length ≤ 9223372036854775807) (hc : OpsIn w w.heap.size A l) :
    Calls Try.prog 13 #[.int .i64 (m : Int), .slice A l.length c] w fun e w' => e = .returned (.bool true) ∧ Below w.heap.size w w' := by
  have HC := Lib.hid hc
  have c1 := Lib.hid (new_at m hm)
  have c2 := Lib.hid (rnew_at m hm)
  clear hc hm
  go_enter Try.func13, Try.ntmps13
  go_wp2_with fail
  refine (c1.out _ w.heap.size rfl).mono ?_
  rintro e w1 ⟨rfl, hT1, hb1⟩
  have HT1 := Lib.hid hT1
  have HB1 := Lib.hid hb1
  clear hb1 hT1 c1
  go_wp2_with fail
  refine (c2.out _ w1.heap.size rfl).mono ?_
  rintro e w2 ⟨rfl, hT2, hb2⟩
  have h2 : Pair w w2 (w.heap.size + 1) w.heap.size (mkW m) 0 (w1.heap.size + 1) w1.heap.size (mkW m) 0 := by
    have a := HT1.out.pl
    have b := HT1.out.ql
    have c := HB1.out.size
    exact ⟨HT1.out.below hb2, hT2, HB1.out.trans (hb2.mono c), by omega, by omega⟩
  have H2 := Lib.hid h2
  clear hT2 hb2 c2 HB1 HT1 h2
  go_wp2_with fail
  refine (tawake_any _).mono ?_
  rintro e w3 ⟨rfl, hb3⟩
  have h3 := H2.out.make hb3
  generalize w.heap.size + 1 = p at h3 ⊢
  generalize w1.heap.size + 1 = p2 at h3 ⊢
  have H3 := Lib.hid h3
  clear hb3 H2 h3
  go_wp2_with fail
  go_loopw [5, 9] (fun s5 k wr => ∃ (i p q q2 : Nat) (ws : List Wy) (st : Int), i ≤ l.length ∧ i ≤ 200 ∧ s5 = .pointer (some ⟨p, 0, none⟩) ∧ k = .int .i64 (i : Int) ∧ Pair w wr p q ws st p2 q2 ws st) (fun _ k _ => 200 - (intOf k).toNat)
  case atStart => exact ⟨0, _, _, _, _, _, Nat.zero_le _, by omega, rfl, rfl, H3.out⟩
  case round =>
    clear H3
    obtain ⟨i, p, q, q2, ws, st, hi, hi4, rfl, rfl, hl⟩ := hrel
    have HL := Lib.hid hl
    have hci := Lib.hid (HC.out.below hl.b)
    clear hl
    by_cases hgo : i < l.length ∧ i < 200
    · obtain ⟨g1, g2⟩ := hgo
      obtain ⟨b, off, rfl, hb, hcc⟩ := hci.out (by omega)
      obtain ⟨d0, d1, d2, d3, d4, d5, d6⟩ := hcc i g1
      have gt : (i : Int) < 200 := by omega
      clear hcc hci
      by_cases hk : (sopAt l i).kind = 4
      · rw [hk] at d0
        have cF := Lib.hid (fun W hW => fork_any p q ws st W hW)
        have cL := Lib.hid (fun W hW => flush_any p q ws st W hW)
        clear hk
        go_wp2_with fail
        refine (cF.out _ HL.out.t).mono ?_
        rintro e w4 ⟨p3, q3, rfl, hT4, hp3, hq3, hb4⟩
        have HT4 := Lib.hid hT4
        have HB4 := Lib.hid hb4
        clear hT4 hb4
        go_wp2_with fail
        refine (cL.out _ (HL.out.t.below HB4.out)).mono ?_
        rintro e w5 ⟨rfl, hT5, ho5⟩
        have H5 := Lib.hid (HL.out.fork HB4.out HT4.out hp3 hq3 ho5)
        clear hT5 ho5 HT4 HB4
        go_wp2_with fail
        go_roundw
        case rel => exact ⟨i + 1, _, _, _, _, _, by omega, by omega, rfl, by go_num, H5.out⟩
        case measure => simp [intOf]; omega
      · have hk1 : ((sopAt l i).kind == 4) = false := beq_eq_false_iff_ne.2 hk
        have cS := step_any w p q p2 q2 ws st (sopAt l i).kind (sopAt l i).va (sopAt l i).f
        generalize (sopAt l i).kind = kd at d0 hk1 cS
        replace cS := Lib.hid cS
        clear hk
        go_wp2_with fail
        refine (cS.out _ HL.out).mono ?_
        rintro e w4 ⟨rfl, q3, q4, ws3, st3, h4⟩
        have H4 := Lib.hid h4
        clear h4 cS
        go_wp2_with fail
        go_roundw
        case rel => exact ⟨i + 1, _, _, _, _, _, by omega, by omega, rfl, by go_num, H4.out⟩
        case measure => simp [intOf]; omega
    · by_cases h1 : i < l.length
      · have h2 : ¬ (i : Int) < 200 := by omega
        go_wp2_with fail
        go_ret
        exact ⟨rfl, HL.out.b⟩
      · go_wp2_with fail
        go_ret
        exact ⟨rfl, HL.out.b⟩
theorem tlbPlays_walk (ways : Int) (A : Option Addr) (c : Nat) (l : List Sop) (w : World) (hmax : l.length ≤ 9223372036854775807) (hc : OpsIn w w.heap.size A l) :
    Calls Try.prog 13 #[.int .i64 ways, .slice A l.length c] w fun e w' => e = .returned (.bool true) ∧ Below w.heap.size w w' := by
  by_cases h : ways = 2 ∨ ways = 4 ∨ ways = 8
  · obtain ⟨m, rfl⟩ : ∃ m : Nat, ways = (m : Int) := ⟨ways.toNat, by omega⟩
    exact tlbPlays_ok m (by omega) A c l w hmax hc
  · exact tlbPlays_no ways A l.length c w h
theorem tlbPlays_cells (ways : Int) (w0 : (Lit.int .i64 ways).wf = true) (A : Option Addr) (n c : Nat) (w : World) (h : RowsIn [.int .i64, .int .u64, .int .i64, .int .u64, .int .u64, .int .u64, .int .u64] w A n) :
    Calls Try.prog 13 #[.int .i64 ways, .slice A n c] w fun e w' => e = .returned (.bool true) ∧ Below w.heap.size w w' := by
  obtain ⟨l, hl, ho, hm⟩ := ops_of h
  rw [← hl]
  exact tlbPlays_walk ways A c l w hm ho
end Go.Proofs.Ythjhcdkbajbpdaa
