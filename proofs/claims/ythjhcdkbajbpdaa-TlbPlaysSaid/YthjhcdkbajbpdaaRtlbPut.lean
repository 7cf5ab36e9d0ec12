/- Contract: a leaf is put into the document's TLB. -/
import Derived.Test.YthjhcdkbajbpdaaTlbPut
import Derived.Test.YthjhcdkbajbpdaaRtlbLook
import Derived.Deep.CutBlock
import Derived.Deep.Cut
import Derived.Outline
namespace Go.Proofs.Ythjhcdkbajbpdaa
open Go.RowKit Wd Pl
set_option linter.unusedVariables false
set_option linter.unusedSimpArgs false
set_option maxRecDepth 100000
set_option maxHeartbeats 4000000 in
theorem rput_ok (p q : Nat) (ws : List Wy) (st : Int) (va : BitVec 64) (f : Lf) (w : World) (h : Tb w 103 111 p q ws st) (hf : mayP va f = true) : Calls Try.prog 64 #[.pointer (some ⟨p, 0, none⟩), .int .u64 (va.toNat : Int), .agg (lfC f)] w fun e w' =>
    e = .returned (.int .i64 0) ∧ Tb w' 103 111 p q (ws.set (roomN ws st va) (newY va f)) (touch st ws.length (roomN ws st va)) ∧ Only [p, q] w w' := by
  obtain ⟨lv, p0, p1, p2, en⟩ := f
  unfold mayP at hf
  simp only [Bool.and_eq_true, decide_eq_true_eq] at hf
  obtain ⟨⟨h0, h2⟩, hpr⟩ := hf
  obtain ⟨l, rfl⟩ : ∃ l : Nat, lv = (l : Int) := ⟨lv.toNat, by omega⟩
  have cP := Lib.hid (tright_any va)
  rw [hpr] at cP
  have HT := Lib.hid (h.below ((Below.refl w.heap.size w).alloc (Nat.le_refl _) (.cells (lfC ⟨(l : Int), p0, p1, p2, en⟩) 29)))
  have hb0 := Lib.hid (Bk.new w (lfC ⟨(l : Int), p0, p1, p2, en⟩) 29)
  have cR := Lib.hid (fun W hW => rat_any p q ws st va W hW)
  have cVp := Lib.hid (tpage_any va l (by omega))
  have hm : (ws.length : Int) ≤ 8 := by have := h.len; omega
  have hn0 : decide ((l : Int) < 0) = false := decide_eq_false (by omega)
  have hn2 : decide (2 < (l : Int)) = false := decide_eq_false (by omega)
  clear h hpr
  unfold lfC
  unfold lfC at HT hb0
  generalize hR : roomN ws st va = r
  have hr : r < ws.length := by rw [← hR]; exact room_lt ws st va HT.out.len
  have HRR := Lib.hid hR
  clear hR
  go_enter Try.func64, Try.ntmps64
  go_wp2_with fail
  refine (cP.out _).mono ?_
  rintro e w1 ⟨rfl, hq1⟩
  have HT1 := Lib.hid (HT.out.quiet hq1)
  have hb1 := Lib.hid (hb0.out.quiet hq1)
  have ho1 := Lib.hid (only_below (((Below.refl w.heap.size w).alloc (Nat.le_refl _) (.cells #[.int .i64 (l : Int), .int .u64 p0, .int .u64 p1, .int .u64 p2, .int .u64 en] 29)).trans (hq1.below _)) [p, q])
  clear hq1 HT hb0
  go_wp2_with fail
  refine (cR.out _ HT1.out).mono ?_
  rintro e w2 ⟨rfl, hq2⟩
  have HT2 := Lib.hid (HT1.out.quiet hq2)
  have hb2 := Lib.hid (hb1.out.quiet hq2)
  have ho2 := Lib.hid (ho1.out.quiet hq2)
  clear hq2 HT1 hb1 ho1
  go_upto_block 0 with fail
  go_cut [7] from 8 (fun s7 wx => s7 = .int .i64 (if fndI ws va < ws.length then (fndI ws va : Int) else if freI ws < ws.length then (freI ws : Int) else -1) ∧ Quiet w2 wx)
  case first =>
    by_cases hi : fndI ws va < ws.length
    · have e1 : ratAt ws va = (fndI ws va : Int) := if_pos hi
      have hge : ¬ (fndI ws va : Int) < 0 := by omega
      rw [e1]
      have HE := Lib.hid (show (if fndI ws va < ws.length then (fndI ws va : Int) else if freI ws < ws.length then (freI ws : Int) else -1) = (fndI ws va : Int) from if_pos hi)
      clear e1 hi
      go_wp2_with fail
      refine wp_loop_rounds 1 ?_
      rw [rounds_succ]
      go_wp2_with fail
      go_meet
      case rel => exact ⟨by rw [HE.out], Quiet.refl _⟩
    · have e1 : ratAt ws va = -1 := if_neg hi
      rw [e1]
      have HE := Lib.hid (show (if fndI ws va < ws.length then (fndI ws va : Int) else if freI ws < ws.length then (freI ws : Int) else -1) = if freI ws < ws.length then (freI ws : Int) else -1 from if_neg hi)
      clear e1 hi
      obtain ⟨c, hb⟩ := HT2.out.box
      have c0 := hb.get (o := 0) rfl
      clear hb
      go_wp2_with fail
      go_loop [7, 8] (fun i k => ∃ m : Nat, k = .int .i64 (m : Int) ∧ m ≤ ws.length ∧ ((i = .int .i64 (-1) ∧ ∀ j, j < m → (wyAt ws j).is = true) ∨ (∃ r : Nat, i = .int .i64 (r : Int) ∧ freI ws = r ∧ r < ws.length))) (fun _ k => ws.length - (intOf k).toNat)
      case atStart => exact ⟨0, rfl, Nat.zero_le _, .inl ⟨rfl, fun j hj => by omega⟩⟩
      case round =>
        obtain ⟨m, rfl, hmn, hcase⟩ := hrel
        rcases hcase with ⟨rfl, hall⟩ | ⟨r, rfl, hfr, hrn⟩
        · have HA := Lib.hid hall
          clear hall
          by_cases hlt : m < ws.length
          · obtain ⟨d0, d1, d2, d3, d4, d5, d6⟩ := HT2.out.way m hlt
            cases his : (wyAt ws m).is with
            | false =>
              have hfr := Lib.hid (fre_hit ws m hlt HA.out his)
              rw [his] at d0
              clear his
              go_wp2_with fail
              go_round
              case rel => exact ⟨m + 1, by go_num, by omega, .inr ⟨m, rfl, hfr.out, hlt⟩⟩
              case measure => simp [intOf]; omega
            | true =>
              have HI := Lib.hid his
              rw [his] at d0
              clear his
              go_wp2_with fail
              go_round
              case rel => exact ⟨m + 1, by go_num, by omega, .inl ⟨rfl, fun j hj => by
                rcases Nat.lt_or_ge j m with h1 | h1
                · exact HA.out j h1
                · obtain rfl : j = m := by omega
                  exact HI.out⟩⟩
              case measure => simp [intOf]; omega
          · have hfr := Lib.hid (fre_miss ws (fun j hj => HA.out j (by omega)))
            go_wp2_with fail
            go_meet
            case rel => exact ⟨by rw [HE.out, if_neg (by rw [hfr.out]; omega)], Quiet.refl _⟩
        · have HFR := Lib.hid hfr
          have hge : ¬ (r : Int) < 0 := by omega
          clear hfr
          go_wp2_with fail
          go_meet
          case rel => exact ⟨by rw [HE.out, HFR.out, if_pos hrn], Quiet.refl _⟩
  case rest =>
    obtain ⟨rfl, hq3⟩ := hcut
    have HT3 := Lib.hid (HT2.out.quiet hq3)
    have hb3 := Lib.hid (hb2.out.quiet hq3)
    have ho3 := Lib.hid (ho2.out.quiet hq3)
    clear hq3 HT2 hb2 ho2
    have cV := Lib.hid (rvictim_any st ws.length)
    have hvr := victim_range st ws.length HT3.out.len
    obtain ⟨v, hv⟩ : ∃ v : Nat, victim st ws.length = (v : Int) := ⟨(victim st ws.length).toNat, by omega⟩
    rw [hv] at cV
    have HV := Lib.hid hv
    clear hvr hv
    generalize hval : (if fndI ws va < ws.length then (fndI ws va : Int) else if freI ws < ws.length then (freI ws : Int) else -1) = x
    have HX : Hid ((¬ x < 0 ∧ x = (r : Int)) ∨ (x = -1 ∧ (v : Int) = (r : Int))) := by
      rw [← HRR.out]
      unfold roomN
      by_cases a : fndI ws va < ws.length
      · rw [if_pos a] at hval ⊢
        exact .inl ⟨by omega, by omega⟩
      · rw [if_neg a] at hval ⊢
        by_cases b : freI ws < ws.length
        · rw [if_pos b] at hval ⊢
          exact .inl ⟨by omega, by omega⟩
        · rw [if_neg b] at hval ⊢
          refine .inr ⟨by omega, ?_⟩
          have := HV.out
          omega
    clear hval
    go_upto_if 49 with fail
    obtain ⟨W3, hW3⟩ : ∃ W : World, W = wc := ⟨_, rfl⟩
    rw [← hW3] at HT3 hb3 ho3
    go_cut [7] from 50 (fun s7 wx => s7 = .int .i64 (r : Int) ∧ Quiet wc wx)
    case first =>
      rcases HX.out with ⟨a, b⟩ | ⟨a, b⟩
      · have HB := Lib.hid b
        clear b
        go_wp2_with fail
        go_meet
        case rel => exact ⟨by rw [HB.out], Quiet.refl _⟩
      · have HB := Lib.hid b
        obtain ⟨c, hb⟩ := HT3.out.box
        rw [hW3] at hb
        have c0 := hb.get (o := 0) rfl
        have c1 := hb.get (o := 1) rfl
        subst a
        clear b hb
        go_wp2_with fail
        go_quiet ((go_at_call 85; exact cV.out.quiet))
        go_wp2_with fail
        go_meet
        case rel => exact ⟨by rw [HB.out], ⟨_, rfl⟩⟩
    case rest =>
      obtain ⟨rfl, hq4⟩ := hcut
      rw [← hW3] at hq4
      have HT2 := Lib.hid (HT3.out.quiet hq4)
      have hb2 := Lib.hid (hb3.out.quiet hq4)
      have ho2 := Lib.hid (ho3.out.quiet hq4)
      obtain ⟨c, hb⟩ := HT2.out.box
      have c0 := hb.get (o := 0) rfl
      obtain ⟨d0, d1, d2, d3, d4, d5, d6⟩ := HT2.out.way r hr
      have b0 := hb2.out.get (o := 0) rfl
      have b1 := hb2.out.get (o := 1) rfl
      have b2 := hb2.out.get (o := 2) rfl
      have b3 := hb2.out.get (o := 3) rfl
      have b4 := hb2.out.get (o := 4) rfl
      have bf : ∀ o, wc.frozen? ⟨q, o, none⟩ = false := HT2.out.free.2
      have i1 : (0 : Int) ≤ (r : Int) := by omega
      have i2 : (r : Int) < (ws.length : Int) := by omega
      clear hb
      go_wp2_with fail
      go_region_with (go_at_call 86; refine (cVp.out _).mono ?_; rintro e w3 ⟨rfl, k3, rfl⟩)
      all_goals
        have ht0 : Tb (((((((((wc.drewN (1 + k3)).setCell ⟨q, r * 7, none⟩ (.bool true)).setCell ⟨q, r * 7 + 1, none⟩ (.int .u64 ((vpnW va l).toNat : Int))).setCell ⟨q, r * 7 + 2, none⟩ (.int .i64 (l : Int))).setCell ⟨q, r * 7 + 3, none⟩ (.int .u64 p0)).setCell ⟨q, r * 7 + 4, none⟩ (.int .u64 p1)).setCell ⟨q, r * 7 + 5, none⟩ (.int .u64 p2)).setCell ⟨q, r * 7 + 6, none⟩ (.int .u64 en))) 103 111 p q (ws.set r (newY va ⟨(l : Int), p0, p1, p2, en⟩)) st := (HT2.out.quiet (w' := wc.drewN (1 + k3)) ⟨_, rfl⟩).put r hr (newY va ⟨(l : Int), p0, p1, p2, en⟩) (fun _ => ⟨by show (0 : Int) ≤ (l : Int); omega, by show (l : Int) ≤ 2; omega⟩)
        have ht := Lib.hid ht0
        clear ht0
        have ho : Only [p, q] wc (((((((((wc.drewN (1 + k3)).setCell ⟨q, r * 7, none⟩ (.bool true)).setCell ⟨q, r * 7 + 1, none⟩ (.int .u64 ((vpnW va l).toNat : Int))).setCell ⟨q, r * 7 + 2, none⟩ (.int .i64 (l : Int))).setCell ⟨q, r * 7 + 3, none⟩ (.int .u64 p0)).setCell ⟨q, r * 7 + 4, none⟩ (.int .u64 p1)).setCell ⟨q, r * 7 + 5, none⟩ (.int .u64 p2)).setCell ⟨q, r * 7 + 6, none⟩ (.int .u64 en))) :=
          ((((((((Only.refl [p, q] wc).drewN _).set (.inl (by simp)) _ _).set (.inl (by simp)) _ _).set (.inl (by simp)) _ _).set (.inl (by simp)) _ _).set (.inl (by simp)) _ _).set (.inl (by simp)) _ _).set (.inl (by simp)) _ _
        have HO := Lib.hid (ho2.out.also ho)
        clear ho c0 d0 d1 d2 d3 d4 d5 d6 b0 b1 b2 b3 b4 bf
        go_wp2_with fail
        refine (rtb_touch p q _ st (r : Int) _ ht.out).mono ?_
        rintro e w4 ⟨rfl, hT4, hj4⟩
        rw [List.length_set] at hT4
        have HT4 := Lib.hid hT4
        have HJ4 := Lib.hid hj4
        clear hT4 hj4
        go_wp2_with fail
        go_ret
        exact ⟨rfl, HT4.out, HO.out.trans HJ4.out.only (fun x hx => .inl (by simp at hx; simp [hx]))⟩
end Go.Proofs.Ythjhcdkbajbpdaa
