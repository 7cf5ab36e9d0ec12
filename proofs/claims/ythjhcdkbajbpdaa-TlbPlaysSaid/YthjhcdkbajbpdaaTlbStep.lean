/- The law TlbPlays: one call of each TLB; both answer alike and hold the same. -/
import Derived.Test.YthjhcdkbajbpdaaTlbPair
import Derived.Test.YthjhcdkbajbpdaaRtlbLook
import Derived.Deep.CutBlock
import Derived.Deep.Cut
import Derived.Deep.CutRange
import Derived.Outline
namespace Go.Proofs.Ythjhcdkbajbpdaa
open Go.RowKit Wd Pl
set_option linter.unusedVariables false
set_option linter.unusedSimpArgs false
set_option maxRecDepth 100000
attribute [local go_sem ↓] eq_pte_same
set_option maxHeartbeats 4000000 in
theorem step_any (w0 : World) (p q p2 q2 : Nat) (ws : List Wy) (st : Int) (kd : Int) (va : BitVec 64) (f : Lf) (w : World) (h : Pair w0 w p q ws st p2 q2 ws st) :
    Calls Try.prog 43 #[.pointer (some ⟨p, 0, none⟩), .pointer (some ⟨p2, 0, none⟩), .agg #[.int .i64 kd, .int .u64 (va.toNat : Int), .int .i64 f.lv, .int .u64 f.p0, .int .u64 f.p1, .int .u64 f.p2, .int .u64 f.en]] w fun e w' => e = .returned (.bool true) ∧ Even w0 w' p p2 := by
  obtain ⟨lv, p0, p1, pp2, en⟩ := f
  have HP := Lib.hid (h.make ((Below.refl w.heap.size w).alloc (Nat.le_refl _) (.cells #[.int .i64 kd, .int .u64 (va.toNat : Int), .int .i64 lv, .int .u64 p0, .int .u64 p1, .int .u64 pp2, .int .u64 en] 62)))
  have HB := Lib.hid (Bk.new w #[.int .i64 kd, .int .u64 (va.toNat : Int), .int .i64 lv, .int .u64 p0, .int .u64 p1, .int .u64 pp2, .int .u64 en] 62)
  have HF := Lib.hid h.fresh
  clear h
  go_enter Try.func43, Try.ntmps43
  go_upto_block 0 with fail
  generalize w.alloc (.cells #[.int .i64 kd, .int .u64 (va.toNat : Int), .int .i64 lv, .int .u64 p0, .int .u64 p1, .int .u64 pp2, .int .u64 en] 62) = w1 at HP HB ⊢
  generalize w.heap.size = b at HB HF ⊢
  go_cut [7] from 8 (fun s7 wx => s7 = .bool true ∧ Even w0 wx p p2)
  case first =>
    have b0 := HB.out.get (o := 0) rfl
    have b1 := HB.out.get (o := 1) rfl
    have b2 := HB.out.get (o := 2) rfl
    have b3 := HB.out.get (o := 3) rfl
    have b4 := HB.out.get (o := 4) rfl
    have b5 := HB.out.get (o := 5) rfl
    have b6 := HB.out.get (o := 6) rfl
    by_cases k1 : kd = 1
    · subst k1
      have cP := fun W hW => put_any p q ws st va ⟨lv, p0, p1, pp2, en⟩ W hW
      have cR := fun W hW => rput_any p2 q2 ws st va ⟨lv, p0, p1, pp2, en⟩ W hW
      unfold lfC at cP cR
      generalize (if mayP va ⟨lv, p0, p1, pp2, en⟩ = true then (0 : Int) else 1) = r at cP cR
      generalize putWs ws st va ⟨lv, p0, p1, pp2, en⟩ = ws3 at cP cR
      generalize putSt ws st va ⟨lv, p0, p1, pp2, en⟩ = st3 at cP cR
      replace cP := Lib.hid cP
      replace cR := Lib.hid cR
      go_wp2_with fail
      go_region_with (first
        | (go_at_call 36; refine (cP.out _ ?_).mono ?_; exact HP.out.t.quiet ⟨_, rfl⟩; rintro e w3 ⟨rfl, hT3, ho3⟩; have H3 := Lib.hid ((HP.out.quiet ⟨_, rfl⟩).prog hT3 ho3 (.inl rfl)); have B3 := (HB.out.quiet ⟨_, rfl⟩).only ho3 HF.out.1; have d1 := B3.get (o := 1) rfl; have d2 := B3.get (o := 2) rfl; have d3 := B3.get (o := 3) rfl; have d4 := B3.get (o := 4) rfl; have d5 := B3.get (o := 5) rfl; have d6 := B3.get (o := 6) rfl; clear hT3 ho3 B3 b0 b1 b2 b3 b4 b5 b6)
        | (go_at_call 64; refine (cR.out _ ?_).mono ?_; (first | exact H3.out.r | exact H3.out.r.quiet ⟨_, rfl⟩); rintro e w4 ⟨rfl, hT4, ho4⟩; have H4 : Hid (Pair w0 w4 p q ws3 st3 p2 q2 ws3 st3) := Lib.hid (by first | exact H3.out.doc hT4 ho4 (.inl rfl) | exact (H3.out.quiet ⟨_, rfl⟩).doc hT4 ho4 (.inl rfl)); clear hT4 ho4))
      all_goals
        go_wp2_with fail
        go_meet
        case rel => exact ⟨rfl, _, _, _, _, H4.out⟩
    have g1 : (kd == 1) = false := beq_eq_false_iff_ne.2 k1
    clear k1
    by_cases k2 : kd = 2
    · subst k2
      have cP := fun W hW => forget_any p q ws st (va.toNat : Int) W hW
      have cR := fun W hW => rforget_any p2 q2 ws st (va.toNat : Int) W hW
      generalize (forN ws (va.toNat : Int) ws.length : Int) = r at cP cR
      generalize forW ws (va.toNat : Int) ws.length = ws3 at cP cR
      replace cP := Lib.hid cP
      replace cR := Lib.hid cR
      go_wp2_with fail
      go_region_with (first
        | (go_at_call 39; refine (cP.out _ ?_).mono ?_; exact HP.out.t.quiet ⟨_, rfl⟩; rintro e w3 ⟨rfl, hT3, ho3⟩; have H3 := Lib.hid ((HP.out.quiet ⟨_, rfl⟩).prog hT3 (only_q ho3) (.inl rfl)); have B3 := (HB.out.quiet ⟨_, rfl⟩).only (only_q ho3) HF.out.1; have d1 := B3.get (o := 1) rfl; clear hT3 ho3 B3 b0 b1 b2 b3 b4 b5 b6)
        | (go_at_call 65; refine (cR.out _ ?_).mono ?_; (first | exact H3.out.r | exact H3.out.r.quiet ⟨_, rfl⟩); rintro e w4 ⟨rfl, hT4, ho4⟩; have H4 : Hid (Pair w0 w4 p q ws3 st p2 q2 ws3 st) := Lib.hid (by first | exact H3.out.doc hT4 (only_q ho4) (.inl rfl) | exact (H3.out.quiet ⟨_, rfl⟩).doc hT4 (only_q ho4) (.inl rfl)); clear hT4 ho4))
      all_goals
        go_wp2_with fail
        go_meet
        case rel => exact ⟨rfl, _, _, _, _, H4.out⟩
    have g2 : (kd == 2) = false := beq_eq_false_iff_ne.2 k2
    clear k2
    by_cases k3 : kd = 3
    · subst k3
      have cP := Lib.hid (fun W hW => flush_any p q ws st W hW)
      have cR := Lib.hid (fun W hW => rflush_any p2 q2 ws st W hW)
      go_wp2_with fail
      refine (cP.out _ HP.out.t).mono ?_
      rintro e w3 ⟨rfl, hT3, ho3⟩
      have H3 := Lib.hid (HP.out.prog hT3 (only_p ho3) (.inr (Nat.le_refl _)))
      clear hT3 ho3
      go_wp2_with fail
      refine (cR.out _ H3.out.r).mono ?_
      rintro e w4 ⟨rfl, hT4, ho4⟩
      have H4 := Lib.hid (H3.out.doc hT4 (only_p ho4) (.inr (Nat.le_refl _)))
      clear hT4 ho4
      go_wp2_with fail
      go_meet
      case rel => exact ⟨rfl, _, _, _, _, H4.out⟩
    have g3 : (kd == 3) = false := beq_eq_false_iff_ne.2 k3
    clear k3
    have cP := fun W hW => look_any p q ws st va W hW
    have cR := fun W hW => rlook_any p2 q2 ws st va W hW
    unfold pteY at cP cR
    generalize (lookY ws va).lv = y0 at cP cR
    generalize (lookY ws va).p0 = y1 at cP cR
    generalize (lookY ws va).p1 = y2 at cP cR
    generalize (lookY ws va).p2 = y3 at cP cR
    generalize (lookY ws va).en = y4 at cP cR
    generalize fndIs ws va = bo at cP cR
    generalize lookS ws st va = st3 at cP cR
    replace cP := Lib.hid cP
    replace cR := Lib.hid cR
    go_wp2_with fail
    refine (cP.out _ HP.out.t).mono ?_
    rintro e w3 ⟨rfl, hT3, ho3⟩
    have H3 := Lib.hid (HP.out.prog hT3 (only_p ho3) (.inl rfl))
    have B3 := (HB.out).only (only_p ho3) HF.out.1
    clear hT3 ho3 b0 b1 b2 b3 b4 b5 b6 HB cP
    go_upto_region 4 with fail
    have B4 := B3.alloc (.cells #[.int .i64 y0, .int .u64 y1, .int .u64 y2, .int .u64 y3, .int .u64 y4] 29)
    have N4 := Bk.new w3 #[.int .i64 y0, .int .u64 y1, .int .u64 y2, .int .u64 y3, .int .u64 y4] 29
    have H4 := H3.out.make ((Below.refl w3.heap.size w3).alloc (Nat.le_refl _) (.cells #[.int .i64 y0, .int .u64 y1, .int .u64 y2, .int .u64 y3, .int .u64 y4] 29))
    have F4 := H3.out.fresh.2
    generalize w3.alloc (.cells #[.int .i64 y0, .int .u64 y1, .int .u64 y2, .int .u64 y3, .int .u64 y4] 29) = w4 at B4 N4 H4 ⊢
    generalize w3.heap.size = n4 at N4 F4 ⊢
    replace H4 := Lib.hid H4
    replace F4 := Lib.hid F4
    have d1 := B4.get (o := 1) rfl
    replace N4 := Lib.hid N4
    clear B3 H3 B4 HP
    go_wp2_with fail
    refine (cR.out _ H4.out.r).mono ?_
    rintro e w5 ⟨rfl, hT5, ho5⟩
    have H5 := Lib.hid (H4.out.doc hT5 (only_p ho5) (.inl rfl))
    have N5 := N4.out.only (only_p ho5) F4.out
    clear hT5 ho5 d1 cR N4
    go_upto_region 5 with fail
    have B6 := N5.alloc (.cells #[.int .i64 y0, .int .u64 y1, .int .u64 y2, .int .u64 y3, .int .u64 y4] 29)
    have N6 := Bk.new w5 #[.int .i64 y0, .int .u64 y1, .int .u64 y2, .int .u64 y3, .int .u64 y4] 29
    have H6 := H5.out.make ((Below.refl w5.heap.size w5).alloc (Nat.le_refl _) (.cells #[.int .i64 y0, .int .u64 y1, .int .u64 y2, .int .u64 y3, .int .u64 y4] 29))
    generalize w5.alloc (.cells #[.int .i64 y0, .int .u64 y1, .int .u64 y2, .int .u64 y3, .int .u64 y4] 29) = w6 at B6 N6 H6 ⊢
    generalize w5.heap.size = n6 at N6 ⊢
    replace H6 := Lib.hid H6
    have e0 := B6.get (o := 0) rfl
    have e1 := B6.get (o := 1) rfl
    have e2 := B6.get (o := 2) rfl
    have e3 := B6.get (o := 3) rfl
    have e4 := B6.get (o := 4) rfl
    have f0 := N6.get (o := 0) rfl
    have f1 := N6.get (o := 1) rfl
    have f2 := N6.get (o := 2) rfl
    have f3 := N6.get (o := 3) rfl
    have f4 := N6.get (o := 4) rfl
    clear B6 N6 H5 N5
    go_wp2_with fail
    go_meet
    case rel => exact ⟨by simp, _, _, _, _, H6.out⟩
  case rest =>
    obtain ⟨rfl, q3, q4, ws5, st5, h5⟩ := hcut
    have H5 := Lib.hid h5
    clear h5 HP HB HF
    have c1 := Lib.hid (fun W hW => rall_any p2 q4 ws5 st5 W hW)
    have c2 := Lib.hid (fun W hW => all_any p q3 ws5 st5 W hW)
    have c3 := Lib.hid (fun W hW => len_any p q3 ws5 st5 W hW)
    have hL8 : (entL ws5 ws5.length).length ≤ 140737488351232 := by
      have := entL_le ws5 ws5.length
      have := H5.out.t.len
      omega
    go_wp2_with fail
    refine (c1.out _ H5.out.r).mono ?_
    rintro e w6 ⟨v6, rfl, hown6, hb6⟩
    obtain ⟨A6, n6, rfl, hE6⟩ := ents_of_own hown6
    have H6 := Lib.hid (H5.out.make hb6)
    have E6 := Lib.hid hE6
    clear hown6 hb6 hE6 c1
    go_wp2_with fail
    refine (c2.out _ H6.out.t).mono ?_
    rintro e w7 ⟨v7, rfl, hown7, hb7⟩
    obtain ⟨A7, n7, rfl, hE7⟩ := ents_of_own hown7
    have H7 := Lib.hid (H6.out.make hb7)
    have E7 := Lib.hid hE7
    have F7 := Lib.hid (E6.out.below hb7)
    have cE := Lib.hid (eplain_true A7 A6 n7 n6 _ hL8 _ _ w7 E7.out F7.out)
    clear hown7 hb7 hE7 c2 E6
    go_wp2_with fail
    refine cE.out.mono ?_
    rintro e w8 ⟨rfl, hb8⟩
    have H8 := Lib.hid (H7.out.make hb8)
    clear hb8 cE E7 F7
    go_wp2_with fail
    refine (c3.out _ H8.out.t).mono ?_
    rintro e w9 ⟨rfl, hb9⟩
    have H9 := Lib.hid (H8.out.make hb9)
    clear hb9 c3
    go_wp2_with fail
    go_ret
    exact ⟨rfl, _, _, _, _, H9.out⟩
end Go.Proofs.Ythjhcdkbajbpdaa
