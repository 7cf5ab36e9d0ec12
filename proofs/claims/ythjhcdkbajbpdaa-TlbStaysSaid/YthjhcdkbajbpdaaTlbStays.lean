/- The law TlbStays, walked: each call answers true. -/
import Derived.Test.YthjhcdkbajbpdaaTlbEnts
import Derived.Test.YthjhcdkbajbpdaaPteEq
import Derived.BigQuiet
import Derived.Deep.QuietTactic
import Derived.Deep.Cut
import Derived.Deep.CutRange
import Derived.Deep.RegionHeld3
import Derived.Deep.CutBlock
namespace Go.Proofs.Ythjhcdkbajbpdaa
open Go.RowKit Wd Pl
set_option linter.unusedVariables false
set_option linter.unusedSimpArgs false
set_option maxRecDepth 100000
attribute [local go_sem ↓] eq_entry_same
set_option maxHeartbeats 4000000 in
theorem tlbStays_walk (ways pa : Int) (A : Option Addr) (c : Nat) (l : List Sop) (w : World) (hmax : l.length ≤ 9223372036854775807) (hc : OpsIn w w.heap.size A l) :
    Calls Try.prog 11 #[.int .i64 ways, .slice A l.length c, .int .u64 pa] w fun e w' => e = .returned (.bool true) ∧ Below w.heap.size w w' := by
  have HC := Lib.hid hc
  have hr := Lib.hid (rem_3 ways)
  clear hc
  go_enter Try.func11, Try.ntmps11
  go_upto_region 1 with fail
  go_cut [7, 8] from 18 (fun s7 s8 wx => ∃ n p q : Nat, s7 = .pointer (some ⟨p, 0, none⟩) ∧ Law w wx p q (mkW n) 0)
  case first =>
    rcases hr.out with h | h | h
    · have c1 := Lib.hid (new_at 2 (.inl rfl))
      go_wp2_with fail
      refine (c1.out _ (w.heap.size + 1) (by simp)).mono ?_
      rintro e w1 ⟨rfl, hT, hb⟩
      have hl : Law w w1 _ _ (mkW 2) 0 := ⟨hT, ((Below.refl _ _).alloc (Nat.le_refl _) _).trans (hb.mono (by simp)), by omega, by omega⟩
      have HL := Lib.hid hl
      clear hT hb hl
      go_wp2_with fail
      go_meet
      case rel => exact ⟨2, _, _, rfl, HL.out⟩
    · have c1 := Lib.hid (new_at 4 (.inr (.inl rfl)))
      go_wp2_with fail
      refine (c1.out _ (w.heap.size + 1) (by simp)).mono ?_
      rintro e w1 ⟨rfl, hT, hb⟩
      have hl : Law w w1 _ _ (mkW 4) 0 := ⟨hT, ((Below.refl _ _).alloc (Nat.le_refl _) _).trans (hb.mono (by simp)), by omega, by omega⟩
      have HL := Lib.hid hl
      clear hT hb hl
      go_wp2_with fail
      go_meet
      case rel => exact ⟨4, _, _, rfl, HL.out⟩
    · have c1 := Lib.hid (new_at 8 (.inr (.inr rfl)))
      go_wp2_with fail
      refine (c1.out _ (w.heap.size + 1) (by simp)).mono ?_
      rintro e w1 ⟨rfl, hT, hb⟩
      have hl : Law w w1 _ _ (mkW 8) 0 := ⟨hT, ((Below.refl _ _).alloc (Nat.le_refl _) _).trans (hb.mono (by simp)), by omega, by omega⟩
      have HL := Lib.hid hl
      clear hT hb hl
      go_wp2_with fail
      go_meet
      case rel => exact ⟨8, _, _, rfl, HL.out⟩
  case rest =>
    obtain ⟨n, p, q, rfl, hl⟩ := hcut
    have HL := Lib.hid hl
    clear hl
    go_wp2_with fail
    refine (tawake_any _).mono ?_
    rintro e w2 ⟨rfl, hb2⟩
    replace HL := Lib.hid (HL.out.make hb2)
    clear hb2
    go_upto_block 0 with fail
    go_cut [] from 9 (fun wx => ∃ (ws : List Wy) (st : Int), Law w wx p q ws st)
    case first =>
      go_wp2_with fail
      go_loopw [9] (fun k wr => ∃ (i : Nat) (ws : List Wy) (st : Int), i ≤ l.length ∧ i ≤ 40 ∧ k = .int .i64 (i : Int) ∧ Law w wr p q ws st) (fun k _ => 40 - (intOf k).toNat)
      case atStart => exact ⟨0, _, _, Nat.zero_le _, by omega, rfl, HL.out⟩
      case round =>
        clear HL
        obtain ⟨i, ws, st, hi, hi4, rfl, hl⟩ := hrel
        have HL := Lib.hid hl
        have hci := Lib.hid (HC.out.below hl.b)
        clear hl
        by_cases hgo : i < l.length ∧ i < 40
        · obtain ⟨g1, g2⟩ := hgo
          obtain ⟨b, off, rfl, hb, hcc⟩ := hci.out (by omega)
          obtain ⟨d0, d1, d2, d3, d4, d5, d6⟩ := hcc i g1
          have cP := Lib.hid (put_some p q ws st (sopAt l i).va (sopAt l i).f)
          have gt : (i : Int) < 40 := by omega
          clear hcc
          by_cases hk : (sopAt l i).kind = 1
          · rw [hk] at d0
            clear hk
            go_wp2_with fail
            go_region_with (go_at_call 36; refine (cP.out _ (HL.out.t.quiet ⟨_, rfl⟩)).mono ?_; rintro e w3 ⟨r, rfl, hT3, ho3⟩)
            all_goals
              have HL3 := Lib.hid (HL.out.put ⟨_, rfl⟩ hT3 ho3)
              clear hT3 ho3
              go_wp2_with fail
              go_roundw
              case rel => exact ⟨i + 1, _, _, by omega, by omega, by go_num, HL3.out⟩
              case measure => simp [intOf]; omega
          · have hk1 : ((sopAt l i).kind == 1) = false := beq_eq_false_iff_ne.2 hk
            generalize (sopAt l i).kind = kd at d0 hk1
            clear hk
            go_wp2_with fail
            go_roundw
            case rel => exact ⟨i + 1, ws, st, by omega, by omega, by go_num, HL.out⟩
            case measure => simp [intOf]; omega
        · by_cases h1 : i < l.length
          · have h2 : ¬ (i : Int) < 40 := by omega
            go_wp2_with fail
            go_meet
            case rel => exact ⟨ws, st, HL.out⟩
          · go_wp2_with fail
            go_meet
            case rel => exact ⟨ws, st, HL.out⟩
    case rest =>
      clear HL
      obtain ⟨ws, st, hl⟩ := hcut
      have HL := Lib.hid hl
      clear hl HC hr
      have c1 := Lib.hid (fun W hW => all_any p q ws st W hW)
      have c2 := Lib.hid (fun W hW => forget_any p q ws st pa W hW)
      have c3 := Lib.hid (fun W hW => all_any p q (forW ws pa ws.length) st W hW)
      go_wp2_with fail
      refine (c1.out _ HL.out.t).mono ?_
      rintro e w3 ⟨v, rfl, hown, hb3⟩
      obtain ⟨A1, c3', rfl, hE⟩ := ents_of_own hown
      have HL3 := Lib.hid (HL.out.make hb3)
      have HE3 := Lib.hid hE
      clear hown hb3 hE c1
      go_wp2_with fail
      refine (c2.out _ HL3.out.t).mono ?_
      rintro e w4 ⟨rfl, hT4, ho4⟩
      have HL4 := Lib.hid (HL3.out.step hT4 (only_q ho4) HL3.out.pn HL3.out.qn)
      have HE4 := Lib.hid (HE3.out.only ho4 (fun x hx => by simp at hx; have := HL.out.t.ql; omega))
      clear hT4 ho4 c2 HE3
      go_wp2_with fail
      refine (c3.out _ HL4.out.t).mono ?_
      rintro e w5 ⟨v5, rfl, hown5, hb5⟩
      rw [forW_len] at hown5
      obtain ⟨A2, c5', rfl, hE5⟩ := ents_of_own hown5
      have HL5 := Lib.hid (HL4.out.make hb5)
      have HF5 := Lib.hid hE5
      have HE5 := Lib.hid (HE4.out.below hb5)
      clear hown5 hb5 hE5 c3 HL4 HE4
      have hM := Lib.hid (entL_for ws pa ws.length (Nat.le_refl _))
      have hN := Lib.hid (forN_count ws pa ws.length)
      have hI := Lib.hid (entL_is ws ws.length)
      have hLle := entL_le ws ws.length
      have hMle := entL_le (forW ws pa ws.length) ws.length
      have hn8 : ws.length ≤ 8 := by have := HL.out.t.len; omega
      have hok := Lib.hid HL.out.t.ok
      have cLen := Lib.hid (fun W hW => len_any p q (forW ws pa ws.length) st W hW)
      rw [forW_len] at cLen
      clear HL HL3
      generalize hL0 : entL ws ws.length = L at *
      generalize hM0 : entL (forW ws pa ws.length) ws.length = M at *
      go_wp2_with fail
      go_loopw [13, 14, 15] (fun a b i wr => ∃ m : Nat, m ≤ L.length ∧ i = .int .i64 (m : Int) ∧ a = .int .i64 ((((L.take m).filter (fun y => !hitB y pa)).length : Nat) : Int) ∧ b = .int .i64 ((((L.take m).filter (fun y => hitB y pa)).length : Nat) : Int) ∧ Quiet w5 wr) (fun _ _ i _ => L.length - (intOf i).toNat)
      case atStart => exact ⟨0, Nat.zero_le _, rfl, rfl, rfl, Quiet.refl _⟩
      case round =>
        obtain ⟨m, hm, rfl, rfl, rfl, hq⟩ := hrel
        obtain ⟨wo, rfl⟩ : ∃ wo : World, wo = wr := ⟨_, rfl⟩
        have HQ := Lib.hid hq
        have EL := Lib.hid (HE5.out.quiet hq)
        have EM := Lib.hid (HF5.out.quiet hq)
        clear hq
        by_cases hlt : m < L.length
        · have hmem : wyAt L m ∈ L := by
            unfold wyAt
            simp [List.getD, hlt]
          obtain ⟨his, i0, hi0, hwi⟩ := hI.out _ hmem
          have hoki := hok.out i0 (by rw [hwi]; exact his)
          rw [hwi] at hoki
          have t1y := Lib.hid (take_yes L (fun y => hitB y pa) m hlt)
          have t1n := Lib.hid (take_no L (fun y => hitB y pa) m hlt)
          have t2y := Lib.hid (take_yes L (fun y => !hitB y pa) m hlt)
          have t2n := Lib.hid (take_no L (fun y => !hitB y pa) m hlt)
          have tg := Lib.hid (take_get L (fun y => !hitB y pa) m hlt)
          have hKle : ((L.take m).filter (fun y => !hitB y pa)).length ≤ m := Nat.le_trans (List.length_filter_le _ _) (List.length_take_le _ _)
          have hGle : ((L.take m).filter (fun y => hitB y pa)).length ≤ m := Nat.le_trans (List.length_filter_le _ _) (List.length_take_le _ _)
          generalize hK : ((L.take m).filter (fun y => !hitB y pa)).length = K at *
          generalize hG : ((L.take m).filter (fun y => hitB y pa)).length = G at *
          obtain ⟨g, rfl, hbg, hgl, hcells⟩ := EL.out (by omega)
          obtain ⟨c0, c1, c2, c3, c4, c5⟩ := hcells m hlt
          obtain ⟨lv, hlv⟩ : ∃ lv : Nat, (wyAt L m).lv = (lv : Int) := ⟨(wyAt L m).lv.toNat, by omega⟩
          have HLV := Lib.hid hlv
          have HIS := Lib.hid his
          have dp : Hid (∀ j, j < 3 → wo.cell? ⟨g, m * 6 + 2 + j, none⟩ = some (.int .u64 (pathY (wyAt L m) j))) := fun j hj => by
            match j, hj with
            | 0, _ => exact c2
            | 1, _ => exact c3
            | 2, _ => exact c4
          rw [hlv] at c1 hoki
          have hl0 := hoki.1
          have hl2 := hoki.2
          clear hK hG hcells hmem his hwi hoki hlv
          go_wp2_with fail
          go_loop [16, 17] (fun b j => ∃ k : Nat, j = .int .i64 (k : Int) ∧ b = .bool (byF (wyAt L m) pa k) ∧ (k : Int) ≤ 3 - (lv : Int)) (fun _ j => 3 - (intOf j).toNat)
          case atStart => exact ⟨0, rfl, rfl, by omega⟩
          case round =>
            obtain ⟨k, rfl, rfl, hk3⟩ := hrel
            by_cases hkl : (k : Int) < 3 - (lv : Int)
            · have k3 : (k : Int) < 3 := by omega
              have dpk := dp.out k (by omega)
              have hby := Lib.hid (show byF (wyAt L m) pa (k + 1) = (byF (wyAt L m) pa k || (pathY (wyAt L m) k == pa)) from rfl)
              cases hb0 : byF (wyAt L m) pa k with
              | true =>
                have HB0 := Lib.hid hb0
                clear hb0
                go_wp2_with fail
                go_round
                case rel => exact ⟨k + 1, by go_num, by rw [hby.out, HB0.out]; rfl, by omega⟩
                case measure => simp [intOf]; omega
              | false =>
                have HB0 := Lib.hid hb0
                clear hb0
                go_wp2_with fail
                go_round
                case rel => exact ⟨k + 1, by go_num, by rw [hby.out, HB0.out]; rfl, by omega⟩
                case measure => simp [intOf]; omega
            · have hke : k = (3 - (wyAt L m).lv).toNat := by rw [HLV.out]; omega
              have hhit : byF (wyAt L m) pa k = hitB (wyAt L m) pa := by unfold hitB; rw [HIS.out, hke, Bool.true_and]
              rw [hhit]
              have HH := Lib.hid hhit
              clear hhit hke
              cases hh : hitB (wyAt L m) pa with
              | true =>
                have a1 := Lib.hid (t1y.out hh)
                have a2 := Lib.hid (t2n.out (by rw [hh]; rfl))
                clear hh
                go_wp2_with fail
                go_roundw
                case rel => exact ⟨m + 1, by omega, by go_num, by rw [a2.out], by rw [a1.out]; go_num, HQ.out⟩
                case measure => simp [intOf]; omega
              | false =>
                have a1 := Lib.hid (t1n.out hh)
                have a2 := Lib.hid (t2y.out (by rw [hh]; rfl))
                obtain ⟨hget, hKM⟩ := tg.out (by rw [hh]; rfl)
                rw [← hM.out] at hget hKM
                obtain ⟨g2, rfl, hbg2, hgl2, hcells2⟩ := EM.out (by omega)
                obtain ⟨e0, e1, e2, e3, e4, e5⟩ := hcells2 K hKM
                rw [hget] at e0 e1 e2 e3 e4 e5
                rw [HLV.out] at e1
                have hKd : decide ((M.length : Int) ≤ (K : Int)) = false := decide_eq_false (by omega)
                have hKM2 : (K : Int) < (M.length : Int) := by omega
                clear hh hget hcells2
                go_wp2_with fail
                go_quiet (fail)
                go_wp2_with fail
                go_roundw
                case rel => exact ⟨m + 1, by omega, by go_num, by rw [a2.out]; go_num, by rw [a1.out], HQ.out.drewN _⟩
                case measure => simp [intOf]; omega
        · obtain rfl : m = L.length := by omega
          have hk1 : ((L.take L.length).filter (fun y => !hitB y pa)).length = M.length := by rw [List.take_length, hM.out]
          have hg1 : ((L.take L.length).filter (fun y => hitB y pa)).length = forN ws pa ws.length := by rw [List.take_length, hN.out]
          rw [hk1, hg1]
          have HB := Lib.hid (HL5.out.make (HQ.out.below _))
          clear hk1 hg1
          go_wp2_with fail
          refine (cLen.out _ HB.out.t).mono ?_
          rintro e w7 ⟨rfl, hb7⟩
          have HB7 := Lib.hid (HB.out.make hb7)
          clear hb7
          go_wp2_with fail
          go_ret
          exact ⟨rfl, HB7.out.b⟩
theorem tlbStays_cells (ways : Int) (w0 : (Lit.int .i64 ways).wf = true) (A : Option Addr) (n c : Nat) (w : World) (h : RowsIn [.int .i64, .int .u64, .int .i64, .int .u64, .int .u64, .int .u64, .int .u64] w A n) (pa : Int) (w2 : (Lit.int .u64 pa).wf = true) :
    Calls Try.prog 11 #[.int .i64 ways, .slice A n c, .int .u64 pa] w fun e w' => e = .returned (.bool true) ∧ Below w.heap.size w w' := by
  obtain ⟨l, hl, ho, hm⟩ := ops_of h
  rw [← hl]
  exact tlbStays_walk ways pa A c l w hm ho
end Go.Proofs.Ythjhcdkbajbpdaa
