/- The law TlbFinds, walked: each call answers true. -/
import Derived.Test.YthjhcdkbajbpdaaTlbFndPlain
import Derived.Test.YthjhcdkbajbpdaaPteEq
import Derived.Test.YthjhcdkbajbpdaaTlbForget
import Derived.Deep.Cut
import Derived.Deep.CutRange
import Derived.Deep.CutBlock
import Derived.BigQuiet
import Derived.Deep.QuietTactic
namespace Go.Proofs.Ythjhcdkbajbpdaa
open Go.RowKit Wd Pl
set_option linter.unusedVariables false
set_option linter.unusedSimpArgs false
set_option maxRecDepth 100000
attribute [local go_sem ↓] eq_pte
namespace Wd
theorem fpr_0 : IntKind.i64.wrap (9 * 0) = 0 := by decide
theorem fps_0 : IntKind.i64.wrap (3 - 0) = 3 := by decide
theorem fps_1 : IntKind.i64.wrap (3 - 1) = 2 := by decide
theorem fps_2 : IntKind.i64.wrap (3 - 2) = 1 := by decide
theorem fpt_3 : IntKind.i64.wrap 3 = 3 := by decide
theorem fpt_2 : IntKind.i64.wrap 2 = 2 := by decide
theorem fpt_1 : IntKind.i64.wrap 1 = 1 := by decide
theorem fpr_9 : IntKind.i64.wrap 9 = 9 := by decide
theorem fpr_18 : IntKind.i64.wrap 18 = 18 := by decide
theorem fpr_12 : IntKind.i64.wrap 12 = 12 := by decide
theorem fpr_a12 : IntKind.i64.wrap (12 + 0) = 12 := by decide
theorem fpr_a21 : IntKind.i64.wrap (12 + 9) = 21 := by decide
theorem fpr_a30 : IntKind.i64.wrap (12 + 18) = 30 := by decide
theorem fpr_21 : IntKind.i64.wrap 21 = 21 := by decide
theorem fpr_30 : IntKind.i64.wrap 30 = 30 := by decide
theorem fpu_12 : IntKind.u64.wrap 12 = 12 := by decide
theorem fpu_21 : IntKind.u64.wrap 21 = 21 := by decide
theorem fpu_30 : IntKind.u64.wrap 30 = 30 := by decide
theorem fpp_12 : IntKind.u64.wrap (2 ^ min (12 : Int).toNat 64) = 4096 := by decide
theorem fpp_21 : IntKind.u64.wrap (2 ^ min (21 : Int).toNat 64) = 2097152 := by decide
theorem fpp_30 : IntKind.u64.wrap (2 ^ min (30 : Int).toNat 64) = 1073741824 := by decide
theorem fpq_12 : IntKind.u64.wrap (4096 - 1) = 4095 := by decide
theorem fpq_21 : IntKind.u64.wrap (2097152 - 1) = 2097151 := by decide
theorem fpq_30 : IntKind.u64.wrap (1073741824 - 1) = 1073741823 := by decide
theorem fpx_12 : IntKind.u64.wrap 4095 = 4095 := by decide
theorem fpx_21 : IntKind.u64.wrap 2097151 = 2097151 := by decide
theorem fpx_30 : IntKind.u64.wrap 1073741823 = 1073741823 := by decide
theorem fpy_12 : IntKind.u64.wrap 4096 = 4096 := by decide
theorem fpy_21 : IntKind.u64.wrap 2097152 = 2097152 := by decide
theorem fpy_30 : IntKind.u64.wrap 1073741824 = 1073741824 := by decide
end Wd
attribute [local go_sem] fps_0 fps_1 fps_2 fpt_3 fpt_2 fpt_1 fpr_0 fpr_9 fpr_18 fpr_12 fpr_a12 fpr_a21 fpr_a30 fpr_21 fpr_30 fpu_12 fpu_21 fpu_30 fpp_12 fpp_21 fpp_30 fpq_12 fpq_21 fpq_30 fpx_12 fpx_21 fpx_30 fpy_12 fpy_21 fpy_30
theorem rem_k (n : Int) (m : Nat) (h : m = 1 ∨ m = 2 ∨ m = 3) : ∃ j : Nat, j < m ∧ (IntKind.u64.wrap n).tmod (m : Int) = (j : Int) := by
  refine ⟨((IntKind.u64.wrap n).tmod (m : Int)).toNat, ?_⟩
  rw [w64, Int.tmod_eq_emod_of_nonneg (by omega)]
  have h1 := Int.emod_nonneg ((BitVec.ofInt 64 n).toNat : Int) (show (m : Int) ≠ 0 by omega)
  have h2 := Int.emod_lt_of_pos ((BitVec.ofInt 64 n).toNat : Int) (show (0 : Int) < m by omega)
  omega
theorem fru_3 : IntKind.u64.wrap 3 = 3 := by decide
theorem fru_2 : IntKind.u64.wrap 2 = 2 := by decide
theorem fru_1 : IntKind.u64.wrap 1 = 1 := by decide
attribute [local go_sem] fru_3 fru_2 fru_1
theorem forget_one (p q : Nat) (ws : List Wy) (st : Int) (r : Nat) (hr : r < ws.length) (pa : Int) (hh : hitB (wyAt ws r) pa = true) (w : World) (h : Tb w 94 99 p q ws st) : Calls Try.prog 39 #[.pointer (some ⟨p, 0, none⟩), .int .u64 pa] w fun e w' =>
    ∃ m : Int, 1 ≤ m ∧ e = .returned (.int .i64 m) ∧ Tb w' 94 99 p q (forW ws pa ws.length) st ∧ Only [q] w w' :=
  (forget_any p q ws st pa w h).mono fun e w' k => ⟨_, by have := forN_one ws pa r hh ws.length hr; omega, k.1, k.2⟩
theorem lookY_at (ws : List Wy) (va : BitVec 64) (h : fndI ws va < ws.length) : lookY ws va = wyAt ws (fndI ws va) := if_pos h
theorem Bk.below' {w w' : World} {b : Nat} {cs : Array Value} {t : TypeId} (h : Bk w b cs t) (k : Below w.heap.size w w') : Bk w' b cs t := h.below k
set_option maxHeartbeats 16000000 in
theorem tlbFinds_walk (ways : Int) (A : Option Addr) (c : Nat) (sc : List Sop) (va : BitVec 64) (f : Lf) (other : BitVec 64) (kk : Int) (w : World) (hmax : sc.length ≤ 9223372036854775807) (hc : OpsIn w w.heap.size A sc) :
    Calls Try.prog 12 #[.int .i64 ways, .slice A sc.length c, .int .u64 (va.toNat : Int), .agg #[.int .i64 f.lv, .int .u64 f.p0, .int .u64 f.p1, .int .u64 f.p2, .int .u64 f.en], .int .u64 (other.toNat : Int), .int .i64 kk] w fun e w' => e = .returned (.bool true) ∧ Below w.heap.size w w' := by
  have hr := Lib.hid (rem_3 ways)
  have HC := Lib.hid (hc.below ((Below.refl w.heap.size w).alloc (Nat.le_refl _) (.cells #[.int .i64 f.lv, .int .u64 f.p0, .int .u64 f.p1, .int .u64 f.p2, .int .u64 f.en] 29)))
  have HBX := Lib.hid (Bk.new w #[.int .i64 f.lv, .int .u64 f.p0, .int .u64 f.p1, .int .u64 f.p2, .int .u64 f.en] 29)
  have HW := Lib.hid ((Below.refl w.heap.size w).alloc (Nat.le_refl _) (.cells #[.int .i64 f.lv, .int .u64 f.p0, .int .u64 f.p1, .int .u64 f.p2, .int .u64 f.en] 29))
  clear hc
  go_enter Try.func12, Try.ntmps12
  go_upto_region 1 with fail
  generalize w.alloc (.cells #[.int .i64 f.lv, .int .u64 f.p0, .int .u64 f.p1, .int .u64 f.p2, .int .u64 f.en] 29) = W0 at HC HBX HW ⊢
  go_cut [13, 14] from 25 (fun s7 s8 wx => ∃ n p q : Nat, s7 = .pointer (some ⟨p, 0, none⟩) ∧ Law W0 wx p q (mkW n) 0)
  case first =>
    rcases hr.out with h | h | h
    · have c1 := Lib.hid (new_at 2 (.inl rfl))
      go_wp2_with fail
      refine (c1.out _ (W0.heap.size + 1) (by simp)).mono ?_
      rintro e w1 ⟨rfl, hT, hb⟩
      have hl : Law W0 w1 _ _ (mkW 2) 0 := ⟨hT, ((Below.refl _ _).alloc (Nat.le_refl _) _).trans (hb.mono (by simp)), by omega, by omega⟩
      have HL := Lib.hid hl
      clear hT hb hl
      go_wp2_with fail
      go_meet
      case rel => exact ⟨2, _, _, rfl, HL.out⟩
    · have c1 := Lib.hid (new_at 4 (.inr (.inl rfl)))
      go_wp2_with fail
      refine (c1.out _ (W0.heap.size + 1) (by simp)).mono ?_
      rintro e w1 ⟨rfl, hT, hb⟩
      have hl : Law W0 w1 _ _ (mkW 4) 0 := ⟨hT, ((Below.refl _ _).alloc (Nat.le_refl _) _).trans (hb.mono (by simp)), by omega, by omega⟩
      have HL := Lib.hid hl
      clear hT hb hl
      go_wp2_with fail
      go_meet
      case rel => exact ⟨4, _, _, rfl, HL.out⟩
    · have c1 := Lib.hid (new_at 8 (.inr (.inr rfl)))
      go_wp2_with fail
      refine (c1.out _ (W0.heap.size + 1) (by simp)).mono ?_
      rintro e w1 ⟨rfl, hT, hb⟩
      have hl : Law W0 w1 _ _ (mkW 8) 0 := ⟨hT, ((Below.refl _ _).alloc (Nat.le_refl _) _).trans (hb.mono (by simp)), by omega, by omega⟩
      have HL := Lib.hid hl
      clear hT hb hl
      go_wp2_with fail
      go_meet
      case rel => exact ⟨8, _, _, rfl, HL.out⟩
  case rest =>
    obtain ⟨n, p, q, rfl, hl⟩ := hcut
    have HL := Lib.hid hl
    clear hl
    go_wp2_with fail
    refine (tawake_any _).mono ?_
    rintro e w2 ⟨rfl, hb2⟩
    replace HL := Lib.hid (HL.out.make hb2)
    clear hb2
    go_upto_block 0 with fail
    go_cut [] from 15 (fun wx => ∃ (ws : List Wy) (st : Int), Law W0 wx p q ws st)
    case first =>
      go_wp2_with fail
      go_loopw [15] (fun k wr => ∃ (i : Nat) (ws : List Wy) (st : Int), i ≤ sc.length ∧ i ≤ 30 ∧ k = .int .i64 (i : Int) ∧ Law W0 wr p q ws st) (fun k _ => 30 - (intOf k).toNat)
      case atStart => exact ⟨0, _, _, Nat.zero_le _, by omega, rfl, HL.out⟩
      case round =>
        clear HL
        obtain ⟨i, ws, st, hi, hi4, rfl, hl⟩ := hrel
        have HL := Lib.hid hl
        have hci := Lib.hid (HC.out.below (hl.b.mono (by have := HW.out.size; omega)))
        clear hl
        by_cases hgo : i < sc.length ∧ i < 30
        · obtain ⟨g1, g2⟩ := hgo
          obtain ⟨b, off, rfl, hb, hcc⟩ := hci.out (by omega)
          obtain ⟨d0, d1, d2, d3, d4, d5, d6⟩ := hcc i g1
          have cP := Lib.hid (put_some p q ws st (sopAt sc i).va (sopAt sc i).f)
          have gt : (i : Int) < 30 := by omega
          clear hcc
          by_cases hk : (sopAt sc i).kind = 1
          · rw [hk] at d0
            clear hk
            go_wp2_with fail
            go_region_with (go_at_call 36; refine (cP.out _ (HL.out.t.quiet ⟨_, rfl⟩)).mono ?_; rintro e w3 ⟨r, rfl, hT3, ho3⟩)
            all_goals
              have HL3 := Lib.hid (HL.out.put ⟨_, rfl⟩ hT3 ho3)
              clear hT3 ho3
              go_wp2_with fail
              go_roundw
              case rel => exact ⟨i + 1, _, _, by omega, by omega, by go_num, HL3.out⟩
              case measure => simp [intOf]; omega
          · have hk1 : ((sopAt sc i).kind == 1) = false := beq_eq_false_iff_ne.2 hk
            generalize (sopAt sc i).kind = kd at d0 hk1
            clear hk
            go_wp2_with fail
            go_roundw
            case rel => exact ⟨i + 1, ws, st, by omega, by omega, by go_num, HL.out⟩
            case measure => simp [intOf]; omega
        · by_cases h1 : i < sc.length
          · have h2 : ¬ (i : Int) < 30 := by omega
            go_wp2_with fail
            go_meet
            case rel => exact ⟨ws, st, HL.out⟩
          · go_wp2_with fail
            go_meet
            case rel => exact ⟨ws, st, HL.out⟩
    case rest =>
      clear HL
      obtain ⟨ws, st, hl⟩ := hcut
      have HL := Lib.hid hl
      have c1 := Lib.hid (fun W hW => len_any p q ws st W hW)
      have hwb : w.heap.size ≤ W0.heap.size := HW.out.size
      have hwl : w.heap.size < W0.heap.size := HBX.out.lt
      have hn8 : ws.length ≤ 8 := by have := hl.t.len; omega
      have hel := entL_le ws ws.length
      clear hl HC hr
      generalize hN0 : (entL ws ws.length).length = N0 at c1 hel
      go_wp2_with fail
      refine (c1.out _ HL.out.t).mono ?_
      rintro e w3 ⟨rfl, hb3⟩
      have HL3 := Lib.hid (HL.out.make hb3)
      clear hb3
      obtain ⟨x0, x1, x2, x3, x4⟩ : w3.cell? ⟨w.heap.size, 0, none⟩ = some (.int .i64 f.lv) ∧ w3.cell? ⟨w.heap.size, 1, none⟩ = some (.int .u64 f.p0) ∧ w3.cell? ⟨w.heap.size, 2, none⟩ = some (.int .u64 f.p1) ∧ w3.cell? ⟨w.heap.size, 3, none⟩ = some (.int .u64 f.p2) ∧ w3.cell? ⟨w.heap.size, 4, none⟩ = some (.int .u64 f.en) :=
        ⟨(HBX.out.below' HL3.out.b).get rfl, (HBX.out.below' HL3.out.b).get rfl, (HBX.out.below' HL3.out.b).get rfl, (HBX.out.below' HL3.out.b).get rfl, (HBX.out.below' HL3.out.b).get rfl⟩
      cases hmp : mayP va f with
      | false =>
        have cP := Lib.hid (put_bad p q ws st va f w3 HL3.out.t hmp)
        unfold lfC at cP
        have hbad : f.lv < 0 ∨ (¬ f.lv < 0 ∧ 2 < f.lv) ∨ (¬ f.lv < 0 ∧ ¬ 2 < f.lv ∧ properB va = false) := by
          unfold mayP at hmp
          by_cases a : f.lv < 0
          · exact .inl a
          · by_cases b : 2 < f.lv
            · exact .inr (.inl ⟨a, b⟩)
            · rw [decide_eq_true (show 0 ≤ f.lv by omega), decide_eq_true (show f.lv ≤ 2 by omega)] at hmp
              exact .inr (.inr ⟨a, b, by simpa using hmp⟩)
        have HBAD := Lib.hid hbad
        clear hmp hbad
        go_wp2_with fail
        refine cP.out.mono ?_
        rintro e w4 ⟨rfl, hb4⟩
        have HL4 := Lib.hid (HL3.out.make hb4)
        clear hb4 x0 x1 x2 x3 x4
        go_wp2_with fail
        refine (c1.out _ HL4.out.t).mono ?_
        rintro e w5 ⟨rfl, hb5⟩
        have HL5 := Lib.hid (HL4.out.make hb5)
        clear hb5
        have y0 : w5.cell? ⟨w.heap.size, 0, none⟩ = some (.int .i64 f.lv) := (HBX.out.below' HL5.out.b).get rfl
        have HBF := Lib.hid (HW.out.trans (HL5.out.b.mono hwb))
        rcases HBAD.out with a | ⟨a, b⟩ | ⟨a, b, hpr⟩
        · have a' : decide (f.lv < 0) = true := decide_eq_true a
          go_wp2_with fail
          go_ret
          exact ⟨ret_bool (by simp), HBF.out⟩
        · have a' : decide (f.lv < 0) = false := decide_eq_false (by omega)
          have b' : decide (2 < f.lv) = true := decide_eq_true b
          go_wp2_with fail
          go_ret
          exact ⟨ret_bool (by simp), HBF.out⟩
        · have a' : decide (f.lv < 0) = false := decide_eq_false (by omega)
          have b' : decide (2 < f.lv) = false := decide_eq_false (by omega)
          rw [proper_iff, Bool.or_eq_false_iff] at hpr
          obtain ⟨h1, h2⟩ := hpr
          have h1' : ((va.toNat : Int) / 274877906944 != 0) = true := by rw [bne, h1]; rfl
          have h2' : ((va.toNat : Int) / 274877906944 != 67108863) = true := by rw [bne, h2]; rfl
          clear h1 h2
          go_wp2_with fail
          go_ret
          exact ⟨ret_bool (by simp), HBF.out⟩
      | true =>
        have cP := Lib.hid (put_ok p q ws st va f w3 HL3.out.t hmp)
        unfold lfC at cP
        have hr := Lib.hid (room_lt ws st va HL3.out.t.len)
        have HMP := Lib.hid hmp
        generalize hrr : roomN ws st va = r at cP hr
        clear hmp hrr
        obtain ⟨l, hl, hl3⟩ : ∃ l : Nat, f.lv = (l : Int) ∧ (l = 0 ∨ l = 1 ∨ l = 2) := by
          have h := HMP.out
          unfold mayP at h
          simp only [Bool.and_eq_true, decide_eq_true_eq] at h
          exact ⟨f.lv.toNat, by omega, by omega⟩
        have HLV := Lib.hid hl
        have hpr := Lib.hid (show properB va = true by
          have h := HMP.out
          unfold mayP at h
          simp only [Bool.and_eq_true] at h
          exact h.2)
        clear hl
        go_wp2_with fail
        refine cP.out.mono ?_
        rintro e w4 ⟨rfl, hT4, ho4⟩
        have HL4 := Lib.hid (HL3.out.step hT4 ho4 HL3.out.pn HL3.out.qn)
        have HWN := Lib.hid (show wyAt (ws.set r (newY va f)) r = newY va f by rw [wyAt_set _ _ _ hr.out, if_pos rfl])
        have HRL := Lib.hid (show r < (ws.set r (newY va f)).length by rw [List.length_set]; exact hr.out)
        have hn82 : (ws.set r (newY va f)).length ≤ 8 := by rw [List.length_set]; exact hn8
        generalize ws.set r (newY va f) = ws1 at *
        generalize touch st ws.length (r : Int) = st1 at *
        clear hT4 ho4 cP c1 HL HL3 x0 x1 x2 x3 x4 hel hN0
        have y0 : w4.cell? ⟨w.heap.size, 0, none⟩ = some (.int .i64 f.lv) := (HBX.out.below' HL4.out.b).get rfl
        rw [HLV.out] at y0
        have F1 := Lib.hid (fnd_found ws1 (nearT va other l) r HRL.out (by rw [HWN.out]; exact new_of va _ f (by rw [nearT_proper va other l hl3]; exact hpr.out) (by rw [HLV.out]; exact nearT_vpn va other l hl3)))
        have F2 := Lib.hid (fnd_found ws1 va r HRL.out (by rw [HWN.out]; exact new_of va _ f hpr.out rfl))
        have cK1 := Lib.hid (fun W hW => look_any p q ws1 st1 (nearT va other l) W hW)
        rw [lookY_at ws1 _ F1.out.1, show fndIs ws1 (nearT va other l) = true from decide_eq_true F1.out.1] at cK1
        have hX : Hid ((entL ws1 ws1.length).length = 1 → wyAt ws1 (fndI ws1 (nearT va other l)) = newY va f) := fun h => by rw [F1.out.2.2 h]; exact HWN.out
        have cK2 := Lib.hid (fun W st2 hW => look_any p q ws1 st2 va W hW)
        rw [lookY_at ws1 _ F2.out.1, show fndIs ws1 va = true from decide_eq_true F2.out.1] at cK2
        have cL := Lib.hid (fun W st2 hW => len_any p q ws1 st2 W hW)
        have hel1 := entL_le ws1 ws1.length
        unfold pteY at cK1 cK2
        generalize wyAt ws1 (fndI ws1 va) = Y at cK2
        generalize wyAt ws1 (fndI ws1 (nearT va other l)) = X at cK1 hX
        clear F1 F2
        rcases hl3 with rfl | rfl | rfl
        · have hE : ((va.toNat : Int) / 4096 * 4096 + (other.toNat : Int) % 4096) = ((nearT va other 0).toNat : Int) := by
            rw [nearT_nat va other 0 (by omega)]
            simp
          have HE := Lib.hid hE
          clear hE
          go_wp2_with fail
          go_quiet (fail)
          go_wp2_with fail
          rw [HE.out]
          refine (cK1.out _ (HL4.out.t.quiet ⟨_, rfl⟩)).mono ?_
          rintro e w5 ⟨rfl, hT5, ho5⟩
          have HL5 := Lib.hid (HL4.out.put ⟨_, rfl⟩ hT5 (only_p ho5))
          clear hT5 ho5 cK1 HE y0 HL4
          generalize lookS ws1 st1 (nearT va other 0) = st5 at HL5
          obtain ⟨x0, x1, x2, x3, x4⟩ : w5.cell? ⟨w.heap.size, 0, none⟩ = some (.int .i64 0) ∧ w5.cell? ⟨w.heap.size, 1, none⟩ = some (.int .u64 f.p0) ∧ w5.cell? ⟨w.heap.size, 2, none⟩ = some (.int .u64 f.p1) ∧ w5.cell? ⟨w.heap.size, 3, none⟩ = some (.int .u64 f.p2) ∧ w5.cell? ⟨w.heap.size, 4, none⟩ = some (.int .u64 f.en) :=
            ⟨(HBX.out.below' HL5.out.b).get (by rw [HLV.out]; rfl), (HBX.out.below' HL5.out.b).get rfl, (HBX.out.below' HL5.out.b).get rfl, (HBX.out.below' HL5.out.b).get rfl, (HBX.out.below' HL5.out.b).get rfl⟩
          have hw5 : w.heap.size < w5.heap.size := Nat.lt_of_lt_of_le hwl HL5.out.b.size
          have HL5X := Lib.hid (HL5.out.make ((Below.refl _ _).alloc (Nat.le_refl _) (.cells #[.int .i64 X.lv, .int .u64 X.p0, .int .u64 X.p1, .int .u64 X.p2, .int .u64 X.en] 29)))
          go_upto_region 15 with fail
          generalize hw5x : w5.alloc (.cells #[.int .i64 X.lv, .int .u64 X.p0, .int .u64 X.p1, .int .u64 X.p2, .int .u64 X.en] 29) = W5 at HL5X ⊢
          have HX5 := Lib.hid (show Bk W5 w5.heap.size #[.int .i64 X.lv, .int .u64 X.p0, .int .u64 X.p1, .int .u64 X.p2, .int .u64 X.en] 29 by rw [← hw5x]; exact Bk.new _ _ _)
          have HP5 := Lib.hid (HBX.out.below' HL5X.out.b)
          clear hw5x HL5 x0 x1 x2 x3 x4 hw5
          go_cut [133] from 122 (fun s wx => s = .bool false ∧ ∃ st6, Law W0 wx p q ws1 st6)
          case first =>
            obtain ⟨x0, x1, x2, x3, x4⟩ : W5.cell? ⟨w.heap.size, 0, none⟩ = some (.int .i64 0) ∧ W5.cell? ⟨w.heap.size, 1, none⟩ = some (.int .u64 f.p0) ∧ W5.cell? ⟨w.heap.size, 2, none⟩ = some (.int .u64 f.p1) ∧ W5.cell? ⟨w.heap.size, 3, none⟩ = some (.int .u64 f.p2) ∧ W5.cell? ⟨w.heap.size, 4, none⟩ = some (.int .u64 f.en) :=
              ⟨HP5.out.get (by rw [HLV.out]; rfl), HP5.out.get rfl, HP5.out.get rfl, HP5.out.get rfl, HP5.out.get rfl⟩
            obtain ⟨z0, z1, z2, z3, z4⟩ : W5.cell? ⟨w5.heap.size, 0, none⟩ = some (.int .i64 X.lv) ∧ W5.cell? ⟨w5.heap.size, 1, none⟩ = some (.int .u64 X.p0) ∧ W5.cell? ⟨w5.heap.size, 2, none⟩ = some (.int .u64 X.p1) ∧ W5.cell? ⟨w5.heap.size, 3, none⟩ = some (.int .u64 X.p2) ∧ W5.cell? ⟨w5.heap.size, 4, none⟩ = some (.int .u64 X.en) :=
              ⟨HX5.out.get rfl, HX5.out.get rfl, HX5.out.get rfl, HX5.out.get rfl, HX5.out.get rfl⟩
            cases hpe : pteEq X.lv X.p0 X.p1 X.p2 X.en 0 f.p0 f.p1 f.p2 f.en with
            | true =>
              go_wp2_with fail
              go_meet
              case rel => exact ⟨rfl, st5, HL5X.out⟩
            | false =>
              have hne := Lib.hid (show ((((entL ws1 ws1.length).length : Nat) : Int) == 1) = false from beq_eq_false_iff_ne.2 fun h1 => by
                have h2 := hX.out (by omega)
                rw [h2] at hpe
                have h3 : pteEq f.lv f.p0 f.p1 f.p2 f.en 0 f.p0 f.p1 f.p2 f.en = false := hpe
                rw [HLV.out] at h3
                have h4 := pteEq_same 0 f.p0 f.p1 f.p2 f.en
                rw [show ((0 : Nat) : Int) = 0 from rfl, h4] at h3
                cases h3)
              generalize hEL : (entL ws1 ws1.length).length = EL at cL hne
              clear hEL
              go_wp2_with fail
              refine (cL.out _ st5 HL5X.out.t).mono ?_
              rintro e w6 ⟨rfl, hb6⟩
              have HL6 := Lib.hid (HL5X.out.make hb6)
              have hne2 := hne.out
              clear hb6
              go_wp2_with fail
              go_meet
              case rel => exact ⟨by simp, st5, HL6.out⟩
          case rest =>
            obtain ⟨rfl, st6, hl6⟩ := hcut
            have HL6 := Lib.hid hl6
            clear hl6 HX5 HP5 hX
            go_wp2_with fail
            refine (cK2.out _ st6 HL6.out.t).mono ?_
            rintro e w7 ⟨rfl, hT7, ho7⟩
            have HL7 := Lib.hid (HL6.out.step hT7 (only_p ho7) HL6.out.pn HL6.out.qn)
            have HL7Y := Lib.hid (HL7.out.make ((Below.refl _ _).alloc (Nat.le_refl _) (.cells #[.int .i64 Y.lv, .int .u64 Y.p0, .int .u64 Y.p1, .int .u64 Y.p2, .int .u64 Y.en] 29)))
            clear hT7 ho7 cK2 HL6 HL7
            generalize lookS ws1 st6 va = st7 at HL7Y
            go_upto_region 18 with fail
            generalize hw7y : w7.alloc (.cells #[.int .i64 Y.lv, .int .u64 Y.p0, .int .u64 Y.p1, .int .u64 Y.p2, .int .u64 Y.en] 29) = W7 at HL7Y ⊢
            have HP7 := Lib.hid (HBX.out.below' HL7Y.out.b)
            clear hw7y
            go_cut [162] from 140 (fun s wx => s = .bool false ∧ ∃ ws9 st9, Law W0 wx p q ws9 st9)
            case first =>
              obtain ⟨x0, x1, x2, x3, x4⟩ : W7.cell? ⟨w.heap.size, 0, none⟩ = some (.int .i64 0) ∧ W7.cell? ⟨w.heap.size, 1, none⟩ = some (.int .u64 f.p0) ∧ W7.cell? ⟨w.heap.size, 2, none⟩ = some (.int .u64 f.p1) ∧ W7.cell? ⟨w.heap.size, 3, none⟩ = some (.int .u64 f.p2) ∧ W7.cell? ⟨w.heap.size, 4, none⟩ = some (.int .u64 f.en) :=
                ⟨HP7.out.get (by rw [HLV.out]; rfl), HP7.out.get rfl, HP7.out.get rfl, HP7.out.get rfl, HP7.out.get rfl⟩
              obtain ⟨j, hj, hjr⟩ := rem_k kk 3 (by omega)
              have hjr' : (IntKind.u64.wrap kk).tmod 3 = (j : Int) := hjr
              have hj3 : j = 0 ∨ j = 1 ∨ j = 2 := by omega
              clear hjr hj
              rcases hj3 with rfl | rfl | rfl
              · have hh := Lib.hid (show hitB (wyAt ws1 r) f.p0 = true by rw [HWN.out]; exact hit_new va f 0 0 HLV.out (by omega))
                go_wp2_with fail
                refine (forget_one p q ws1 st7 r HRL.out f.p0 hh.out W7 HL7Y.out.t).mono ?_
                rintro e w8 ⟨m, hm, rfl, hT8, ho8⟩
                have HL8 := Lib.hid (HL7Y.out.step hT8 (only_q ho8) HL7Y.out.pn HL7Y.out.qn)
                clear hT8 ho8
                have hm2 : decide (m < 1) = false := decide_eq_false (by omega)
                go_wp2_with fail
                go_meet
                case rel => exact ⟨by simp, _, _, HL8.out⟩
              · have hh := Lib.hid (show hitB (wyAt ws1 r) f.p1 = true by rw [HWN.out]; exact hit_new va f 0 1 HLV.out (by omega))
                go_wp2_with fail
                refine (forget_one p q ws1 st7 r HRL.out f.p1 hh.out W7 HL7Y.out.t).mono ?_
                rintro e w8 ⟨m, hm, rfl, hT8, ho8⟩
                have HL8 := Lib.hid (HL7Y.out.step hT8 (only_q ho8) HL7Y.out.pn HL7Y.out.qn)
                clear hT8 ho8
                have hm2 : decide (m < 1) = false := decide_eq_false (by omega)
                go_wp2_with fail
                go_meet
                case rel => exact ⟨by simp, _, _, HL8.out⟩
              · have hh := Lib.hid (show hitB (wyAt ws1 r) f.p2 = true by rw [HWN.out]; exact hit_new va f 0 2 HLV.out (by omega))
                go_wp2_with fail
                refine (forget_one p q ws1 st7 r HRL.out f.p2 hh.out W7 HL7Y.out.t).mono ?_
                rintro e w8 ⟨m, hm, rfl, hT8, ho8⟩
                have HL8 := Lib.hid (HL7Y.out.step hT8 (only_q ho8) HL7Y.out.pn HL7Y.out.qn)
                clear hT8 ho8
                have hm2 : decide (m < 1) = false := decide_eq_false (by omega)
                go_wp2_with fail
                go_meet
                case rel => exact ⟨by simp, _, _, HL8.out⟩
            case rest =>
              obtain ⟨rfl, ws9, st9, hl9⟩ := hcut
              have HL9 := Lib.hid hl9
              have cFl := Lib.hid (flush_any p q ws9 st9 _ hl9.t)
              clear hl9
              go_wp2_with fail
              refine cFl.out.mono ?_
              rintro e w10 ⟨rfl, hT10, ho10⟩
              have HL10 := Lib.hid (HL9.out.step hT10 (only_p ho10) HL9.out.pn HL9.out.b.size)
              have cK3 := Lib.hid (look_any _ _ _ _ va _ hT10)
              rw [show fndIs (mkW ws9.length) va = false from decide_eq_false (by rw [fnd_none]; omega), show lookY (mkW ws9.length) va = noWy from if_neg (by rw [fnd_none]; omega)] at cK3
              clear hT10 ho10 cFl HL9
              go_wp2_with fail
              refine cK3.out.mono ?_
              rintro e w11 ⟨rfl, hT11, ho11⟩
              have HL11 := Lib.hid (HL10.out.step hT11 (only_p ho11) HL10.out.pn HL10.out.qn)
              clear hT11 ho11 cK3 HL10
              have HL12 := Lib.hid (HL11.out.make ((Below.refl _ _).alloc (Nat.le_refl _) (.cells #[.int .i64 0, .int .u64 0, .int .u64 0, .int .u64 0, .int .u64 0] 29)))
              rw [show pteY noWy = #[.int .i64 0, .int .u64 0, .int .u64 0, .int .u64 0, .int .u64 0] from rfl]
              have cL2 := Lib.hid (len_any _ _ _ _ _ HL12.out.t)
              rw [ent_none] at cL2
              go_wp2_with fail
              refine cL2.out.mono ?_
              rintro e w13 ⟨rfl, hb13⟩
              have HL13 := Lib.hid (HL12.out.make hb13)
              clear hb13 cL2
              go_wp2_with fail
              go_ret
              exact ⟨rfl, HW.out.trans (HL13.out.b.mono hwb)⟩
        · have hE : ((va.toNat : Int) / 2097152 * 2097152 + (other.toNat : Int) % 2097152) = ((nearT va other 1).toNat : Int) := by
            rw [nearT_nat va other 1 (by omega)]
            simp
          have HE := Lib.hid hE
          clear hE
          go_wp2_with fail
          go_quiet (fail)
          go_wp2_with fail
          rw [HE.out]
          refine (cK1.out _ (HL4.out.t.quiet ⟨_, rfl⟩)).mono ?_
          rintro e w5 ⟨rfl, hT5, ho5⟩
          have HL5 := Lib.hid (HL4.out.put ⟨_, rfl⟩ hT5 (only_p ho5))
          clear hT5 ho5 cK1 HE y0 HL4
          generalize lookS ws1 st1 (nearT va other 1) = st5 at HL5
          obtain ⟨x0, x1, x2, x3, x4⟩ : w5.cell? ⟨w.heap.size, 0, none⟩ = some (.int .i64 1) ∧ w5.cell? ⟨w.heap.size, 1, none⟩ = some (.int .u64 f.p0) ∧ w5.cell? ⟨w.heap.size, 2, none⟩ = some (.int .u64 f.p1) ∧ w5.cell? ⟨w.heap.size, 3, none⟩ = some (.int .u64 f.p2) ∧ w5.cell? ⟨w.heap.size, 4, none⟩ = some (.int .u64 f.en) :=
            ⟨(HBX.out.below' HL5.out.b).get (by rw [HLV.out]; rfl), (HBX.out.below' HL5.out.b).get rfl, (HBX.out.below' HL5.out.b).get rfl, (HBX.out.below' HL5.out.b).get rfl, (HBX.out.below' HL5.out.b).get rfl⟩
          have hw5 : w.heap.size < w5.heap.size := Nat.lt_of_lt_of_le hwl HL5.out.b.size
          have HL5X := Lib.hid (HL5.out.make ((Below.refl _ _).alloc (Nat.le_refl _) (.cells #[.int .i64 X.lv, .int .u64 X.p0, .int .u64 X.p1, .int .u64 X.p2, .int .u64 X.en] 29)))
          go_upto_region 15 with fail
          generalize hw5x : w5.alloc (.cells #[.int .i64 X.lv, .int .u64 X.p0, .int .u64 X.p1, .int .u64 X.p2, .int .u64 X.en] 29) = W5 at HL5X ⊢
          have HX5 := Lib.hid (show Bk W5 w5.heap.size #[.int .i64 X.lv, .int .u64 X.p0, .int .u64 X.p1, .int .u64 X.p2, .int .u64 X.en] 29 by rw [← hw5x]; exact Bk.new _ _ _)
          have HP5 := Lib.hid (HBX.out.below' HL5X.out.b)
          clear hw5x HL5 x0 x1 x2 x3 x4 hw5
          go_cut [133] from 122 (fun s wx => s = .bool false ∧ ∃ st6, Law W0 wx p q ws1 st6)
          case first =>
            obtain ⟨x0, x1, x2, x3, x4⟩ : W5.cell? ⟨w.heap.size, 0, none⟩ = some (.int .i64 1) ∧ W5.cell? ⟨w.heap.size, 1, none⟩ = some (.int .u64 f.p0) ∧ W5.cell? ⟨w.heap.size, 2, none⟩ = some (.int .u64 f.p1) ∧ W5.cell? ⟨w.heap.size, 3, none⟩ = some (.int .u64 f.p2) ∧ W5.cell? ⟨w.heap.size, 4, none⟩ = some (.int .u64 f.en) :=
              ⟨HP5.out.get (by rw [HLV.out]; rfl), HP5.out.get rfl, HP5.out.get rfl, HP5.out.get rfl, HP5.out.get rfl⟩
            obtain ⟨z0, z1, z2, z3, z4⟩ : W5.cell? ⟨w5.heap.size, 0, none⟩ = some (.int .i64 X.lv) ∧ W5.cell? ⟨w5.heap.size, 1, none⟩ = some (.int .u64 X.p0) ∧ W5.cell? ⟨w5.heap.size, 2, none⟩ = some (.int .u64 X.p1) ∧ W5.cell? ⟨w5.heap.size, 3, none⟩ = some (.int .u64 X.p2) ∧ W5.cell? ⟨w5.heap.size, 4, none⟩ = some (.int .u64 X.en) :=
              ⟨HX5.out.get rfl, HX5.out.get rfl, HX5.out.get rfl, HX5.out.get rfl, HX5.out.get rfl⟩
            cases hpe : pteEq X.lv X.p0 X.p1 X.p2 X.en 1 f.p0 f.p1 f.p2 f.en with
            | true =>
              go_wp2_with fail
              go_meet
              case rel => exact ⟨rfl, st5, HL5X.out⟩
            | false =>
              have hne := Lib.hid (show ((((entL ws1 ws1.length).length : Nat) : Int) == 1) = false from beq_eq_false_iff_ne.2 fun h1 => by
                have h2 := hX.out (by omega)
                rw [h2] at hpe
                have h3 : pteEq f.lv f.p0 f.p1 f.p2 f.en 1 f.p0 f.p1 f.p2 f.en = false := hpe
                rw [HLV.out] at h3
                have h4 := pteEq_same 1 f.p0 f.p1 f.p2 f.en
                rw [show ((1 : Nat) : Int) = 1 from rfl, h4] at h3
                cases h3)
              generalize hEL : (entL ws1 ws1.length).length = EL at cL hne
              clear hEL
              go_wp2_with fail
              refine (cL.out _ st5 HL5X.out.t).mono ?_
              rintro e w6 ⟨rfl, hb6⟩
              have HL6 := Lib.hid (HL5X.out.make hb6)
              have hne2 := hne.out
              clear hb6
              go_wp2_with fail
              go_meet
              case rel => exact ⟨by simp, st5, HL6.out⟩
          case rest =>
            obtain ⟨rfl, st6, hl6⟩ := hcut
            have HL6 := Lib.hid hl6
            clear hl6 HX5 HP5 hX
            go_wp2_with fail
            refine (cK2.out _ st6 HL6.out.t).mono ?_
            rintro e w7 ⟨rfl, hT7, ho7⟩
            have HL7 := Lib.hid (HL6.out.step hT7 (only_p ho7) HL6.out.pn HL6.out.qn)
            have HL7Y := Lib.hid (HL7.out.make ((Below.refl _ _).alloc (Nat.le_refl _) (.cells #[.int .i64 Y.lv, .int .u64 Y.p0, .int .u64 Y.p1, .int .u64 Y.p2, .int .u64 Y.en] 29)))
            clear hT7 ho7 cK2 HL6 HL7
            generalize lookS ws1 st6 va = st7 at HL7Y
            go_upto_region 18 with fail
            generalize hw7y : w7.alloc (.cells #[.int .i64 Y.lv, .int .u64 Y.p0, .int .u64 Y.p1, .int .u64 Y.p2, .int .u64 Y.en] 29) = W7 at HL7Y ⊢
            have HP7 := Lib.hid (HBX.out.below' HL7Y.out.b)
            clear hw7y
            go_cut [162] from 140 (fun s wx => s = .bool false ∧ ∃ ws9 st9, Law W0 wx p q ws9 st9)
            case first =>
              obtain ⟨x0, x1, x2, x3, x4⟩ : W7.cell? ⟨w.heap.size, 0, none⟩ = some (.int .i64 1) ∧ W7.cell? ⟨w.heap.size, 1, none⟩ = some (.int .u64 f.p0) ∧ W7.cell? ⟨w.heap.size, 2, none⟩ = some (.int .u64 f.p1) ∧ W7.cell? ⟨w.heap.size, 3, none⟩ = some (.int .u64 f.p2) ∧ W7.cell? ⟨w.heap.size, 4, none⟩ = some (.int .u64 f.en) :=
                ⟨HP7.out.get (by rw [HLV.out]; rfl), HP7.out.get rfl, HP7.out.get rfl, HP7.out.get rfl, HP7.out.get rfl⟩
              obtain ⟨j, hj, hjr⟩ := rem_k kk 2 (by omega)
              have hjr' : (IntKind.u64.wrap kk).tmod 2 = (j : Int) := hjr
              have hj3 : j = 0 ∨ j = 1 := by omega
              clear hjr hj
              rcases hj3 with rfl | rfl
              · have hh := Lib.hid (show hitB (wyAt ws1 r) f.p0 = true by rw [HWN.out]; exact hit_new va f 1 0 HLV.out (by omega))
                go_wp2_with fail
                refine (forget_one p q ws1 st7 r HRL.out f.p0 hh.out W7 HL7Y.out.t).mono ?_
                rintro e w8 ⟨m, hm, rfl, hT8, ho8⟩
                have HL8 := Lib.hid (HL7Y.out.step hT8 (only_q ho8) HL7Y.out.pn HL7Y.out.qn)
                clear hT8 ho8
                have hm2 : decide (m < 1) = false := decide_eq_false (by omega)
                go_wp2_with fail
                go_meet
                case rel => exact ⟨by simp, _, _, HL8.out⟩
              · have hh := Lib.hid (show hitB (wyAt ws1 r) f.p1 = true by rw [HWN.out]; exact hit_new va f 1 1 HLV.out (by omega))
                go_wp2_with fail
                refine (forget_one p q ws1 st7 r HRL.out f.p1 hh.out W7 HL7Y.out.t).mono ?_
                rintro e w8 ⟨m, hm, rfl, hT8, ho8⟩
                have HL8 := Lib.hid (HL7Y.out.step hT8 (only_q ho8) HL7Y.out.pn HL7Y.out.qn)
                clear hT8 ho8
                have hm2 : decide (m < 1) = false := decide_eq_false (by omega)
                go_wp2_with fail
                go_meet
                case rel => exact ⟨by simp, _, _, HL8.out⟩
            case rest =>
              obtain ⟨rfl, ws9, st9, hl9⟩ := hcut
              have HL9 := Lib.hid hl9
              have cFl := Lib.hid (flush_any p q ws9 st9 _ hl9.t)
              clear hl9
              go_wp2_with fail
              refine cFl.out.mono ?_
              rintro e w10 ⟨rfl, hT10, ho10⟩
              have HL10 := Lib.hid (HL9.out.step hT10 (only_p ho10) HL9.out.pn HL9.out.b.size)
              have cK3 := Lib.hid (look_any _ _ _ _ va _ hT10)
              rw [show fndIs (mkW ws9.length) va = false from decide_eq_false (by rw [fnd_none]; omega), show lookY (mkW ws9.length) va = noWy from if_neg (by rw [fnd_none]; omega)] at cK3
              clear hT10 ho10 cFl HL9
              go_wp2_with fail
              refine cK3.out.mono ?_
              rintro e w11 ⟨rfl, hT11, ho11⟩
              have HL11 := Lib.hid (HL10.out.step hT11 (only_p ho11) HL10.out.pn HL10.out.qn)
              clear hT11 ho11 cK3 HL10
              have HL12 := Lib.hid (HL11.out.make ((Below.refl _ _).alloc (Nat.le_refl _) (.cells #[.int .i64 0, .int .u64 0, .int .u64 0, .int .u64 0, .int .u64 0] 29)))
              rw [show pteY noWy = #[.int .i64 0, .int .u64 0, .int .u64 0, .int .u64 0, .int .u64 0] from rfl]
              have cL2 := Lib.hid (len_any _ _ _ _ _ HL12.out.t)
              rw [ent_none] at cL2
              go_wp2_with fail
              refine cL2.out.mono ?_
              rintro e w13 ⟨rfl, hb13⟩
              have HL13 := Lib.hid (HL12.out.make hb13)
              clear hb13 cL2
              go_wp2_with fail
              go_ret
              exact ⟨rfl, HW.out.trans (HL13.out.b.mono hwb)⟩
        · have hE : ((va.toNat : Int) / 1073741824 * 1073741824 + (other.toNat : Int) % 1073741824) = ((nearT va other 2).toNat : Int) := by
            rw [nearT_nat va other 2 (by omega)]
            simp
          have HE := Lib.hid hE
          clear hE
          go_wp2_with fail
          go_quiet (fail)
          go_wp2_with fail
          rw [HE.out]
          refine (cK1.out _ (HL4.out.t.quiet ⟨_, rfl⟩)).mono ?_
          rintro e w5 ⟨rfl, hT5, ho5⟩
          have HL5 := Lib.hid (HL4.out.put ⟨_, rfl⟩ hT5 (only_p ho5))
          clear hT5 ho5 cK1 HE y0 HL4
          generalize lookS ws1 st1 (nearT va other 2) = st5 at HL5
          obtain ⟨x0, x1, x2, x3, x4⟩ : w5.cell? ⟨w.heap.size, 0, none⟩ = some (.int .i64 2) ∧ w5.cell? ⟨w.heap.size, 1, none⟩ = some (.int .u64 f.p0) ∧ w5.cell? ⟨w.heap.size, 2, none⟩ = some (.int .u64 f.p1) ∧ w5.cell? ⟨w.heap.size, 3, none⟩ = some (.int .u64 f.p2) ∧ w5.cell? ⟨w.heap.size, 4, none⟩ = some (.int .u64 f.en) :=
            ⟨(HBX.out.below' HL5.out.b).get (by rw [HLV.out]; rfl), (HBX.out.below' HL5.out.b).get rfl, (HBX.out.below' HL5.out.b).get rfl, (HBX.out.below' HL5.out.b).get rfl, (HBX.out.below' HL5.out.b).get rfl⟩
          have hw5 : w.heap.size < w5.heap.size := Nat.lt_of_lt_of_le hwl HL5.out.b.size
          have HL5X := Lib.hid (HL5.out.make ((Below.refl _ _).alloc (Nat.le_refl _) (.cells #[.int .i64 X.lv, .int .u64 X.p0, .int .u64 X.p1, .int .u64 X.p2, .int .u64 X.en] 29)))
          go_upto_region 15 with fail
          generalize hw5x : w5.alloc (.cells #[.int .i64 X.lv, .int .u64 X.p0, .int .u64 X.p1, .int .u64 X.p2, .int .u64 X.en] 29) = W5 at HL5X ⊢
          have HX5 := Lib.hid (show Bk W5 w5.heap.size #[.int .i64 X.lv, .int .u64 X.p0, .int .u64 X.p1, .int .u64 X.p2, .int .u64 X.en] 29 by rw [← hw5x]; exact Bk.new _ _ _)
          have HP5 := Lib.hid (HBX.out.below' HL5X.out.b)
          clear hw5x HL5 x0 x1 x2 x3 x4 hw5
          go_cut [133] from 122 (fun s wx => s = .bool false ∧ ∃ st6, Law W0 wx p q ws1 st6)
          case first =>
            obtain ⟨x0, x1, x2, x3, x4⟩ : W5.cell? ⟨w.heap.size, 0, none⟩ = some (.int .i64 2) ∧ W5.cell? ⟨w.heap.size, 1, none⟩ = some (.int .u64 f.p0) ∧ W5.cell? ⟨w.heap.size, 2, none⟩ = some (.int .u64 f.p1) ∧ W5.cell? ⟨w.heap.size, 3, none⟩ = some (.int .u64 f.p2) ∧ W5.cell? ⟨w.heap.size, 4, none⟩ = some (.int .u64 f.en) :=
              ⟨HP5.out.get (by rw [HLV.out]; rfl), HP5.out.get rfl, HP5.out.get rfl, HP5.out.get rfl, HP5.out.get rfl⟩
            obtain ⟨z0, z1, z2, z3, z4⟩ : W5.cell? ⟨w5.heap.size, 0, none⟩ = some (.int .i64 X.lv) ∧ W5.cell? ⟨w5.heap.size, 1, none⟩ = some (.int .u64 X.p0) ∧ W5.cell? ⟨w5.heap.size, 2, none⟩ = some (.int .u64 X.p1) ∧ W5.cell? ⟨w5.heap.size, 3, none⟩ = some (.int .u64 X.p2) ∧ W5.cell? ⟨w5.heap.size, 4, none⟩ = some (.int .u64 X.en) :=
              ⟨HX5.out.get rfl, HX5.out.get rfl, HX5.out.get rfl, HX5.out.get rfl, HX5.out.get rfl⟩
            cases hpe : pteEq X.lv X.p0 X.p1 X.p2 X.en 2 f.p0 f.p1 f.p2 f.en with
            | true =>
              go_wp2_with fail
              go_meet
              case rel => exact ⟨rfl, st5, HL5X.out⟩
            | false =>
              have hne := Lib.hid (show ((((entL ws1 ws1.length).length : Nat) : Int) == 1) = false from beq_eq_false_iff_ne.2 fun h1 => by
                have h2 := hX.out (by omega)
                rw [h2] at hpe
                have h3 : pteEq f.lv f.p0 f.p1 f.p2 f.en 2 f.p0 f.p1 f.p2 f.en = false := hpe
                rw [HLV.out] at h3
                have h4 := pteEq_same 2 f.p0 f.p1 f.p2 f.en
                rw [show ((2 : Nat) : Int) = 2 from rfl, h4] at h3
                cases h3)
              generalize hEL : (entL ws1 ws1.length).length = EL at cL hne
              clear hEL
              go_wp2_with fail
              refine (cL.out _ st5 HL5X.out.t).mono ?_
              rintro e w6 ⟨rfl, hb6⟩
              have HL6 := Lib.hid (HL5X.out.make hb6)
              have hne2 := hne.out
              clear hb6
              go_wp2_with fail
              go_meet
              case rel => exact ⟨by simp, st5, HL6.out⟩
          case rest =>
            obtain ⟨rfl, st6, hl6⟩ := hcut
            have HL6 := Lib.hid hl6
            clear hl6 HX5 HP5 hX
            go_wp2_with fail
            refine (cK2.out _ st6 HL6.out.t).mono ?_
            rintro e w7 ⟨rfl, hT7, ho7⟩
            have HL7 := Lib.hid (HL6.out.step hT7 (only_p ho7) HL6.out.pn HL6.out.qn)
            have HL7Y := Lib.hid (HL7.out.make ((Below.refl _ _).alloc (Nat.le_refl _) (.cells #[.int .i64 Y.lv, .int .u64 Y.p0, .int .u64 Y.p1, .int .u64 Y.p2, .int .u64 Y.en] 29)))
            clear hT7 ho7 cK2 HL6 HL7
            generalize lookS ws1 st6 va = st7 at HL7Y
            go_upto_region 18 with fail
            generalize hw7y : w7.alloc (.cells #[.int .i64 Y.lv, .int .u64 Y.p0, .int .u64 Y.p1, .int .u64 Y.p2, .int .u64 Y.en] 29) = W7 at HL7Y ⊢
            have HP7 := Lib.hid (HBX.out.below' HL7Y.out.b)
            clear hw7y
            go_cut [162] from 140 (fun s wx => s = .bool false ∧ ∃ ws9 st9, Law W0 wx p q ws9 st9)
            case first =>
              obtain ⟨x0, x1, x2, x3, x4⟩ : W7.cell? ⟨w.heap.size, 0, none⟩ = some (.int .i64 2) ∧ W7.cell? ⟨w.heap.size, 1, none⟩ = some (.int .u64 f.p0) ∧ W7.cell? ⟨w.heap.size, 2, none⟩ = some (.int .u64 f.p1) ∧ W7.cell? ⟨w.heap.size, 3, none⟩ = some (.int .u64 f.p2) ∧ W7.cell? ⟨w.heap.size, 4, none⟩ = some (.int .u64 f.en) :=
                ⟨HP7.out.get (by rw [HLV.out]; rfl), HP7.out.get rfl, HP7.out.get rfl, HP7.out.get rfl, HP7.out.get rfl⟩
              obtain ⟨j, hj, hjr⟩ := rem_k kk 1 (by omega)
              have hjr' : (IntKind.u64.wrap kk).tmod 1 = (j : Int) := hjr
              have hj3 : j = 0 := by omega
              clear hjr hj
              rcases hj3 with rfl
              · have hh := Lib.hid (show hitB (wyAt ws1 r) f.p0 = true by rw [HWN.out]; exact hit_new va f 2 0 HLV.out (by omega))
                go_wp2_with fail
                refine (forget_one p q ws1 st7 r HRL.out f.p0 hh.out W7 HL7Y.out.t).mono ?_
                rintro e w8 ⟨m, hm, rfl, hT8, ho8⟩
                have HL8 := Lib.hid (HL7Y.out.step hT8 (only_q ho8) HL7Y.out.pn HL7Y.out.qn)
                clear hT8 ho8
                have hm2 : decide (m < 1) = false := decide_eq_false (by omega)
                go_wp2_with fail
                go_meet
                case rel => exact ⟨by simp, _, _, HL8.out⟩
            case rest =>
              obtain ⟨rfl, ws9, st9, hl9⟩ := hcut
              have HL9 := Lib.hid hl9
              have cFl := Lib.hid (flush_any p q ws9 st9 _ hl9.t)
              clear hl9
              go_wp2_with fail
              refine cFl.out.mono ?_
              rintro e w10 ⟨rfl, hT10, ho10⟩
              have HL10 := Lib.hid (HL9.out.step hT10 (only_p ho10) HL9.out.pn HL9.out.b.size)
              have cK3 := Lib.hid (look_any _ _ _ _ va _ hT10)
              rw [show fndIs (mkW ws9.length) va = false from decide_eq_false (by rw [fnd_none]; omega), show lookY (mkW ws9.length) va = noWy from if_neg (by rw [fnd_none]; omega)] at cK3
              clear hT10 ho10 cFl HL9
              go_wp2_with fail
              refine cK3.out.mono ?_
              rintro e w11 ⟨rfl, hT11, ho11⟩
              have HL11 := Lib.hid (HL10.out.step hT11 (only_p ho11) HL10.out.pn HL10.out.qn)
              clear hT11 ho11 cK3 HL10
              have HL12 := Lib.hid (HL11.out.make ((Below.refl _ _).alloc (Nat.le_refl _) (.cells #[.int .i64 0, .int .u64 0, .int .u64 0, .int .u64 0, .int .u64 0] 29)))
              rw [show pteY noWy = #[.int .i64 0, .int .u64 0, .int .u64 0, .int .u64 0, .int .u64 0] from rfl]
              have cL2 := Lib.hid (len_any _ _ _ _ _ HL12.out.t)
              rw [ent_none] at cL2
              go_wp2_with fail
              refine cL2.out.mono ?_
              rintro e w13 ⟨rfl, hb13⟩
              have HL13 := Lib.hid (HL12.out.make hb13)
              clear hb13 cL2
              go_wp2_with fail
              go_ret
              exact ⟨rfl, HW.out.trans (HL13.out.b.mono hwb)⟩
theorem tlbFinds_cells (ways : Int) (w0 : (Lit.int .i64 ways).wf = true) (A : Option Addr) (n c : Nat) (w : World) (h : RowsIn [.int .i64, .int .u64, .int .i64, .int .u64, .int .u64, .int .u64, .int .u64] w A n) (va : Int) (w2 : (Lit.int .u64 va).wf = true)
    (cs : Array Value) (hc : Flat.All2 [.int .i64, .int .u64, .int .u64, .int .u64, .int .u64] cs.toList) (other : Int) (w4 : (Lit.int .u64 other).wf = true) (k : Int) (w5 : (Lit.int .i64 k).wf = true) :
    Calls Try.prog 12 #[.int .i64 ways, .slice A n c, .int .u64 va, .agg cs, .int .u64 other, .int .i64 k] w fun e w' => e = .returned (.bool true) ∧ Below w.heap.size w w' := by
  obtain ⟨l, hl, ho, hm⟩ := ops_of h
  obtain ⟨v, rfl⟩ := u64_bv w2
  obtain ⟨o, rfl⟩ := u64_bv w4
  obtain ⟨z0, z1, z2, z3, z4, e⟩ := five_of hc
  rw [e, ← hl]
  exact tlbFinds_walk ways A c l v ⟨z0, z1, z2, z3, z4⟩ o k w hm ho
end Go.Proofs.Ythjhcdkbajbpdaa
