/- Contract: a leaf is put. -/
import Derived.Test.YthjhcdkbajbpdaaTlbPlain
import Derived.Test.YthjhcdkbajbpdaaTlbLook
import Derived.StillTailTactics
import Derived.Deep.QuietTactic
import Derived.Outline
namespace Go.Proofs.Ythjhcdkbajbpdaa
open Go.RowKit Wd Pl
set_option linter.unusedVariables false
set_option linter.unusedSimpArgs false
set_option maxRecDepth 8000
set_option maxHeartbeats 2000000 in
theorem room_any (p q : Nat) (ws : List Wy) (st : Int) (va : BitVec 64) (w : World) (h : Tb w 94 99 p q ws st) : Calls Try.prog 62 #[.pointer (some ⟨p, 0, none⟩), .int .u64 (va.toNat : Int)] w fun e w' =>
    e = .returned (.int .i64 (roomN ws st va : Int)) ∧ Below w.heap.size w w' := by
  have cF := Lib.hid (find_any p q ws st va w h)
  have HT := Lib.hid h
  have hm : (ws.length : Int) ≤ 8 := by have := h.len; omega
  have cV := Lib.hid (pvictim_any st ws.length)
  have hvr := victim_range st ws.length h.len
  obtain ⟨v, hv⟩ : ∃ v : Nat, victim st ws.length = (v : Int) := ⟨(victim st ws.length).toNat, by omega⟩
  rw [hv] at cV
  have HV := Lib.hid hv
  clear h hvr hv
  by_cases hi : fndI ws va < ws.length
  · have HR := Lib.hid (show roomN ws st va = fndI ws va from if_pos hi)
    rw [show fndAt ws va = (fndI ws va : Int) from if_pos hi, show fndIs ws va = true from decide_eq_true hi] at cF
    go_enter Try.func62, Try.ntmps62
    go_wp2_with fail
    refine cF.out.mono ?_
    rintro e w1 ⟨rfl, hb1⟩
    go_wp2_with fail
    go_ret
    exact ⟨by rw [HR.out]; rfl, hb1⟩
  · have HR := Lib.hid (show roomN ws st va = if freI ws < ws.length then freI ws else (victim st ws.length).toNat from if_neg hi)
    rw [show fndAt ws va = 0 from if_neg hi, show fndIs ws va = false from decide_eq_false hi] at cF
    clear hi
    go_enter Try.func62, Try.ntmps62
    go_wp2_with fail
    refine cF.out.mono ?_
    rintro e w1 ⟨rfl, hb1⟩
    have HB1 := Lib.hid hb1
    obtain ⟨c, hb⟩ := (HT.out.below hb1).box
    have c0 := hb.get (o := 0) rfl
    clear hb hb1
    go_wp2_with fail
    go_loopw [22] (fun i wr => ∃ k : Nat, k ≤ ws.length ∧ i = .int .i64 (k : Int) ∧ Below w.heap.size w wr ∧ ∀ j, j < k → (wyAt ws j).is = true) (fun i _ => ws.length - (intOf i).toNat)
    case atStart => exact ⟨0, Nat.zero_le _, rfl, HB1.out, fun j hj => by omega⟩
    case round =>
      clear c0 HB1
      obtain ⟨k, hk, rfl, hbe, hno⟩ := hrel
      have HN := Lib.hid hno
      have HB := Lib.hid hbe
      have hT := Lib.hid (HT.out.below hbe)
      clear hno hbe
      by_cases hlt : k < ws.length
      · obtain ⟨d0, d1, d2, d3, d4, d5, d6⟩ := hT.out.way k hlt
        cases hof : (wyAt ws k).is with
        | false =>
          have hf := Lib.hid (fre_hit ws k hlt HN.out hof)
          rw [hof] at d0
          clear hof
          go_wp2_with fail
          go_ret
          exact ⟨by rw [HR.out, hf.out, if_pos hlt]; rfl, HB.out.alloc (HB.out.size) _⟩
        | true =>
          have HF := Lib.hid hof
          rw [hof] at d0
          clear hof
          go_wp2_with fail
          go_roundw
          case rel => exact ⟨k + 1, by omega, by go_num, HB.out.alloc (HB.out.size) _, fun j hj => by
            rcases Nat.lt_or_ge j k with h1 | h1
            · exact HN.out j h1
            · obtain rfl : j = k := by omega
              exact HF.out⟩
          case measure => simp [intOf]; omega
      · have hf := Lib.hid (fre_miss ws (fun j hj => HN.out j (by omega)))
        obtain ⟨c2, hb⟩ := hT.out.box
        have c0 := hb.get (o := 0) rfl
        have c1 := hb.get (o := 1) rfl
        clear hb
        go_wp2_with fail
        go_quiet ((go_at_call 82; exact cV.out.quiet))
        go_wp2_with fail
        go_ret
        exact ⟨by rw [HR.out, hf.out, if_neg (by omega), HV.out]; rfl, below_drewN HB.out _⟩
set_option maxHeartbeats 2000000 in
theorem put_ok (p q : Nat) (ws : List Wy) (st : Int) (va : BitVec 64) (f : Lf) (w : World) (h : Tb w 94 99 p q ws st) (hf : mayP va f = true) : Calls Try.prog 36 #[.pointer (some ⟨p, 0, none⟩), .int .u64 (va.toNat : Int), .agg (lfC f)] w fun e w' =>
    e = .returned (.int .i64 0) ∧ Tb w' 94 99 p q (ws.set (roomN ws st va) (newY va f)) (touch st ws.length (roomN ws st va)) ∧ Only [p, q] w w' := by
  obtain ⟨lv, p0, p1, p2, en⟩ := f
  unfold mayP at hf
  simp only [Bool.and_eq_true, decide_eq_true_eq] at hf
  obtain ⟨⟨h0, h2⟩, hpr⟩ := hf
  obtain ⟨l, rfl⟩ : ∃ l : Nat, lv = (l : Int) := ⟨lv.toNat, by omega⟩
  have cP := Lib.hid (proper_any va)
  rw [hpr] at cP
  have hr := room_lt ws st va h.len
  have HT := Lib.hid (h.below ((Below.refl w.heap.size w).alloc (Nat.le_refl _) (.cells (lfC ⟨(l : Int), p0, p1, p2, en⟩) 29)))
  have hb0 := Lib.hid (Bk.new w (lfC ⟨(l : Int), p0, p1, p2, en⟩) 29)
  have cR := Lib.hid (fun W hW => room_any p q ws st va W hW)
  have cVp := Lib.hid (vpn_any va l (by omega))
  have hm : (ws.length : Int) ≤ 8 := by have := h.len; omega
  have pl := h.pl
  have ql := h.ql
  have hn0 : decide ((l : Int) < 0) = false := decide_eq_false (by omega)
  have hn2 : decide (2 < (l : Int)) = false := decide_eq_false (by omega)
  clear h hpr
  unfold lfC
  unfold lfC at HT hb0
  generalize hR : roomN ws st va = r at cR hr ⊢
  clear hR
  go_enter Try.func36, Try.ntmps36
  go_wp2_with fail
  refine (cP.out _).mono ?_
  rintro e w1 ⟨rfl, hq1⟩
  have HT1 := Lib.hid (HT.out.quiet hq1)
  have hb1 := Lib.hid (hb0.out.quiet hq1)
  have ho1 := Lib.hid (only_below (((Below.refl w.heap.size w).alloc (Nat.le_refl _) (.cells #[.int .i64 (l : Int), .int .u64 p0, .int .u64 p1, .int .u64 p2, .int .u64 en] 29)).trans (hq1.below _)) [p, q])
  clear hq1 HT hb0
  go_wp2_with fail
  refine (cR.out _ HT1.out).mono ?_
  rintro e w2 ⟨rfl, hbe2⟩
  have HT2 := Lib.hid (HT1.out.below hbe2)
  have hb2 := Lib.hid (hb1.out.below hbe2)
  have ho2 := Lib.hid (ho1.out.make hbe2)
  obtain ⟨c, hb⟩ := HT2.out.box
  have c0 := hb.get (o := 0) rfl
  obtain ⟨d0, d1, d2, d3, d4, d5, d6⟩ := HT2.out.way r hr
  have b0 := hb2.out.get (o := 0) rfl
  have b1 := hb2.out.get (o := 1) rfl
  have b2 := hb2.out.get (o := 2) rfl
  have b3 := hb2.out.get (o := 3) rfl
  have b4 := hb2.out.get (o := 4) rfl
  have bf : ∀ o, w2.frozen? ⟨q, o, none⟩ = false := HT2.out.free.2
  have i1 : (0 : Int) ≤ (r : Int) := by omega
  have i2 : (r : Int) < (ws.length : Int) := by omega
  clear hbe2 HT1 hb1 ho1 hb
  go_wp2_with fail
  go_region_with (go_at_call 63; refine (cVp.out _).mono ?_; rintro e w3 ⟨rfl, k3, rfl⟩)
  all_goals
    have ht0 : Tb (((((((((w2.drewN (1 + k3)).setCell ⟨q, r * 7, none⟩ (.bool true)).setCell ⟨q, r * 7 + 1, none⟩ (.int .u64 ((vpnW va l).toNat : Int))).setCell ⟨q, r * 7 + 2, none⟩ (.int .i64 (l : Int))).setCell ⟨q, r * 7 + 3, none⟩ (.int .u64 p0)).setCell ⟨q, r * 7 + 4, none⟩ (.int .u64 p1)).setCell ⟨q, r * 7 + 5, none⟩ (.int .u64 p2)).setCell ⟨q, r * 7 + 6, none⟩ (.int .u64 en))) 94 99 p q (ws.set r (newY va ⟨(l : Int), p0, p1, p2, en⟩)) st := (HT2.out.quiet (w' := w2.drewN (1 + k3)) ⟨_, rfl⟩).put r hr (newY va ⟨(l : Int), p0, p1, p2, en⟩) (fun _ => ⟨by show (0 : Int) ≤ (l : Int); omega, by show (l : Int) ≤ 2; omega⟩)
    have ht := Lib.hid ht0
    clear ht0
    have ho : Only [p, q] w2 (((((((((w2.drewN (1 + k3)).setCell ⟨q, r * 7, none⟩ (.bool true)).setCell ⟨q, r * 7 + 1, none⟩ (.int .u64 ((vpnW va l).toNat : Int))).setCell ⟨q, r * 7 + 2, none⟩ (.int .i64 (l : Int))).setCell ⟨q, r * 7 + 3, none⟩ (.int .u64 p0)).setCell ⟨q, r * 7 + 4, none⟩ (.int .u64 p1)).setCell ⟨q, r * 7 + 5, none⟩ (.int .u64 p2)).setCell ⟨q, r * 7 + 6, none⟩ (.int .u64 en))) :=
      ((((((((Only.refl [p, q] w2).drewN _).set (.inl (by simp)) _ _).set (.inl (by simp)) _ _).set (.inl (by simp)) _ _).set (.inl (by simp)) _ _).set (.inl (by simp)) _ _).set (.inl (by simp)) _ _).set (.inl (by simp)) _ _
    have HO := Lib.hid (ho2.out.also ho)
    clear ho c0 d0 d1 d2 d3 d4 d5 d6 b0 b1 b2 b3 b4 bf
    go_wp2_with fail
    refine (tb_touch p q _ st (r : Int) _ ht.out).mono ?_
    rintro e w4 ⟨rfl, hT4, hj4⟩
    rw [List.length_set] at hT4
    have HT4 := Lib.hid hT4
    have HJ4 := Lib.hid hj4
    clear hT4 hj4
    go_wp2_with fail
    go_ret
    exact ⟨rfl, HT4.out, HO.out.trans HJ4.out.only (fun x hx => .inl (by simp at hx; simp [hx]))⟩
theorem put_bad (p q : Nat) (ws : List Wy) (st : Int) (va : BitVec 64) (f : Lf) (w : World) (h : Tb w 94 99 p q ws st) (hf : mayP va f = false) : Calls Try.prog 36 #[.pointer (some ⟨p, 0, none⟩), .int .u64 (va.toNat : Int), .agg (lfC f)] w fun e w' =>
    e = .returned (.int .i64 1) ∧ Below w.heap.size w w' := by
  obtain ⟨lv, p0, p1, p2, en⟩ := f
  unfold lfC
  clear h
  by_cases h0 : lv < 0
  · go_enter Try.func36, Try.ntmps36
    go_wp2_with fail
    go_ret
    exact ⟨rfl, (Below.refl _ _).alloc (Nat.le_refl _) _⟩
  have hn0 : decide (lv < 0) = false := decide_eq_false h0
  by_cases h2 : 2 < lv
  · clear hf
    go_enter Try.func36, Try.ntmps36
    go_wp2_with fail
    go_ret
    exact ⟨rfl, (Below.refl _ _).alloc (Nat.le_refl _) _⟩
  have hn2 : decide (2 < lv) = false := decide_eq_false h2
  have hpr : properB va = false := by
    unfold mayP at hf
    simp only at hf
    rw [decide_eq_true (show 0 ≤ lv by omega), decide_eq_true (show lv ≤ 2 by omega)] at hf
    simpa using hf
  have cP := Lib.hid (proper_any va)
  rw [hpr] at cP
  clear hf hpr
  go_enter Try.func36, Try.ntmps36
  go_wp2_with fail
  refine (cP.out _).mono ?_
  rintro e w1 ⟨rfl, hq1⟩
  go_wp2_with fail
  go_ret
  exact ⟨rfl, ((Below.refl _ _).alloc (Nat.le_refl _) _).trans (hq1.below _)⟩
theorem put_any (p q : Nat) (ws : List Wy) (st : Int) (va : BitVec 64) (f : Lf) (w : World) (h : Tb w 94 99 p q ws st) : Calls Try.prog 36 #[.pointer (some ⟨p, 0, none⟩), .int .u64 (va.toNat : Int), .agg (lfC f)] w fun e w' =>
    e = .returned (.int .i64 (if mayP va f = true then 0 else 1)) ∧ Tb w' 94 99 p q (putWs ws st va f) (putSt ws st va f) ∧ Only [p, q] w w' := by
  unfold putWs putSt
  cases hf : mayP va f with
  | true => exact put_ok p q ws st va f w h hf
  | false =>
    refine (put_bad p q ws st va f w h hf).mono ?_
    rintro e w' ⟨he, hb⟩
    exact ⟨he, h.below hb, only_below hb _⟩
end Go.Proofs.Ythjhcdkbajbpdaa
