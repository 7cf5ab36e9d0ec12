/- Contracts: entries forgotten; all emptied; another one, alike. -/
import Derived.Test.YthjhcdkbajbpdaaTlbNew
import Derived.RegionTactic
import Derived.ChangeAlike
import Derived.Outline
namespace Go.Proofs.Ythjhcdkbajbpdaa
open Go.RowKit Wd
set_option linter.unusedVariables false
set_option linter.unusedSimpArgs false
set_option maxRecDepth 8000
attribute [local go_sem] mk_2 mk_4 mk_8
theorem flush_tb (n : Nat) (hn : n = 2 ∨ n = 4 ∨ n = 8) (p c : Nat) (A : Option Addr) (st : Int) (w : World) (tT tW : TypeId) (h : Bk w p #[.slice A n c, .int .i64 st] tT) :
    Tb (((w.setCell ⟨p, 0, none⟩ (.slice (some ⟨w.heap.size, 0, none⟩) n n)).setCell ⟨p, 1, none⟩ (.int .i64 0)).alloc (.cells (mkC n) tW)) tT tW p w.heap.size (mkW n) 0 ∧
    Only [p] w (((w.setCell ⟨p, 0, none⟩ (.slice (some ⟨w.heap.size, 0, none⟩) n n)).setCell ⟨p, 1, none⟩ (.int .i64 0)).alloc (.cells (mkC n) tW)) := by
  have hp := h.lt
  refine ⟨tb_made (c := n) hn ?_ ?_ (by omega), (((Only.refl [p] w).set (.inl (by simp)) 0 _).set (.inl (by simp)) 1 _).alloc _⟩
  · have := ((h.set 0 (.slice (some ⟨w.heap.size, 0, none⟩) n n)).set 1 (.int .i64 0)).alloc (.cells (mkC n) tW)
    simpa using this
  · have := Bk.new ((w.setCell ⟨p, 0, none⟩ (.slice (some ⟨w.heap.size, 0, none⟩) n n)).setCell ⟨p, 1, none⟩ (.int .i64 0)) (mkC n) tW
    simpa using this
set_option maxHeartbeats 1000000 in
theorem flush_any (p q : Nat) (ws : List Wy) (st : Int) (w : World) (h : Tb w 94 99 p q ws st) : Calls Try.prog 40 #[.pointer (some ⟨p, 0, none⟩)] w fun e w' =>
    e = .returned (.tuple #[]) ∧ Tb w' 94 99 p w.heap.size (mkW ws.length) 0 ∧ Only [p] w w' := by
  obtain ⟨c, hb⟩ := h.box
  have hl := h.len
  have c0 := hb.get (o := 0) rfl
  have c1 := hb.get (o := 1) rfl
  have f0 : ∀ o, w.frozen? ⟨p, o, none⟩ = false := hb.free
  have HB := Lib.hid hb
  have hp := hb.lt
  generalize ws.length = n at *
  clear h hb
  rcases hl with rfl | rfl | rfl
  all_goals
    go_enter Try.func40, Try.ntmps40
    go_wp2_with fail
    refine bodyPost_end (results_none rfl _ _ _) rfl ?_
  · exact ⟨rfl, flush_tb 2 (.inl rfl) p c _ st w _ _ HB.out⟩
  · exact ⟨rfl, flush_tb 4 (.inr (.inl rfl)) p c _ st w _ _ HB.out⟩
  · exact ⟨rfl, flush_tb 8 (.inr (.inr rfl)) p c _ st w _ _ HB.out⟩
namespace Wd
def pathY (y : Wy) (k : Nat) : Int := if k = 0 then y.p0 else if k = 1 then y.p1 else y.p2
/-- Came a way's entry by a place, one of the first k? -/
def byF (y : Wy) (pa : Int) : Nat → Bool
  | 0 => false
  | k + 1 => byF y pa k || (pathY y k == pa)
def hitB (y : Wy) (pa : Int) : Bool := y.is && byF y pa (3 - y.lv).toNat
theorem byF_mono (y : Wy) (pa : Int) (k : Nat) (h : byF y pa k = true) : ∀ m, k ≤ m → byF y pa m = true
  | 0, hm => by
    have : k = 0 := by omega
    rw [← this]
    exact h
  | m + 1, hm => by
    by_cases e : k = m + 1
    · rw [← e]; exact h
    · unfold byF
      rw [byF_mono y pa k h m (by omega)]
      rfl
/-- The ways behind m of them looked at. -/
def forW (ws : List Wy) (pa : Int) : Nat → List Wy
  | 0 => ws
  | m + 1 => if hitB (wyAt ws m) pa = true then (forW ws pa m).set m noWy else forW ws pa m
def forN (ws : List Wy) (pa : Int) : Nat → Nat
  | 0 => 0
  | m + 1 => if hitB (wyAt ws m) pa = true then forN ws pa m + 1 else forN ws pa m
theorem forW_len (ws : List Wy) (pa : Int) : ∀ m, (forW ws pa m).length = ws.length
  | 0 => rfl
  | m + 1 => by
    unfold forW
    split
    · rw [List.length_set]; exact forW_len ws pa m
    · exact forW_len ws pa m
theorem forN_le (ws : List Wy) (pa : Int) : ∀ m, forN ws pa m ≤ m
  | 0 => Nat.le_refl _
  | m + 1 => by
    have := forN_le ws pa m
    unfold forN
    split <;> omega
theorem forW_at (ws : List Wy) (pa : Int) : ∀ m, m ≤ ws.length → ∀ i, wyAt (forW ws pa m) i = if i < m ∧ hitB (wyAt ws i) pa = true then noWy else wyAt ws i
  | 0, _, i => by rw [if_neg (by omega)]; rfl
  | m + 1, hm, i => by
    unfold forW
    by_cases hh : hitB (wyAt ws m) pa = true
    · rw [if_pos hh, wyAt_set _ _ _ (by rw [forW_len]; omega), forW_at ws pa m (by omega) i]
      by_cases e : i = m
      · subst e
        rw [if_pos rfl, if_pos ⟨by omega, hh⟩]
      · rw [if_neg e]
        by_cases k : i < m ∧ hitB (wyAt ws i) pa = true
        · rw [if_pos k, if_pos ⟨by omega, k.2⟩]
        · rw [if_neg k, if_neg (fun q => k ⟨by omega, q.2⟩)]
    · rw [if_neg hh, forW_at ws pa m (by omega) i]
      by_cases k : i < m ∧ hitB (wyAt ws i) pa = true
      · rw [if_pos k, if_pos ⟨by omega, k.2⟩]
      · rw [if_neg k, if_neg (fun q => k ⟨by
          rcases Nat.lt_or_ge i m with h1 | h1
          · exact h1
          · obtain rfl : i = m := by omega
            exact absurd q.2 hh, q.2⟩)]
end Wd
theorem Tb.path {w : World} {tT tW : TypeId} {p q : Nat} {ws : List Wy} {st : Int} (h : Tb w tT tW p q ws st) (i : Nat) (hi : i < ws.length) (k : Nat) (hk : k < 3) : w.cell? ⟨q, i * 7 + 3 + k, none⟩ = some (.int .u64 (pathY (wyAt ws i) k)) := by
  obtain ⟨_, _, _, d3, d4, d5, _⟩ := h.way i hi
  match k, hk with
  | 0, _ => exact d3
  | 1, _ => exact d4
  | 2, _ => exact d5
set_option maxHeartbeats 4000000 in
theorem forget_any (p q : Nat) (ws : List Wy) (st : Int) (pa : Int) (w : World) (h : Tb w 94 99 p q ws st) : Calls Try.prog 39 #[.pointer (some ⟨p, 0, none⟩), .int .u64 pa] w fun e w' =>
    e = .returned (.int .i64 (forN ws pa ws.length : Int)) ∧ Tb w' 94 99 p q (forW ws pa ws.length) st ∧ Only [q] w w' := by
  obtain ⟨c, hb⟩ := h.box
  have hlen := h.len
  have c0 := hb.get (o := 0) rfl
  have H := Lib.hid h
  have hmx : (ws.length : Int) ≤ 8 := by omega
  clear h hb hlen
  go_enter Try.func39, Try.ntmps39
  go_wp2_with fail
  go_loopw [5, 16] (fun n i wr => ∃ m : Nat, m ≤ ws.length ∧ i = .int .i64 (m : Int) ∧ n = .int .i64 (forN ws pa m : Int) ∧ Tb wr 94 99 p q (forW ws pa m) st ∧ Only [q] w wr) (fun _ i _ => ws.length - (intOf i).toNat)
  case atStart => exact ⟨0, Nat.zero_le _, rfl, rfl, H.out, Only.refl _ _⟩
  case round =>
    clear c0
    obtain ⟨m, hm, rfl, rfl, hT, hO⟩ := hrel
    obtain ⟨wo, rfl⟩ : ∃ wo : World, wo = wr := ⟨_, rfl⟩
    have HT := Lib.hid hT
    have HO := Lib.hid hO
    obtain ⟨c2, hb2⟩ := hT.box
    have c0 := hb2.get (o := 0) rfl
    rw [forW_len] at c0
    have hnl := forN_le ws pa m
    clear hT hO hb2
    by_cases hlt : m < ws.length
    · have hml := Lib.hid (show m < (forW ws pa m).length by rw [forW_len]; exact hlt)
      have hat := Lib.hid (show wyAt (forW ws pa m) m = wyAt ws m by rw [forW_at ws pa m hm, if_neg (by omega)])
      go_wp2_with fail
      have hstep0 := Lib.hid (fun h : hitB (wyAt ws m) pa = false => (show forN ws pa (m + 1) = forN ws pa m ∧ forW ws pa (m + 1) = forW ws pa m from ⟨by rw [forN, if_neg (by rw [h]; simp)], by rw [forW, if_neg (by rw [h]; simp)]⟩))
      have hstep1 := Lib.hid (fun h : hitB (wyAt ws m) pa = true => (show forN ws pa (m + 1) = forN ws pa m + 1 ∧ forW ws pa (m + 1) = (forW ws pa m).set m noWy from ⟨by rw [forN, if_pos h], by rw [forW, if_pos h]⟩))
      go_loopw [5, 8] (fun n k wr => ∃ j : Nat, k = .int .i64 (j : Int) ∧ j ≤ 3 ∧ Only [q] w wr ∧
        ((n = .int .i64 (forN ws pa m : Int) ∧ Tb wr 94 99 p q (forW ws pa m) st ∧ byF (wyAt ws m) pa j = false ∧ ((wyAt ws m).is = true → (j : Int) ≤ 3 - (wyAt ws m).lv)) ∨
         (n = .int .i64 ((forN ws pa m : Int) + 1) ∧ Tb wr 94 99 p q ((forW ws pa m).set m noWy) st ∧ hitB (wyAt ws m) pa = true))) (fun _ k _ => 3 - (intOf k).toNat)
      case atStart => exact ⟨0, rfl, by omega, HO.out, .inl ⟨rfl, HT.out, rfl, fun h => by have := H.out.ok m h; omega⟩⟩
      case round =>
        clear c0
        obtain ⟨j, rfl, hj3, hOi, hrel⟩ := hrel
        have HOi := Lib.hid hOi
        clear hOi
        rcases hrel with ⟨rfl, hTi, hby, hlv⟩ | ⟨rfl, hTi, hhit⟩
        · have HTi := Lib.hid hTi
          have HBY := Lib.hid hby
          obtain ⟨d0, d1, d2, d3, d4, d5, d6⟩ := hTi.way m hml.out
          rw [hat.out] at d0 d1 d2 d3 d4 d5 d6
          cases his : (wyAt ws m).is with
          | false =>
            have hh := Lib.hid (hstep0.out (show hitB (wyAt ws m) pa = false by unfold hitB; rw [his]; rfl))
            rw [his] at d0
            clear his hTi hby hlv
            go_wp2_with fail
            go_roundw
            case rel => exact ⟨m + 1, by omega, by go_num, by rw [hh.out.1], by rw [hh.out.2]; exact HTi.out, HOi.out⟩
            case measure => simp [intOf]; omega
          | true =>
            have hok := H.out.ok m his
            have hlv1 := hlv his
            obtain ⟨l, hl⟩ : ∃ l : Nat, (wyAt ws m).lv = (l : Int) := ⟨(wyAt ws m).lv.toNat, by omega⟩
            have HL := Lib.hid hl
            have HIS := Lib.hid his
            rw [his] at d0
            rw [hl] at d2 hok hlv1
            have hl2 : (l : Int) ≤ 2 := hok.2
            have hl0 : (0 : Int) ≤ (l : Int) := hok.1
            by_cases hjl : (j : Int) < 3 - (l : Int)
            · have dp := HTi.out.path m hml.out j (by omega)
              rw [hat.out] at dp
              have ff := HTi.out.free.2
              have j3 : (j : Int) < 3 := by omega
              have j0 : (0 : Int) ≤ (j : Int) := by omega
              by_cases hpa : pathY (wyAt ws m) j = pa
              · have hhit := Lib.hid (show hitB (wyAt ws m) pa = true by
                  unfold hitB
                  rw [HIS.out, Bool.true_and]
                  refine byF_mono _ _ (j + 1) ?_ _ (by rw [HL.out]; omega)
                  unfold byF
                  rw [hpa]
                  simp)
                rw [hpa] at dp
                have hT2 := HTi.out.put m hml.out noWy (fun h => by cases h)
                have HT2 := Lib.hid hT2
                clear hpa his hTi hby hlv hl hok hlv1 hT2
                go_wp2_with fail
                go_roundw
                case rel => exact ⟨j + 1, by go_num, by omega, ((((((HOi.out.set (.inl (by simp)) _ _).set (.inl (by simp)) _ _).set (.inl (by simp)) _ _).set (.inl (by simp)) _ _).set (.inl (by simp)) _ _).set (.inl (by simp)) _ _).set (.inl (by simp)) _ _, .inr ⟨by go_num, HT2.out, hhit.out⟩⟩
                case measure => simp [intOf]; omega
              · have hne : (pathY (wyAt ws m) j == pa) = false := beq_eq_false_iff_ne.2 hpa
                have HNE := Lib.hid hne
                generalize pathY (wyAt ws m) j = pj at dp hne
                clear hpa his hTi hby hlv hl hok hlv1
                go_wp2_with fail
                go_roundw
                case rel => exact ⟨j + 1, by go_num, by omega, HOi.out, .inl ⟨rfl, HTi.out, by unfold byF; rw [HBY.out, HNE.out]; rfl, fun _ => by rw [HL.out]; omega⟩⟩
                case measure => simp [intOf]; omega
            · have hh := Lib.hid (hstep0.out (show hitB (wyAt ws m) pa = false by
                unfold hitB
                rw [HL.out, show (3 - (l : Int)).toNat = j by omega, HBY.out, Bool.and_false]))
              clear his hTi hby hlv hl hok
              go_wp2_with fail
              go_roundw
              case rel => exact ⟨m + 1, by omega, by go_num, by rw [hh.out.1], by rw [hh.out.2]; exact HTi.out, HOi.out⟩
              case measure => simp [intOf]; omega
        · have HTi := Lib.hid hTi
          obtain ⟨d0, d1, d2, d3, d4, d5, d6⟩ := hTi.way m (by rw [List.length_set]; exact hml.out)
          rw [wyAt_set _ _ _ hml.out, if_pos rfl] at d0
          have d0' : wr.cell? ⟨q, m * 7, none⟩ = some (.bool false) := d0
          have hh := Lib.hid (hstep1.out hhit)
          clear hTi hhit d0 d1 d2 d3 d4 d5 d6
          go_wp2_with fail
          go_roundw
          case rel => exact ⟨m + 1, by omega, by go_num, by rw [hh.out.1]; go_num, by rw [hh.out.2]; exact HTi.out, HOi.out⟩
          case measure => simp [intOf]; omega
    · obtain rfl : m = ws.length := by omega
      go_wp2_with fail
      go_ret
      exact ⟨rfl, HT.out, HO.out⟩
end Go.Proofs.Ythjhcdkbajbpdaa
