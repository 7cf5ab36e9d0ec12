/- Contract: entries of the document's TLB forgotten. -/
import Derived.Test.YthjhcdkbajbpdaaTlbForget
import Derived.Outline
namespace Go.Proofs.Ythjhcdkbajbpdaa
open Go.RowKit Wd
set_option linter.unusedVariables false
set_option linter.unusedSimpArgs false
set_option maxRecDepth 8000
set_option maxHeartbeats 4000000 in
theorem rforget_any (p q : Nat) (ws : List Wy) (st : Int) (pa : Int) (w : World) (h : Tb w 103 111 p q ws st) : Calls Try.prog 65 #[.pointer (some ⟨p, 0, none⟩), .int .u64 pa] w fun e w' =>
    e = .returned (.int .i64 (forN ws pa ws.length : Int)) ∧ Tb w' 103 111 p q (forW ws pa ws.length) st ∧ Only [q] w w' := by
  have hlen := h.len
  have H := Lib.hid h
  have hmx : (ws.length : Int) ≤ 8 := by omega
  clear h hlen
  go_enter Try.func65, Try.ntmps65
  go_wp2_with fail
  go_loopw [5, 6] (fun n i wr => ∃ m : Nat, m ≤ ws.length ∧ i = .int .i64 (m : Int) ∧ n = .int .i64 (forN ws pa m : Int) ∧ Tb wr 103 111 p q (forW ws pa m) st ∧ Only [q] w wr) (fun _ i _ => ws.length - (intOf i).toNat)
  case atStart => exact ⟨0, Nat.zero_le _, rfl, rfl, H.out, Only.refl _ _⟩
  case round =>
    obtain ⟨m, hm, rfl, rfl, hT, hO⟩ := hrel
    obtain ⟨wo, rfl⟩ : ∃ wo : World, wo = wr := ⟨_, rfl⟩
    have HT := Lib.hid hT
    have HO := Lib.hid hO
    obtain ⟨c2, hb2⟩ := hT.box
    have c0 := hb2.get (o := 0) rfl
    rw [forW_len] at c0
    have hnl := forN_le ws pa m
    clear hT hO hb2
    by_cases hlt : m < ws.length
    · have hml := Lib.hid (show m < (forW ws pa m).length by rw [forW_len]; exact hlt)
      have hat := Lib.hid (show wyAt (forW ws pa m) m = wyAt ws m by rw [forW_at ws pa m hm, if_neg (by omega)])
      have hstep0 := Lib.hid (fun h : hitB (wyAt ws m) pa = false => (show forN ws pa (m + 1) = forN ws pa m ∧ forW ws pa (m + 1) = forW ws pa m from ⟨by rw [forN, if_neg (by rw [h]; simp)], by rw [forW, if_neg (by rw [h]; simp)]⟩))
      have hstep1 := Lib.hid (fun h : hitB (wyAt ws m) pa = true => (show forN ws pa (m + 1) = forN ws pa m + 1 ∧ forW ws pa (m + 1) = (forW ws pa m).set m noWy from ⟨by rw [forN, if_pos h], by rw [forW, if_pos h]⟩))
      obtain ⟨d0, d1, d2, d3, d4, d5, d6⟩ := HT.out.way m hml.out
      rw [hat.out] at d0 d1 d2 d3 d4 d5 d6
      have m0 : (0 : Int) ≤ (m : Int) := by omega
      have m1 : (m : Int) < (ws.length : Int) := by omega
      have ff := HT.out.free.2
      have hT2 := Lib.hid (HT.out.put m hml.out noWy (fun h => by cases h))
      cases his : (wyAt ws m).is with
      | false =>
        have hh := Lib.hid (hstep0.out (show hitB (wyAt ws m) pa = false by unfold hitB; rw [his]; rfl))
        rw [his] at d0
        clear his
        go_wp2_with fail
        go_loop [7, 8] (fun g k => g = .bool false ∧ k = .int .i64 0) (fun _ _ => 0)
        case atStart => exact ⟨rfl, rfl⟩
        case round =>
          obtain ⟨rfl, rfl⟩ := hrel
          go_wp2_with fail
          go_roundw
          case rel => exact ⟨m + 1, by omega, by go_num, by rw [hh.out.1], by rw [hh.out.2]; exact HT.out, HO.out⟩
          case measure => simp [intOf]; omega
      | true =>
        have hok := H.out.ok m his
        obtain ⟨l, hl⟩ : ∃ l : Nat, (wyAt ws m).lv = (l : Int) := ⟨(wyAt ws m).lv.toNat, by omega⟩
        have HL := Lib.hid hl
        have HIS := Lib.hid his
        rw [his] at d0
        rw [hl] at d2 hok
        have hl2 : (l : Int) ≤ 2 := hok.2
        have hl0 : (0 : Int) ≤ (l : Int) := hok.1
        clear his hl hok
        go_wp2_with fail
        go_loop [7, 8] (fun g k => ∃ j : Nat, k = .int .i64 (j : Int) ∧ g = .bool (byF (wyAt ws m) pa j) ∧ (j : Int) ≤ 3 - (l : Int)) (fun _ k => 3 - (intOf k).toNat)
        case atStart => exact ⟨0, rfl, rfl, by omega⟩
        case round =>
          obtain ⟨j, rfl, rfl, hj⟩ := hrel
          by_cases hjl : (j : Int) < 3 - (l : Int)
          · have dp := HT.out.path m hml.out j (by omega)
            rw [hat.out] at dp
            have j3 : (j : Int) < 3 := by omega
            have j0 : (0 : Int) ≤ (j : Int) := by omega
            have hby := Lib.hid (show byF (wyAt ws m) pa (j + 1) = (byF (wyAt ws m) pa j || (pathY (wyAt ws m) j == pa)) from rfl)
            cases hb0 : byF (wyAt ws m) pa j with
            | true =>
              have HB0 := Lib.hid hb0
              clear hb0
              go_wp2_with fail
              go_round
              case rel => exact ⟨j + 1, by go_num, by rw [hby.out, HB0.out]; rfl, by omega⟩
              case measure => simp [intOf]; omega
            | false =>
              have HB0 := Lib.hid hb0
              clear hb0
              go_wp2_with fail
              go_round
              case rel => exact ⟨j + 1, by go_num, by rw [hby.out, HB0.out]; rfl, by omega⟩
              case measure => simp [intOf]; omega
          · have hhit : byF (wyAt ws m) pa j = hitB (wyAt ws m) pa := by
              unfold hitB
              rw [HIS.out, HL.out, show (3 - (l : Int)).toNat = j by omega, Bool.true_and]
            rw [hhit]
            clear hhit
            cases hh : hitB (wyAt ws m) pa with
            | true =>
              have hs := Lib.hid (hstep1.out hh)
              clear hh
              go_wp2_with fail
              go_roundw
              case rel => exact ⟨m + 1, by omega, by go_num, by rw [hs.out.1]; go_num, by rw [hs.out.2]; exact hT2.out, ((((((HO.out.set (.inl (by simp)) _ _).set (.inl (by simp)) _ _).set (.inl (by simp)) _ _).set (.inl (by simp)) _ _).set (.inl (by simp)) _ _).set (.inl (by simp)) _ _).set (.inl (by simp)) _ _⟩
              case measure => simp [intOf]; omega
            | false =>
              have hs := Lib.hid (hstep0.out hh)
              clear hh
              go_wp2_with fail
              go_roundw
              case rel => exact ⟨m + 1, by omega, by go_num, by rw [hs.out.1], by rw [hs.out.2]; exact HT.out, HO.out⟩
              case measure => simp [intOf]; omega
    · obtain rfl : m = ws.length := by omega
      go_wp2_with fail
      go_ret
      exact ⟨rfl, HT.out, HO.out⟩
end Go.Proofs.Ythjhcdkbajbpdaa
