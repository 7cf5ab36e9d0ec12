/- Contract: the document's TLB: the lowest way whose entry is of an address. -/
import Derived.Test.YthjhcdkbajbpdaaTlbFind
import Derived.BigQuiet
import Derived.Deep.QuietTactic
namespace Go.Proofs.Ythjhcdkbajbpdaa
open Go.RowKit Wd
set_option linter.unusedVariables false
set_option linter.unusedSimpArgs false
set_option maxRecDepth 100000
namespace Wd
def ratAt (ws : List Wy) (va : BitVec 64) : Int := if fndI ws va < ws.length then (fndI ws va : Int) else -1
end Wd
set_option maxHeartbeats 4000000 in
theorem rat_any (p q : Nat) (ws : List Wy) (st : Int) (va : BitVec 64) (w : World) (h : Tb w 103 111 p q ws st) : Calls Try.prog 84 #[.pointer (some ⟨p, 0, none⟩), .int .u64 (va.toNat : Int)] w fun e w' =>
    e = .returned (.int .i64 (ratAt ws va)) ∧ Quiet w w' := by
  have hlen := h.len
  have H := Lib.hid h
  have hmx : (ws.length : Int) ≤ 8 := by omega
  have cR := Lib.hid (tright_any va)
  clear h hlen
  go_enter Try.func84, Try.ntmps84
  go_wp2_with fail
  go_loopw [5] (fun i wr => ∃ k : Nat, k ≤ ws.length ∧ i = .int .i64 (k : Int) ∧ Quiet w wr ∧ ∀ j, j < k → ofB (wyAt ws j) va = false) (fun i _ => ws.length - (intOf i).toNat)
  case atStart => exact ⟨0, Nat.zero_le _, rfl, Quiet.refl _, fun j hj => by omega⟩
  case round =>
    obtain ⟨k, hk, rfl, hq, hno⟩ := hrel
    obtain ⟨m, rfl⟩ := hq
    have HN := Lib.hid hno
    have hT := Lib.hid (H.out.quiet (w' := w.drewN m) ⟨m, rfl⟩)
    obtain ⟨c, hb⟩ := H.out.box
    have c0 : w.cell? ⟨p, 0, none⟩ = some (.slice (some ⟨q, 0, none⟩) ws.length c) := hb.get (o := 0) rfl
    clear hno hb
    by_cases hlt : k < ws.length
    · obtain ⟨d0, d1, d2, d3, d4, d5, d6⟩ := H.out.way k hlt
      have hok := Lib.hid (H.out.ok k)
      have k0 : (0 : Int) ≤ (k : Int) := by omega
      have k1 : (k : Int) < (ws.length : Int) := by omega
      have hstep : Hid (ofB (wyAt ws k) va = false → ∀ j, j < k + 1 → ofB (wyAt ws j) va = false) := fun h j hj => by
        rcases Nat.lt_or_ge j k with h1 | h1
        · exact HN.out j h1
        · obtain rfl : j = k := by omega
          exact h
      cases his : (wyAt ws k).is with
      | false =>
        have HF := Lib.hid (hstep.out (by unfold ofB; rw [his]; rfl))
        rw [his] at d0
        clear his
        go_wp2_with fail
        go_quiet (fail)
        go_wp2_with fail
        go_roundw
        case rel => exact ⟨k + 1, by omega, by go_num, ⟨_, rfl⟩, HF.out⟩
        case measure => simp [intOf]; omega
      | true =>
        cases hpr : properB va with
        | false =>
          have HF := Lib.hid (hstep.out (by unfold ofB; rw [hpr, Bool.and_false]; rfl))
          rw [his] at d0
          rw [hpr] at cR
          clear his hpr
          go_wp2_with fail
          go_quiet ((go_at_call 83; exact cR.out.quiet2))
          go_wp2_with fail
          go_roundw
          case rel => exact ⟨k + 1, by omega, by go_num, ⟨_, rfl⟩, HF.out⟩
          case measure => simp [intOf]; omega
        | true =>
          have hlv := hok.out his
          obtain ⟨l, hl⟩ : ∃ l : Nat, (wyAt ws k).lv = (l : Int) := ⟨(wyAt ws k).lv.toNat, by omega⟩
          have cP := Lib.hid (tpage_any va l (by omega))
          have hof : ofB (wyAt ws k) va = (vpnW va l == (wyAt ws k).vpn) := by
            unfold ofB
            rw [his, hpr, hl]
            rfl
          have e64 := eq64 (vpnW va l) (wyAt ws k).vpn
          rw [← hof] at e64
          rw [his] at d0
          rw [hl] at d2
          rw [hpr] at cR
          have HOF := Lib.hid hof
          clear his hpr hlv hl hof
          generalize vpnW va l = V at cP e64
          cases hh : ofB (wyAt ws k) va with
          | true =>
            have hf := Lib.hid (fnd_hit ws va k hlt HN.out hh)
            rw [hh] at e64
            clear hh
            go_wp2_with fail
            go_quiet ((first | (go_at_call 83; exact cR.out.quiet2) | (go_at_call 86; exact cP.out.quiet2)))
            go_wp2_with fail
            go_ret
            exact ⟨by unfold ratAt; rw [hf.out, if_pos hlt]; rfl, Quiet.drewN ⟨m, rfl⟩ _⟩
          | false =>
            have HF := Lib.hid (hstep.out hh)
            rw [hh] at e64
            clear hh
            go_wp2_with fail
            go_quiet ((first | (go_at_call 83; exact cR.out.quiet2) | (go_at_call 86; exact cP.out.quiet2)))
            go_wp2_with fail
            go_roundw
            case rel => exact ⟨k + 1, by omega, by go_num, ⟨_, rfl⟩, HF.out⟩
            case measure => simp [intOf]; omega
    · have hf := Lib.hid (fnd_miss ws va (fun j hj => HN.out j (by omega)))
      go_wp2_with fail
      go_ret
      exact ⟨by unfold ratAt; rw [hf.out, if_neg (by omega)]; rfl, ⟨_, rfl⟩⟩
end Go.Proofs.Ythjhcdkbajbpdaa
