/- Contracts of package tappetref02's forms: fields, lay, With, R, I, S, B, U, J. -/
import Derived.Test.YtnhbekgmameeaaaShapeForms
namespace Go.Proofs.Ytnhbekgmameeaaa
open Go.RowKit Wd

theorem lay_any (op rd f3 rs1 rs2 f7 : Int) (h1 : fitB op 127 = true) (h2 : fitB rd 31 = true) (h3 : fitB f3 7 = true) (h4 : fitB rs1 31 = true) (h5 : fitB rs2 31 = true) (h6 : fitB f7 127 = true) :
    Qt Try.prog 115 #[.int .i64 op, .int .i64 rd, .int .i64 f3, .int .i64 rs1, .int .i64 rs2, .int .i64 f7] (.int .u32 ((layW op rd f3 rs1 rs2 f7).toNat : Int)) := by
  intro w
  rw [fit_iff] at h1 h2 h3 h4 h5 h6
  go_enter Try.func115, Try.ntmps115
  go_wp2
  go_ret
  exact ⟨ret_int (lay_walk _ _ _ _ _ _), Quiet.refl _⟩

theorem with_gen (v : BitVec 32) (c : Int) (imm : Int) (l : List Int) (hlen : l.length ≤ 32) (hl : ∀ k, k < l.length → l.getD k (-1) = -1 ∨ (0 ≤ l.getD k (-1) ∧ l.getD k (-1) < 32))
    (hf : ∀ wd : World, Calls Try.prog 110 #[.int .u8 c] wd (Lists l wd)) : Mk Try.prog 114 #[.int .u32 (v.toNat : Int), .int .u8 c, .int .i64 imm] (.int .u32 ((withW v (BitVec.ofInt 64 imm) l l.length).toNat : Int)) := by
  intro wd
  have HL := Lib.hid hl
  have HF := Lib.hid hf
  clear hl hf
  go_enter Try.func114, Try.ntmps114
  go_wp2_with (go_at_call 110; refine (HF.out _).mono ?_; rintro e w1 ⟨b, rfl, hp, hb⟩; have HP := Lib.hid hp; have HB1 := Lib.hid hb; clear hp hb)
  go_loopw [0, 8] (fun v' i wr => ∃ k : Nat, k ≤ l.length ∧ i = .int .i64 (k : Int) ∧ v' = .int .u32 ((withW v (BitVec.ofInt 64 imm) l k).toNat : Int) ∧ Quiet w1 wr) (fun _ i _ => l.length - (intOf i).toNat)
  case atStart => exact ⟨0, Nat.zero_le _, rfl, rfl, Quiet.refl _⟩
  case round =>
    obtain ⟨k, hk, rfl, rfl, hq⟩ := hrel
    by_cases hlt : k < l.length
    · have hc := (hq.cell ⟨b, k, none⟩).trans (HP.out.2 k hlt)
      have hd := HL.out k hlt
      have HS := Lib.hid (show withW v (BitVec.ofInt 64 imm) l (k + 1) = if 0 ≤ l.getD k (-1) then withB (withW v (BitVec.ofInt 64 imm) l k) (l.getD k (-1)).toNat (bit (BitVec.ofInt 64 imm) k) else withW v (BitVec.ofInt 64 imm) l k from rfl)
      generalize hx : l.getD k (-1) = x at hc hd HS
      clear hx
      rcases hd with rfl | ⟨h0, h32⟩
      · have he : withW v (BitVec.ofInt 64 imm) l (k + 1) = withW v (BitVec.ofInt 64 imm) l k := by rw [HS.out, if_neg (by omega)]
        have HE := Lib.hid he
        clear he HS
        go_wp2
        go_roundw
        case rel => exact ⟨k + 1, by omega, by go_num, by rw [HE.out], hq⟩
        case measure => simp [intOf]; omega
      · obtain ⟨s, rfl⟩ := Int.eq_ofNat_of_zero_le h0
        have hs : s < 32 := by omega
        have ha := and1_walk (BitVec.ofInt 64 imm) k
        rw [← w64] at ha
        cases hbit : bit (BitVec.ofInt 64 imm) k with
        | true =>
          have he : withW v (BitVec.ofInt 64 imm) l (k + 1) = withB (withW v (BitVec.ofInt 64 imm) l k) s true := by rw [HS.out, if_pos (by omega), hbit]; rfl
          rw [hbit, if_pos rfl] at ha
          have HE := Lib.hid he
          clear he HS
          go_wp2
          go_roundw
          case rel => exact ⟨k + 1, by omega, by go_num, val_int (by rw [HE.out]; exact withB_walk1 _ _), hq⟩
          case measure => simp [intOf]; omega
        | false =>
          have he : withW v (BitVec.ofInt 64 imm) l (k + 1) = withB (withW v (BitVec.ofInt 64 imm) l k) s false := by rw [HS.out, if_pos (by omega), hbit]; rfl
          rw [hbit, if_neg (by simp)] at ha
          have HE := Lib.hid he
          clear he HS
          go_wp2
          go_roundw
          case rel => exact ⟨k + 1, by omega, by go_num, val_int (by rw [HE.out]; exact withB_walk0 _ _), hq⟩
          case measure => simp [intOf]; omega
    · have hkl : k = l.length := by omega
      subst hkl
      go_wp2_with fail
      go_ret
      exact ⟨rfl, HB1.out.trans (hq.below _)⟩

theorem fields_any (op f3 f7 : Int) (l : List Int) (hl : l.length ≤ 8) (b : Nat) (wd : World) (hp : Nums wd b l) :
    Calls Try.prog 113 #[.int .i64 op, .int .i64 f3, .int .i64 f7, .slice (some ⟨b, 0, none⟩) l.length l.length] wd fun e w' =>
      e = .returned (.int .i64 (fldE op f3 f7 l)) ∧ Quiet wd w' := by
  have HP := Lib.hid hp
  clear hp
  by_cases h1 : 0 ≤ op ∧ op ≤ 127 ∧ 0 ≤ f3 ∧ f3 ≤ 7 ∧ 0 ≤ f7 ∧ f7 ≤ 127
  · have HE := Lib.hid (show fldE op f3 f7 l = if regsB l then 0 else 1 by unfold fldE; simp only [h1, true_and, and_self])
    obtain ⟨a1, a2, a3, a4, a5, a6⟩ := h1
    go_enter Try.func113, Try.ntmps113
    go_wp2_with fail
    go_loopw [9] (fun i wr => ∃ k : Nat, k ≤ l.length ∧ i = .int .i64 (k : Int) ∧ (∀ j, j < k → fitB (l.getD j (-1)) 31 = true) ∧ Quiet wd wr) (fun i _ => l.length - (intOf i).toNat)
    case atStart => exact ⟨0, Nat.zero_le _, rfl, fun j hj => absurd hj (Nat.not_lt_zero j), Quiet.refl _⟩
    case round =>
      obtain ⟨k, hk, rfl, hf, hq⟩ := hrel
      have HF := Lib.hid hf
      clear hf
      by_cases hlt : k < l.length
      · have hc := (hq.cell ⟨b, k, none⟩).trans (HP.out.2 k hlt)
        have HN := Lib.hid (regs_not l k hlt)
        generalize hx : l.getD k (-1) = x at hc HN
        have HX := Lib.hid hx
        clear hx
        by_cases hx0 : x < 0
        · have HFX := Lib.hid (show fitB x 31 = false by unfold fitB; rw [decide_eq_false (by omega)]; rfl)
          go_wp2_with fail
          go_ret
          exact ⟨ret_int (by rw [HE.out, HN.out HFX.out]; rfl), hq⟩
        · by_cases hx1 : 31 < x
          · have HFX := Lib.hid (show fitB x 31 = false by unfold fitB; rw [decide_eq_false (show ¬ x ≤ 31 by omega)]; simp)
            go_wp2_with fail
            go_ret
            exact ⟨ret_int (by rw [HE.out, HN.out HFX.out]; rfl), hq⟩
          · have HFX := Lib.hid (show fitB x 31 = true by rw [fit_iff]; omega)
            go_wp2_with fail
            go_roundw
            case rel => exact ⟨k + 1, by omega, by go_num, fun j hj => by
              by_cases e : j = k
              · rw [e, HX.out]; exact HFX.out
              · exact HF.out j (by omega), hq⟩
            case measure => simp [intOf]; omega
      · have hkl : k = l.length := by omega
        subst hkl
        go_wp2_with fail
        go_ret
        exact ⟨ret_int (by rw [HE.out, (regs_iff l).2 HF.out]; rfl), hq⟩
  · have HE := Lib.hid (show fldE op f3 f7 l = 1 by unfold fldE; rw [if_neg (fun h => h1 h.1)])
    have h2 : op < 0 ∨ 127 < op ∨ f3 < 0 ∨ 7 < f3 ∨ f7 < 0 ∨ 127 < f7 := by omega
    clear h1
    by_cases c0 : op < 0
    · clear h2
      go_enter Try.func113, Try.ntmps113
      go_wp2_with fail
      go_ret
      exact ⟨ret_int HE.out.symm, Quiet.refl _⟩
    · skip
      by_cases c1 : 127 < op
      · clear h2
        go_enter Try.func113, Try.ntmps113
        go_wp2_with fail
        go_ret
        exact ⟨ret_int HE.out.symm, Quiet.refl _⟩
      · skip
        by_cases c2 : f3 < 0
        · clear h2
          go_enter Try.func113, Try.ntmps113
          go_wp2_with fail
          go_ret
          exact ⟨ret_int HE.out.symm, Quiet.refl _⟩
        · skip
          by_cases c3 : 7 < f3
          · clear h2
            go_enter Try.func113, Try.ntmps113
            go_wp2_with fail
            go_ret
            exact ⟨ret_int HE.out.symm, Quiet.refl _⟩
          · skip
            by_cases c4 : f7 < 0
            · clear h2
              go_enter Try.func113, Try.ntmps113
              go_wp2_with fail
              go_ret
              exact ⟨ret_int HE.out.symm, Quiet.refl _⟩
            · skip
              have c5 : 127 < f7 := by omega
              clear h2
              go_enter Try.func113, Try.ntmps113
              go_wp2_with fail
              go_ret
              exact ⟨ret_int HE.out.symm, Quiet.refl _⟩
end Go.Proofs.Ytnhbekgmameeaaa
