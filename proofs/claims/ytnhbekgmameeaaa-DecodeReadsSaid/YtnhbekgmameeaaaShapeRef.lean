/- Contracts of package tappetref02's immediates: From, Imm. -/
import Derived.Test.YtnhbekgmameeaaaShape
namespace Go.Proofs.Ytnhbekgmameeaaa
open Go.RowKit Wd

/-- Integers stand in block b. -/
def Nums (w : World) (b : Nat) (l : List Int) : Prop := b < w.heap.size ∧ ∀ k, k < l.length → w.cell? ⟨b, k, none⟩ = some (.int .i64 (l.getD k (-1)))
theorem Nums.below {w w' : World} {b : Nat} {l : List Int} (h : Nums w b l) (hb : Below w.heap.size w w') : Nums w' b l :=
  ⟨by have := hb.size; have := h.1; omega, fun k hk => (hb.cell (p := ⟨b, k, none⟩) h.1).trans (h.2 k hk)⟩
theorem nums_new (w : World) (l : List Int) (t : TypeId) : Nums (w.alloc (.cells (l.map (Value.int .i64)).toArray t)) w.heap.size l := by
  have hg : (w.alloc (.cells (l.map (Value.int .i64)).toArray t)).heap[w.heap.size]? = some (.cells (l.map (Value.int .i64)).toArray t (0, 0)) := by
    show (w.heap.push _)[w.heap.size]? = _
    simp
  refine ⟨by simp, fun k hk => ?_⟩
  rw [cell_of_row _ _ _ _ _ (0, 0) hg]
  simp [List.getD, hk]
def Lists (l : List Int) (w : World) (e : Ending) (w' : World) : Prop := ∃ b, e = .returned (.slice (some ⟨b, 0, none⟩) l.length l.length) ∧ Nums w' b l ∧ Below w.heap.size w w'

def lI : List Int := [20, 21, 22, 23, 24, 25, 26, 27, 28, 29, 30, 31]
def lS : List Int := [7, 8, 9, 10, 11, 25, 26, 27, 28, 29, 30, 31]
def lB : List Int := [-1, 8, 9, 10, 11, 25, 26, 27, 28, 29, 30, 7, 31]
def lU : List Int := [-1, -1, -1, -1, -1, -1, -1, -1, -1, -1, -1, -1, 12, 13, 14, 15, 16, 17, 18, 19, 20, 21, 22, 23, 24, 25, 26, 27, 28, 29, 30, 31]
def lJ : List Int := [-1, 21, 22, 23, 24, 25, 26, 27, 28, 29, 30, 20, 12, 13, 14, 15, 16, 17, 18, 19, 31]

theorem fromI_any (wd : World) : Calls Try.prog 110 #[.int .u8 73] wd (Lists lI wd) := by
  have HP := Lib.hid (nums_new wd lI 3)
  go_enter Try.func110, Try.ntmps110
  go_wp2
  go_ret
  exact ⟨wd.heap.size, rfl, HP.out, (Below.refl _ _).alloc (Nat.le_refl _) _⟩

theorem fromS_any (wd : World) : Calls Try.prog 110 #[.int .u8 83] wd (Lists lS wd) := by
  have HP := Lib.hid (nums_new wd lS 3)
  go_enter Try.func110, Try.ntmps110
  go_wp2
  go_ret
  exact ⟨wd.heap.size, rfl, HP.out, (Below.refl _ _).alloc (Nat.le_refl _) _⟩

theorem fromB_any (wd : World) : Calls Try.prog 110 #[.int .u8 66] wd (Lists lB wd) := by
  have HP := Lib.hid (nums_new wd lB 3)
  go_enter Try.func110, Try.ntmps110
  go_wp2
  go_ret
  exact ⟨wd.heap.size, rfl, HP.out, (Below.refl _ _).alloc (Nat.le_refl _) _⟩

theorem fromU_any (wd : World) : Calls Try.prog 110 #[.int .u8 85] wd (Lists lU wd) := by
  have HP := Lib.hid (nums_new wd lU 3)
  go_enter Try.func110, Try.ntmps110
  go_wp2
  go_ret
  exact ⟨wd.heap.size, rfl, HP.out, (Below.refl _ _).alloc (Nat.le_refl _) _⟩

theorem fromJ_any (wd : World) : Calls Try.prog 110 #[.int .u8 74] wd (Lists lJ wd) := by
  have HP := Lib.hid (nums_new wd lJ 3)
  go_enter Try.func110, Try.ntmps110
  go_wp2
  go_ret
  exact ⟨wd.heap.size, rfl, HP.out, (Below.refl _ _).alloc (Nat.le_refl _) _⟩

theorem imm_gen (w : BitVec 32) (c : Int) (l : List Int) (hlen : l.length ≤ 32) (hl : ∀ k, k < l.length → l.getD k (-1) = -1 ∨ (0 ≤ l.getD k (-1) ∧ l.getD k (-1) < 32))
    (hf : ∀ wd : World, Calls Try.prog 110 #[.int .u8 c] wd (Lists l wd)) : Mk Try.prog 87 #[.int .u32 (w.toNat : Int), .int .u8 c] (.int .u64 ((immR w l).toNat : Int)) := by
  intro wd
  have HL := Lib.hid hl
  have HF := Lib.hid hf
  clear hl hf
  go_enter Try.func87, Try.ntmps87
  go_wp2_with (go_at_call 110; refine (HF.out _).mono ?_; rintro e w1 ⟨b, rfl, hp, hb⟩; have HP := Lib.hid hp; have HB1 := Lib.hid hb; clear hp hb)
  go_loopw [6, 7] (fun v i wr => ∃ k : Nat, k ≤ l.length ∧ i = .int .i64 (k : Int) ∧ v = .int .u64 ((refV (W64 w) l k).toNat : Int) ∧ Quiet w1 wr) (fun _ i _ => l.length - (intOf i).toNat)
  case atStart => exact ⟨0, Nat.zero_le _, rfl, rfl, Quiet.refl _⟩
  case round =>
    obtain ⟨k, hk, rfl, rfl, hq⟩ := hrel
    by_cases hlt : k < l.length
    · have hc := (hq.cell ⟨b, k, none⟩).trans (HP.out.2 k hlt)
      have hd := HL.out k hlt
      have HS := Lib.hid (show refV (W64 w) l (k + 1) = if 0 ≤ l.getD k (-1) ∧ (W64 w).getLsbD (l.getD k (-1)).toNat = true then setBit (refV (W64 w) l k) k else refV (W64 w) l k from rfl)
      generalize hx : l.getD k (-1) = x at hc hd HS
      clear hx
      rcases hd with rfl | ⟨h0, h32⟩
      · have he : refV (W64 w) l (k + 1) = refV (W64 w) l k := by rw [HS.out, if_neg (by omega)]
        have HE := Lib.hid he
        clear he HS
        go_wp2
        go_quiet (fail)
        go_wp2
        go_roundw
        case rel => exact ⟨k + 1, by omega, by go_num, by rw [HE.out], hq.drewN _⟩
        case measure => simp [intOf]; omega
      · obtain ⟨s, rfl⟩ := Int.eq_ofNat_of_zero_le h0
        have hs : s < 32 := by omega
        have hfo := fieldI_one w s hs
        by_cases hbit : (W64 w).getLsbD s = true
        · have he : refV (W64 w) l (k + 1) = setBit (refV (W64 w) l k) k := by rw [HS.out, if_pos ⟨by omega, hbit⟩]
          rw [if_pos hbit] at hfo
          have HE := Lib.hid he
          clear he HS
          go_wp2
          go_quiet ((go_at_call 109; exact (rF_any _ _ _).quiet))
          go_wp2
          go_roundw
          case rel => exact ⟨k + 1, by omega, by go_num, val_int (by rw [HE.out]; exact setBit_walk _ _), hq.drewN _⟩
          case measure => simp [intOf]; omega
        · have he : refV (W64 w) l (k + 1) = refV (W64 w) l k := by rw [HS.out, if_neg (by intro h; exact hbit h.2)]
          rw [if_neg hbit] at hfo
          have HE := Lib.hid he
          clear he HS
          go_wp2
          go_quiet ((go_at_call 109; exact (rF_any _ _ _).quiet))
          go_wp2
          go_roundw
          case rel => exact ⟨k + 1, by omega, by go_num, by rw [HE.out], hq.drewN _⟩
          case measure => simp [intOf]; omega
    · have hkl : k = l.length := by omega
      subst hkl
      go_wp2_with (go_at_call 111; refine (rsext_any _ _ _).mono ?_; rintro e w2 ⟨rfl, hq2⟩)
      go_ret
      exact ⟨rfl, HB1.out.trans ((hq.trans hq2).below _)⟩

theorem rimmI_any (w : BitVec 32) : Mk Try.prog 87 #[.int .u32 (w.toNat : Int), .int .u8 73] (.int .u64 ((immR w lI).toNat : Int)) :=
  imm_gen w 73 lI (by decide) (by decide) fromI_any

theorem rimmS_any (w : BitVec 32) : Mk Try.prog 87 #[.int .u32 (w.toNat : Int), .int .u8 83] (.int .u64 ((immR w lS).toNat : Int)) :=
  imm_gen w 83 lS (by decide) (by decide) fromS_any

theorem rimmB_any (w : BitVec 32) : Mk Try.prog 87 #[.int .u32 (w.toNat : Int), .int .u8 66] (.int .u64 ((immR w lB).toNat : Int)) :=
  imm_gen w 66 lB (by decide) (by decide) fromB_any

theorem rimmU_any (w : BitVec 32) : Mk Try.prog 87 #[.int .u32 (w.toNat : Int), .int .u8 85] (.int .u64 ((immR w lU).toNat : Int)) :=
  imm_gen w 85 lU (by decide) (by decide) fromU_any

theorem rimmJ_any (w : BitVec 32) : Mk Try.prog 87 #[.int .u32 (w.toNat : Int), .int .u8 74] (.int .u64 ((immR w lJ).toNat : Int)) :=
  imm_gen w 74 lJ (by decide) (by decide) fromJ_any

end Go.Proofs.Ytnhbekgmameeaaa
