/- Contracts of package shape's fields and immediates. -/
import Derived.Test.YtnhbekgmameeaaaBits
import Derived.Test.YtnhbekgmameeaaaRefBits
import Derived.Test.YtnhbekgmameeaaaShapePlain
namespace Go.Proofs.Ytnhbekgmameeaaa
open Go.RowKit Wd

theorem field_at (x : Int) (v : BitVec 64) (hx : x = (v.toNat : Int)) (hi lo : Int) : Qt Try.prog 50 #[.int .u64 x, .int .i64 hi, .int .i64 lo] (.int .u64 ((field v hi lo).toNat : Int)) := by
  subst hx
  exact field_any v hi lo
theorem rfield_at (x : Int) (v : BitVec 64) (hx : x = (v.toNat : Int)) (hi lo : Int) : Qt Try.prog 52 #[.int .u64 x, .int .i64 hi, .int .i64 lo] (.int .u64 ((field v hi lo).toNat : Int)) := by
  subst hx
  exact rfield_any v hi lo

theorem sfield_any (w : BitVec 32) (hi lo : Int) : Qt Try.prog 58 #[.int .u32 (w.toNat : Int), .int .i64 hi, .int .i64 lo] (.int .i64 (fieldI w hi lo : Nat)) := by
  intro wd
  have hq := Quiet.refl wd
  have hw : (w.toNat : Int) < 4294967296 := by have := w.isLt; omega
  have hf : ((field (W64 w) hi lo).toNat : Int) < 4294967296 := by have := fieldI_lt w hi lo; unfold fieldI at this; omega
  go_enter Try.func58, Try.ntmps58
  go_wp2_with (go_at_call 50; refine ((field_at _ _ (W64_nat w).symm _ _).at hq).mono ?_; clear hq; rintro e w1 ⟨rfl, hq⟩)
  go_ret
  exact ⟨ret_int (by rfl), hq⟩

theorem rF_any (w : BitVec 32) (hi lo : Int) : Qt Try.prog 109 #[.int .u32 (w.toNat : Int), .int .i64 hi, .int .i64 lo] (.int .i64 (fieldI w hi lo : Nat)) := by
  intro wd
  have hq := Quiet.refl wd
  have hw : (w.toNat : Int) < 4294967296 := by have := w.isLt; omega
  have hf : ((field (W64 w) hi lo).toNat : Int) < 4294967296 := by have := fieldI_lt w hi lo; unfold fieldI at this; omega
  go_enter Try.func109, Try.ntmps109
  go_wp2_with (go_at_call 52; refine ((rfield_at _ _ (W64_nat w).symm _ _).at hq).mono ?_; clear hq; rintro e w1 ⟨rfl, hq⟩)
  go_ret
  exact ⟨ret_int (by rfl), hq⟩

/-- The pieces stand in block b. -/
def Pieces (w : World) (b : Nat) (ps : List Piece) : Prop :=
  b < w.heap.size ∧ ∀ (k : Nat) (p : Piece), ps[k]? = some p → w.cell? ⟨b, k * 3, none⟩ = some (.int .i64 (p.hi : Int)) ∧ w.cell? ⟨b, k * 3 + 1, none⟩ = some (.int .i64 (p.lo : Int)) ∧ w.cell? ⟨b, k * 3 + 2, none⟩ = some (.int .i64 (p.to : Int))
theorem Pieces.below {w w' : World} {b : Nat} {ps : List Piece} (h : Pieces w b ps) (hb : Below w.heap.size w w') : Pieces w' b ps :=
  ⟨by have := hb.size; have := h.1; omega, fun k p hp => by
    obtain ⟨h1, h2, h3⟩ := h.2 k p hp
    exact ⟨(hb.cell (p := ⟨b, k * 3, none⟩) h.1).trans h1, (hb.cell (p := ⟨b, k * 3 + 1, none⟩) h.1).trans h2, (hb.cell (p := ⟨b, k * 3 + 2, none⟩) h.1).trans h3⟩⟩

theorem gather_any (w : BitVec 32) (n : Int) (b : Nat) (ps : List Piece) (hl : ps.length ≤ 8) (hok : ∀ (k : Nat) (p : Piece), ps[k]? = some p → p.lo ≤ p.hi ∧ p.hi < 32 ∧ p.to < 64) (wd : World) (hp : Pieces wd b ps) :
    Calls Try.prog 66 #[.int .u32 (w.toNat : Int), .int .i64 n, .slice (some ⟨b, 0, none⟩) ps.length ps.length] wd fun e w' =>
      e = .returned (.int .u64 ((sext (gat (W64 w) ps ps.length) n).toNat : Int)) ∧ Below wd.heap.size wd w' := by
  have hw : (w.toNat : Int) < 4294967296 := by have := w.isLt; omega
  have HP := Lib.hid hp
  have HO := Lib.hid hok
  clear hp hok
  go_enter Try.func66, Try.ntmps66
  go_wp2_with fail
  go_loopw [7, 12] (fun v i wr => ∃ k : Nat, k ≤ ps.length ∧ i = .int .i64 (k : Int) ∧ v = .int .u64 ((gat (W64 w) ps k).toNat : Int) ∧ Below wd.heap.size wd wr) (fun _ i _ => ps.length - (intOf i).toNat)
  case atStart => exact ⟨0, Nat.zero_le _, rfl, rfl, Below.refl _ _⟩
  case round =>
    obtain ⟨k, hk, rfl, rfl, hb⟩ := hrel
    have HB := Lib.hid hb
    clear hb
    by_cases hlt : k < ps.length
    · obtain ⟨p, hpk⟩ : ∃ p, ps[k]? = some p := ⟨ps[k], List.getElem?_eq_getElem hlt⟩
      obtain ⟨c1, c2, c3⟩ := (HP.out.below HB.out).2 k p hpk
      obtain ⟨o1, o2, o3⟩ := HO.out k p hpk
      have HG := Lib.hid (gat_succ (W64 w) ps k p hpk)
      clear hpk
      go_wp2
      go_quiet ((go_at_call 50; exact (field_at _ _ (W64_nat w).symm _ _).quiet))
      go_wp2
      go_roundw
      case rel => exact ⟨k + 1, by omega, by go_num, val_int (by rw [HG.out]; exact orSh_walk _ _ _), below_drewN (HB.out.alloc HB.out.size _) _⟩
      case measure => simp [intOf]; omega
    · have hkl : k = ps.length := by omega
      subst hkl
      go_wp2_with (go_at_call 80; refine (sext_any _ _ _).mono ?_; rintro e w2 ⟨rfl, hq2⟩)
      go_ret
      exact ⟨rfl, HB.out.trans (hq2.below _)⟩

/-- The cells of a list of pieces. -/
def cellsOf : List Piece → List Value
  | [] => []
  | p :: r => .int .i64 (p.hi : Int) :: .int .i64 (p.lo : Int) :: .int .i64 (p.to : Int) :: cellsOf r
theorem cellsOf_at (ps : List Piece) : ∀ (k : Nat) (p : Piece), ps[k]? = some p → (cellsOf ps)[k * 3]? = some (.int .i64 (p.hi : Int)) ∧ (cellsOf ps)[k * 3 + 1]? = some (.int .i64 (p.lo : Int)) ∧ (cellsOf ps)[k * 3 + 2]? = some (.int .i64 (p.to : Int)) := by
  induction ps with
  | nil => intro k p h; simp at h
  | cons q r ih =>
    intro k p h
    rcases k with _ | k
    · simp at h
      subst h
      exact ⟨rfl, rfl, rfl⟩
    · have h' : r[k]? = some p := by simpa using h
      have e : (k + 1) * 3 = k * 3 + 1 + 1 + 1 := by omega
      obtain ⟨h1, h2, h3⟩ := ih k p h'
      rw [e]
      simp only [cellsOf, List.getElem?_cons_succ, Nat.add_assoc] at *
      exact ⟨h1, h2, h3⟩
theorem pieces_new (w : World) (ps : List Piece) (t : TypeId) : Pieces (w.alloc (.cells (cellsOf ps).toArray t)) w.heap.size ps := by
  have hg : (w.alloc (.cells (cellsOf ps).toArray t)).heap[w.heap.size]? = some (.cells (cellsOf ps).toArray t (0, 0)) := by
    show (w.heap.push _)[w.heap.size]? = _
    simp
  refine ⟨by simp, fun k p h => ?_⟩
  obtain ⟨h1, h2, h3⟩ := cellsOf_at ps k p h
  rw [cell_of_row _ _ _ _ _ (0, 0) hg, cell_of_row _ _ _ _ _ (0, 0) hg, cell_of_row _ _ _ _ _ (0, 0) hg]
  exact ⟨by simpa using h1, by simpa using h2, by simpa using h3⟩
theorem pieces_ok (ps : List Piece) (h : ps.all Piece.ok = true) : ∀ (k : Nat) (p : Piece), ps[k]? = some p → p.lo ≤ p.hi ∧ p.hi < 32 ∧ p.to < 64 := by
  intro k p hp
  have := List.all_eq_true.1 h p (List.mem_of_getElem? hp)
  unfold Piece.ok at this
  simp only [Bool.and_eq_true, decide_eq_true_eq] at this
  omega

/-- The immediate of a form: its pieces, and its bits. -/
def immP (w : BitVec 32) (ps : List Piece) (n : Int) : BitVec 64 := sext (gat (W64 w) ps ps.length) n
def psI : List Piece := [⟨31, 20, 0⟩]
def psS : List Piece := [⟨11, 7, 0⟩, ⟨31, 25, 5⟩]
def psB : List Piece := [⟨11, 8, 1⟩, ⟨30, 25, 5⟩, ⟨7, 7, 11⟩, ⟨31, 31, 12⟩]
def psU : List Piece := [⟨31, 12, 12⟩]
def psJ : List Piece := [⟨30, 21, 1⟩, ⟨20, 20, 11⟩, ⟨19, 12, 12⟩, ⟨31, 31, 20⟩]

/-- A call that lays a list of pieces into new memory. -/
def Lays (ps : List Piece) (w : World) (e : Ending) (w' : World) : Prop := ∃ b, e = .returned (.slice (some ⟨b, 0, none⟩) ps.length ps.length) ∧ Pieces w' b ps ∧ Below w.heap.size w w'

theorem ofI_any (wd : World) : Calls Try.prog 61 #[] wd (Lays psI wd) := by
  have hp : Pieces (wd.alloc (.cells #[.int .i64 31, .int .i64 20, .int .i64 0] 73)) wd.heap.size psI := pieces_new wd psI 73
  have HP := Lib.hid hp
  clear hp
  go_enter Try.func61, Try.ntmps61
  go_wp2
  go_ret
  exact ⟨wd.heap.size, rfl, HP.out, (Below.refl _ _).alloc (Nat.le_refl _) _⟩

theorem immI_any (w : BitVec 32) : Mk Try.prog 34 #[.int .u32 (w.toNat : Int)] (.int .u64 ((immP w psI 12).toNat : Int)) := by
  intro wd
  go_enter Try.func34, Try.ntmps34
  go_wp2_with (first
    | (go_at_call 61; refine (ofI_any _).mono ?_; rintro e w1 ⟨b, rfl, hp, hb⟩; have HP := Lib.hid hp; clear hp)
    | (go_at_call 66; refine (gather_any w 12 b psI (by decide) (pieces_ok _ (by decide)) _ HP.out).mono ?_; rintro e w2 ⟨rfl, hb2⟩))
  go_ret
  exact ⟨rfl, hb.trans (hb2.mono hb.size)⟩

theorem ofS_any (wd : World) : Calls Try.prog 62 #[] wd (Lays psS wd) := by
  have hp : Pieces (wd.alloc (.cells #[.int .i64 11, .int .i64 7, .int .i64 0, .int .i64 31, .int .i64 25, .int .i64 5] 73)) wd.heap.size psS := pieces_new wd psS 73
  have HP := Lib.hid hp
  clear hp
  go_enter Try.func62, Try.ntmps62
  go_wp2
  go_ret
  exact ⟨wd.heap.size, rfl, HP.out, (Below.refl _ _).alloc (Nat.le_refl _) _⟩

theorem immS_any (w : BitVec 32) : Mk Try.prog 35 #[.int .u32 (w.toNat : Int)] (.int .u64 ((immP w psS 12).toNat : Int)) := by
  intro wd
  go_enter Try.func35, Try.ntmps35
  go_wp2_with (first
    | (go_at_call 62; refine (ofS_any _).mono ?_; rintro e w1 ⟨b, rfl, hp, hb⟩; have HP := Lib.hid hp; clear hp)
    | (go_at_call 66; refine (gather_any w 12 b psS (by decide) (pieces_ok _ (by decide)) _ HP.out).mono ?_; rintro e w2 ⟨rfl, hb2⟩))
  go_ret
  exact ⟨rfl, hb.trans (hb2.mono hb.size)⟩

theorem ofB_any (wd : World) : Calls Try.prog 63 #[] wd (Lays psB wd) := by
  have hp : Pieces (wd.alloc (.cells #[.int .i64 11, .int .i64 8, .int .i64 1, .int .i64 30, .int .i64 25, .int .i64 5, .int .i64 7, .int .i64 7, .int .i64 11, .int .i64 31, .int .i64 31, .int .i64 12] 73)) wd.heap.size psB := pieces_new wd psB 73
  have HP := Lib.hid hp
  clear hp
  go_enter Try.func63, Try.ntmps63
  go_wp2
  go_ret
  exact ⟨wd.heap.size, rfl, HP.out, (Below.refl _ _).alloc (Nat.le_refl _) _⟩

theorem immB_any (w : BitVec 32) : Mk Try.prog 36 #[.int .u32 (w.toNat : Int)] (.int .u64 ((immP w psB 13).toNat : Int)) := by
  intro wd
  go_enter Try.func36, Try.ntmps36
  go_wp2_with (first
    | (go_at_call 63; refine (ofB_any _).mono ?_; rintro e w1 ⟨b, rfl, hp, hb⟩; have HP := Lib.hid hp; clear hp)
    | (go_at_call 66; refine (gather_any w 13 b psB (by decide) (pieces_ok _ (by decide)) _ HP.out).mono ?_; rintro e w2 ⟨rfl, hb2⟩))
  go_ret
  exact ⟨rfl, hb.trans (hb2.mono hb.size)⟩

theorem ofU_any (wd : World) : Calls Try.prog 64 #[] wd (Lays psU wd) := by
  have hp : Pieces (wd.alloc (.cells #[.int .i64 31, .int .i64 12, .int .i64 12] 73)) wd.heap.size psU := pieces_new wd psU 73
  have HP := Lib.hid hp
  clear hp
  go_enter Try.func64, Try.ntmps64
  go_wp2
  go_ret
  exact ⟨wd.heap.size, rfl, HP.out, (Below.refl _ _).alloc (Nat.le_refl _) _⟩

theorem immU_any (w : BitVec 32) : Mk Try.prog 37 #[.int .u32 (w.toNat : Int)] (.int .u64 ((immP w psU 32).toNat : Int)) := by
  intro wd
  go_enter Try.func37, Try.ntmps37
  go_wp2_with (first
    | (go_at_call 64; refine (ofU_any _).mono ?_; rintro e w1 ⟨b, rfl, hp, hb⟩; have HP := Lib.hid hp; clear hp)
    | (go_at_call 66; refine (gather_any w 32 b psU (by decide) (pieces_ok _ (by decide)) _ HP.out).mono ?_; rintro e w2 ⟨rfl, hb2⟩))
  go_ret
  exact ⟨rfl, hb.trans (hb2.mono hb.size)⟩

theorem ofJ_any (wd : World) : Calls Try.prog 65 #[] wd (Lays psJ wd) := by
  have hp : Pieces (wd.alloc (.cells #[.int .i64 30, .int .i64 21, .int .i64 1, .int .i64 20, .int .i64 20, .int .i64 11, .int .i64 19, .int .i64 12, .int .i64 12, .int .i64 31, .int .i64 31, .int .i64 20] 73)) wd.heap.size psJ := pieces_new wd psJ 73
  have HP := Lib.hid hp
  clear hp
  go_enter Try.func65, Try.ntmps65
  go_wp2
  go_ret
  exact ⟨wd.heap.size, rfl, HP.out, (Below.refl _ _).alloc (Nat.le_refl _) _⟩

theorem immJ_any (w : BitVec 32) : Mk Try.prog 38 #[.int .u32 (w.toNat : Int)] (.int .u64 ((immP w psJ 21).toNat : Int)) := by
  intro wd
  go_enter Try.func38, Try.ntmps38
  go_wp2_with (first
    | (go_at_call 65; refine (ofJ_any _).mono ?_; rintro e w1 ⟨b, rfl, hp, hb⟩; have HP := Lib.hid hp; clear hp)
    | (go_at_call 66; refine (gather_any w 21 b psJ (by decide) (pieces_ok _ (by decide)) _ HP.out).mono ?_; rintro e w2 ⟨rfl, hb2⟩))
  go_ret
  exact ⟨rfl, hb.trans (hb2.mono hb.size)⟩

theorem pOpcode_any (w : BitVec 32) : Qt Try.prog 23 #[.int .u32 (w.toNat : Int)] (.int .i64 (fieldI w 6 0 : Nat)) := by
  intro wd
  have hq := Quiet.refl wd
  go_enter Try.func23, Try.ntmps23
  go_wp2_with (go_at_call 58; refine ((sfield_any _ _ _).at hq).mono ?_; clear hq; rintro e w1 ⟨rfl, hq⟩)
  go_ret
  exact ⟨rfl, hq⟩

theorem rOpcode_any (w : BitVec 32) : Qt Try.prog 86 #[.int .u32 (w.toNat : Int)] (.int .i64 (fieldI w 6 0 : Nat)) := by
  intro wd
  have hq := Quiet.refl wd
  go_enter Try.func86, Try.ntmps86
  go_wp2_with (go_at_call 109; refine ((rF_any _ _ _).at hq).mono ?_; clear hq; rintro e w1 ⟨rfl, hq⟩)
  go_ret
  exact ⟨rfl, hq⟩

theorem pRd_any (w : BitVec 32) : Qt Try.prog 24 #[.int .u32 (w.toNat : Int)] (.int .i64 (fieldI w 11 7 : Nat)) := by
  intro wd
  have hq := Quiet.refl wd
  go_enter Try.func24, Try.ntmps24
  go_wp2_with (go_at_call 58; refine ((sfield_any _ _ _).at hq).mono ?_; clear hq; rintro e w1 ⟨rfl, hq⟩)
  go_ret
  exact ⟨rfl, hq⟩

theorem rRd_any (w : BitVec 32) : Qt Try.prog 81 #[.int .u32 (w.toNat : Int)] (.int .i64 (fieldI w 11 7 : Nat)) := by
  intro wd
  have hq := Quiet.refl wd
  go_enter Try.func81, Try.ntmps81
  go_wp2_with (go_at_call 109; refine ((rF_any _ _ _).at hq).mono ?_; clear hq; rintro e w1 ⟨rfl, hq⟩)
  go_ret
  exact ⟨rfl, hq⟩

theorem pRs1_any (w : BitVec 32) : Qt Try.prog 26 #[.int .u32 (w.toNat : Int)] (.int .i64 (fieldI w 19 15 : Nat)) := by
  intro wd
  have hq := Quiet.refl wd
  go_enter Try.func26, Try.ntmps26
  go_wp2_with (go_at_call 58; refine ((sfield_any _ _ _).at hq).mono ?_; clear hq; rintro e w1 ⟨rfl, hq⟩)
  go_ret
  exact ⟨rfl, hq⟩

theorem rRs1_any (w : BitVec 32) : Qt Try.prog 82 #[.int .u32 (w.toNat : Int)] (.int .i64 (fieldI w 19 15 : Nat)) := by
  intro wd
  have hq := Quiet.refl wd
  go_enter Try.func82, Try.ntmps82
  go_wp2_with (go_at_call 109; refine ((rF_any _ _ _).at hq).mono ?_; clear hq; rintro e w1 ⟨rfl, hq⟩)
  go_ret
  exact ⟨rfl, hq⟩

theorem pRs2_any (w : BitVec 32) : Qt Try.prog 27 #[.int .u32 (w.toNat : Int)] (.int .i64 (fieldI w 24 20 : Nat)) := by
  intro wd
  have hq := Quiet.refl wd
  go_enter Try.func27, Try.ntmps27
  go_wp2_with (go_at_call 58; refine ((sfield_any _ _ _).at hq).mono ?_; clear hq; rintro e w1 ⟨rfl, hq⟩)
  go_ret
  exact ⟨rfl, hq⟩

theorem rRs2_any (w : BitVec 32) : Qt Try.prog 83 #[.int .u32 (w.toNat : Int)] (.int .i64 (fieldI w 24 20 : Nat)) := by
  intro wd
  have hq := Quiet.refl wd
  go_enter Try.func83, Try.ntmps83
  go_wp2_with (go_at_call 109; refine ((rF_any _ _ _).at hq).mono ?_; clear hq; rintro e w1 ⟨rfl, hq⟩)
  go_ret
  exact ⟨rfl, hq⟩

theorem pFunct3_any (w : BitVec 32) : Qt Try.prog 25 #[.int .u32 (w.toNat : Int)] (.int .i64 (fieldI w 14 12 : Nat)) := by
  intro wd
  have hq := Quiet.refl wd
  go_enter Try.func25, Try.ntmps25
  go_wp2_with (go_at_call 58; refine ((sfield_any _ _ _).at hq).mono ?_; clear hq; rintro e w1 ⟨rfl, hq⟩)
  go_ret
  exact ⟨rfl, hq⟩

theorem rFunct3_any (w : BitVec 32) : Qt Try.prog 84 #[.int .u32 (w.toNat : Int)] (.int .i64 (fieldI w 14 12 : Nat)) := by
  intro wd
  have hq := Quiet.refl wd
  go_enter Try.func84, Try.ntmps84
  go_wp2_with (go_at_call 109; refine ((rF_any _ _ _).at hq).mono ?_; clear hq; rintro e w1 ⟨rfl, hq⟩)
  go_ret
  exact ⟨rfl, hq⟩

theorem pFunct7_any (w : BitVec 32) : Qt Try.prog 28 #[.int .u32 (w.toNat : Int)] (.int .i64 (fieldI w 31 25 : Nat)) := by
  intro wd
  have hq := Quiet.refl wd
  go_enter Try.func28, Try.ntmps28
  go_wp2_with (go_at_call 58; refine ((sfield_any _ _ _).at hq).mono ?_; clear hq; rintro e w1 ⟨rfl, hq⟩)
  go_ret
  exact ⟨rfl, hq⟩

theorem rFunct7_any (w : BitVec 32) : Qt Try.prog 85 #[.int .u32 (w.toNat : Int)] (.int .i64 (fieldI w 31 25 : Nat)) := by
  intro wd
  have hq := Quiet.refl wd
  go_enter Try.func85, Try.ntmps85
  go_wp2_with (go_at_call 109; refine ((rF_any _ _ _).at hq).mono ?_; clear hq; rintro e w1 ⟨rfl, hq⟩)
  go_ret
  exact ⟨rfl, hq⟩

end Go.Proofs.Ytnhbekgmameeaaa
