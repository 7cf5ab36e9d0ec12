/- Plain definitions and lemmas on laying words out: fields, immediates scattered into a word; no program in sight. -/
import Derived.Test.YtnhbekgmameeaaaShapeSame
namespace Go.Proofs.Ytnhbekgmameeaaa
open Go.RowKit
namespace Wd

/-! ### 1. From 0 to most; registers; immediates' ends -/
def fitB (v most : Int) : Bool := decide (0 ≤ v) && decide (v ≤ most)
theorem fit_iff (v most : Int) : fitB v most = true ↔ 0 ≤ v ∧ v ≤ most := by unfold fitB; simp
def regsB (l : List Int) : Bool := l.all fun r => fitB r 31
theorem regs_iff (l : List Int) : regsB l = true ↔ ∀ k, k < l.length → fitB (l.getD k (-1)) 31 = true := by
  unfold regsB
  rw [List.all_eq_true]
  constructor
  · intro h k hk
    have := h l[k] (List.getElem_mem hk)
    simpa [List.getD, hk] using this
  · intro h x hx
    obtain ⟨k, hk, rfl⟩ := List.mem_iff_getElem.1 hx
    have := h k hk
    simpa [List.getD, hk] using this
theorem regs_not (l : List Int) (k : Nat) (hk : k < l.length) (h : fitB (l.getD k (-1)) 31 = false) : regsB l = false := by
  cases hr : regsB l with
  | false => rfl
  | true =>
    rw [(regs_iff l).1 hr k hk] at h
    exact h
/-- 1: beyond the ends; 5: no multiple; 0: it may be. -/
def nearE (imm most m : Int) : Int := if imm < -most ∨ most ≤ imm then 1 else if imm.tmod m = 0 then 0 else 5
theorem near_cases (imm most m : Int) : nearE imm most m = 1 ∨ nearE imm most m = 0 ∨ nearE imm most m = 5 := by
  unfold nearE
  split
  · exact .inl rfl
  · split
    · exact .inr (.inl rfl)
    · exact .inr (.inr rfl)

/-! ### 2. The fields that are no immediate's -/
def layW (op rd f3 rs1 rs2 f7 : Int) : BitVec 32 :=
  BitVec.ofInt 32 op ||| BitVec.ofInt 32 (rd * 128) ||| BitVec.ofInt 32 (f3 * 4096) ||| BitVec.ofInt 32 (rs1 * 32768) ||| BitVec.ofInt 32 (rs2 * 1048576) ||| BitVec.ofInt 32 (f7 * 33554432)
theorem trunc_or (x y : Int) : BitVec.ofInt 32 (bits .or .i64 x y) = BitVec.ofInt 32 x ||| BitVec.ofInt 32 y := by
  have e : ∀ z : Int, BitVec.ofInt 32 z = (BitVec.ofInt 64 z).setWidth 32 := by
    intro z
    apply BitVec.eq_of_toNat_eq
    rw [BitVec.toNat_setWidth, BitVec.toNat_ofInt, BitVec.toNat_ofInt]
    omega
  have h : bits .or .i64 x y = (BitVec.ofInt 64 x ||| BitVec.ofInt 64 y).toInt := by
    show IntKind.i64.wrap ((BitVec.ofInt 64 x ||| BitVec.ofInt 64 y).toNat : Int) = _
    rw [IntWalk.i64_left, wrap64_bv, of64]
  rw [h, e, BitVec.ofInt_toInt, e x, e y]
  apply BitVec.eq_of_getLsbD_eq
  intro i hi
  simp only [BitVec.getLsbD_setWidth, BitVec.getLsbD_or]
  cases decide (i < 32) <;> simp
theorem word_walk (op rd f3 rs1 rs2 f7 : Int) :
    IntKind.u32.wrap (bits .or .i64 (bits .or .i64 (bits .or .i64 (bits .or .i64 (bits .or .i64 op (rd * 128)) (f3 * 4096)) (rs1 * 32768)) (rs2 * 1048576)) (f7 * 33554432)) = ((layW op rd f3 rs1 rs2 f7).toNat : Int) := by
  rw [w32]
  simp only [trunc_or]
  rfl
theorem lay_walk (op rd f3 rs1 rs2 f7 : Int) :
    bits .or .u32 (bits .or .u32 (bits .or .u32 (bits .or .u32 (bits .or .u32 op (rd * 128)) (f3 * 4096)) (rs1 * 32768)) (rs2 * 1048576)) (f7 * 33554432) = ((layW op rd f3 rs1 rs2 f7).toNat : Int) := by
  simp only [or32, of32]
  rfl

/-! ### 3. An immediate, scattered -/
/-- Its bits in pieces. -/
def shrW (a : BitVec 64) (n : Nat) : BitVec 64 := a >>> n
theorem shrW_walk (a : BitVec 64) (n : Nat) : ((a.toNat : Int) / 2 ^ n) = ((shrW a n).toNat : Int) := shr64 a n
def scat (V imm : BitVec 64) (ps : List Piece) : Nat → BitVec 64
  | 0 => V
  | k + 1 => match ps[k]? with
    | some p => put (scat V imm ps k) p.hi p.lo (shrW imm p.to)
    | none => scat V imm ps k
theorem scat_succ (V imm : BitVec 64) (ps : List Piece) (k : Nat) (p : Piece) (h : ps[k]? = some p) : scat V imm ps (k + 1) = put (scat V imm ps k) p.hi p.lo (shrW imm p.to) := by
  simp only [scat, h]
/-- Which bit of the immediate a piece lays at place j. -/
def dstP (j : Nat) (p : Piece) : Option Nat := if p.lo ≤ j ∧ j ≤ p.hi then some (p.to + (j - p.lo)) else none
def lastBit (V imm : BitVec 64) (j : Nat) (l : List Nat) : Bool := match l.getLast? with
  | some s => imm.getLsbD s
  | none => V.getLsbD j
theorem scat_get (V imm : BitVec 64) (ps : List Piece) (hok : ps.all Piece.ok = true) (k j : Nat) (hj : j < 64) : (scat V imm ps k).getLsbD j = lastBit V imm j ((ps.take k).filterMap (dstP j)) := by
  induction k with
  | zero => simp [scat, lastBit]
  | succ k ih =>
    rcases hp : ps[k]? with _ | p
    · simp only [scat, hp]
      rw [ih]
      have hl : ps.length ≤ k := by simpa using hp
      rw [List.take_of_length_le hl, List.take_of_length_le (by omega)]
    · have hk := List.all_eq_true.1 hok p (List.mem_of_getElem? hp)
      unfold Piece.ok at hk
      simp only [Bool.and_eq_true, decide_eq_true_eq] at hk
      have hm : may (p.hi : Int) (p.lo : Int) = true := (may_iff _ _).2 (by omega)
      rw [scat_succ V imm ps k p hp, put_get _ _ _ _ hm _ hj, ih, List.take_add_one, hp, List.filterMap_append]
      simp only [Option.toList, List.filterMap_cons, List.filterMap_nil]
      by_cases h : p.lo ≤ j ∧ j ≤ p.hi
      · have e : dstP j p = some (p.to + (j - p.lo)) := by unfold dstP; rw [if_pos h]
        rw [e, if_pos (by omega)]
        unfold lastBit
        rw [List.getLast?_append]
        simp only [List.getLast?_singleton, Option.some_or]
        unfold shrW
        rw [BitVec.getLsbD_ushiftRight, show ((p.lo : Int)).toNat = p.lo from by omega]
      · have e : dstP j p = none := by unfold dstP; rw [if_neg h]
        rw [e, if_neg (by omega), List.append_nil]
/-- The reference's way: bit by bit. -/
def withB (v : BitVec 32) (s : Nat) (b : Bool) : BitVec 32 := (v &&& ~~~(1#32 <<< s)) ||| (if b then 1#32 <<< s else 0#32)
def withW (v : BitVec 32) (imm : BitVec 64) (l : List Int) : Nat → BitVec 32
  | 0 => v
  | k + 1 => if 0 ≤ l.getD k (-1) then withB (withW v imm l k) (l.getD k (-1)).toNat (bit imm k) else withW v imm l k
theorem one32_get (s j : Nat) (hj : j < 32) : (1#32 <<< s).getLsbD j = decide (j = s) := by
  rw [BitVec.getLsbD_shiftLeft, BitVec.getLsbD_one]
  by_cases h : j = s
  · subst h; simp [hj]
  · simp [h, hj]; omega
theorem withB_get (v : BitVec 32) (s : Nat) (b : Bool) (j : Nat) (hj : j < 32) : (withB v s b).getLsbD j = if j = s then b else v.getLsbD j := by
  unfold withB
  rw [BitVec.getLsbD_or, BitVec.getLsbD_and, BitVec.getLsbD_not, one32_get _ _ hj]
  by_cases e : j = s
  · subst e
    cases b
    · simp
    · simp only [if_true]
      rw [one32_get _ _ hj]
      simp
  · cases b
    · simp [e, hj]
    · simp only [if_true]
      rw [one32_get _ _ hj, decide_eq_false e]
      simp [hj, e]
theorem one32_shl (k : Nat) : (2 ^ k : Int) % 4294967296 = ((1#32 <<< k).toNat : Int) := by
  have e : ((2 : Int) ^ k) = ((2 ^ k : Nat) : Int) := by simp
  rw [e, BitVec.toNat_shiftLeft, Nat.shiftLeft_eq]
  simp
theorem withB_walk1 (v : BitVec 32) (s : Nat) : bits .or .u32 (bits .andNot .u32 (v.toNat : Int) (2 ^ s % 4294967296)) (2 ^ s % 4294967296) = ((withB v s true).toNat : Int) := by
  rw [one32_shl, andNot32, or32]
  simp only [of32]
  rfl
theorem withB_walk0 (v : BitVec 32) (s : Nat) : bits .or .u32 (bits .andNot .u32 (v.toNat : Int) (2 ^ s % 4294967296)) 0 = ((withB v s false).toNat : Int) := by
  rw [one32_shl, andNot32, or32]
  simp only [of32]
  rfl
def dstL (l : List Int) (j k : Nat) : List Nat := (List.range k).filter fun i => decide (l.getD i (-1) = (j : Int))
theorem dstL_succ (l : List Int) (j k : Nat) : dstL l j (k + 1) = dstL l j k ++ (if l.getD k (-1) = (j : Int) then [k] else []) := by
  unfold dstL
  rw [List.range_succ, List.filter_append]
  congr 1
  by_cases h : l.getD k (-1) = (j : Int)
  · rw [if_pos h, List.filter_cons, decide_eq_true h]; rfl
  · rw [if_neg h, List.filter_cons, decide_eq_false h]; rfl
theorem withW_get (v : BitVec 32) (imm : BitVec 64) (l : List Int) (k j : Nat) (hj : j < 32) : (withW v imm l k).getLsbD j = lastBit (W64 v) imm j (dstL l j k) := by
  induction k with
  | zero => simp [withW, dstL, lastBit, W64_get]
  | succ k ih =>
    rw [dstL_succ]
    simp only [withW]
    by_cases h0 : 0 ≤ l.getD k (-1)
    · rw [if_pos h0, withB_get _ _ _ _ hj]
      by_cases e : l.getD k (-1) = (j : Int)
      · rw [if_pos e, if_pos (by omega)]
        unfold lastBit
        rw [List.getLast?_append]
        simp only [List.getLast?_singleton, Option.some_or]
        rfl
      · rw [if_neg e, if_neg (by omega), List.append_nil, ih]
    · rw [if_neg h0, if_neg (by omega), List.append_nil, ih]
/-- A word of 64 bits, cut to 32. -/
def cut32 (V : BitVec 64) : BitVec 32 := V.setWidth 32
theorem cut_walk (V : BitVec 64) : IntKind.u32.wrap (V.toNat : Int) = ((cut32 V).toNat : Int) := by
  unfold cut32
  rw [w32, BitVec.toNat_setWidth, BitVec.toNat_ofInt]
  omega
theorem scat_same (v : BitVec 32) (imm : BitVec 64) (ps : List Piece) (l : List Int) (hok : ps.all Piece.ok = true) (hs : ∀ j, j < 32 → ps.filterMap (dstP j) = dstL l j l.length) :
    cut32 (scat (W64 v) imm ps ps.length) = withW v imm l l.length := by
  apply BitVec.eq_of_getLsbD_eq
  intro j hj
  unfold cut32
  rw [BitVec.getLsbD_setWidth, decide_eq_true hj, Bool.true_and, scat_get _ _ _ hok _ _ (by omega), withW_get _ _ _ _ _ hj, List.take_length, hs j hj]
theorem scatI (v : BitVec 32) (imm : BitVec 64) : cut32 (scat (W64 v) imm psI psI.length) = withW v imm lI lI.length := scat_same v imm psI lI (by decide) (by decide)
theorem scatS (v : BitVec 32) (imm : BitVec 64) : cut32 (scat (W64 v) imm psS psS.length) = withW v imm lS lS.length := scat_same v imm psS lS (by decide) (by decide)
theorem scatB (v : BitVec 32) (imm : BitVec 64) : cut32 (scat (W64 v) imm psB psB.length) = withW v imm lB lB.length := scat_same v imm psB lB (by decide) (by decide)
theorem scatU (v : BitVec 32) (imm : BitVec 64) : cut32 (scat (W64 v) imm psU psU.length) = withW v imm lU lU.length := scat_same v imm psU lU (by decide) (by decide)
theorem scatJ (v : BitVec 32) (imm : BitVec 64) : cut32 (scat (W64 v) imm psJ psJ.length) = withW v imm lJ lJ.length := scat_same v imm psJ lJ (by decide) (by decide)

/-! ### 4. What the forms answer: a word and a reason -/
def encV (r : BitVec 32 × Int) : Value := .tuple #[.int .u32 (r.1.toNat : Int), .int .i64 r.2]
/-- Whether the fields may be, and what is near; then the word. -/
def encG (ok : Bool) (e : Int) (v : BitVec 32) : BitVec 32 × Int := if ok then (if e = 0 then (v, 0) else (0#32, e)) else (0#32, 1)
def sct (V : BitVec 32) (imm : Int) (ps : List Piece) : BitVec 32 := cut32 (scat (W64 V) (BitVec.ofInt 64 imm) ps ps.length)
def okI (op f3 : Int) (l : List Int) : Bool := fitB op 127 && regsB l && fitB f3 7
/-- The reference's way to say it. -/
def fldE (op f3 f7 : Int) (l : List Int) : Int := if (0 ≤ op ∧ op ≤ 127 ∧ 0 ≤ f3 ∧ f3 ≤ 7 ∧ 0 ≤ f7 ∧ f7 ≤ 127) ∧ regsB l = true then 0 else 1
theorem fld_ok (op f3 f7 : Int) (l : List Int) : fldE op f3 f7 l = if okI op f3 l && fitB f7 127 then 0 else 1 := by
  have h : (okI op f3 l && fitB f7 127) = true ↔ (0 ≤ op ∧ op ≤ 127 ∧ 0 ≤ f3 ∧ f3 ≤ 7 ∧ 0 ≤ f7 ∧ f7 ≤ 127) ∧ regsB l = true := by
    unfold okI
    simp only [Bool.and_eq_true, fit_iff]
    constructor
    · rintro ⟨⟨⟨h1, h2⟩, h3⟩, h4⟩
      exact ⟨by omega, h2⟩
    · rintro ⟨h1, h2⟩
      exact ⟨⟨⟨by omega, h2⟩, by omega⟩, by omega⟩
  unfold fldE
  by_cases k : (okI op f3 l && fitB f7 127) = true
  · rw [if_pos (h.1 k), if_pos k]
  · rw [if_neg (fun x => k (h.2 x)), if_neg k]
theorem ok_parts {op f3 : Int} {l : List Int} (h : okI op f3 l = true) : fitB op 127 = true ∧ regsB l = true ∧ fitB f3 7 = true := by
  unfold okI at h
  simp only [Bool.and_eq_true] at h
  exact ⟨h.1.1, h.1.2, h.2⟩
def encR (op rd f3 rs1 rs2 f7 : Int) : BitVec 32 × Int := encG (okI op f3 [rd, rs1, rs2] && fitB f7 127) 0 (layW op rd f3 rs1 rs2 f7)
def encI (op rd f3 rs1 imm : Int) : BitVec 32 × Int := encG (okI op f3 [rd, rs1]) (nearE imm 2048 1) (sct (layW op rd f3 rs1 0 0) imm psI)
def encS (op f3 rs1 rs2 imm : Int) : BitVec 32 × Int := encG (okI op f3 [rs1, rs2]) (nearE imm 2048 1) (sct (layW op 0 f3 rs1 rs2 0) imm psS)
def encB (op f3 rs1 rs2 imm : Int) : BitVec 32 × Int := encG (okI op f3 [rs1, rs2]) (nearE imm 4096 2) (sct (layW op 0 f3 rs1 rs2 0) imm psB)
def encU (op rd imm : Int) : BitVec 32 × Int := encG (okI op 0 [rd]) (nearE imm 2147483648 4096) (sct (layW op rd 0 0 0 0) imm psU)
def encJ (op rd imm : Int) : BitVec 32 × Int := encG (okI op 0 [rd]) (nearE imm 1048576 2) (sct (layW op rd 0 0 0 0) imm psJ)
end Wd
end Go.Proofs.Ytnhbekgmameeaaa
