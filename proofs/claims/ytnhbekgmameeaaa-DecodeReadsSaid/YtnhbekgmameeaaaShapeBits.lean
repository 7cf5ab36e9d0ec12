/- Plain lemmas on instruction words, bit by bit: a word is its fields; what is laid out is read again, and the other way round; no program in sight. -/
import Derived.Test.YtnhbekgmameeaaaShapeEncPlain
namespace Go.Proofs.Ytnhbekgmameeaaa
open Go.RowKit
namespace Wd

/-! ### 1. Fields -/
theorem fieldI_bit (w : BitVec 32) (hi lo i : Nat) (h : lo ≤ hi) (h2 : hi < 64) : (fieldI w (hi : Int) (lo : Int)).testBit i = (decide (i < hi - lo + 1) && w.getLsbD (lo + i)) := by
  have hm : may (hi : Int) (lo : Int) = true := (may_iff _ _).2 (by omega)
  unfold fieldI
  rw [BitVec.testBit_toNat, field_get _ _ _ hm, W64_get, show ((hi : Int) - (lo : Int) + 1).toNat = hi - lo + 1 from by omega]
  rfl
theorem fieldI_lt2 (w : BitVec 32) (hi lo : Nat) (h : lo ≤ hi) (h2 : hi < 64) : fieldI w (hi : Int) (lo : Int) < 2 ^ (hi - lo + 1) := by
  apply Nat.lt_pow_two_of_testBit
  intro i hi'
  rw [fieldI_bit _ _ _ _ h h2, decide_eq_false (by omega)]
  rfl
theorem hi_bit (x n j : Nat) (hx : x < 2 ^ n) (h : n ≤ j) : x.testBit j = false :=
  Nat.testBit_lt_two_pow (Nat.lt_of_lt_of_le hx (Nat.pow_le_pow_right (by omega) h))
theorem fieldI_eq (w : BitVec 32) (hi lo x : Nat) (h : lo ≤ hi) (h2 : hi < 64) (hx : x < 2 ^ (hi - lo + 1)) (hb : ∀ i, i < hi - lo + 1 → w.getLsbD (lo + i) = x.testBit i) : fieldI w (hi : Int) (lo : Int) = x := by
  apply Nat.eq_of_testBit_eq
  intro i
  rw [fieldI_bit _ _ _ _ h h2]
  by_cases g : i < hi - lo + 1
  · rw [decide_eq_true g, hb i g]; rfl
  · rw [decide_eq_false g, hi_bit x _ i hx (by omega)]; rfl

/-! ### 2. The word that fields make -/
theorem ofInt_shl_get (x k j : Nat) (m : Int) (hm : m = ((2 ^ k : Nat) : Int)) (hj : j < 32) : (BitVec.ofInt 32 ((x : Int) * m)).getLsbD j = (decide (k ≤ j) && x.testBit (j - k)) := by
  rw [hm, show (x : Int) * ((2 ^ k : Nat) : Int) = ((x <<< k : Nat) : Int) from by rw [Nat.shiftLeft_eq]; simp, BitVec.ofInt_natCast, BitVec.getLsbD_ofNat, decide_eq_true hj, Nat.testBit_shiftLeft]
  simp
/-- Bit j of six fields, side by side. -/
def pickW (op rd f3 rs1 rs2 f7 : Nat) (j : Nat) : Bool :=
  if j < 7 then op.testBit j else if j < 12 then rd.testBit (j - 7) else if j < 15 then f3.testBit (j - 12) else if j < 20 then rs1.testBit (j - 15) else if j < 25 then rs2.testBit (j - 20) else f7.testBit (j - 25)
theorem seg_get (x n k j : Nat) (hx : x < 2 ^ n) : (decide (k ≤ j) && x.testBit (j - k)) = if k ≤ j ∧ j < k + n then x.testBit (j - k) else false := by
  by_cases h : k ≤ j
  · by_cases g : j < k + n
    · rw [decide_eq_true h, if_pos ⟨h, g⟩]; rfl
    · rw [decide_eq_true h, if_neg (by omega), hi_bit x n _ hx (by omega)]; rfl
  · rw [decide_eq_false h, if_neg (by omega)]; rfl
theorem layW_get (op rd f3 rs1 rs2 f7 j : Nat) (h1 : op < 2 ^ 7) (h2 : rd < 2 ^ 5) (h3 : f3 < 2 ^ 3) (h4 : rs1 < 2 ^ 5) (h5 : rs2 < 2 ^ 5) (h6 : f7 < 2 ^ 7) (hj : j < 32) :
    (layW (op : Int) (rd : Int) (f3 : Int) (rs1 : Int) (rs2 : Int) (f7 : Int)).getLsbD j = pickW op rd f3 rs1 rs2 f7 j := by
  unfold layW pickW
  simp only [BitVec.getLsbD_or]
  have e0 : (BitVec.ofInt 32 (op : Int)).getLsbD j = (decide (0 ≤ j) && op.testBit (j - 0)) := by
    have := ofInt_shl_get op 0 j 1 (by simp) hj
    rwa [Int.mul_one] at this
  rw [e0, ofInt_shl_get rd 7 j 128 (by decide) hj, ofInt_shl_get f3 12 j 4096 (by decide) hj, ofInt_shl_get rs1 15 j 32768 (by decide) hj, ofInt_shl_get rs2 20 j 1048576 (by decide) hj,
    ofInt_shl_get f7 25 j 33554432 (by decide) hj, seg_get op 7 0 j h1, seg_get rd 5 7 j h2, seg_get f3 3 12 j h3, seg_get rs1 5 15 j h4, seg_get rs2 5 20 j h5, seg_get f7 7 25 j h6]
  by_cases c1 : j < 7
  · rw [if_pos (by omega), if_neg (by omega), if_neg (by omega), if_neg (by omega), if_neg (by omega), if_neg (by omega), if_pos c1]; simp
  by_cases c2 : j < 12
  · rw [if_neg (by omega), if_pos (by omega), if_neg (by omega), if_neg (by omega), if_neg (by omega), if_neg (by omega), if_neg c1, if_pos c2]; simp
  by_cases c3 : j < 15
  · rw [if_neg (by omega), if_neg (by omega), if_pos (by omega), if_neg (by omega), if_neg (by omega), if_neg (by omega), if_neg c1, if_neg c2, if_pos c3]; simp
  by_cases c4 : j < 20
  · rw [if_neg (by omega), if_neg (by omega), if_neg (by omega), if_pos (by omega), if_neg (by omega), if_neg (by omega), if_neg c1, if_neg c2, if_neg c3, if_pos c4]; simp
  by_cases c5 : j < 25
  · rw [if_neg (by omega), if_neg (by omega), if_neg (by omega), if_neg (by omega), if_pos (by omega), if_neg (by omega), if_neg c1, if_neg c2, if_neg c3, if_neg c4, if_pos c5]; simp
  · rw [if_neg (by omega), if_neg (by omega), if_neg (by omega), if_neg (by omega), if_neg (by omega), if_pos (by omega), if_neg c1, if_neg c2, if_neg c3, if_neg c4, if_neg c5]; simp
/-- The fields of a word. -/
structure Fields (w : BitVec 32) (op rd f3 rs1 rs2 f7 : Nat) : Prop where
  op : fieldI w 6 0 = op
  rd : fieldI w 11 7 = rd
  f3 : fieldI w 14 12 = f3
  rs1 : fieldI w 19 15 = rs1
  rs2 : fieldI w 24 20 = rs2
  f7 : fieldI w 31 25 = f7
theorem fields_lay (op rd f3 rs1 rs2 f7 : Nat) (h1 : op < 2 ^ 7) (h2 : rd < 2 ^ 5) (h3 : f3 < 2 ^ 3) (h4 : rs1 < 2 ^ 5) (h5 : rs2 < 2 ^ 5) (h6 : f7 < 2 ^ 7) :
    Fields (layW (op : Int) (rd : Int) (f3 : Int) (rs1 : Int) (rs2 : Int) (f7 : Int)) op rd f3 rs1 rs2 f7 := by
  have G := fun j hj => layW_get op rd f3 rs1 rs2 f7 j h1 h2 h3 h4 h5 h6 hj
  unfold pickW at G
  refine ⟨fieldI_eq _ 6 0 _ (by omega) (by omega) h1 fun i hi => ?_, fieldI_eq _ 11 7 _ (by omega) (by omega) h2 fun i hi => ?_, fieldI_eq _ 14 12 _ (by omega) (by omega) h3 fun i hi => ?_,
    fieldI_eq _ 19 15 _ (by omega) (by omega) h4 fun i hi => ?_, fieldI_eq _ 24 20 _ (by omega) (by omega) h5 fun i hi => ?_, fieldI_eq _ 31 25 _ (by omega) (by omega) h6 fun i hi => ?_⟩
  · rw [G _ (by omega), if_pos (by omega)]; congr 1; omega
  · rw [G _ (by omega), if_neg (by omega), if_pos (by omega)]; congr 1; omega
  · rw [G _ (by omega), if_neg (by omega), if_neg (by omega), if_pos (by omega)]; congr 1; omega
  · rw [G _ (by omega), if_neg (by omega), if_neg (by omega), if_neg (by omega), if_pos (by omega)]; congr 1; omega
  · rw [G _ (by omega), if_neg (by omega), if_neg (by omega), if_neg (by omega), if_neg (by omega), if_pos (by omega)]; congr 1; omega
  · rw [G _ (by omega), if_neg (by omega), if_neg (by omega), if_neg (by omega), if_neg (by omega), if_neg (by omega)]; congr 1; omega
/-- The word of some of a word's fields: the others 0. -/
theorem pick_of (w : BitVec 32) (j : Nat) (hj : j < 32) : pickW (fieldI w 6 0) (fieldI w 11 7) (fieldI w 14 12) (fieldI w 19 15) (fieldI w 24 20) (fieldI w 31 25) j = w.getLsbD j := by
  unfold pickW
  have b (hi lo i : Nat) (h : lo ≤ hi) (h2 : hi < 64) (h3 : i < hi - lo + 1) : (fieldI w (hi : Int) (lo : Int)).testBit i = w.getLsbD (lo + i) := by rw [fieldI_bit _ _ _ _ h h2, decide_eq_true h3]; rfl
  split
  · rw [show fieldI w 6 0 = fieldI w ((6 : Nat) : Int) ((0 : Nat) : Int) from rfl, b 6 0 _ (by omega) (by omega) (by omega)]; congr 1; omega
  split
  · rw [show fieldI w 11 7 = fieldI w ((11 : Nat) : Int) ((7 : Nat) : Int) from rfl, b 11 7 _ (by omega) (by omega) (by omega)]; congr 1; omega
  split
  · rw [show fieldI w 14 12 = fieldI w ((14 : Nat) : Int) ((12 : Nat) : Int) from rfl, b 14 12 _ (by omega) (by omega) (by omega)]; congr 1; omega
  split
  · rw [show fieldI w 19 15 = fieldI w ((19 : Nat) : Int) ((15 : Nat) : Int) from rfl, b 19 15 _ (by omega) (by omega) (by omega)]; congr 1; omega
  split
  · rw [show fieldI w 24 20 = fieldI w ((24 : Nat) : Int) ((20 : Nat) : Int) from rfl, b 24 20 _ (by omega) (by omega) (by omega)]; congr 1; omega
  · rw [show fieldI w 31 25 = fieldI w ((31 : Nat) : Int) ((25 : Nat) : Int) from rfl, b 31 25 _ (by omega) (by omega) (by omega)]; congr 1; omega
structure Small (w : BitVec 32) : Prop where
  op : fieldI w 6 0 < 2 ^ 7
  rd : fieldI w 11 7 < 2 ^ 5
  f3 : fieldI w 14 12 < 2 ^ 3
  rs1 : fieldI w 19 15 < 2 ^ 5
  rs2 : fieldI w 24 20 < 2 ^ 5
  f7 : fieldI w 31 25 < 2 ^ 7
theorem small_of (w : BitVec 32) : Small w :=
  ⟨fieldI_lt2 w 6 0 (by omega) (by omega), fieldI_lt2 w 11 7 (by omega) (by omega), fieldI_lt2 w 14 12 (by omega) (by omega), fieldI_lt2 w 19 15 (by omega) (by omega), fieldI_lt2 w 24 20 (by omega) (by omega), fieldI_lt2 w 31 25 (by omega) (by omega)⟩
theorem word_fields (w : BitVec 32) : layW (fieldI w 6 0 : Nat) (fieldI w 11 7 : Nat) (fieldI w 14 12 : Nat) (fieldI w 19 15 : Nat) (fieldI w 24 20 : Nat) (fieldI w 31 25 : Nat) = w := by
  have h := small_of w
  apply BitVec.eq_of_getLsbD_eq
  intro j hj
  rw [layW_get _ _ _ _ _ _ _ h.op h.rd h.f3 h.rs1 h.rs2 h.f7 hj, pick_of w j hj]

/-! ### 3. Immediates, bit by bit -/
theorem immP_get (w : BitVec 32) (ps : List Piece) (hok : ps.all Piece.ok = true) (n i : Nat) (h1 : 1 ≤ n) (h2 : n ≤ 64) (hi : i < 64) :
    (immP w ps (n : Int)).getLsbD i = (srcs ps (if i < n then i else n - 1)).any (w.getLsbD ·) := by
  unfold immP
  rw [sext_get _ _ (by omega) (by omega) _ hi, show ((n : Int)).toNat = n from by omega, gat_get _ _ hok _ _ (by split <;> omega), List.take_length]
  unfold srcs
  simp only [W64_get]
theorem sct_get (V : BitVec 32) (imm : Int) (ps : List Piece) (hok : ps.all Piece.ok = true) (j : Nat) (hj : j < 32) : (sct V imm ps).getLsbD j = lastBit (W64 V) (BitVec.ofInt 64 imm) j (ps.filterMap (dstP j)) := by
  unfold sct cut32
  rw [BitVec.getLsbD_setWidth, decide_eq_true hj, Bool.true_and, scat_get _ _ _ hok _ _ (by omega), List.take_length]
theorem sct_keep (V : BitVec 32) (imm : Int) (ps : List Piece) (hok : ps.all Piece.ok = true) (hi lo : Nat) (h : lo ≤ hi) (h2 : hi < 32) (hk : ∀ i, i < hi - lo + 1 → ps.filterMap (dstP (lo + i)) = []) :
    fieldI (sct V imm ps) (hi : Int) (lo : Int) = fieldI V (hi : Int) (lo : Int) := by
  refine fieldI_eq _ hi lo _ h (by omega) (fieldI_lt2 V hi lo h (by omega)) fun i hi' => ?_
  rw [sct_get _ _ _ hok _ (by omega), hk i hi', fieldI_bit _ _ _ _ h (by omega), decide_eq_true hi']
  show (W64 V).getLsbD _ = _
  rw [W64_get]; rfl
theorem nat_bits64 (x : Nat) (i : Nat) (hi : i < 64) : (BitVec.ofNat 64 x).getLsbD i = x.testBit i := by
  rw [BitVec.getLsbD_ofNat, decide_eq_true hi]; rfl
/-- The bits of a number of n bits with a sign, from the highest of them on. -/
theorem sign_bits (imm : Int) (n i : Nat) (h : -2 ^ n ≤ imm) (h2 : imm < 2 ^ n) (hi : n ≤ i) (h64 : i < 64) : (BitVec.ofInt 64 imm).getLsbD i = decide (imm < 0) := by
  by_cases c : 0 ≤ imm
  · obtain ⟨x, rfl⟩ := Int.eq_ofNat_of_zero_le c
    rw [BitVec.ofInt_natCast, nat_bits64 _ _ h64, decide_eq_false (by omega)]
    refine hi_bit x n i ?_ hi
    have : ((2 : Int) ^ n) = ((2 ^ n : Nat) : Int) := by simp
    omega
  · obtain ⟨x, hx⟩ := Int.eq_ofNat_of_zero_le (show 0 ≤ -imm - 1 by omega)
    have e : BitVec.ofInt 64 imm = ~~~ BitVec.ofNat 64 x := by
      rw [show imm = -(x : Int) - 1 from by omega]
      apply BitVec.eq_of_toNat_eq
      rw [BitVec.toNat_not, BitVec.toNat_ofInt, BitVec.toNat_ofNat]
      omega
    rw [e, BitVec.getLsbD_not, decide_eq_true h64, nat_bits64 _ _ h64, decide_eq_true (by omega)]
    have : ((2 : Int) ^ n) = ((2 ^ n : Nat) : Int) := by simp
    rw [hi_bit x n i (by omega) hi]
    rfl
theorem low_bits (imm : Int) (z m : Nat) (M : Int) (hM : M = ((2 ^ z : Nat) : Int)) (h : imm.tmod M = 0) (hm : m < z) : (BitVec.ofInt 64 imm).getLsbD m = false := by
  obtain ⟨k, hk⟩ := Int.dvd_of_tmod_eq_zero h
  have e : BitVec.ofInt 64 imm = BitVec.ofInt 64 k <<< z := by
    rw [hk, hM, Int.mul_comm, BitVec.ofInt_mul, BitVec.ofInt_natCast, ← BitVec.mul_twoPow_eq_shiftLeft]
    congr 1
    apply BitVec.eq_of_toNat_eq
    rw [BitVec.toNat_ofNat, BitVec.toNat_twoPow]
  rw [e, BitVec.getLsbD_shiftLeft, decide_eq_true hm]
  simp
/-- Where the bits of an immediate stand, and where they come from: the same. -/
def chk (ps : List Piece) (n z : Nat) : Bool := (List.range n).all fun m => (decide (m < z) && (srcs ps m).isEmpty) || (decide (z ≤ m) && (List.range 32).any fun s => decide (srcs ps m = [s]) && decide ((ps.filterMap (dstP s)).getLast? = some m))
theorem sct_imm (V : BitVec 32) (imm : Int) (ps : List Piece) (hok : ps.all Piece.ok = true) (n z : Nat) (h1 : 1 ≤ n) (h2 : n ≤ 64) (hc : chk ps n z = true) (M : Int) (hM : M = ((2 ^ z : Nat) : Int))
    (hr : -2 ^ (n - 1) ≤ imm) (hr2 : imm < 2 ^ (n - 1)) (hm : imm.tmod M = 0) : immP (sct V imm ps) ps (n : Int) = BitVec.ofInt 64 imm := by
  have B : ∀ m, m < n → (srcs ps m).any ((sct V imm ps).getLsbD ·) = (BitVec.ofInt 64 imm).getLsbD m := by
    intro m hmn
    have h := List.all_eq_true.1 hc m (List.mem_range.2 hmn)
    rw [Bool.or_eq_true] at h
    rcases h with h | h
    · simp only [Bool.and_eq_true, decide_eq_true_eq, List.isEmpty_iff] at h
      rw [h.2, low_bits imm z m M hM hm h.1]
      rfl
    · simp only [Bool.and_eq_true, decide_eq_true_eq, List.any_eq_true, List.mem_range] at h
      obtain ⟨_, s, hs, e1, e2⟩ := h
      rw [e1]
      simp only [List.any_cons, List.any_nil, Bool.or_false]
      rw [sct_get _ _ _ hok _ hs]
      unfold lastBit
      rw [e2]
  apply BitVec.eq_of_getLsbD_eq
  intro i hi
  rw [immP_get _ _ hok n i h1 h2 hi]
  by_cases g : i < n
  · rw [if_pos g, B i g]
  · rw [if_neg g, B (n - 1) (by omega), sign_bits imm (n - 1) (n - 1) hr hr2 (by omega) (by omega), sign_bits imm (n - 1) i hr hr2 (by omega) hi]
/-- A word again. -/
def chk2 (ps : List Piece) (n : Nat) (keeps : Nat → Bool) : Bool :=
  (List.range 32).all fun j => ((List.range n).any fun m => decide ((ps.filterMap (dstP j)).getLast? = some m) && decide (srcs ps m = [j])) || (decide (ps.filterMap (dstP j) = []) && keeps j)
theorem sct_again (w V : BitVec 32) (ps : List Piece) (hok : ps.all Piece.ok = true) (n : Nat) (h1 : 1 ≤ n) (h2 : n ≤ 64) (keeps : Nat → Bool) (hc : chk2 ps n keeps = true)
    (hV : ∀ j, j < 32 → keeps j = true → V.getLsbD j = w.getLsbD j) : sct V (immP w ps (n : Int)).toInt ps = w := by
  apply BitVec.eq_of_getLsbD_eq
  intro j hj
  rw [sct_get _ _ _ hok _ hj, BitVec.ofInt_toInt]
  have h := List.all_eq_true.1 hc j (List.mem_range.2 hj)
  rw [Bool.or_eq_true] at h
  rcases h with h | h
  · simp only [Bool.and_eq_true, decide_eq_true_eq, List.any_eq_true, List.mem_range] at h
    obtain ⟨m, hm, e1, e2⟩ := h
    unfold lastBit
    rw [e1]
    show (immP w ps (n : Int)).getLsbD m = _
    rw [immP_get _ _ hok n m h1 h2 (by omega), if_pos hm, e2]
    simp
  · simp only [Bool.and_eq_true, decide_eq_true_eq] at h
    rw [h.1]
    show (W64 V).getLsbD j = _
    rw [W64_get, hV j hj h.2]
/-- What an immediate is: its ends; its lowest bits. -/
theorem immP_ends (w : BitVec 32) (ps : List Piece) (hok : ps.all Piece.ok = true) (n : Nat) (h1 : 1 ≤ n) (h2 : n ≤ 64) (v : BitVec 64) (hv : v = immP w ps (n : Int)) : -2 ^ (n - 1) ≤ v.toInt ∧ v.toInt < 2 ^ (n - 1) := by
  have hs : ∀ i, n - 1 ≤ i → i < 64 → v.getLsbD i = v.getLsbD 63 := by
    intro i hi h64
    rw [hv, immP_get _ _ hok n i h1 h2 h64, immP_get _ _ hok n 63 h1 h2 (by omega)]
    congr 2
    by_cases g : i < n
    · rw [if_pos g]
      by_cases k : 63 < n
      · rw [if_pos k]; omega
      · rw [if_neg k]; omega
    · rw [if_neg g]
      by_cases k : 63 < n
      · omega
      · rw [if_neg k]
  have e2 : ((2 : Int) ^ (n - 1)) = ((2 ^ (n - 1) : Nat) : Int) := by simp
  rw [e2]
  cases hb : v.getLsbD 63 with
  | false =>
    have hlt : v.toNat < 2 ^ (n - 1) := by
      apply Nat.lt_pow_two_of_testBit
      intro i hi
      rw [BitVec.testBit_toNat]
      by_cases g : i < 64
      · rw [hs i hi g, hb]
      · exact BitVec.getLsbD_of_ge v i (by omega)
    have hp : 2 ^ (n - 1) ≤ 2 ^ 63 := Nat.pow_le_pow_right (by omega) (by omega)
    rw [BitVec.toInt_eq_toNat_of_lt (by omega)]
    omega
  | true =>
    have hlt : (~~~ v).toNat < 2 ^ (n - 1) := by
      apply Nat.lt_pow_two_of_testBit
      intro i hi
      rw [BitVec.testBit_toNat]
      by_cases g : i < 64
      · rw [BitVec.getLsbD_not, hs i hi g, hb]; simp
      · exact BitVec.getLsbD_of_ge _ i (by omega)
    have hp : 2 ^ (n - 1) ≤ 2 ^ 63 := Nat.pow_le_pow_right (by omega) (by omega)
    rw [BitVec.toNat_not] at hlt
    have hl := v.isLt
    have e : v.toInt = (v.toNat : Int) - 2 ^ 64 := by
      rw [BitVec.toInt_eq_toNat_cond, if_neg (by omega)]
      simp
    rw [e]
    omega
theorem mod_low (v : BitVec 64) (z : Nat) (h : ∀ i, i < z → v.getLsbD i = false) : v.toNat % 2 ^ z = 0 := by
  apply Nat.eq_of_testBit_eq
  intro i
  rw [Nat.testBit_mod_two_pow, Nat.zero_testBit]
  by_cases g : i < z
  · rw [BitVec.testBit_toNat, h i g]; simp
  · rw [decide_eq_false g]; rfl
theorem tmod_low (v : BitVec 64) (z : Nat) (hz : z ≤ 64) (h : ∀ i, i < z → v.getLsbD i = false) : v.toInt.tmod ((2 ^ z : Nat) : Int) = 0 := by
  have hm := mod_low v z h
  have hd : ((2 ^ z : Nat) : Int) ∣ v.toInt := by
    have h1 : ((2 ^ z : Nat) : Int) ∣ (v.toNat : Int) := Int.natCast_dvd_natCast.2 (Nat.dvd_of_mod_eq_zero hm)
    have h2 : ((2 ^ z : Nat) : Int) ∣ ((2 ^ 64 : Nat) : Int) := Int.natCast_dvd_natCast.2 (Nat.pow_dvd_pow 2 hz)
    rw [BitVec.toInt_eq_toNat_cond]
    split
    · exact h1
    · exact Int.dvd_sub h1 h2
  exact Int.tmod_eq_zero_of_dvd hd
theorem top_bit (v : BitVec 64) : ((v.toNat : Int) / 9223372036854775808) = if v.getLsbD 63 then 1 else 0 := by
  have hl := v.isLt
  have e : v.getLsbD 63 = decide (9223372036854775808 ≤ v.toNat) := by
    have := BitVec.msb_eq_decide v
    rw [BitVec.msb_eq_getLsbD_last] at this
    simpa using this
  rw [e]
  by_cases h : 9223372036854775808 ≤ v.toNat
  · rw [decide_eq_true h]; simp; omega
  · rw [decide_eq_false h]; simp; omega
theorem top_bit32 (v : BitVec 32) : ((v.toNat : Int) / 2147483648) = if v.getLsbD 31 then 1 else 0 := by
  have hl := v.isLt
  have e : v.getLsbD 31 = decide (2147483648 ≤ v.toNat) := by
    have := BitVec.msb_eq_decide v
    rw [BitVec.msb_eq_getLsbD_last] at this
    simpa using this
  rw [e]
  by_cases h : 2147483648 ≤ v.toNat
  · rw [decide_eq_true h]; simp; omega
  · rw [decide_eq_false h]; simp; omega
end Wd
end Go.Proofs.Ytnhbekgmameeaaa
