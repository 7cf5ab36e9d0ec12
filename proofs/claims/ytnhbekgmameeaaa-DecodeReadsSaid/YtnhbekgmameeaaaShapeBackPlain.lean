/- Plain lemmas: what is laid out is read again, in each form; a word's fields laid out are the word; no program in sight. -/
import Derived.Test.YtnhbekgmameeaaaShapeBits
namespace Go.Proofs.Ytnhbekgmameeaaa
open Go.RowKit
namespace Wd
theorem enc0 {ok : Bool} {e : Int} {v p : BitVec 32} {x : Int} (h : encG ok e v = (p, x)) (hx : x = 0) : ok = true ∧ e = 0 ∧ p = v := by
  unfold encG at h
  cases ok with
  | false => simp at h; omega
  | true =>
    by_cases he : e = 0
    · simp [he] at h; exact ⟨rfl, he, h.1.symm⟩
    · simp [he] at h; omega
theorem nat_fit {x : Int} {m : Nat} (h : fitB x ((m : Nat) : Int) = true) : ∃ n : Nat, x = (n : Int) ∧ n ≤ m := by
  rw [fit_iff] at h
  exact ⟨x.toNat, by omega, by omega⟩
theorem near0 {imm most m : Int} (h : nearE imm most m = 0) : -most ≤ imm ∧ imm < most ∧ imm.tmod m = 0 := by
  unfold nearE at h
  split at h
  · omega
  · split at h
    · exact ⟨by omega, by omega, by assumption⟩
    · omega
theorem back_R {op rd f3 rs1 rs2 f7 x : Int} {v : BitVec 32} (h : encR op rd f3 rs1 rs2 f7 = (v, x)) (hx : x = 0) :
    (fieldI v 6 0 : Int) = op ∧ (fieldI v 11 7 : Int) = rd ∧ (fieldI v 14 12 : Int) = f3 ∧ (fieldI v 19 15 : Int) = rs1 ∧ (fieldI v 24 20 : Int) = rs2 ∧ (fieldI v 31 25 : Int) = f7 := by
  obtain ⟨ho, _, rfl⟩ := enc0 h hx
  rw [Bool.and_eq_true] at ho
  obtain ⟨h1, h2, h3⟩ := ok_parts ho.1
  have hr := (regs_iff _).1 h2
  have r0 : fitB rd 31 = true := hr 0 (by simp)
  have r1 : fitB rs1 31 = true := hr 1 (by simp)
  have r2 : fitB rs2 31 = true := hr 2 (by simp)
  obtain ⟨op, rfl, b1⟩ := nat_fit (m := 127) h1
  obtain ⟨f3, rfl, b2⟩ := nat_fit (m := 7) h3
  obtain ⟨rd, rfl, b3⟩ := nat_fit (m := 31) r0
  obtain ⟨rs1, rfl, b4⟩ := nat_fit (m := 31) r1
  obtain ⟨rs2, rfl, b5⟩ := nat_fit (m := 31) r2
  obtain ⟨f7, rfl, b6⟩ := nat_fit (m := 127) ho.2
  obtain ⟨e1, e2, e3, e4, e5, e6⟩ := fields_lay op rd f3 rs1 rs2 f7 (by omega) (by omega) (by omega) (by omega) (by omega) (by omega)
  rw [e1, e2, e3, e4, e5, e6]
  exact ⟨rfl, rfl, rfl, rfl, rfl, rfl⟩
theorem back_I {op rd f3 rs1 imm x : Int} {v : BitVec 32} (h : encI op rd f3 rs1 imm = (v, x)) (hx : x = 0) : immP v psI 12 = BitVec.ofInt 64 imm ∧ (fieldI v 11 7 : Int) = rd ∧ (fieldI v 19 15 : Int) = rs1 := by
  obtain ⟨ho, hn, rfl⟩ := enc0 h hx
  obtain ⟨h1, h2, h3⟩ := ok_parts ho
  have hr := (regs_iff _).1 h2
  have r0 : fitB rd 31 = true := hr 0 (by simp)
  have r1 : fitB rs1 31 = true := hr 1 (by simp)
  obtain ⟨n1, n2, n3⟩ := near0 hn
  obtain ⟨op, rfl, b1⟩ := nat_fit (m := 127) h1
  obtain ⟨f3, rfl, b2⟩ := nat_fit (m := 7) h3
  obtain ⟨rd, rfl, b3⟩ := nat_fit (m := 31) r0
  obtain ⟨rs1, rfl, b4⟩ := nat_fit (m := 31) r1
  have F := fields_lay op rd f3 rs1 0 0 (by omega) (by omega) (by omega) (by omega) (by omega) (by omega)
  refine ⟨sct_imm _ imm psI (by decide) 12 0 (by omega) (by omega) (by decide +kernel) 1 (by decide) n1 n2 n3, ?_, ?_⟩
  · rw [show fieldI (sct _ imm psI) 11 7 = fieldI _ 11 7 from sct_keep _ imm psI (by decide) 11 7 (by omega) (by omega) (by decide)]
    exact congrArg _ F.rd
  · rw [show fieldI (sct _ imm psI) 19 15 = fieldI _ 19 15 from sct_keep _ imm psI (by decide) 19 15 (by omega) (by omega) (by decide)]
    exact congrArg _ F.rs1
theorem back_S {op f3 rs1 rs2 imm x : Int} {v : BitVec 32} (h : encS op f3 rs1 rs2 imm = (v, x)) (hx : x = 0) : immP v psS 12 = BitVec.ofInt 64 imm ∧ (fieldI v 24 20 : Int) = rs2 := by
  obtain ⟨ho, hn, rfl⟩ := enc0 h hx
  obtain ⟨h1, h2, h3⟩ := ok_parts ho
  have hr := (regs_iff _).1 h2
  have r0 : fitB rs1 31 = true := hr 0 (by simp)
  have r1 : fitB rs2 31 = true := hr 1 (by simp)
  obtain ⟨n1, n2, n3⟩ := near0 hn
  obtain ⟨op, rfl, b1⟩ := nat_fit (m := 127) h1
  obtain ⟨f3, rfl, b2⟩ := nat_fit (m := 7) h3
  obtain ⟨rs1, rfl, b3⟩ := nat_fit (m := 31) r0
  obtain ⟨rs2, rfl, b4⟩ := nat_fit (m := 31) r1
  have F := fields_lay op 0 f3 rs1 rs2 0 (by omega) (by omega) (by omega) (by omega) (by omega) (by omega)
  refine ⟨sct_imm _ imm psS (by decide) 12 0 (by omega) (by omega) (by decide +kernel) 1 (by decide) n1 n2 n3, ?_⟩
  rw [show fieldI (sct _ imm psS) 24 20 = fieldI _ 24 20 from sct_keep _ imm psS (by decide) 24 20 (by omega) (by omega) (by decide)]
  exact congrArg _ F.rs2
theorem back_B {op f3 rs1 rs2 imm x : Int} {v : BitVec 32} (h : encB op f3 rs1 rs2 imm = (v, x)) (hx : x = 0) : immP v psB 13 = BitVec.ofInt 64 imm ∧ (fieldI v 14 12 : Int) = f3 := by
  obtain ⟨ho, hn, rfl⟩ := enc0 h hx
  obtain ⟨h1, h2, h3⟩ := ok_parts ho
  have hr := (regs_iff _).1 h2
  have r0 : fitB rs1 31 = true := hr 0 (by simp)
  have r1 : fitB rs2 31 = true := hr 1 (by simp)
  obtain ⟨n1, n2, n3⟩ := near0 hn
  obtain ⟨op, rfl, b1⟩ := nat_fit (m := 127) h1
  obtain ⟨f3, rfl, b2⟩ := nat_fit (m := 7) h3
  obtain ⟨rs1, rfl, b3⟩ := nat_fit (m := 31) r0
  obtain ⟨rs2, rfl, b4⟩ := nat_fit (m := 31) r1
  have F := fields_lay op 0 f3 rs1 rs2 0 (by omega) (by omega) (by omega) (by omega) (by omega) (by omega)
  refine ⟨sct_imm _ imm psB (by decide) 13 1 (by omega) (by omega) (by decide +kernel) 2 (by decide) n1 n2 n3, ?_⟩
  rw [show fieldI (sct _ imm psB) 14 12 = fieldI _ 14 12 from sct_keep _ imm psB (by decide) 14 12 (by omega) (by omega) (by decide)]
  exact congrArg _ F.f3
theorem back_U {op rd imm x : Int} {v : BitVec 32} (h : encU op rd imm = (v, x)) (hx : x = 0) : immP v psU 32 = BitVec.ofInt 64 imm ∧ (fieldI v 6 0 : Int) = op := by
  obtain ⟨ho, hn, rfl⟩ := enc0 h hx
  obtain ⟨h1, h2, h3⟩ := ok_parts ho
  have hr := (regs_iff _).1 h2
  have r0 : fitB rd 31 = true := hr 0 (by simp)
  obtain ⟨n1, n2, n3⟩ := near0 hn
  obtain ⟨op, rfl, b1⟩ := nat_fit (m := 127) h1
  obtain ⟨rd, rfl, b3⟩ := nat_fit (m := 31) r0
  have F := fields_lay op rd 0 0 0 0 (by omega) (by omega) (by omega) (by omega) (by omega) (by omega)
  refine ⟨sct_imm _ imm psU (by decide) 32 12 (by omega) (by omega) (by decide +kernel) 4096 (by decide) n1 n2 n3, ?_⟩
  rw [show fieldI (sct _ imm psU) 6 0 = fieldI _ 6 0 from sct_keep _ imm psU (by decide) 6 0 (by omega) (by omega) (by decide)]
  exact congrArg _ F.op
theorem back_J {op rd imm x : Int} {v : BitVec 32} (h : encJ op rd imm = (v, x)) (hx : x = 0) : immP v psJ 21 = BitVec.ofInt 64 imm ∧ (fieldI v 11 7 : Int) = rd := by
  obtain ⟨ho, hn, rfl⟩ := enc0 h hx
  obtain ⟨h1, h2, h3⟩ := ok_parts ho
  have hr := (regs_iff _).1 h2
  have r0 : fitB rd 31 = true := hr 0 (by simp)
  obtain ⟨n1, n2, n3⟩ := near0 hn
  obtain ⟨op, rfl, b1⟩ := nat_fit (m := 127) h1
  obtain ⟨rd, rfl, b3⟩ := nat_fit (m := 31) r0
  have F := fields_lay op rd 0 0 0 0 (by omega) (by omega) (by omega) (by omega) (by omega) (by omega)
  refine ⟨sct_imm _ imm psJ (by decide) 21 1 (by omega) (by omega) (by decide +kernel) 2 (by decide) n1 n2 n3, ?_⟩
  rw [show fieldI (sct _ imm psJ) 11 7 = fieldI _ 11 7 from sct_keep _ imm psJ (by decide) 11 7 (by omega) (by omega) (by decide)]
  exact congrArg _ F.rd

/-! ### A word's fields, laid out again -/
theorem fit_nat (n m : Nat) (h : n ≤ m) : fitB (n : Int) ((m : Nat) : Int) = true := (fit_iff _ _).2 (by omega)
theorem near_of {imm most m : Int} (h1 : -most ≤ imm) (h2 : imm < most) (h3 : imm.tmod m = 0) : nearE imm most m = 0 := by
  unfold nearE
  rw [if_neg (by omega), if_pos h3]
theorem again_R (w : BitVec 32) : encR (fieldI w 6 0 : Nat) (fieldI w 11 7 : Nat) (fieldI w 14 12 : Nat) (fieldI w 19 15 : Nat) (fieldI w 24 20 : Nat) (fieldI w 31 25 : Nat) = (w, 0) := by
  obtain ⟨b1, b2, b3, b4, b5, b6⟩ := small_of w
  unfold encR
  rw [word_fields w]
  have ho : (okI (fieldI w 6 0 : Nat) (fieldI w 14 12 : Nat) [((fieldI w 11 7 : Nat) : Int), ((fieldI w 19 15 : Nat) : Int), ((fieldI w 24 20 : Nat) : Int)] && fitB ((fieldI w 31 25 : Nat) : Int) 127) = true := by
    unfold okI regsB
    simp only [List.all_cons, List.all_nil, Bool.and_true]
    rw [show fitB ((fieldI w 6 0 : Nat) : Int) 127 = true from fit_nat _ 127 (by omega), show fitB ((fieldI w 11 7 : Nat) : Int) 31 = true from fit_nat _ 31 (by omega), show fitB ((fieldI w 14 12 : Nat) : Int) 7 = true from fit_nat _ 7 (by omega),
      show fitB ((fieldI w 19 15 : Nat) : Int) 31 = true from fit_nat _ 31 (by omega), show fitB ((fieldI w 24 20 : Nat) : Int) 31 = true from fit_nat _ 31 (by omega), show fitB ((fieldI w 31 25 : Nat) : Int) 127 = true from fit_nat _ 127 (by omega)]
    rfl
  rw [ho]
  rfl
/-- The kept fields of a word, others 0. -/
theorem lay_keeps (w : BitVec 32) (a b c d e f : Bool) (j : Nat) (hj : j < 32) (keeps : Nat → Bool) (hk : keeps = fun j => if j < 7 then a else if j < 12 then b else if j < 15 then c else if j < 20 then d else if j < 25 then e else f) (h : keeps j = true) :
    (layW ((if a then fieldI w 6 0 else 0 : Nat) : Int) ((if b then fieldI w 11 7 else 0 : Nat) : Int) ((if c then fieldI w 14 12 else 0 : Nat) : Int) ((if d then fieldI w 19 15 else 0 : Nat) : Int) ((if e then fieldI w 24 20 else 0 : Nat) : Int) ((if f then fieldI w 31 25 else 0 : Nat) : Int)).getLsbD j = w.getLsbD j := by
  obtain ⟨b1, b2, b3, b4, b5, b6⟩ := small_of w
  have hz : ∀ n : Nat, 0 < 2 ^ n := fun n => Nat.two_pow_pos n
  rw [layW_get _ _ _ _ _ _ _ (by split <;> first | assumption | exact hz _) (by split <;> first | assumption | exact hz _) (by split <;> first | assumption | exact hz _) (by split <;> first | assumption | exact hz _)
    (by split <;> first | assumption | exact hz _) (by split <;> first | assumption | exact hz _) hj, ← pick_of w j hj]
  subst hk
  unfold pickW
  simp only at h
  split
  · rw [if_pos (by assumption)] at h; rw [h]; rfl
  split
  · rw [if_neg (by assumption), if_pos (by assumption)] at h; rw [h]; rfl
  split
  · rw [if_neg (by assumption), if_neg (by assumption), if_pos (by assumption)] at h; rw [h]; rfl
  split
  · rw [if_neg (by assumption), if_neg (by assumption), if_neg (by assumption), if_pos (by assumption)] at h; rw [h]; rfl
  split
  · rw [if_neg (by assumption), if_neg (by assumption), if_neg (by assumption), if_neg (by assumption), if_pos (by assumption)] at h; rw [h]; rfl
  · rw [if_neg (by assumption), if_neg (by assumption), if_neg (by assumption), if_neg (by assumption), if_neg (by assumption)] at h; rw [h]; rfl
def keepsI (j : Nat) : Bool := if j < 7 then true else if j < 12 then true else if j < 15 then true else if j < 20 then true else if j < 25 then false else false
def keepsS (j : Nat) : Bool := if j < 7 then true else if j < 12 then false else if j < 15 then true else if j < 20 then true else if j < 25 then true else false
def keepsU (j : Nat) : Bool := if j < 7 then true else if j < 12 then true else if j < 15 then false else if j < 20 then false else if j < 25 then false else false
theorem encG_ok {ok : Bool} {e : Int} {v w : BitVec 32} (h : ok = true) (he : e = 0) (hv : v = w) : encG ok e v = (w, 0) := by
  subst h he hv
  rfl
theorem ok_two (op f3 a b : Nat) (h1 : op < 2 ^ 7) (h2 : f3 < 2 ^ 3) (h3 : a < 2 ^ 5) (h4 : b < 2 ^ 5) : okI (op : Int) (f3 : Int) [(a : Int), (b : Int)] = true := by
  unfold okI regsB
  simp only [List.all_cons, List.all_nil, Bool.and_true]
  rw [show fitB (op : Int) 127 = true from fit_nat _ 127 (by omega), show fitB (f3 : Int) 7 = true from fit_nat _ 7 (by omega), show fitB (a : Int) 31 = true from fit_nat _ 31 (by omega), show fitB (b : Int) 31 = true from fit_nat _ 31 (by omega)]
  rfl
theorem ok_one' (op a : Nat) (h1 : op < 2 ^ 7) (h3 : a < 2 ^ 5) : okI (op : Int) 0 [(a : Int)] = true := by
  unfold okI regsB
  simp only [List.all_cons, List.all_nil, Bool.and_true]
  rw [show fitB (op : Int) 127 = true from fit_nat _ 127 (by omega), show fitB (a : Int) 31 = true from fit_nat _ 31 (by omega)]
  rfl
theorem again_I (w : BitVec 32) : encI (fieldI w 6 0 : Nat) (fieldI w 11 7 : Nat) (fieldI w 14 12 : Nat) (fieldI w 19 15 : Nat) (immP w psI 12).toInt = (w, 0) := by
  have B := small_of w
  have E := immP_ends w psI (by decide) 12 (by omega) (by omega) _ rfl
  exact encG_ok (ok_two _ _ _ _ B.op B.f3 B.rd B.rs1) (near_of E.1 E.2 (Int.tmod_one _))
    (sct_again w _ psI (by decide) 12 (by omega) (by omega) keepsI (by decide +kernel) fun j hj hk => lay_keeps w true true true true false false j hj keepsI rfl hk)
theorem again_S (w : BitVec 32) : encS (fieldI w 6 0 : Nat) (fieldI w 14 12 : Nat) (fieldI w 19 15 : Nat) (fieldI w 24 20 : Nat) (immP w psS 12).toInt = (w, 0) := by
  have B := small_of w
  have E := immP_ends w psS (by decide) 12 (by omega) (by omega) _ rfl
  exact encG_ok (ok_two _ _ _ _ B.op B.f3 B.rs1 B.rs2) (near_of E.1 E.2 (Int.tmod_one _))
    (sct_again w _ psS (by decide) 12 (by omega) (by omega) keepsS (by decide +kernel) fun j hj hk => lay_keeps w true false true true true false j hj keepsS rfl hk)
theorem low_zero (w : BitVec 32) (ps : List Piece) (hok : ps.all Piece.ok = true) (n z : Nat) (h1 : 1 ≤ n) (h2 : n ≤ 64) (hz : z ≤ n) (hs : ∀ i, i < z → srcs ps i = []) (M : Int) (hM : M = ((2 ^ z : Nat) : Int)) : (immP w ps (n : Int)).toInt.tmod M = 0 := by
  rw [hM]
  refine tmod_low _ z (by omega) fun i hi => ?_
  rw [immP_get w ps hok n i h1 h2 (by omega), if_pos (by omega), hs i hi]
  rfl
theorem again_B (w : BitVec 32) : encB (fieldI w 6 0 : Nat) (fieldI w 14 12 : Nat) (fieldI w 19 15 : Nat) (fieldI w 24 20 : Nat) (immP w psB 13).toInt = (w, 0) := by
  have B := small_of w
  have E := immP_ends w psB (by decide) 13 (by omega) (by omega) _ rfl
  exact encG_ok (ok_two _ _ _ _ B.op B.f3 B.rs1 B.rs2) (near_of E.1 E.2 (low_zero w psB (by decide) 13 1 (by omega) (by omega) (by omega) (by decide) 2 (by decide)))
    (sct_again w _ psB (by decide) 13 (by omega) (by omega) keepsS (by decide +kernel) fun j hj hk => lay_keeps w true false true true true false j hj keepsS rfl hk)
theorem again_U (w : BitVec 32) : encU (fieldI w 6 0 : Nat) (fieldI w 11 7 : Nat) (immP w psU 32).toInt = (w, 0) := by
  have B := small_of w
  have E := immP_ends w psU (by decide) 32 (by omega) (by omega) _ rfl
  exact encG_ok (ok_one' _ _ B.op B.rd) (near_of E.1 E.2 (low_zero w psU (by decide) 32 12 (by omega) (by omega) (by omega) (by decide) 4096 (by decide)))
    (sct_again w _ psU (by decide) 32 (by omega) (by omega) keepsU (by decide +kernel) fun j hj hk => lay_keeps w true true false false false false j hj keepsU rfl hk)
theorem again_J (w : BitVec 32) : encJ (fieldI w 6 0 : Nat) (fieldI w 11 7 : Nat) (immP w psJ 21).toInt = (w, 0) := by
  have B := small_of w
  have E := immP_ends w psJ (by decide) 21 (by omega) (by omega) _ rfl
  exact encG_ok (ok_one' _ _ B.op B.rd) (near_of E.1 E.2 (low_zero w psJ (by decide) 21 1 (by omega) (by omega) (by omega) (by decide) 2 (by decide)))
    (sct_again w _ psJ (by decide) 21 (by omega) (by omega) keepsU (by decide +kernel) fun j hj hk => lay_keeps w true true false false false false j hj keepsU rfl hk)
end Wd
end Go.Proofs.Ytnhbekgmameeaaa
