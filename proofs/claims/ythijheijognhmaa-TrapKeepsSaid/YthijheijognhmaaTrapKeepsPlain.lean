/- Plain lemmas: registers such as writes leave them stay so, over traps and the ways back. -/
import Derived.Test.YthijheijognhmaaTrapBackPlain
import Derived.Test.YthijheijognhmaaTrapMay0
namespace Go.Proofs.Ythijheijognhmaa
open Go.RowKit
set_option linter.unusedVariables false
set_option linter.unusedSimpArgs false
namespace Wd
def xorL (v : BitVec 64) (n : Int) : BitVec 64 := v ^^^ BitVec.ofInt 64 n
theorem xor_L (v : BitVec 64) (n : Int) : bits .xor .u64 (v.toNat : Int) n = ((xorL v n).toNat : Int) := by rw [xor64, of64]; rfl
def inM (i : Nat) : Bool := (BitVec.ofInt 64 8264106).getLsbD i
def okS (s : BitVec 64) : Prop := (∀ i, i < 64 → inM i = false → s.getLsbD i = false) ∧ (s.getLsbD 12 = true → s.getLsbD 11 = true)
theorem get_and (v : BitVec 64) (n : Int) (k : Nat) : (andL v n).getLsbD k = (v.getLsbD k && (BitVec.ofInt 64 n).getLsbD k) := by unfold andL; rw [BitVec.getLsbD_and]
theorem at_6144 : ∀ i, i < 64 → (BitVec.ofInt 64 6144).getLsbD i = decide (i = 11 ∨ i = 12) := by decide +kernel
theorem at_4096 : ∀ i, i < 64 → (4096#64).getLsbD i = decide (i = 12) := by decide +kernel
theorem two_iff (s : BitVec 64) : ((andL s 6144).toNat : Int) = 4096 ↔ s.getLsbD 12 = true ∧ s.getLsbD 11 = false := by
  constructor
  · intro h
    have e : andL s 6144 = 4096#64 := BitVec.eq_of_toNat_eq (by rw [show (4096#64 : BitVec 64).toNat = 4096 from rfl]; omega)
    have h1 := congrArg (fun x => x.getLsbD 12) e
    have h2 := congrArg (fun x => x.getLsbD 11) e
    have h3 : (s.getLsbD 12 && true) = true := by rw [← show (BitVec.ofInt 64 6144).getLsbD 12 = true from by decide, ← get_and]; exact h1
    have h4 : (s.getLsbD 11 && true) = false := by rw [← show (BitVec.ofInt 64 6144).getLsbD 11 = true from by decide, ← get_and]; exact h2
    rw [Bool.and_true] at h3 h4
    exact ⟨h3, h4⟩
  · rintro ⟨h1, h2⟩
    have e : andL s 6144 = 4096#64 := by
      apply BitVec.eq_of_getLsbD_eq
      intro i hi
      rw [get_and, at_6144 i hi, at_4096 i hi]
      by_cases c : i = 12
      · subst c; rw [h1]; rfl
      · by_cases d : i = 11
        · subst d; rw [h2]; rfl
        · simp [c, d]
    rw [e]; rfl
theorem in_two (s : BitVec 64) : ((andL (andL s 8264106) 6144).toNat : Int) = ((andL s 6144).toNat : Int) := by
  have e : andL (andL s 8264106) 6144 = andL s 6144 := by
    apply BitVec.eq_of_getLsbD_eq
    intro i hi
    rw [get_and, get_and, get_and, at_6144 i hi]
    by_cases c : i = 11 ∨ i = 12
    · have : (BitVec.ofInt 64 8264106).getLsbD i = true := by rcases c with rfl | rfl <;> decide
      rw [this]; simp
    · rw [decide_eq_false c]; simp
  rw [e]
theorem okS_of (s : BitVec 64) (h0 : ((s.toNat : Int) == ((stW s).toNat : Int)) = true) (h1 : (((andL s 6144).toNat : Int) != 4096) = true) : okS s := by
  have hn : ¬ ((andL s 6144).toNat : Int) = 4096 := by simpa using h1
  have hs : stW s = andL s 8264106 := if_neg (by rw [in_two]; exact hn)
  have he : s = andL s 8264106 := by
    rw [← hs]
    exact BitVec.eq_of_toNat_eq (by have := beq_iff_eq.1 h0; omega)
  refine ⟨fun i hi hm => ?_, fun h12 => ?_⟩
  · rw [he, get_and, show (BitVec.ofInt 64 8264106).getLsbD i = false from hm]; simp
  · cases h11 : s.getLsbD 11 with
    | true => rfl
    | false => exact absurd ((two_iff s).2 ⟨h12, h11⟩) hn
theorem okS_to (s : BitVec 64) (h : okS s) : ((s.toNat : Int) == ((stW s).toNat : Int)) = true ∧ (((andL s 6144).toNat : Int) != 4096) = true := by
  have hn : ¬ ((andL s 6144).toNat : Int) = 4096 := by
    intro hc
    obtain ⟨a, b⟩ := (two_iff s).1 hc
    rw [h.2 a] at b
    simp at b
  have hs : stW s = andL s 8264106 := if_neg (by rw [in_two]; exact hn)
  have he : andL s 8264106 = s := by
    apply BitVec.eq_of_getLsbD_eq
    intro i hi
    rw [get_and]
    cases hm : (BitVec.ofInt 64 8264106).getLsbD i with
    | true => simp
    | false => rw [h.1 i hi hm]; rfl
  rw [hs, he]
  exact ⟨by simp, by simpa using hn⟩
theorem okS_or (s : BitVec 64) (n : Int) (hs : okS s) (hn : ∀ i, i < 64 → inM i = false → (BitVec.ofInt 64 n).getLsbD i = false) (h12 : (BitVec.ofInt 64 n).getLsbD 12 = true → (BitVec.ofInt 64 n).getLsbD 11 = true) : okS (orL s n) := by
  refine ⟨fun i hi hm => ?_, fun h => ?_⟩
  · rw [get_or, hs.1 i hi hm, hn i hi hm]; rfl
  · rw [get_or] at h ⊢
    rw [Bool.or_eq_true] at h ⊢
    exact h.imp hs.2 h12
theorem okS_clr (s : BitVec 64) (n : Int) (hs : okS s) (hb : (BitVec.ofInt 64 n).getLsbD 11 = true → (BitVec.ofInt 64 n).getLsbD 12 = true) : okS (clrL s n) := by
  refine ⟨fun i hi hm => ?_, fun h => ?_⟩
  · rw [get_clr _ _ _ hi, hs.1 i hi hm]; rfl
  · rw [get_clr _ _ _ (by omega)] at h ⊢
    rw [Bool.and_eq_true, Bool.not_eq_true'] at h ⊢
    refine ⟨hs.2 h.1, ?_⟩
    cases q : (BitVec.ofInt 64 n).getLsbD 11 with
    | false => rfl
    | true => rw [hb q] at h; simp at h
theorem okS_move (s : BitVec 64) (a b : Nat) (x y : Int) (ha : a < 64) (hb : b < 64) (hx : x = ((2 ^ a : Nat) : Int)) (hy : y = ((2 ^ b : Nat) : Int)) (hs : okS s) (hm : inM b = true) (h11 : b ≠ 11) (h12 : b ≠ 12) : okS (moveW s x y) := by
  refine ⟨fun i hi hi0 => ?_, fun h => ?_⟩
  · rw [get_move s a b x y ha hb hx hy i hi]
    have : i ≠ b := by rintro rfl; rw [hm] at hi0; simp at hi0
    rw [if_neg this]
    exact hs.1 i hi hi0
  · rw [get_move s a b x y ha hb hx hy _ (by omega), if_neg (Ne.symm h12)] at h
    rw [get_move s a b x y ha hb hx hy _ (by omega), if_neg (Ne.symm h11)]
    exact hs.2 h
theorem okS_enterS (h : Hart) (c t : BitVec 64) (hs : okS h.status) : okS (enterS h c t).status := by
  show okS (if h.priv = 1 then orL (clrL (moveW h.status 2 32) 258) 256 else clrL (moveW h.status 2 32) 258)
  have h1 : okS (clrL (moveW h.status 2 32) 258) := okS_clr _ _ (okS_move _ 1 5 _ _ (by omega) (by omega) (by decide) (by decide) hs (by decide) (by decide) (by decide)) (by decide)
  split
  · exact okS_or _ _ h1 (by decide +kernel) (by decide)
  · exact h1
theorem okS_enterM (h : Hart) (c t : BitVec 64) (hs : okS h.status) (hp : h.priv = 0 ∨ h.priv = 1 ∨ h.priv = 3) : okS (enterM h c t).status := by
  show okS (orL (clrL (moveW h.status 8 128) 6152) (mppI h.priv))
  have h1 : okS (clrL (moveW h.status 8 128) 6152) := okS_clr _ _ (okS_move _ 3 7 _ _ (by omega) (by omega) (by decide) (by decide) hs (by decide) (by decide) (by decide)) (by decide)
  rcases hp with hp | hp | hp <;> rw [hp] <;> exact okS_or _ _ h1 (by decide +kernel) (by decide)
theorem okS_mret (h : Hart) (hs : okS h.status) : okS (mretH h).status := by
  have h1 : okS (mretS h) := by
    show okS (orL (clrL (moveW h.status 128 8) 6144) 128)
    exact okS_or _ _ (okS_clr _ _ (okS_move _ 7 3 _ _ (by omega) (by omega) (by decide) (by decide) hs (by decide) (by decide) (by decide)) (by decide)) (by decide +kernel) (by decide)
  show okS (if backI h.status = 3 then mretS h else clrL (mretS h) 131072)
  split
  · exact h1
  · exact okS_clr _ _ h1 (by decide)
theorem okS_sret (h : Hart) (hs : okS h.status) : okS (sretH h).status := by
  show okS (orL (clrL (moveW h.status 32 2) 131328) 32)
  exact okS_or _ _ (okS_clr _ _ (okS_move _ 5 1 _ _ (by omega) (by omega) (by decide) (by decide) hs (by decide) (by decide) (by decide)) (by decide)) (by decide +kernel) (by decide)

/-! ### May -/
theorem clr_3 (v : BitVec 64) : ((andL (clrL v 3) 3).toNat : Int) = 0 := by
  have e : andL (clrL v 3) 3 = 0#64 := by
    apply BitVec.eq_of_getLsbD_eq
    intro i hi
    rw [get_and, get_clr _ _ _ hi]
    cases v.getLsbD i <;> cases (BitVec.ofInt 64 3).getLsbD i <;> simp
  rw [e]; rfl
theorem kept_none (c : BitVec 64) : ((clrL (andL c 9223372036854775871) 9223372036854775871).toNat : Int) = 0 := by
  have e : clrL (andL c 9223372036854775871) 9223372036854775871 = 0#64 := by
    apply BitVec.eq_of_getLsbD_eq
    intro i hi
    rw [get_clr _ _ _ hi, get_and]
    cases c.getLsbD i <;> cases (BitVec.ofInt 64 9223372036854775871).getLsbD i <;> simp
  rw [e]; rfl
structure MayP (h : Hart) : Prop where
  ev : (evs h).all id = true
  st : okS h.status
  edeleg : (((clrL h.edeleg 46079).toNat : Int) == 0) = true
  ideleg : (((clrL h.ideleg 546).toNat : Int) == 0) = true
  ie : (((clrL h.ie 2730).toNat : Int) == 0) = true
  ip : (((clrL h.ip 546).toNat : Int) == 0) = true
  tvec : (((andL h.tvec 2).toNat : Int) == 0) = true
  stvec : (((andL h.stvec 2).toNat : Int) == 0) = true
  counteren : (((clrL h.counteren 127).toNat : Int) == 0) = true
  scounteren : (((clrL h.scounteren 127).toNat : Int) == 0) = true
  epc : (((andL h.epc 3).toNat : Int) == 0) = true
  sepc : (((andL h.sepc 3).toNat : Int) == 0) = true
  cause : (((clrL h.cause 9223372036854775871).toNat : Int) == 0) = true
  scause : (((clrL h.scause 9223372036854775871).toNat : Int) == 0) = true
  satp : ((h.satp.toNat : Int) / 1152921504606846976 == 0 || (h.satp.toNat : Int) / 1152921504606846976 == 8) = true
  inhibit : (((clrL h.inhibit 125).toNat : Int) == 0) = true
theorem mayP_iff (h : Hart) : mayC h = true ↔ MayP h := by
  unfold mayC mayL
  rw [List.all_append, Bool.and_eq_true]
  simp only [List.all_cons, List.all_nil, Bool.and_eq_true, id]
  constructor
  · rintro ⟨h0, h1, h2, h3, h4, h5, h6, h7, h8, h9, h10, h11, h12, h13, h14, h15, h16, _⟩
    exact ⟨h0, okS_of _ h1 h2, h3, h4, h5, h6, h7, h8, h9, h10, h11, h12, h13, h14, h15, h16⟩
  · rintro ⟨h0, hs, h3, h4, h5, h6, h7, h8, h9, h10, h11, h12, h13, h14, h15, h16⟩
    exact ⟨h0, (okS_to _ hs).1, (okS_to _ hs).2, h3, h4, h5, h6, h7, h8, h9, h10, h11, h12, h13, h14, h15, h16, trivial⟩
theorem may_S (h : Hart) (c t : BitVec 64) (m : mayC h = true) : mayC (enterS h c t) = true := by
  rw [mayP_iff] at m ⊢
  exact { m with st := okS_enterS h c t m.st, sepc := beq_iff_eq.2 (clr_3 h.pc), scause := beq_iff_eq.2 (kept_none c) }
theorem may_M (h : Hart) (c t : BitVec 64) (m : mayC h = true) (hp : h.priv = 0 ∨ h.priv = 1 ∨ h.priv = 3) : mayC (enterM h c t) = true := by
  rw [mayP_iff] at m ⊢
  exact { m with st := okS_enterM h c t m.st hp, epc := beq_iff_eq.2 (clr_3 h.pc), cause := beq_iff_eq.2 (kept_none c) }
theorem may_mret (h : Hart) (m : mayC h = true) : mayC (mretH h) = true := by
  rw [mayP_iff] at m ⊢
  exact { m with st := okS_mret h m.st }
theorem may_sret (h : Hart) (m : mayC h = true) : mayC (sretH h) = true := by
  rw [mayP_iff] at m ⊢
  exact { m with st := okS_sret h m.st }
theorem place_3 (v c : BitVec 64) : ((andL (placeW v c) 3).toNat : Int) = 0 := by
  have h1 : (clrL v 3).toNat % 4 = 0 := by
    have := clr_3 v
    have := andL_mask (clrL v 3) 2 (by omega) 3 (by decide)
    omega
  have h2 : (placeW v c).toNat % 4 = 0 := by
    unfold placeW
    split
    · unfold addK
      rw [BitVec.toNat_add, BitVec.toNat_ofNat]
      omega
    · exact h1
  have := andL_mask (placeW v c) 2 (by omega) 3 (by decide)
  omega
theorem same_S (h : Hart) (c t : BitVec 64) : ((andL (xorL (enterS h c t).status (h.status.toNat : Int)) 6280).toNat : Int) = 0 := by
  have e : andL (xorL (enterS h c t).status (h.status.toNat : Int)) 6280 = 0#64 := by
    apply BitVec.eq_of_getLsbD_eq
    intro i hi
    rw [get_and]
    unfold xorL
    rw [of64, BitVec.getLsbD_xor, (show ∀ i, i < 64 → (BitVec.ofInt 64 6280).getLsbD i = decide (i = 3 ∨ i = 7 ∨ i = 11 ∨ i = 12) by decide +kernel) i hi]
    by_cases q : i = 3 ∨ i = 7 ∨ i = 11 ∨ i = 12
    · have hs : (enterS h c t).status.getLsbD i = h.status.getLsbD i := by
        show (if h.priv = 1 then orL (clrL (moveW h.status 2 32) 258) 256 else clrL (moveW h.status 2 32) 258).getLsbD i = _
        have h1 : (clrL (moveW h.status 2 32) 258).getLsbD i = h.status.getLsbD i := by
          rw [get_clr _ _ _ hi, get_move _ 1 5 2 32 (by omega) (by omega) (by decide) (by decide) i hi, if_neg (by omega)]
          have : (BitVec.ofInt 64 258).getLsbD i = false := by rcases q with rfl | rfl | rfl | rfl <;> decide
          rw [this]; simp
        split
        · rw [get_or, h1]
          have : (BitVec.ofInt 64 256).getLsbD i = false := by rcases q with rfl | rfl | rfl | rfl <;> decide
          rw [this]; simp
        · exact h1
      rw [hs]; simp
    · rw [decide_eq_false q]; simp
  rw [e]; rfl
theorem same_M (h : Hart) (c t : BitVec 64) (hp : h.priv = 0 ∨ h.priv = 1 ∨ h.priv = 3) : ((andL (xorL (enterM h c t).status (h.status.toNat : Int)) 290).toNat : Int) = 0 := by
  have e : andL (xorL (enterM h c t).status (h.status.toNat : Int)) 290 = 0#64 := by
    apply BitVec.eq_of_getLsbD_eq
    intro i hi
    rw [get_and]
    unfold xorL
    rw [of64, BitVec.getLsbD_xor, (show ∀ i, i < 64 → (BitVec.ofInt 64 290).getLsbD i = decide (i = 1 ∨ i = 5 ∨ i = 8) by decide +kernel) i hi]
    by_cases q : i = 1 ∨ i = 5 ∨ i = 8
    · have hs : (enterM h c t).status.getLsbD i = h.status.getLsbD i := by
        show (orL (clrL (moveW h.status 8 128) 6152) (mppI h.priv)).getLsbD i = _
        have h0 : (BitVec.ofInt 64 (mppI h.priv)).getLsbD i = false := by
          rcases hp with hp | hp | hp <;> rw [hp] <;> rcases q with rfl | rfl | rfl <;> decide
        rw [get_or, h0, get_clr _ _ _ hi, get_move _ 3 7 8 128 (by omega) (by omega) (by decide) (by decide) i hi, if_neg (by omega)]
        have : (BitVec.ofInt 64 6152).getLsbD i = false := by rcases q with rfl | rfl | rfl <;> decide
        rw [this]; simp
      rw [hs]; simp
    · rw [decide_eq_false q]; simp
  rw [e]; rfl
end Wd
end Go.Proofs.Ythijheijognhmaa
