/- Plain: as many pages as there are ways, one behind the other; and one more. -/
import Derived.Test.YthjhcdkbajbpdaaTlbStart
import Derived.Test.YthjhcdkbajbpdaaBitsPlain
namespace Go.Proofs.Ythjhcdkbajbpdaa
open Go.RowKit Wd Pl
set_option linter.unusedVariables false
set_option linter.unusedSimpArgs false
namespace Wd
def pgW (k : Nat) : BitVec 64 := BitVec.ofNat 64 (k * 4096)
theorem pgW_nat (k : Nat) (h : k ≤ 127) : (pgW k).toNat = k * 4096 := by
  unfold pgW
  rw [BitVec.toNat_ofNat]
  omega
theorem pgW_int (k : Nat) (h : k ≤ 127) : ((pgW k).toNat : Int) = (k : Int) * 4096 := by
  rw [pgW_nat k h]
  omega
theorem pgW_proper (k : Nat) (h : k ≤ 127) : properB (pgW k) = true := by
  rw [proper_iff, pgW_int k h]
  have : ((k : Int) * 4096) / 274877906944 = 0 := by omega
  rw [this]
  rfl
theorem pgW_vpn (k : Nat) (h : k ≤ 127) : (vpnW (pgW k) 0).toNat = k := by
  unfold vpnW field
  rw [if_pos (by decide)]
  have e : ((fld (pgW k) 12 27) >>> (9 * 0) <<< (9 * 0)).toNat = (fld (pgW k) 12 27).toNat := by simp
  refine Eq.trans e ?_
  rw [fld_toNat _ _ _ (by omega), pgW_nat k h]
  omega
theorem vpn_inj (a b : Nat) (ha : a ≤ 127) (hb : b ≤ 127) : (vpnW (pgW b) 0 == vpnW (pgW a) 0) = (a == b) := by
  rw [Bool.eq_iff_iff, beq_iff_eq, beq_iff_eq]
  constructor
  · intro h
    have := congrArg BitVec.toNat h
    rw [pgW_vpn a ha, pgW_vpn b hb] at this
    exact this.symm
  · intro h
    rw [h]
/-- A page's way, of an entry e. -/
def pgY (k : Nat) (e : Int) : Wy := ⟨true, vpnW (pgW k) 0, 0, 0, 0, 0, e⟩
theorem pgY_of (a b : Nat) (e : Int) (ha : a ≤ 127) (hb : b ≤ 127) : ofB (pgY a e) (pgW b) = (a == b) := by
  unfold ofB
  rw [pgW_proper b hb, Bool.and_true]
  show (true && (vpnW (pgW b) 0 == vpnW (pgW a) 0)) = _
  rw [Bool.true_and, vpn_inj a b ha hb]
theorem pgY_new (k : Nat) (e : Int) : newY (pgW k) ⟨0, 0, 0, 0, e⟩ = pgY k e := rfl
theorem pg_may (k : Nat) (e : Int) (h : k ≤ 127) : mayP (pgW k) ⟨0, 0, 0, 0, e⟩ = true := by
  unfold mayP
  rw [pgW_proper k h]
  rfl
/-- What was put: had's pages, in their order. -/
structure Filled (n : Nat) (ws : List Wy) (st : Int) (had : List Nat) : Prop where
  len : ws.length = n
  n248 : n = 2 ∨ n = 4 ∨ n = 8
  le : had.length ≤ n
  small : ∀ i, i < had.length → had.getD i 0 < 64
  ways : ∀ i, i < had.length → wyAt ws i = pgY (had.getD i 0) ((had.getD i 0 : Int) * 4096)
  free : ∀ i, had.length ≤ i → (wyAt ws i).is = false
  other : ∀ i j, i < j → j < had.length → had.getD i 0 ≠ had.getD j 0
  may : mayB st n = true
theorem filled_start (n : Nat) (h : n = 2 ∨ n = 4 ∨ n = 8) : Filled n (mkW n) 0 [] :=
  ⟨by simp [mkW], h, by simp, fun i hi => by simp at hi, fun i hi => by simp at hi, fun i _ => by rw [mkW_at]; rfl, fun i j _ hj => by simp at hj, by rcases h with rfl | rfl | rfl <;> rfl⟩
theorem Filled.of {n : Nat} {ws : List Wy} {st : Int} {had : List Nat} (h : Filled n ws st had) (k : Nat) (hk : k ≤ 127) (i : Nat) : ofB (wyAt ws i) (pgW k) = if i < had.length then (had.getD i 0 == k) else false := by
  by_cases hi : i < had.length
  · rw [if_pos hi, h.ways i hi, pgY_of _ _ _ (by have := h.small i hi; omega) hk]
  · rw [if_neg hi]
    unfold ofB
    rw [h.free i (by omega)]
    rfl
/-- It is there, at i. -/
theorem Filled.hit {n : Nat} {ws : List Wy} {st : Int} {had : List Nat} (h : Filled n ws st had) (i : Nat) (hi : i < had.length) : fndI ws (pgW (had.getD i 0)) = i := by
  have hs := h.small i hi
  refine fnd_hit ws _ i (by rw [h.len]; exact Nat.lt_of_lt_of_le hi h.le) (fun j hj => ?_) ?_
  · rw [h.of _ (by omega), if_pos (by omega)]
    exact beq_eq_false_iff_ne.2 (h.other j i hj hi)
  · rw [h.of _ (by omega), if_pos hi]
    simp
/-- It is not there. -/
theorem Filled.miss {n : Nat} {ws : List Wy} {st : Int} {had : List Nat} (h : Filled n ws st had) (k : Nat) (hk : k ≤ 127) (hn : ∀ i, i < had.length → had.getD i 0 ≠ k) : fndI ws (pgW k) = ws.length := by
  refine fnd_miss ws _ fun j hj => ?_
  rw [h.of _ hk]
  split
  · exact beq_eq_false_iff_ne.2 (hn j (by assumption))
  · rfl
theorem Filled.dec {n : Nat} {ws : List Wy} {st : Int} {had : List Nat} (h : Filled n ws st had) (k : Nat) (hk : k < 64) : (∃ i, i < had.length ∧ had.getD i 0 = k) ∨ (∀ i, i < had.length → had.getD i 0 ≠ k) := by
  by_cases e : ∃ i, i < had.length ∧ had.getD i 0 = k
  · exact .inl e
  · exact .inr fun i hi he => e ⟨i, hi, he⟩
theorem may_touch {n : Nat} {st : Int} (h : mayB st n = true) (i : Nat) (hi : i < n) : mayB (touch st n i) n = true := (spares st n i h (by omega) (by omega)).1
/-- Looked for: there. -/
theorem Filled.look {n : Nat} {ws : List Wy} {st : Int} {had : List Nat} (h : Filled n ws st had) (va : BitVec 64) : Filled n ws (lookS ws st va) had := by
  refine ⟨h.len, h.n248, h.le, h.small, h.ways, h.free, h.other, ?_⟩
  unfold lookS
  split
  · rename_i hlt
    rw [h.len] at hlt ⊢
    exact may_touch h.may _ hlt
  · exact h.may
theorem getD_snoc (had : List Nat) (k i : Nat) : (had ++ [k]).getD i 0 = if i < had.length then had.getD i 0 else if i = had.length then k else 0 := by
  by_cases h : i < had.length
  · rw [if_pos h]
    simp [List.getD, List.getElem?_append_left h]
  · rw [if_neg h]
    by_cases e : i = had.length
    · subst e
      simp [List.getD]
    · rw [if_neg e]
      rw [List.getD, List.getElem?_eq_none (by simp; omega)]
      rfl
/-- One more. -/
theorem Filled.more {n : Nat} {ws : List Wy} {st : Int} {had : List Nat} (h : Filled n ws st had) (k : Nat) (hk : k < 64) (hl : had.length < n) (hn : ∀ i, i < had.length → had.getD i 0 ≠ k) :
    Filled n (putWs ws st (pgW k) ⟨0, 0, 0, 0, (k : Int) * 4096⟩) (putSt ws st (pgW k) ⟨0, 0, 0, 0, (k : Int) * 4096⟩) (had ++ [k]) := by
  have hm := h.miss k (by omega) hn
  have hf : freI ws = had.length := fre_hit ws had.length (by rw [h.len]; exact hl) (fun j hj => by rw [h.ways j hj]; rfl) (h.free _ (Nat.le_refl _))
  have hr : roomN ws st (pgW k) = had.length := by
    unfold roomN
    rw [if_neg (by omega), if_pos (by rw [hf, h.len]; exact hl), hf]
  unfold putWs putSt
  rw [if_pos (pg_may k _ (by omega)), if_pos (pg_may k _ (by omega)), hr, pgY_new]
  have hset := wyAt_set ws had.length (pgY k ((k : Int) * 4096)) (by rw [h.len]; exact hl)
  refine ⟨by rw [List.length_set]; exact h.len, h.n248, by simp; omega, fun i hi => ?_, fun i hi => ?_, fun i hi => ?_, fun i j hij hj => ?_, ?_⟩
  · rw [getD_snoc]
    split
    · exact h.small i (by assumption)
    · split <;> omega
  · rw [hset, getD_snoc]
    simp at hi
    by_cases e : i = had.length
    · rw [if_pos e, if_neg (by omega), if_pos e]
    · rw [if_neg e, if_pos (by omega)]
      exact h.ways i (by omega)
  · simp at hi
    rw [hset, if_neg (by omega)]
    exact h.free i (by omega)
  · simp at hj
    rw [getD_snoc, getD_snoc, if_pos (by omega)]
    by_cases e : j < had.length
    · rw [if_pos e]
      exact h.other i j hij e
    · rw [if_neg e, if_pos (by omega)]
      exact hn i (by omega)
  · rw [h.len]
    exact may_touch h.may _ hl
theorem Filled.count {n : Nat} {ws : List Wy} {st : Int} {had : List Nat} (h : Filled n ws st had) : (entL ws ws.length).length = had.length := by
  have hk : ∀ k, (entL ws k).length = min k had.length := by
    intro k
    induction k with
    | zero => simp [entL_zero]
    | succ k ih =>
      by_cases hi : k < had.length
      · rw [entL_yes ws k (by rw [h.ways k hi]; rfl), List.length_append, ih]
        simp
        omega
      · rw [entL_no ws k (h.free k (by omega)), ih]
        omega
  rw [hk, h.len]
  have := h.le
  omega
/-- One more than there are ways: the one that was looked for last stays. -/
theorem Filled.over {n : Nat} {ws : List Wy} {st : Int} {had : List Nat} (h : Filled n ws st had) (hl : had.length = n) (j : Nat) (hj : j < n) (va : BitVec 64) (hva : fndI ws va = j) :
    let st1 := lookS ws st va
    let ws2 := putWs ws st1 (pgW 100) ⟨0, 0, 0, 0, 5⟩
    (∃ r, r < n ∧ r ≠ j ∧ ws2 = ws.set r (pgY 100 5)) ∧ (entL ws2 ws2.length).length = n ∧ fndI ws2 (pgW (had.getD j 0)) = j ∧ wyAt ws2 j = pgY (had.getD j 0) ((had.getD j 0 : Int) * 4096) ∧ fndI ws2 (pgW 100) < ws2.length ∧ wyAt ws2 (fndI ws2 (pgW 100)) = pgY 100 5 ∧ ws2.length = n := by
  intro st1 ws2
  have e1 : st1 = touch st n j := by
    show lookS ws st va = _
    unfold lookS
    rw [if_pos (by rw [hva, h.len]; exact hj), hva, h.len]
  obtain ⟨_, hv, _, _⟩ := spares st n j h.may (by omega) (by omega)
  have hvr := victim_range (touch st n j) n h.n248
  have hm := h.miss 100 (by omega) (fun i hi => by have := h.small i hi; omega)
  have hf : freI ws = ws.length := fre_miss ws (fun i hi => by rw [h.ways i (by rw [hl, ← h.len]; exact hi)]; rfl)
  obtain ⟨r, hrv⟩ : ∃ r : Nat, victim (touch st n j) n = (r : Int) := ⟨(victim (touch st n j) n).toNat, by omega⟩
  have hrn : r < n := by omega
  have hrj : r ≠ j := by omega
  have hroom : roomN ws st1 (pgW 100) = r := by
    unfold roomN
    rw [if_neg (by omega), if_neg (by omega), e1, h.len, hrv]
    omega
  have e2 : ws2 = ws.set r (pgY 100 5) := by
    show putWs ws st1 (pgW 100) ⟨0, 0, 0, 0, 5⟩ = _
    unfold putWs
    rw [if_pos (pg_may 100 5 (by omega)), hroom, pgY_new]
  have hset := wyAt_set ws r (pgY 100 5) (by rw [h.len]; exact hrn)
  have hlen : ws2.length = n := by rw [e2, List.length_set]; exact h.len
  have hat : ∀ i, wyAt ws2 i = if i = r then pgY 100 5 else wyAt ws i := fun i => by rw [e2]; exact hset i
  have hof : ∀ k, k ≤ 127 → ∀ i, ofB (wyAt ws2 i) (pgW k) = if i = r then (100 == k) else if i < had.length then (had.getD i 0 == k) else false := fun k hk i => by
    rw [hat]
    by_cases e : i = r
    · rw [if_pos e, if_pos e, pgY_of _ _ _ (by omega) hk]
    · rw [if_neg e, if_neg e, h.of k hk]
  have hsj := h.small j (by omega)
  have h100 : fndI ws2 (pgW 100) = r := by
    refine fnd_hit ws2 _ r (by omega) (fun i hi => ?_) ?_
    · rw [hof 100 (by omega), if_neg (by omega), if_pos (by omega)]
      exact beq_eq_false_iff_ne.2 (by have := h.small i (by omega); omega)
    · rw [hof 100 (by omega), if_pos rfl]
      rfl
  refine ⟨⟨r, hrn, hrj, e2⟩, ?_, ?_, ?_, by rw [h100]; omega, by rw [h100, hat, if_pos rfl], hlen⟩
  · have hk : ∀ k, k ≤ n → (entL ws2 k).length = k := by
      intro k
      induction k with
      | zero => intro _; rfl
      | succ k ih =>
        intro hk
        have his : (wyAt ws2 k).is = true := by
          rw [hat]
          split
          · rfl
          · rw [h.ways k (by omega)]; rfl
        rw [entL_yes ws2 k his, List.length_append, ih (by omega)]
        rfl
    rw [hlen]
    exact hk n (Nat.le_refl _)
  · refine fnd_hit ws2 _ j (by omega) (fun i hi => ?_) ?_
    · rw [hof _ (by omega)]
      by_cases e : i = r
      · rw [if_pos e]
        exact beq_eq_false_iff_ne.2 (by omega)
      · rw [if_neg e, if_pos (by omega)]
        exact beq_eq_false_iff_ne.2 (h.other i j hi (by omega))
    · rw [hof _ (by omega), if_neg (by omega), if_pos (by omega)]
      simp
  · rw [hat, if_neg (by omega)]
    exact h.ways j (by omega)
end Wd
end Go.Proofs.Ythjhcdkbajbpdaa
