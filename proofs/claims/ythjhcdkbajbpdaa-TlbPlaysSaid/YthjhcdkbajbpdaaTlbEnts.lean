/- The entries that All hands back, as they are read; what forgetting leaves of them. -/
import Derived.Test.YthjhcdkbajbpdaaTlbStart
namespace Go.Proofs.Ythjhcdkbajbpdaa
open Go.RowKit Wd
set_option linter.unusedVariables false
set_option linter.unusedSimpArgs false
namespace Wd
theorem entL_is (ws : List Wy) (k : Nat) : ∀ y, y ∈ entL ws k → y.is = true ∧ ∃ i, i < k ∧ wyAt ws i = y := by
  intro y hy
  unfold entL at hy
  rw [List.mem_filter, List.mem_map] at hy
  obtain ⟨⟨i, hi, e⟩, h⟩ := hy
  exact ⟨h, i, by simpa using hi, e⟩
theorem hit_no (pa : Int) : hitB noWy pa = false := rfl
theorem entL_for (ws : List Wy) (pa : Int) : ∀ k, k ≤ ws.length → entL (forW ws pa ws.length) k = (entL ws k).filter (fun y => !hitB y pa)
  | 0, _ => rfl
  | k + 1, hk => by
    have ih := entL_for ws pa k (by omega)
    have hat := forW_at ws pa ws.length (Nat.le_refl _) k
    cases his : (wyAt ws k).is with
    | false =>
      have hh : hitB (wyAt ws k) pa = false := by unfold hitB; rw [his]; rfl
      rw [if_neg (by rw [hh]; simp)] at hat
      rw [entL_no _ _ (by rw [hat]; exact his), entL_no ws k his, ih]
    | true =>
      rw [entL_yes ws k his, List.filter_append]
      cases hh : hitB (wyAt ws k) pa with
      | true =>
        rw [if_pos ⟨by omega, hh⟩] at hat
        rw [entL_no _ _ (by rw [hat]; rfl), ih]
        simp [hh]
      | false =>
        rw [if_neg (by rw [hh]; simp)] at hat
        rw [entL_yes _ _ (by rw [hat]; exact his), ih, hat]
        simp [hh]
theorem forN_count (ws : List Wy) (pa : Int) : ∀ k, forN ws pa k = ((entL ws k).filter (fun y => hitB y pa)).length
  | 0 => rfl
  | k + 1 => by
    have ih := forN_count ws pa k
    unfold forN
    cases his : (wyAt ws k).is with
    | false =>
      have hh : hitB (wyAt ws k) pa = false := by unfold hitB; rw [his]; rfl
      rw [if_neg (by rw [hh]; simp), entL_no ws k his, ih]
    | true =>
      rw [entL_yes ws k his, List.filter_append, List.length_append]
      cases hh : hitB (wyAt ws k) pa with
      | true => simp [hh, ih]
      | false => simp [hh, ih]
theorem take_get (L : List Wy) (f : Wy → Bool) (i : Nat) (hi : i < L.length) (h : f (wyAt L i) = true) : wyAt (L.filter f) ((L.take i).filter f).length = wyAt L i ∧ ((L.take i).filter f).length < (L.filter f).length := by
  have hg : wyAt L i = L[i] := by unfold wyAt; simp [List.getD, hi]
  rw [hg] at h ⊢
  have e : L.filter f = (L.take i).filter f ++ (L[i] :: (L.drop (i + 1)).filter f) := by
    have e0 : L.take i ++ (L[i] :: L.drop (i + 1)) = L := by
      rw [← List.drop_eq_getElem_cons hi, List.take_append_drop]
    have e1 : L.filter f = (L.take i ++ (L[i] :: L.drop (i + 1))).filter f := by rw [e0]
    rw [e1, List.filter_append, List.filter_cons_of_pos (by simpa using h)]
  constructor
  · rw [e]
    unfold wyAt
    simp [List.getD]
  · rw [e]
    simp
theorem take_yes (L : List Wy) (f : Wy → Bool) (i : Nat) (hi : i < L.length) (h : f (wyAt L i) = true) : ((L.take (i + 1)).filter f).length = ((L.take i).filter f).length + 1 := by
  have hg : wyAt L i = L[i] := by unfold wyAt; simp [List.getD, hi]
  rw [hg] at h
  rw [List.take_succ_eq_append_getElem hi, List.filter_append, List.length_append]
  simp [h]
theorem take_no (L : List Wy) (f : Wy → Bool) (i : Nat) (hi : i < L.length) (h : f (wyAt L i) = false) : ((L.take (i + 1)).filter f).length = ((L.take i).filter f).length := by
  have hg : wyAt L i = L[i] := by unfold wyAt; simp [List.getD, hi]
  rw [hg] at h
  rw [List.take_succ_eq_append_getElem hi, List.filter_append, List.length_append]
  simp [h]
end Wd
/-- The entries behind a slice. -/
def Ents (w : World) (base : Nat) (A : Option Addr) (L : List Wy) : Prop :=
  0 < L.length → ∃ g, A = some ⟨g, 0, none⟩ ∧ base ≤ g ∧ g < w.heap.size ∧ ∀ i, i < L.length → w.cell? ⟨g, i * 6, none⟩ = some (.int .u64 ((wyAt L i).vpn.toNat : Int)) ∧ w.cell? ⟨g, i * 6 + 1, none⟩ = some (.int .i64 (wyAt L i).lv) ∧
    w.cell? ⟨g, i * 6 + 2, none⟩ = some (.int .u64 (wyAt L i).p0) ∧ w.cell? ⟨g, i * 6 + 3, none⟩ = some (.int .u64 (wyAt L i).p1) ∧ w.cell? ⟨g, i * 6 + 4, none⟩ = some (.int .u64 (wyAt L i).p2) ∧ w.cell? ⟨g, i * 6 + 5, none⟩ = some (.int .u64 (wyAt L i).en)
theorem Ents.only {w w' : World} {base : Nat} {A : Option Addr} {L : List Wy} {S : List Nat} (h : Ents w base A L) (ho : Only S w w') (hs : ∀ x, x ∈ S → x < base) : Ents w' base A L := fun h0 => by
  obtain ⟨g, e, hb, hl, hc⟩ := h h0
  have hk := ho.block g hl (fun hm => by have := hs g hm; omega)
  have k : ∀ o v, w.cell? ⟨g, o, none⟩ = some v → w'.cell? ⟨g, o, none⟩ = some v := fun o v h => (World.cell?_of_block hk).trans h
  refine ⟨g, e, hb, Nat.lt_of_lt_of_le hl ho.size, fun i hi => ?_⟩
  obtain ⟨c0, c1, c2, c3, c4, c5⟩ := hc i hi
  exact ⟨k _ _ c0, k _ _ c1, k _ _ c2, k _ _ c3, k _ _ c4, k _ _ c5⟩
theorem Ents.below {w w' : World} {base : Nat} {A : Option Addr} {L : List Wy} (h : Ents w base A L) (hb : Below w.heap.size w w') : Ents w' base A L := h.only (only_below hb []) (by simp)
theorem Ents.quiet {w w' : World} {base : Nat} {A : Option Addr} {L : List Wy} (h : Ents w base A L) (hq : Quiet w w') : Ents w' base A L := h.below (hq.below _)
theorem entC_at (L : List Wy) : ∀ (i : Nat), i < L.length → ∀ j, j < 6 → (entC L)[i * 6 + j]? = (entV (wyAt L i))[j]? := by
  induction L with
  | nil => intro i hi; simp at hi
  | cons y L ih =>
    intro i hi j hj
    unfold entC
    rw [List.flatMap_cons]
    cases i with
    | zero =>
      rw [List.getElem?_append_left (by simp [entV]; omega)]
      simp [wyAt]
    | succ i =>
      rw [List.getElem?_append_right (by simp [entV]; omega), show (i + 1) * 6 + j - (entV y).length = i * 6 + j by simp [entV]; omega]
      have := ih i (by simpa using hi) j hj
      unfold entC at this
      rw [this]
      simp [wyAt]
theorem ents_of_own {w : World} {base : Nat} {v : Value} {L : List Wy} (h : w.ownsRow base 67 6 v L.length (entC L)) : ∃ A c, v = .slice A L.length c ∧ Ents w base A L := by
  rcases Nat.eq_zero_or_pos L.length with h0 | h0
  · rcases h.2 with ⟨rfl, _⟩ | ⟨g, cap, cur, rfl, _⟩
    · exact ⟨none, 0, by rw [h0], fun h => by omega⟩
    · exact ⟨_, cap, rfl, fun h => by omega⟩
  · rcases h.2 with ⟨_, e⟩ | ⟨g, cap, cur, rfl, hb, hh, hnc, _, hcs, htk⟩
    · omega
    · have hbk : Bk w g cur 67 := hh
      refine ⟨_, cap, rfl, fun _ => ⟨g, rfl, hb, hbk.lt, fun i hi => ?_⟩⟩
      have k : ∀ j, j < 6 → w.cell? ⟨g, i * 6 + j, none⟩ = (entV (wyAt L i))[j]? := fun j hj => by
        rw [hbk.cell, ← entC_at L i hi j hj, ← htk, List.getElem?_take_of_lt (by omega)]
        simp
      exact ⟨k 0 (by omega), k 1 (by omega), k 2 (by omega), k 3 (by omega), k 4 (by omega), k 5 (by omega)⟩
end Go.Proofs.Ythjhcdkbajbpdaa
