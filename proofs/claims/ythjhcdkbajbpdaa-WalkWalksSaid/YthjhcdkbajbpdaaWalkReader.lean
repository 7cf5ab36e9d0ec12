/- The laws' reader over a memory of words: what it answers, what it notes. -/
import Derived.Test.YthjhcdkbajbpdaaWalkState
import Derived.Deep.RegionHeld3
import Derived.Deep.AppendLies
import Derived.Deep.DrawnRows
import Derived.Deep.Cut
import Derived.Deep.CutRange
import Derived.Deep.RegionLaw
namespace Go.Proofs.Ythjhcdkbajbpdaa
open Go.RowKit Wd
set_option linter.unusedVariables false
set_option linter.unusedSimpArgs false
set_option maxRecDepth 8000
theorem info_u64 : (Try.prog.info? 22).map (fun i => (i.zero, i.size, i.bytes)) = some (some (.int .u64 0), 1, 8) := by kernel_rfl
namespace Wd
def wordsV (xs : List (BitVec 64)) : List Value := xs.map fun x => .int .u64 (x.toNat : Int)
def lookM (l : List (BitVec 64 × BitVec 64)) (hole : Bool) (pa : BitVec 64) : BitVec 64 × Bool :=
  match l.find? (fun c => c.1 == pa) with
    | some c => (c.2, true)
    | none => (0#64, !hole)
theorem lookM_hit (l : List (BitVec 64 × BitVec 64)) (hole : Bool) (pa : BitVec 64) (k : Nat) (hk : k < l.length) (hb : ∀ j, j < k → (l.getD j (0#64, 0#64)).1 ≠ pa) (he : (l.getD k (0#64, 0#64)).1 = pa) : lookM l hole pa = ((l.getD k (0#64, 0#64)).2, true) := by
  have hf : l.find? (fun c => c.1 == pa) = some (l.getD k (0#64, 0#64)) := by
    have hg : l.getD k (0#64, 0#64) = l[k] := by simp [List.getD, hk]
    rw [hg] at he ⊢
    rw [List.find?_eq_some_iff_getElem]
    refine ⟨by simpa using he, k, hk, rfl, fun j hj => ?_⟩
    have := hb j hj
    have hg2 : l.getD j (0#64, 0#64) = l[j] := by simp [List.getD, show j < l.length by omega]
    rw [hg2] at this
    simpa using this
  unfold lookM
  rw [hf]
theorem lookM_miss (l : List (BitVec 64 × BitVec 64)) (hole : Bool) (pa : BitVec 64) (hb : ∀ j, j < l.length → (l.getD j (0#64, 0#64)).1 ≠ pa) : lookM l hole pa = (0#64, !hole) := by
  have hf : l.find? (fun c => c.1 == pa) = none := by
    rw [List.find?_eq_none]
    intro c hc
    obtain ⟨j, hj, e⟩ := List.getElem_of_mem hc
    have := hb j hj
    have hg2 : l.getD j (0#64, 0#64) = l[j] := by simp [List.getD, hj]
    rw [hg2, e] at this
    simpa using this
  unfold lookM
  rw [hf]
end Wd
/-- A memory of words, in block bm. -/
structure MemAt (w : World) (n0 ba bm : Nat) (l : List (BitVec 64 × BitVec 64)) (hole : Bool) : Prop where
  lt : bm < n0
  ne : bm ≠ ba
  max : l.length ≤ 9223372036854775807
  box : ∃ A cap, w.heap[bm]? = some (.cells #[.slice A l.length cap, .bool hole] 25 (0, 0)) ∧
    (0 < l.length → ∃ bl off, A = some ⟨bl, off, none⟩ ∧ (bl < n0 ∧ bl ≠ ba) ∧ ∀ i, i < l.length → w.cell? ⟨bl, off + i * 2, none⟩ = some (.int .u64 ((l.getD i (0#64, 0#64)).1.toNat : Int)) ∧ w.cell? ⟨bl, off + i * 2 + 1, none⟩ = some (.int .u64 ((l.getD i (0#64, 0#64)).2.toNat : Int)))
theorem MemAt.keep {w w' : World} {n0 ba bm : Nat} {l : List (BitVec 64 × BitVec 64)} {hole : Bool} (h : MemAt w n0 ba bm l hole) (hh : ∀ k, k < n0 → k ≠ ba → w'.heap[k]? = w.heap[k]?) : MemAt w' n0 ba bm l hole := by
  refine ⟨h.lt, h.ne, h.max, ?_⟩
  obtain ⟨A, cap, hb, hc⟩ := h.box
  refine ⟨A, cap, by rw [hh _ h.lt h.ne]; exact hb, fun h0 => ?_⟩
  obtain ⟨bl, off, e, hl, hcell⟩ := hc h0
  refine ⟨bl, off, e, hl, fun i hi => ?_⟩
  have hce : ∀ o, w'.cell? ⟨bl, o, none⟩ = w.cell? ⟨bl, o, none⟩ := fun o => by
    unfold World.cell?
    simp only [hh _ hl.1 hl.2]
  rw [hce, hce]
  exact hcell i hi
/-- What is kept of a reader: its box, the variable, the row of what was asked. -/
def RdM (n0 bA ba bm : Nat) (l : List (BitVec 64 × BitVec 64)) (hole : Bool) (w : World) (g : Option Nat) (xs : List (BitVec 64)) : Prop :=
  MemAt w n0 ba bm l hole ∧ bA < n0 ∧ ba < n0 ∧ n0 ≤ w.heap.size ∧ w.heap[bA]? = some (.cells #[.pointer (some ⟨ba, 0, none⟩)] 35 (0, 0)) ∧
    ∃ v, w.heap[ba]? = some (.cells #[v] 26 (0, 0)) ∧ w.ownsRow n0 22 1 v xs.length (wordsV xs) ∧ v.ownBlock = g

theorem reader_after {n0 bA ba bm : Nat} {l : List (BitVec 64 × BitVec 64)} {hole : Bool} {w w1 : World} {g : Option Nat} {xs : List (BitVec 64)} {pa : BitVec 64} {v : Value} {gg cap : Nat} {o : Obj} (hm : MemAt w n0 ba bm l hole) (hbA : bA < n0) (hba : ba < n0) (hn : n0 ≤ w.heap.size)
    (hA : w.heap[bA]? = some (.cells #[.pointer (some ⟨ba, 0, none⟩)] 35 (0, 0))) (hv : w.heap[ba]? = some (.cells #[v] 26 (0, 0))) (hown : w.ownsRow n0 22 1 v xs.length (wordsV xs)) (hg : v.ownBlock = g)
    (hown1 : w1.ownsRow n0 22 1 (.slice (some ⟨gg, 0, none⟩) (xs.length + 1) cap) (xs.length + 1) (wordsV xs ++ [.int .u64 (pa.toNat : Int)])) (hgrow : (w.alloc o).drew.grownBy w1 v.ownBlock) (hat : v.ownBlock = some gg ∨ gg = w.heap.size + 1) :
    ∃ g', RdM n0 bA ba bm l hole (w1.setCell ⟨ba, 0, none⟩ (.slice (some ⟨gg, 0, none⟩) (xs.length + 1) cap)) g' (xs ++ [pa]) ∧ Newer w g g' ∧ Apart (some ba) g w (w1.setCell ⟨ba, 0, none⟩ (.slice (some ⟨gg, 0, none⟩) (xs.length + 1) cap)) := by
  have hnew : ∀ k, k < w.heap.size → some k ≠ g → w1.heap[k]? = w.heap[k]? := fun k hk hne => by
    have h1 := hgrow.block k (by show k < (w.alloc o).heap.size; simp; omega) (by rw [hg]; exact hne)
    exact h1.trans (heap_alloc_old w o hk)
  have hgn : ∀ k, g = some k → n0 ≤ k := fun k hk => (hown.lt k (by rw [hg]; exact hk)).1
  have hgg : n0 ≤ gg := by
    rcases hat with e | e
    · exact hgn gg (by rw [← hg]; exact e)
    · omega
  have hlo : ∀ k, k < n0 → w1.heap[k]? = w.heap[k]? := fun k hk => hnew k (by omega) (fun e => by have := hgn k e.symm; omega)
  have hset : ∀ k, k ≠ ba → (w1.setCell ⟨ba, 0, none⟩ (.slice (some ⟨gg, 0, none⟩) (xs.length + 1) cap)).heap[k]? = w1.heap[k]? := fun k hk => heap_setCell_other _ _ _ _ hk
  have hsz : w.heap.size ≤ w1.heap.size := by
    have := hgrow.size
    have h2 : (w.alloc o).drew.heap.size = w.heap.size + 1 := by simp
    omega
  refine ⟨some gg, ⟨?_, hbA, hba, by simpa using Nat.le_trans hn hsz, ?_, .slice (some ⟨gg, 0, none⟩) (xs.length + 1) cap, ?_, ?_, rfl⟩, ?_, ?_⟩
  · exact hm.keep fun k hk hkb => (hset k hkb).trans (hlo k hk)
  · have hne : bA ≠ ba := by
      intro e
      rw [e, hv] at hA
      simp at hA
    exact (hset bA hne).trans ((hlo bA hbA).trans hA)
  · have hv1 : w1.heap[ba]? = some (.cells #[v] 26 (0, 0)) := (hlo ba hba).trans hv
    exact heap_setCell_same _ _ 0 _ _ _ hv1
  · have he : wordsV (xs ++ [pa]) = wordsV xs ++ [.int .u64 (pa.toNat : Int)] := by simp [wordsV]
    rw [he, List.length_append, List.length_singleton]
    obtain ⟨h1, h2⟩ := hown1
    refine ⟨h1, ?_⟩
    rcases h2 with ⟨e, _⟩ | ⟨g2, cap2, cur, e, e2, e3, e4⟩
    · simp at e
    · refine .inr ⟨g2, cap2, cur, e, e2, ?_, e4⟩
      have : g2 = gg := by simp at e; exact e.1.symm
      rw [hset g2 (by omega)]
      exact e3
  · rcases hat with e | e
    · exact .inl (by rw [← hg]; exact e.symm)
    · exact .inr ⟨gg, rfl, by omega⟩
  · refine ⟨?_, ?_, ?_, by simpa using hsz, fun k hk h1 h2 => ?_⟩
    · exact hgrow.os
    · exact hgrow.tape
    · exact hgrow.output
    · have hkb : k ≠ ba := fun e => h1 (by rw [e])
      exact (hset k hkb).trans (hnew k hk h2)
theorem rdm_quiet {n0 bA ba bm : Nat} {l : List (BitVec 64 × BitVec 64)} {hole : Bool} {w : World} {g : Option Nat} {xs : List (BitVec 64)} (h : RdM n0 bA ba bm l hole w g xs) (n : Nat) : RdM n0 bA ba bm l hole (w.drewN n) g xs := by
  obtain ⟨hm, h1, h2, h3, h4, v, h5, h6, h7⟩ := h
  exact ⟨hm.keep fun _ _ _ => rfl, h1, h2, h3, h4, v, h5, h6, h7⟩
theorem frz_alloc (w : World) (o : Obj) (b j : Nat) (h : b < w.heap.size) : (w.alloc o).frozen? ⟨b, j, none⟩ = w.frozen? ⟨b, j, none⟩ :=
  ((Below.refl w.heap.size w).alloc (Nat.le_refl _) o).frozen (p := ⟨b, j, none⟩) h
theorem frz_drew (w : World) (a : Addr) : w.drew.frozen? a = w.frozen? a := rfl
set_option maxHeartbeats 4000000 in
theorem reader_call (n0 bA ba bm : Nat) (l : List (BitVec 64 × BitVec 64)) (hole : Bool) (w : World) (g : Option Nat) (xs : List (BitVec 64)) (pa : BitVec 64) (hR : RdM n0 bA ba bm l hole w g xs) (hx : xs.length < 3) :
    Calls Try.prog 50 #[.int .u64 (pa.toNat : Int), .pointer (some ⟨bA, 0, none⟩), .pointer (some ⟨bm, 0, none⟩)] w fun e w' =>
      e = .returned (.tuple #[.int .u64 ((lookM l hole pa).1.toNat : Int), .bool (lookM l hole pa).2]) ∧ ∃ g', RdM n0 bA ba bm l hole w' g' (xs ++ [pa]) ∧ Newer w g g' ∧ Apart (some ba) g w w' := by
  obtain ⟨hm, hbA, hba, hn, hA, v, hv, hown, hg⟩ := hR
  obtain ⟨i0, hi0, hz0, hz1, hz2⟩ := info_parts info_u64
  have cA : w.cell? ⟨bA, 0, none⟩ = some (.pointer (some ⟨ba, 0, none⟩)) := cell_of_row w _ 0 _ _ (0, 0) hA
  have cv : w.cell? ⟨ba, 0, none⟩ = some v := cell_of_row w _ 0 _ _ (0, 0) hv
  have fv : w.frozen? ⟨ba, 0, none⟩ = false := frozen_of_row w _ 0 _ _ hv
  have hgn : ∀ k, v.ownBlock = some k → n0 ≤ k := fun k hk => (hown.lt k hk).1
  have HM := Lib.hid hm
  have HA := Lib.hid hA
  have HV := Lib.hid hv
  have HG := Lib.hid hg
  have HGN := Lib.hid hgn
  clear hm hA hv hg hgn
  go_enter Try.func50, Try.ntmps50
  go_wp2_with fail
  have lA : bA < w.heap.size := by omega
  have la : ba < w.heap.size := by omega
  have neA : v.ownBlock ≠ some bA := fun e => by have := HGN.out _ e; omega
  have nea : v.ownBlock ≠ some ba := fun e => by have := HGN.out _ e; omega
  have S1 := Lib.hid (show (w.alloc (.cells #[.int .u64 (pa.toNat : Int)] 22)).drew.cell? ⟨bA, 0, none⟩ = some (.pointer (some ⟨ba, 0, none⟩)) ∧ (w.alloc (.cells #[.int .u64 (pa.toNat : Int)] 22)).drew.cell? ⟨ba, 0, none⟩ = some v ∧ (w.alloc (.cells #[.int .u64 (pa.toNat : Int)] 22)).drew.frozen? ⟨ba, 0, none⟩ = false from
    ⟨(((Below.refl w.heap.size w).alloc (Nat.le_refl _) _).cell (p := ⟨bA, 0, none⟩) lA).trans cA, (((Below.refl w.heap.size w).alloc (Nat.le_refl _) _).cell (p := ⟨ba, 0, none⟩) la).trans cv, (frz_alloc w _ ba 0 la).trans fv⟩)
  go_cut [] from 6 (fun wx => ∃ g', RdM n0 bA ba bm l hole wx g' (xs ++ [pa]) ∧ Newer w g g' ∧ Apart (some ba) g w wx)
  case first =>
    go_region_law ((refine step_append_lies _ (by rfl) _ _ _ (by rfl) n0 22 i0 _ 1 8 Try.underlying26 hi0 hz0 hz1 hz2 rfl (by omega) v xs.length (wordsV xs) (by rfl) ((hown.alloc _).drew) ⟨w.heap.size, 0, none⟩ 1 1 [.int .u64 (pa.toNat : Int)] (by rfl) (by rfl) (World.news_of_block (cs := #[.int .u64 (pa.toNat : Int)]) (t := 22) (fr := (0, 0)) (heap_alloc_new w _)) (by simp [Value.oneCell']) (by omega) (by unfold maxLen; omega) (by omega) (by simp; omega) (w.heap.size + 1) (by simp) ?_; intro gg cap w1 hown1 hgrow hat hlt; have kc := (hgrow.cell_far ⟨ba, 0, none⟩ (by simp; omega) (Ne.symm nea)).trans S1.out.2.1; have kf := (hgrow.frozen_far ⟨ba, 0, none⟩ (by simp; omega) (Ne.symm nea)).trans S1.out.2.2; have kA := (hgrow.cell_far ⟨bA, 0, none⟩ (by simp; omega) (Ne.symm neA)).trans S1.out.1))
    all_goals
      go_wp2_with fail
      go_meet
      case rel => exact reader_after HM.out hbA hba hn HA.out HV.out hown HG.out hown1 hgrow hat
  case rest =>
    obtain ⟨g', hR', hnw, hap⟩ := hcut
    have hm' := hR'.1
    obtain ⟨hlt, hne0, hmax, A, cap, hbm, hcells⟩ := hm'
    have HR := Lib.hid hR'
    have cb : wc.cell? ⟨bm, 0, none⟩ = some (.slice A l.length cap) := cell_of_row wc _ 0 _ _ (0, 0) hbm
    have ch : wc.cell? ⟨bm, 1, none⟩ = some (.bool hole) := cell_of_row wc _ 1 _ _ (0, 0) hbm
    have HC := Lib.hid hcells
    clear hR' hbm hcells HM HA HV HG HGN hown cA cv fv S1
    go_wp2_with fail
    go_loop [6] (fun i => ∃ k : Nat, k ≤ l.length ∧ i = .int .i64 k ∧ ∀ j, j < k → (l.getD j (0#64, 0#64)).1 ≠ pa) (fun i => l.length - (intOf i).toNat)
    case atStart => exact ⟨0, by omega, rfl, fun j hj => by omega⟩
    case round =>
      obtain ⟨k, hk, rfl, hbef⟩ := hrel
      have HB := Lib.hid hbef
      clear hbef
      by_cases hkl : k < l.length
      · obtain ⟨bl, off, rfl, hbl, hc⟩ := HC.out (by omega)
        obtain ⟨hc1, hc2⟩ := hc k hkl
        clear hc
        by_cases hq : (l.getD k (0#64, 0#64)).1 = pa
        · have hL := lookM_hit l hole pa k hkl HB.out hq
          rw [hq] at hc1
          clear hq
          generalize l.getD k (0#64, 0#64) = ck at hc2 hL
          replace hL := Lib.hid hL
          go_wp2_with fail
          go_ret2
          exact ⟨by rw [hL.out]; rfl, g', HR.out, hnw, hap⟩
        · have hne : ((((l.getD k (0#64, 0#64)).1.toNat : Int)) == (pa.toNat : Int)) = false := by
            rw [eq64]
            simpa using hq
          have HQ := Lib.hid hq
          clear hq
          generalize ((l.getD k (0#64, 0#64)).1.toNat : Int) = at1 at hc1 hne
          go_wp2_with fail
          go_round
          case rel => exact ⟨k + 1, by omega, by go_num, fun j hj => by
            rcases Nat.lt_or_ge j k with h1 | h1
            · exact HB.out j h1
            · have : j = k := by omega
              rw [this]
              exact HQ.out⟩
          case measure => simp [intOf]; omega
      · have hL := Lib.hid (lookM_miss l hole pa (fun j hj => HB.out j (by omega)))
        go_wp2_with fail
        go_quiet (fail)
        go_wp2_with fail
        go_ret2
        exact ⟨by rw [hL.out]; rfl, g', rdm_quiet HR.out nq, hnw, ⟨hap.os, hap.tape, hap.output, hap.size, hap.block⟩⟩
theorem reader_ok (n0 bA ba bm : Nat) (l : List (BitVec 64 × BitVec 64)) (hole : Bool) (hba : ba < n0) :
    ReaderOk 50 (.pointer (some ⟨bA, 0, none⟩)) (.pointer (some ⟨bm, 0, none⟩)) (lookM l hole) (some ba) n0 (RdM n0 bA ba bm l hole) where
  call w g xs pa h hx _ := reader_call n0 bA ba bm l hole w g xs pa h hx
  keep w w' g xs h _ _ _ hs hh := by
    obtain ⟨hm, h1, h2, h3, h4, v, h5, h6, h7⟩ := h
    refine ⟨hm.keep fun k hk _ => hh k (.inl hk), h1, h2, by omega, by rw [hh _ (.inl h1)]; exact h4, v, by rw [hh _ (.inl h2)]; exact h5, ?_, h7⟩
    obtain ⟨a1, a2⟩ := h6
    refine ⟨a1, ?_⟩
    rcases a2 with a2 | ⟨g2, cap2, cur, e, e2, e3, e4⟩
    · exact .inl a2
    · refine .inr ⟨g2, cap2, cur, e, e2, ?_, e4⟩
      rw [hh g2 (.inr (by rw [← h7, e]; rfl))]
      exact e3
  old b hb := by
    simp at hb
    omega
  ent a b c w := by kernel_rfl
end Go.Proofs.Ythjhcdkbajbpdaa
