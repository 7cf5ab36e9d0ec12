/- Contracts: which interrupt is taken, by the program and by the document. -/
import Derived.Test.YthijheijognhmaaTrapSel
import Derived.Test.YthijheijognhmaaRow
namespace Go.Proofs.Ythijheijognhmaa
open Go.RowKit Wd
set_option linter.unusedVariables false
set_option linter.unusedSimpArgs false
theorem load_env (w : World) (b : Nat) : (loadCellsFrom ⟨b, 0, none⟩ 0 10 #[]).run Try.prog w = loadN w b 0 10 (rowC w b) := loadN_run w b 0 10
theorem loadN_env (w : World) (b : Nat) (e : Env) : loadN w b 0 10 (some (envC e)) = .ok (envC e) w := by
  rw [loadN_some w b 0 10 (envC e) (by rw [env_size]; omega)]
  congr 1
attribute [local go_sem] zeroH_run hart_size hart_get_priv hart_get_status hart_get_ideleg hart_get_ie hart_get_ip loadR_hart storeR_hart rowAt_alloc rowAt_drew setRow_alloc_if and_L or_L clr_L loadCR_hart csrs_size env_size loadN_env rowC_alloc rowC_drew rowC_drewN
attribute [local go_sem ↓] load_row store_row loadC_row load_env
set_option maxRecDepth 4000

theorem two_rows (w : World) (h : Hart) (e : Env) : rowAt ((w.alloc (.cells (hartC h) 28)).alloc (.cells (envC e) 40)) w.heap.size = some (hartC h) ∧ rowC ((w.alloc (.cells (hartC h) 28)).alloc (.cells (envC e) 40)) (w.heap.size + 1) = some (envC e) := by
  refine ⟨?_, ?_⟩
  · exact rowAt_below (by rw [rowAt_alloc, if_pos rfl]) ((Below.refl _ _).alloc (Nat.le_refl _) _)
  · rw [rowC_alloc, if_pos (by simp)]
theorem hid_iff {p : Prop} : Hid p = p := rfl
theorem keepS {W w' : World} {b c : Nat} {h : Hart} {e : Env} (hr : rowAt W b = some (hartC h)) (he : rowC W c = some (envC e)) (hb : Below W.heap.size W w') :
    Below W.heap.size W w' ∧ rowAt w' b = some (hartC h) ∧ rowC w' c = some (envC e) ∧ (∀ o, w'.cell? ⟨b, o, none⟩ = (hartC h)[o]?) :=
  ⟨hb, rowAt_below hr hb, rowC_below he hb, fun o => cell_of_row w' _ o _ _ (0, 0) (rowAt_heap (rowAt_below hr hb))⟩
theorem below_two {w w' : World} {o p : Obj} (hb : Below ((w.alloc o).alloc p).heap.size ((w.alloc o).alloc p) w') : Below w.heap.size w w' :=
  (((Below.refl w.heap.size w).alloc (Nat.le_refl _) o).alloc (by simp) p).trans (hb.mono (by simp; omega))
set_option maxHeartbeats 4000000 in
theorem sel_m_some (h : Hart) (e : Env) (p : ¬ h.priv = 3) (n : Nat) (HO : Hid (firstO (mT h e) = some n)) (HS : Hid (selO h e = some n)) :
    Mk Try.prog 28 #[.agg (hartC h), .agg (envC e)] (.tuple #[.int .u64 (causeV (selO h e)), .bool (selO h e).isSome]) := by
  intro w
  obtain ⟨hr, he⟩ := two_rows w h e
  have hb := Below.refl ((w.alloc (.cells (hartC h) 28)).alloc (.cells (envC e) 40)).heap.size ((w.alloc (.cells (hartC h) 28)).alloc (.cells (envC e) 40))
  go_enter Try.func28, Try.ntmps28
  go_wp2_with fail
  go_region_held3 (fun w' => Below ((w.alloc (.cells (hartC h) 28)).alloc (.cells (envC e) 40)).heap.size ((w.alloc (.cells (hartC h) 28)).alloc (.cells (envC e) 40)) w' ∧ rowAt w' w.heap.size = some (hartC h) ∧ rowC w' (w.heap.size + 1) = some (envC e) ∧ (∀ o, w'.cell? ⟨w.heap.size, o, none⟩ = (hartC h)[o]?)) (first | exact keepS hr he hb1 | exact keepS hr he hb.drew | exact keepS hr he hb)
    (first
      | (go_at_call 45; refine ((pending_any _ _).at (‹_ ∧ _›.1)).mono ?_; rintro e w1 ⟨rfl, hb1⟩))
  go_wp2_with fail
  refine ((first_any _).at hb1).mono ?_
  rintro e1 w2 ⟨rfl, hb2⟩
  obtain ⟨_, hr2, _, hc2⟩ := keepS hr he hb2
  rw [show firstO (bit (clrL (andL (pendW h e) (h.ie.toNat : Int)) (h.ideleg.toNat : Int))) = firstO (mT h e) from first_clr h e, HO.out]
  go_wp2_with fail
  go_ret2
  exact ⟨by rw [HS.out]; rfl, below_two hb2⟩

set_option maxHeartbeats 4000000 in
theorem sel_3_some (h : Hart) (e : Env) (p : h.priv = 3) (q : ((andL h.status 8).toNat : Int) = 8) (n : Nat) (HO : Hid (firstO (mT h e) = some n)) (HS : Hid (selO h e = some n)) :
    Mk Try.prog 28 #[.agg (hartC h), .agg (envC e)] (.tuple #[.int .u64 (causeV (selO h e)), .bool (selO h e).isSome]) := by
  intro w
  obtain ⟨hr, he⟩ := two_rows w h e
  have hb := Below.refl ((w.alloc (.cells (hartC h) 28)).alloc (.cells (envC e) 40)).heap.size ((w.alloc (.cells (hartC h) 28)).alloc (.cells (envC e) 40))
  go_enter Try.func28, Try.ntmps28
  go_wp2_with fail
  go_region_held3 (fun w' => Below ((w.alloc (.cells (hartC h) 28)).alloc (.cells (envC e) 40)).heap.size ((w.alloc (.cells (hartC h) 28)).alloc (.cells (envC e) 40)) w' ∧ rowAt w' w.heap.size = some (hartC h) ∧ rowC w' (w.heap.size + 1) = some (envC e) ∧ (∀ o, w'.cell? ⟨w.heap.size, o, none⟩ = (hartC h)[o]?)) (first | exact keepS hr he hb1 | exact keepS hr he hb.drew | exact keepS hr he hb)
    (first
      | (go_at_call 45; refine ((pending_any _ _).at (‹_ ∧ _›.1)).mono ?_; rintro e w1 ⟨rfl, hb1⟩))
  go_wp2_with fail
  refine ((first_any _).at hb1).mono ?_
  rintro e1 w2 ⟨rfl, hb2⟩
  obtain ⟨_, hr2, _, hc2⟩ := keepS hr he hb2
  rw [show firstO (bit (clrL (andL (pendW h e) (h.ie.toNat : Int)) (h.ideleg.toNat : Int))) = firstO (mT h e) from first_clr h e, HO.out]
  go_wp2_with fail
  go_ret2
  exact ⟨by rw [HS.out]; rfl, below_two hb2⟩

set_option maxHeartbeats 4000000 in
theorem sel_0_none (h : Hart) (e : Env) (p : h.priv = 0) (HO : Hid (firstO (mT h e) = none)) (HS : Hid (selO h e = firstO (sT h e))) :
    Mk Try.prog 28 #[.agg (hartC h), .agg (envC e)] (.tuple #[.int .u64 (causeV (selO h e)), .bool (selO h e).isSome]) := by
  intro w
  obtain ⟨hr, he⟩ := two_rows w h e
  have hb := Below.refl ((w.alloc (.cells (hartC h) 28)).alloc (.cells (envC e) 40)).heap.size ((w.alloc (.cells (hartC h) 28)).alloc (.cells (envC e) 40))
  go_enter Try.func28, Try.ntmps28
  go_wp2_with fail
  go_region_held3 (fun w' => Below ((w.alloc (.cells (hartC h) 28)).alloc (.cells (envC e) 40)).heap.size ((w.alloc (.cells (hartC h) 28)).alloc (.cells (envC e) 40)) w' ∧ rowAt w' w.heap.size = some (hartC h) ∧ rowC w' (w.heap.size + 1) = some (envC e) ∧ (∀ o, w'.cell? ⟨w.heap.size, o, none⟩ = (hartC h)[o]?)) (first | exact keepS hr he hb1 | exact keepS hr he hb.drew | exact keepS hr he hb)
    (first
      | (go_at_call 45; refine ((pending_any _ _).at (‹_ ∧ _›.1)).mono ?_; rintro e w1 ⟨rfl, hb1⟩))
  go_wp2_with fail
  refine ((first_any _).at hb1).mono ?_
  rintro e1 w2 ⟨rfl, hb2⟩
  obtain ⟨_, hr2, _, hc2⟩ := keepS hr he hb2
  rw [show firstO (bit (clrL (andL (pendW h e) (h.ie.toNat : Int)) (h.ideleg.toNat : Int))) = firstO (mT h e) from first_clr h e, HO.out]
  go_wp2_with fail
  refine ((first_any _).at hb2).mono ?_
  rintro e1 w3 ⟨rfl, hb3⟩
  rw [show firstO (bit (andL (andL (pendW h e) (h.ie.toNat : Int)) (h.ideleg.toNat : Int))) = firstO (sT h e) from first_and h e]
  go_wp2_with fail
  go_ret2
  exact ⟨by rw [HS.out]; rfl, below_two hb3⟩

set_option maxHeartbeats 4000000 in
theorem sel_1_none (h : Hart) (e : Env) (p : h.priv = 1) (r : ((andL h.status 2).toNat : Int) = 2) (HO : Hid (firstO (mT h e) = none)) (HS : Hid (selO h e = firstO (sT h e))) :
    Mk Try.prog 28 #[.agg (hartC h), .agg (envC e)] (.tuple #[.int .u64 (causeV (selO h e)), .bool (selO h e).isSome]) := by
  intro w
  obtain ⟨hr, he⟩ := two_rows w h e
  have hb := Below.refl ((w.alloc (.cells (hartC h) 28)).alloc (.cells (envC e) 40)).heap.size ((w.alloc (.cells (hartC h) 28)).alloc (.cells (envC e) 40))
  go_enter Try.func28, Try.ntmps28
  go_wp2_with fail
  go_region_held3 (fun w' => Below ((w.alloc (.cells (hartC h) 28)).alloc (.cells (envC e) 40)).heap.size ((w.alloc (.cells (hartC h) 28)).alloc (.cells (envC e) 40)) w' ∧ rowAt w' w.heap.size = some (hartC h) ∧ rowC w' (w.heap.size + 1) = some (envC e) ∧ (∀ o, w'.cell? ⟨w.heap.size, o, none⟩ = (hartC h)[o]?)) (first | exact keepS hr he hb1 | exact keepS hr he hb.drew | exact keepS hr he hb)
    (first
      | (go_at_call 45; refine ((pending_any _ _).at (‹_ ∧ _›.1)).mono ?_; rintro e w1 ⟨rfl, hb1⟩))
  go_wp2_with fail
  refine ((first_any _).at hb1).mono ?_
  rintro e1 w2 ⟨rfl, hb2⟩
  obtain ⟨_, hr2, _, hc2⟩ := keepS hr he hb2
  rw [show firstO (bit (clrL (andL (pendW h e) (h.ie.toNat : Int)) (h.ideleg.toNat : Int))) = firstO (mT h e) from first_clr h e, HO.out]
  go_wp2_with fail
  refine ((first_any _).at hb2).mono ?_
  rintro e1 w3 ⟨rfl, hb3⟩
  rw [show firstO (bit (andL (andL (pendW h e) (h.ie.toNat : Int)) (h.ideleg.toNat : Int))) = firstO (sT h e) from first_and h e]
  go_wp2_with fail
  go_ret2
  exact ⟨by rw [HS.out]; rfl, below_two hb3⟩

set_option maxHeartbeats 4000000 in
theorem sel_1n_none (h : Hart) (e : Env) (p : h.priv = 1) (r : ((andL h.status 2).toNat : Int) = 0) (HO : Hid (firstO (mT h e) = none)) (HS : Hid (selO h e = none)) :
    Mk Try.prog 28 #[.agg (hartC h), .agg (envC e)] (.tuple #[.int .u64 (causeV (selO h e)), .bool (selO h e).isSome]) := by
  intro w
  obtain ⟨hr, he⟩ := two_rows w h e
  have hb := Below.refl ((w.alloc (.cells (hartC h) 28)).alloc (.cells (envC e) 40)).heap.size ((w.alloc (.cells (hartC h) 28)).alloc (.cells (envC e) 40))
  go_enter Try.func28, Try.ntmps28
  go_wp2_with fail
  go_region_held3 (fun w' => Below ((w.alloc (.cells (hartC h) 28)).alloc (.cells (envC e) 40)).heap.size ((w.alloc (.cells (hartC h) 28)).alloc (.cells (envC e) 40)) w' ∧ rowAt w' w.heap.size = some (hartC h) ∧ rowC w' (w.heap.size + 1) = some (envC e) ∧ (∀ o, w'.cell? ⟨w.heap.size, o, none⟩ = (hartC h)[o]?)) (first | exact keepS hr he hb1 | exact keepS hr he hb.drew | exact keepS hr he hb)
    (first
      | (go_at_call 45; refine ((pending_any _ _).at (‹_ ∧ _›.1)).mono ?_; rintro e w1 ⟨rfl, hb1⟩))
  go_wp2_with fail
  refine ((first_any _).at hb1).mono ?_
  rintro e1 w2 ⟨rfl, hb2⟩
  obtain ⟨_, hr2, _, hc2⟩ := keepS hr he hb2
  rw [show firstO (bit (clrL (andL (pendW h e) (h.ie.toNat : Int)) (h.ideleg.toNat : Int))) = firstO (mT h e) from first_clr h e, HO.out]
  go_wp2_with fail
  go_ret2
  exact ⟨by rw [HS.out]; rfl, below_two hb2⟩

set_option maxHeartbeats 4000000 in
theorem sel_x_none (h : Hart) (e : Env) (p : ¬ h.priv = 3) (p0 : ¬ h.priv = 0) (p1 : ¬ h.priv = 1) (HO : Hid (firstO (mT h e) = none)) (HS : Hid (selO h e = none)) :
    Mk Try.prog 28 #[.agg (hartC h), .agg (envC e)] (.tuple #[.int .u64 (causeV (selO h e)), .bool (selO h e).isSome]) := by
  intro w
  obtain ⟨hr, he⟩ := two_rows w h e
  have hb := Below.refl ((w.alloc (.cells (hartC h) 28)).alloc (.cells (envC e) 40)).heap.size ((w.alloc (.cells (hartC h) 28)).alloc (.cells (envC e) 40))
  go_enter Try.func28, Try.ntmps28
  go_wp2_with fail
  go_region_held3 (fun w' => Below ((w.alloc (.cells (hartC h) 28)).alloc (.cells (envC e) 40)).heap.size ((w.alloc (.cells (hartC h) 28)).alloc (.cells (envC e) 40)) w' ∧ rowAt w' w.heap.size = some (hartC h) ∧ rowC w' (w.heap.size + 1) = some (envC e) ∧ (∀ o, w'.cell? ⟨w.heap.size, o, none⟩ = (hartC h)[o]?)) (first | exact keepS hr he hb1 | exact keepS hr he hb.drew | exact keepS hr he hb)
    (first
      | (go_at_call 45; refine ((pending_any _ _).at (‹_ ∧ _›.1)).mono ?_; rintro e w1 ⟨rfl, hb1⟩))
  go_wp2_with fail
  refine ((first_any _).at hb1).mono ?_
  rintro e1 w2 ⟨rfl, hb2⟩
  obtain ⟨_, hr2, _, hc2⟩ := keepS hr he hb2
  rw [show firstO (bit (clrL (andL (pendW h e) (h.ie.toNat : Int)) (h.ideleg.toNat : Int))) = firstO (mT h e) from first_clr h e, HO.out]
  go_wp2_with fail
  go_ret2
  exact ⟨by rw [HS.out]; rfl, below_two hb2⟩

set_option maxHeartbeats 4000000 in
theorem sel_3_none (h : Hart) (e : Env) (p : h.priv = 3) (q : ((andL h.status 8).toNat : Int) = 8) (HO : Hid (firstO (mT h e) = none)) (HS : Hid (selO h e = none)) :
    Mk Try.prog 28 #[.agg (hartC h), .agg (envC e)] (.tuple #[.int .u64 (causeV (selO h e)), .bool (selO h e).isSome]) := by
  intro w
  obtain ⟨hr, he⟩ := two_rows w h e
  have hb := Below.refl ((w.alloc (.cells (hartC h) 28)).alloc (.cells (envC e) 40)).heap.size ((w.alloc (.cells (hartC h) 28)).alloc (.cells (envC e) 40))
  go_enter Try.func28, Try.ntmps28
  go_wp2_with fail
  go_region_held3 (fun w' => Below ((w.alloc (.cells (hartC h) 28)).alloc (.cells (envC e) 40)).heap.size ((w.alloc (.cells (hartC h) 28)).alloc (.cells (envC e) 40)) w' ∧ rowAt w' w.heap.size = some (hartC h) ∧ rowC w' (w.heap.size + 1) = some (envC e) ∧ (∀ o, w'.cell? ⟨w.heap.size, o, none⟩ = (hartC h)[o]?)) (first | exact keepS hr he hb1 | exact keepS hr he hb.drew | exact keepS hr he hb)
    (first
      | (go_at_call 45; refine ((pending_any _ _).at (‹_ ∧ _›.1)).mono ?_; rintro e w1 ⟨rfl, hb1⟩))
  go_wp2_with fail
  refine ((first_any _).at hb1).mono ?_
  rintro e1 w2 ⟨rfl, hb2⟩
  obtain ⟨_, hr2, _, hc2⟩ := keepS hr he hb2
  rw [show firstO (bit (clrL (andL (pendW h e) (h.ie.toNat : Int)) (h.ideleg.toNat : Int))) = firstO (mT h e) from first_clr h e, HO.out]
  go_wp2_with fail
  go_ret2
  exact ⟨by rw [HS.out]; rfl, below_two hb2⟩

set_option maxHeartbeats 4000000 in
theorem sel_3n (h : Hart) (e : Env) (p : h.priv = 3) (q : ((andL h.status 8).toNat : Int) = 0) (HS : Hid (selO h e = none)) :
    Mk Try.prog 28 #[.agg (hartC h), .agg (envC e)] (.tuple #[.int .u64 (causeV (selO h e)), .bool (selO h e).isSome]) := by
  intro w
  obtain ⟨hr, he⟩ := two_rows w h e
  have hb := Below.refl ((w.alloc (.cells (hartC h) 28)).alloc (.cells (envC e) 40)).heap.size ((w.alloc (.cells (hartC h) 28)).alloc (.cells (envC e) 40))
  go_enter Try.func28, Try.ntmps28
  go_wp2_with fail
  go_region_held3 (fun w' => Below ((w.alloc (.cells (hartC h) 28)).alloc (.cells (envC e) 40)).heap.size ((w.alloc (.cells (hartC h) 28)).alloc (.cells (envC e) 40)) w' ∧ rowAt w' w.heap.size = some (hartC h) ∧ rowC w' (w.heap.size + 1) = some (envC e) ∧ (∀ o, w'.cell? ⟨w.heap.size, o, none⟩ = (hartC h)[o]?)) (first | exact keepS hr he hb1 | exact keepS hr he hb.drew | exact keepS hr he hb)
    (first
      | (go_at_call 45; refine ((pending_any _ _).at (‹_ ∧ _›.1)).mono ?_; rintro e w1 ⟨rfl, hb1⟩))
  go_wp2_with fail
  go_ret2
  exact ⟨by rw [HS.out]; rfl, below_two hb1⟩

theorem st_bit (v : BitVec 64) (k : Nat) (hk : k < 64) (n : Int) (hn : n = ((2 ^ k : Nat) : Int)) (b : Bool) (h : bit v k = b) : ((andL v n).toNat : Int) = if b then n else 0 := by
  rw [andL_pow v k hk n hn, show v.getLsbD k = b from h]
theorem select_any (h : Hart) (e : Env) : Mk Try.prog 28 #[.agg (hartC h), .agg (envC e)] (.tuple #[.int .u64 (causeV (selO h e)), .bool (selO h e).isSome]) := by
  by_cases p : h.priv = 3
  · have hs : sOK h = false := by unfold sOK; rw [p]; rfl
    cases q : bit h.status 3 with
    | true =>
      have hm : mOK h = true := by unfold mOK; rw [q, Bool.or_true]
      cases ho : firstO (mT h e) with
      | some n => exact sel_3_some h e p (st_bit _ 3 (by omega) 8 (by decide) _ q) n ho (selO_some h e n (by rw [hm]; exact ho))
      | none => exact sel_3_none h e p (st_bit _ 3 (by omega) 8 (by decide) _ q) ho (by rw [hid_iff, selO_none h e (by rw [hm]; exact ho), hs]; rfl)
    | false =>
      have hm : mOK h = false := by unfold mOK; rw [q, p]; rfl
      exact sel_3n h e p (st_bit _ 3 (by omega) 8 (by decide) _ q) (by rw [hid_iff, selO_none h e (by rw [hm]; rfl), hs]; rfl)
  · have hm : mOK h = true := by unfold mOK; rw [decide_eq_true p, Bool.true_or]
    cases ho : firstO (mT h e) with
    | some n => exact sel_m_some h e p n ho (selO_some h e n (by rw [hm]; exact ho))
    | none =>
      have hn := selO_none h e (by rw [hm]; exact ho)
      by_cases p0 : h.priv = 0
      · exact sel_0_none h e p0 ho (by rw [hid_iff, hn, show sOK h = true by unfold sOK; rw [p0]; rfl]; rfl)
      · by_cases p1 : h.priv = 1
        · cases q : bit h.status 1 with
          | true => exact sel_1_none h e p1 (st_bit _ 1 (by omega) 2 (by decide) _ q) ho (by rw [hid_iff, hn, show sOK h = true by unfold sOK; rw [p1, q]; rfl]; rfl)
          | false => exact sel_1n_none h e p1 (st_bit _ 1 (by omega) 2 (by decide) _ q) ho (by rw [hid_iff, hn, show sOK h = false by unfold sOK; rw [p1, q]; rfl]; rfl)
        · exact sel_x_none h e p p0 p1 ho (by rw [hid_iff, hn, show sOK h = false by unfold sOK; rw [decide_eq_false p0, decide_eq_false p1]; rfl]; rfl)
end Go.Proofs.Ythijheijognhmaa
