/- The law TrapNone, walked: each call answers true. -/
import Derived.Test.YthijheijognhmaaTrapSelects
namespace Go.Proofs.Ythijheijognhmaa
open Go.RowKit Wd
set_option linter.unusedVariables false
set_option linter.unusedSimpArgs false
namespace Wd
theorem hart_set_ie0 (h : Hart) : (hartC h).setIfInBounds 37 (.int .u64 0) = hartC { h with ie := 0#64 } := rfl
theorem first_none (t : Nat → Bool) (h : ∀ k, t (ordN k) = false) : firstO t = none := by
  unfold firstO firstFrom firstFrom firstFrom firstFrom firstFrom firstFrom firstFrom
  simp [h]
theorem first_some (t : Nat → Bool) : (firstO t).isSome = (t 11 || t 3 || t 7 || t 9 || t 1 || t 5) := by
  unfold firstO firstFrom firstFrom firstFrom firstFrom firstFrom firstFrom firstFrom
  simp only [ordN]
  cases t 11 <;> cases t 3 <;> cases t 7 <;> cases t 9 <;> cases t 1 <;> cases t 5 <;> rfl
def gH (h : Hart) : Hart := { h with ie := 0#64 }
def mH (h : Hart) : Hart := { h with priv := 3, status := clrL h.status 8 }
def uH (h : Hart) : Hart := { h with priv := 0 }
theorem on_g (h : Hart) (e : Env) : onW (gH h) e = 0#64 := by
  show andL (pendW (gH h) e) (((0#64 : BitVec 64).toNat : Nat) : Int) = 0#64
  unfold andL
  simp
theorem sel_g (h : Hart) (e : Env) : selO (gH h) e = none := by
  have h1 : ∀ n, mT (gH h) e n = false := fun n => by unfold mT; rw [on_g]; unfold bit; simp
  have h2 : ∀ n, sT (gH h) e n = false := fun n => by unfold sT; rw [on_g]; unfold bit; simp
  unfold selO
  rw [first_none _ (fun k => h1 _), first_none _ (fun k => h2 _)]
  simp
theorem wakes_g (h : Hart) (e : Env) : wakesB (gH h) e = false := by
  unfold wakesB
  rw [on_g]
  rfl
theorem sel_m (h : Hart) (e : Env) : selO (mH h) e = none := by
  refine selO_n _ _ ?_ rfl
  have hb : bit (clrL h.status 8) 3 = false := by
    unfold bit clrL
    rw [BitVec.getLsbD_and, BitVec.getLsbD_not]
    rw [show (BitVec.ofInt 64 8).getLsbD 3 = true from by decide]
    simp
  show (decide ((3 : Int) ≠ 3) || bit (clrL h.status 8) 3) = false
  rw [hb]
  rfl
theorem or_split (a b : Bool) : (a && b || a && !b) = a := by cases a <;> cases b <;> rfl
theorem sel_u0 (h : Hart) (e : Env) : (selO (uH h) e).isSome = ((firstO (mT (uH h) e)).isSome || (firstO (sT (uH h) e)).isSome) := by
  have hm : mOK (uH h) = true := rfl
  have hs : sOK (uH h) = true := rfl
  unfold selO
  rw [hm, hs]
  simp only [if_true]
  cases firstO (mT (uH h) e) <;> simp
theorem sel_u (h : Hart) (e : Env) : (selO (uH h) e).isSome = someB (uH h) e := by
  rw [sel_u0, first_some, first_some]
  unfold mT sT someB
  generalize onW (uH h) e = v
  generalize (uH h).ideleg = d
  have hv : (((andL v 2730).toNat : Int) != 0) = (bit v 11 || bit v 3 || bit v 7 || bit v 9 || bit v 1 || bit v 5) := by
    have hz : (((andL v 2730).toNat : Int) != 0) = (andL v 2730 != 0#64) := ne64 _ 0#64
    rw [hz]
    cases hb : (bit v 11 || bit v 3 || bit v 7 || bit v 9 || bit v 1 || bit v 5) with
    | false =>
      simp only [Bool.or_eq_false_iff] at hb
      obtain ⟨⟨⟨⟨⟨b11, b3⟩, b7⟩, b9⟩, b1⟩, b5⟩ := hb
      have : andL v 2730 = 0#64 := by
        apply BitVec.eq_of_getLsbD_eq
        intro i hi
        unfold andL
        rw [BitVec.getLsbD_and]
        by_cases q : i = 11 ∨ i = 3 ∨ i = 7 ∨ i = 9 ∨ i = 1 ∨ i = 5
        · have : v.getLsbD i = false := by rcases q with rfl | rfl | rfl | rfl | rfl | rfl <;> assumption
          rw [this]; simp
        · have : (BitVec.ofInt 64 2730).getLsbD i = false := (show ∀ i, i < 64 → ¬ (i = 11 ∨ i = 3 ∨ i = 7 ∨ i = 9 ∨ i = 1 ∨ i = 5) → (BitVec.ofInt 64 2730).getLsbD i = false by decide +kernel) i hi q
          rw [this]; simp
      rw [this]; rfl
    | true =>
      have : andL v 2730 ≠ 0#64 := by
        intro hz
        have hk : ∀ i, (BitVec.ofInt 64 2730).getLsbD i = true → v.getLsbD i = false := fun i hi => by
          have := congrArg (fun x => x.getLsbD i) hz
          unfold andL at this
          simp only [BitVec.getLsbD_and, hi, Bool.and_true] at this
          simpa using this
        unfold bit at hb
        rw [hk 11 (by decide), hk 3 (by decide), hk 7 (by decide), hk 9 (by decide), hk 1 (by decide), hk 5 (by decide)] at hb
        simp at hb
      simpa using this
  rw [hv]
  cases bit v 11 <;> cases bit d 11 <;> (try simp)
  all_goals (cases bit v 3 <;> cases bit d 3 <;> (try simp))
  all_goals (cases bit v 7 <;> cases bit d 7 <;> (try simp))
  all_goals (cases bit v 9 <;> cases bit d 9 <;> (try simp))
  all_goals (cases bit v 1 <;> cases bit d 1 <;> (try simp))
  all_goals (cases bit v 5 <;> cases bit d 5 <;> (try simp))
theorem u_end (h : Hart) (e : Env) : (selO (uH h) e).isSome = (wakesB (uH h) e && someB (uH h) e) := by
  rw [sel_u]
  cases hw : wakesB (uH h) e with
  | true => rfl
  | false =>
    unfold wakesB at hw
    have hz : onW (uH h) e = 0#64 := by
      have := (ne64 (onW (uH h) e) 0#64).symm.trans hw
      simpa using this
    unfold someB
    rw [hz]
    rfl
end Wd
attribute [local go_sem] zeroH_run hart_size hart_set_priv hart_get_priv hart_set_status hart_get_status hart_set_ie hart_get_ie hart_set_ie0 loadR_hart storeR_hart rowAt_alloc rowAt_drew setRow_alloc_if and_L or_L clr_L env_size loadN_env rowC_alloc rowC_drew rowC_drewN
attribute [local go_sem ↓] load_row store_row load_env
set_option maxRecDepth 4000
theorem three_rows {W w' : World} {b c d : Nat} {h k : Hart} {e : Env} (hr : rowAt W b = some (hartC h)) (he : rowC W c = some (envC e)) (hd : rowAt W d = some (hartC k)) (hb : Below W.heap.size W w') :
    rowAt w' b = some (hartC h) ∧ rowC w' c = some (envC e) ∧ rowAt w' d = some (hartC k) := ⟨rowAt_below hr hb, rowC_below he hb, rowAt_below hd hb⟩
theorem three_start (w : World) (h k : Hart) (e : Env) : rowAt (((w.alloc (.cells (hartC h) 28)).alloc (.cells (envC e) 40)).alloc (.cells (hartC k) 28)) w.heap.size = some (hartC h) ∧
    rowC (((w.alloc (.cells (hartC h) 28)).alloc (.cells (envC e) 40)).alloc (.cells (hartC k) 28)) (w.heap.size + 1) = some (envC e) ∧
    rowAt (((w.alloc (.cells (hartC h) 28)).alloc (.cells (envC e) 40)).alloc (.cells (hartC k) 28)) (w.heap.size + 2) = some (hartC k) := by
  obtain ⟨hr, he⟩ := two_rows w h e
  refine ⟨rowAt_below hr ((Below.refl _ _).alloc (Nat.le_refl _) _), rowC_below he ((Below.refl _ _).alloc (Nat.le_refl _) _), ?_⟩
  rw [rowAt_alloc, if_pos (by simp)]
set_option maxHeartbeats 4000000 in
theorem trapNone_walk (h : Hart) (e : Env) (w : World) (sg : selO (gH h) e = none) (wg : wakesB (gH h) e = false) (sm : selO (mH h) e = none) (x y : Bool) (wu : wakesB (uH h) e = x) (su : someB (uH h) e = y) (ou : (selO (uH h) e).isSome = (x && y)) :
    Calls Try.prog 10 #[.agg (hartC h), .agg (envC e)] w fun e w' => e = .returned (.bool true) ∧ Below w.heap.size w w' := by
  obtain ⟨hr, he⟩ := two_rows w h e
  go_enter Try.func10, Try.ntmps10
  go_wp2_with fail
  refine (select_any (gH h) e _).mono ?_
  rintro e1 w1 ⟨rfl, hb1⟩
  rw [sg]
  obtain ⟨r0, e0, g0⟩ := three_start w h (gH h) e
  obtain ⟨r1, e1, g1⟩ := three_rows r0 e0 g0 hb1
  have hz1 : w.heap.size + 3 ≤ w1.heap.size := by have := hb1.size; simp at this; omega
  go_wp2_with fail
  refine (select_any (mH h) e _).mono ?_
  rintro e1 w2 ⟨rfl, hb2⟩
  rw [sm]
  have hq2 := below_alloc hb2
  obtain ⟨r2, e2, g2⟩ := three_rows r1 e1 g1 hq2
  have hz2 : w1.heap.size + 1 ≤ w2.heap.size := by have := hb2.size; simp at this; omega
  go_wp2_with fail
  refine (select_any (uH h) e _).mono ?_
  rintro e1 w3 ⟨rfl, hb3⟩
  rw [ou]
  have hq3 := below_alloc hb3
  obtain ⟨r3, e3, g3⟩ := three_rows r2 e2 g2 hq3
  have u3 : rowAt w3 w2.heap.size = some (hartC (uH h)) := rowAt_below (by rw [rowAt_alloc, if_pos rfl]; rfl) hb3
  have hz3 : w2.heap.size + 1 ≤ w3.heap.size := by have := hb3.size; simp at this; omega
  have HU := Lib.hid ou
  clear ou
  have HE := Lib.hid (show Below w.heap.size w w3 from (below_two (below_alloc hb1)).trans ((hq2.trans (hq3.mono (by omega))).mono (by omega)))
  go_wp2_with fail
  refine (awake_any _).mono ?_
  rintro e1 w4 ⟨rfl, hb4⟩
  obtain ⟨_, e4, g4⟩ := three_rows r3 e3 g3 hb4
  have u4 := rowAt_below u3 hb4
  have hz4 := hb4.size
  go_wp2_with fail
  refine (wakes_any (gH h) e _).mono ?_
  rintro e1 w5 ⟨rfl, hb5⟩
  rw [wg]
  have e5 := rowC_below e4 hb5
  have u5 := rowAt_below u4 hb5
  have hz5 := hb5.size
  go_wp2_with fail
  refine (wakes_any (uH h) e _).mono ?_
  rintro e1 w6 ⟨rfl, hb6⟩
  rw [wu]
  have e6 := rowC_below e5 hb6
  have u6 := rowAt_below u5 hb6
  have hz6 := hb6.size
  have H6 := Lib.hid (HE.out.trans ((hb4.trans ((hb5.trans (hb6.mono hz5)).mono hz4)).mono (by have := HE.out.size; omega)))
  cases x with
  | false =>
    go_wp2_with fail
    go_ret
    exact ⟨rfl, H6.out⟩
  | true =>
    go_wp2_with fail
    refine (some_any (uH h) e _).mono ?_
    rintro e1 w7 ⟨rfl, hb7⟩
    rw [su]
    have H7 := Lib.hid (H6.out.trans (hb7.mono (by have := H6.out.size; omega)))
    cases y with
    | false =>
      go_wp2_with fail
      go_ret
      exact ⟨rfl, H7.out⟩
    | true =>
      go_wp2_with fail
      go_ret
      exact ⟨rfl, H7.out⟩
theorem trapNone_cells (cs : Array Value) (hc : Flat.All2 leafH cs.toList) (ds : Array Value) (hd : Flat.All2 leafE ds.toList) (w : World) :
    Calls Try.prog 10 #[.agg cs, .agg ds] w fun e w' => e = .returned (.bool true) ∧ Below w.heap.size w w' := by
  obtain ⟨h, rfl, _⟩ := hart_of hc
  obtain ⟨e, rfl⟩ := env_of hd
  exact trapNone_walk h e w (sel_g h e) (wakes_g h e) (sel_m h e) _ _ rfl rfl (u_end h e)
end Go.Proofs.Ythijheijognhmaa
