/- Contracts: what wakes, and at which privilege memory is accessed. -/
import Derived.Test.YthijheijognhmaaTrapSel3
import Derived.Test.YthijheijognhmaaTrapRets
namespace Go.Proofs.Ythijheijognhmaa
open Go.RowKit Wd
set_option linter.unusedVariables false
set_option linter.unusedSimpArgs false
attribute [local go_sem] zeroH_run hart_size hart_get_priv hart_get_status hart_get_ideleg hart_get_ie hart_get_ip loadR_hart storeR_hart rowAt_alloc rowAt_drew setRow_alloc_if and_L or_L clr_L loadCR_hart csrs_size env_size env_get_lines loadN_env rowC_alloc rowC_drew rowC_drewN
attribute [local go_sem ↓] load_row store_row loadC_row load_env
set_option maxRecDepth 4000
namespace Wd
def wakesB (h : Hart) (e : Env) : Bool := ((onW h e).toNat : Int) != 0
def privI (h : Hart) (k : Int) : Int := if k ≠ 0 ∧ bit h.status 17 = true then backI h.status else h.priv
def someB (h : Hart) (e : Env) : Bool := ((andL (onW h e) 2730).toNat : Int) != 0
end Wd

set_option maxHeartbeats 4000000 in
theorem wakes_any (h : Hart) (e : Env) : Mk Try.prog 29 #[.agg (hartC h), .agg (envC e)] (.bool (wakesB h e)) := by
  intro w
  obtain ⟨hr, he⟩ := two_rows w h e
  have hb := Below.refl ((w.alloc (.cells (hartC h) 28)).alloc (.cells (envC e) 40)).heap.size ((w.alloc (.cells (hartC h) 28)).alloc (.cells (envC e) 40))
  go_enter Try.func29, Try.ntmps29
  go_wp2_with fail
  go_region_held3 (fun w' => Below ((w.alloc (.cells (hartC h) 28)).alloc (.cells (envC e) 40)).heap.size ((w.alloc (.cells (hartC h) 28)).alloc (.cells (envC e) 40)) w' ∧ rowAt w' w.heap.size = some (hartC h) ∧ rowC w' (w.heap.size + 1) = some (envC e) ∧ (∀ o, w'.cell? ⟨w.heap.size, o, none⟩ = (hartC h)[o]?)) (first | exact keepS hr he hb1 | exact keepS hr he hb.drew | exact keepS hr he hb)
    (first
      | (go_at_call 45; refine ((pending_any _ _).at (‹_ ∧ _›.1)).mono ?_; rintro e w1 ⟨rfl, hb1⟩))
  go_wp2_with fail
  go_ret
  exact ⟨rfl, below_two hb1⟩

set_option maxHeartbeats 4000000 in
theorem rwakes_any (h : Hart) (e : Env) : Mk Try.prog 35 #[.agg (hartC h), .agg (envC e)] (.bool (wakesB h e)) := by
  intro w
  obtain ⟨hr, he⟩ := two_rows w h e
  have hb := Below.refl ((w.alloc (.cells (hartC h) 28)).alloc (.cells (envC e) 40)).heap.size ((w.alloc (.cells (hartC h) 28)).alloc (.cells (envC e) 40))
  go_enter Try.func35, Try.ntmps35
  go_wp2_with fail
  go_region_held3 (fun w' => Below ((w.alloc (.cells (hartC h) 28)).alloc (.cells (envC e) 40)).heap.size ((w.alloc (.cells (hartC h) 28)).alloc (.cells (envC e) 40)) w' ∧ rowAt w' w.heap.size = some (hartC h) ∧ rowC w' (w.heap.size + 1) = some (envC e) ∧ (∀ o, w'.cell? ⟨w.heap.size, o, none⟩ = (hartC h)[o]?)) (first | exact keepS hr he hb1 | exact keepS hr he hb.drew | exact keepS hr he hb)
    (first
      | (go_at_call 30; refine ((rpending_any _ _).at (‹_ ∧ _›.1)).mono ?_; rintro e w1 ⟨rfl, hb1⟩))
  go_wp2_with fail
  go_ret
  exact ⟨rfl, below_two hb1⟩

set_option maxHeartbeats 4000000 in
theorem some_any (h : Hart) (e : Env) : Mk Try.prog 33 #[.agg (hartC h), .agg (envC e)] (.bool (someB h e)) := by
  intro w
  go_enter Try.func33, Try.ntmps33
  go_wp2_with fail
  go_ret
  exact ⟨rfl, ((Below.refl _ _).alloc (Nat.le_refl _) _).alloc (by simp) _⟩

set_option maxHeartbeats 4000000 in
theorem priv_any (h : Hart) (k : Int) : Mk Try.prog 36 #[.agg (hartC h), .int .i64 k] (.int .i64 (privI h k)) := by
  intro w
  by_cases p : k = 0
  · subst p
    have hp := Lib.hid (show privI h 0 = h.priv from if_neg (by simp))
    go_enter Try.func36, Try.ntmps36
    go_wp2_with fail
    go_ret
    exact ⟨by rw [hp.out]; rfl, (Below.refl _ _).alloc (Nat.le_refl _) _⟩
  · cases q : bit h.status 17 with
    | true =>
      have hp := Lib.hid (show privI h k = backI h.status by unfold privI; rw [if_pos ⟨p, q⟩])
      have hq := st_bit _ 17 (by omega) 131072 (by decide) _ q
      simp only [if_true] at hq
      clear q
      go_enter Try.func36, Try.ntmps36
      go_wp2_with (go_at_call 43; refine (back_any _ _).mono ?_; rintro e w1 ⟨rfl, rfl⟩)
      go_ret
      exact ⟨by rw [hp.out]; rfl, (Below.refl _ _).alloc (Nat.le_refl _) _⟩
    | false =>
      have hp := Lib.hid (show privI h k = h.priv by unfold privI; rw [if_neg (by rw [q]; simp)])
      have hq := st_bit _ 17 (by omega) 131072 (by decide) _ q
      simp only [Bool.false_eq_true, if_false] at hq
      clear q
      go_enter Try.func36, Try.ntmps36
      go_wp2_with fail
      go_ret
      exact ⟨by rw [hp.out]; rfl, (Below.refl _ _).alloc (Nat.le_refl _) _⟩

set_option maxHeartbeats 4000000 in
theorem rpriv_any (h : Hart) (k : Int) : Mk Try.prog 37 #[.agg (hartC h), .int .i64 k] (.int .i64 (privI h k)) := by
  intro w
  by_cases p : k = 0
  · subst p
    have hp := Lib.hid (show privI h 0 = h.priv from if_neg (by simp))
    go_enter Try.func37, Try.ntmps37
    go_wp2_with fail
    go_ret
    exact ⟨by rw [hp.out]; rfl, (Below.refl _ _).alloc (Nat.le_refl _) _⟩
  · cases q : bit h.status 17 with
    | true =>
      have hp := Lib.hid (show privI h k = backI h.status by unfold privI; rw [if_pos ⟨p, q⟩])
      have hq := st_bit _ 17 (by omega) 131072 (by decide) _ q
      simp only [if_true] at hq
      clear q
      go_enter Try.func37, Try.ntmps37
      go_wp2_with (go_at_call 44; refine (before_any _ _).mono ?_; rintro e w1 ⟨rfl, rfl⟩)
      go_ret
      exact ⟨by rw [hp.out]; rfl, (Below.refl _ _).alloc (Nat.le_refl _) _⟩
    | false =>
      have hp := Lib.hid (show privI h k = h.priv by unfold privI; rw [if_neg (by rw [q]; simp)])
      have hq := st_bit _ 17 (by omega) 131072 (by decide) _ q
      simp only [Bool.false_eq_true, if_false] at hq
      clear q
      go_enter Try.func37, Try.ntmps37
      go_wp2_with fail
      go_ret
      exact ⟨by rw [hp.out]; rfl, (Below.refl _ _).alloc (Nat.le_refl _) _⟩
end Go.Proofs.Ythijheijognhmaa
