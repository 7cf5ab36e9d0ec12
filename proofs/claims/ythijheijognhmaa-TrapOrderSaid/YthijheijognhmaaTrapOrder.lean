/- The law TrapOrder, walked: each call answers true. -/
import Derived.Test.YthijheijognhmaaTrapSelects
import Derived.Test.YthijheijognhmaaTrapOrderPlain
namespace Go.Proofs.Ythijheijognhmaa
open Go.RowKit Wd
set_option linter.unusedVariables false
set_option linter.unusedSimpArgs false
attribute [local go_sem] zeroH_run hart_size hart_get_priv hart_get_status hart_get_ideleg hart_get_ie hart_get_ip loadR_hart storeR_hart rowAt_alloc rowAt_drew setRow_alloc_if and_L or_L clr_L loadCR_hart csrs_size env_size env_get_lines env_set_lines loadN_env rowC_alloc rowC_drew rowC_drewN
attribute [local go_sem ↓] load_row loadC_row load_env
set_option maxRecDepth 4000
theorem storeN_env (w : World) (b : Nat) (e : Env) (cs : Array Value) (h : cs.size = 10) : storeN w b (envC e) (some cs) = .ok () (w.setRow b (envC e)) := storeN_some w b _ _ (by rw [h, env_size]) (env_one e)
theorem rowAt_alloc_lt (w : World) (o : Obj) (b : Nat) (h : b < w.heap.size) : rowAt (w.alloc o) b = rowAt w b := by
  unfold rowAt
  rw [heap_alloc_old w o h]
attribute [local go_sem] storeN_env World.setRow_alloc_new rowAt_alloc_lt
attribute [local go_sem ↓] storeN_run

theorem at_step (j k : Nat) (h : ¬ j = k) : (if k < j then k else 0) = (if k < j + 1 then k else 0) := by
  by_cases c : k < j
  · rw [if_pos c, if_pos (by omega)]
  · rw [if_neg c, if_neg (by omega)]
set_option maxHeartbeats 4000000 in
theorem rank_any (h : Hart) (b k : Nat) (hk6 : k < 6) (w : World) (hr : rowAt w b = some (hartC h)) :
    Calls Try.prog 31 #[.int .u64 (9223372036854775808 + (ordN k : Int)), .pointer (some ⟨b, 0, none⟩)] w fun e w' => e = .returned (.int .i64 (rankN h k : Int)) ∧ Below w.heap.size w w' := by
  have hcell : ∀ o, w.cell? ⟨b, o, none⟩ = (hartC h)[o]? := fun o => cell_of_row w _ o _ _ (0, 0) (rowAt_heap hr)
  have hlt : b < w.heap.size := rowC_lt (rowC_of (rowAt_heap hr))
  have hlo := ordN_lt k
  have hc := and_cause k
  have hki : (k : Int) < 6 := by omega
  clear hr
  go_enter Try.func31, Try.ntmps31
  go_wp2_with fail
  go_loop [5, 6] (fun a i => ∃ j : Nat, j ≤ 6 ∧ i = .int .i64 j ∧ a = .int .i64 ((if k < j then k else 0 : Nat) : Int)) (fun _ i => 6 - (intOf i).toNat)
  case atStart => exact ⟨0, by omega, rfl, rfl⟩
  case round =>
    obtain ⟨j, hj, rfl, rfl⟩ := hrel
    by_cases hlt : j < 6
    · have hg := ord_get j hlt
      have hjo := ordN_lt j
      by_cases hjk : j = k
      · subst hjk
        have hq : ((ordN j : Int) == (ordN j : Int)) = true := by simp
        go_wp2_with fail
        go_round
        case rel => exact ⟨j + 1, by omega, by go_num, val_int (by rw [if_pos (by omega)])⟩
        case measure => simp [intOf]; omega
      · have hq : ((ordN j : Int) == (ordN k : Int)) = false := by
          rw [beq_eq_false_iff_ne]
          intro he
          exact hjk (ord_inj j k hlt hk6 (by omega))
        go_wp2_with fail
        go_round
        case rel => exact ⟨j + 1, by omega, by go_num, val_int (by rw [at_step j k hjk])⟩
        case measure => simp [intOf]; omega
    · have hj6 : j = 6 := by omega
      subst hj6
      rw [if_pos hk6]
      have d := and1_walk h.ideleg (ordN k)
      cases q : bit h.ideleg (ordN k) with
      | true =>
        have hR := Lib.hid (show (rankN h k : Int) = (k : Int) + 6 by unfold rankN; rw [q]; simp)
        rw [q, if_pos rfl] at d
        clear q
        go_wp2_with fail
        go_ret
        exact ⟨ret_int (by rw [hR.out]), (Below.refl _ _).alloc (Nat.le_refl _) _⟩
      | false =>
        have hR := Lib.hid (show (rankN h k : Int) = (k : Int) by unfold rankN; rw [q]; simp)
        rw [q, if_neg (by simp)] at d
        clear q
        go_wp2_with fail
        go_ret
        exact ⟨ret_int (by rw [hR.out]), (Below.refl _ _).alloc (Nat.le_refl _) _⟩

set_option maxHeartbeats 4000000 in
theorem order_none (h : Hart) (e : Env) (m : BitVec 64) (w : World) (so : selO h e = none) :
    Calls Try.prog 8 #[.agg (hartC h), .agg (envC e), .int .u64 (m.toNat : Int)] w fun e w' => e = .returned (.bool true) ∧ Below w.heap.size w w' := by
  obtain ⟨hr, he⟩ := two_rows w h e
  go_enter Try.func8, Try.ntmps8
  go_wp2_with fail
  refine (select_any h e _).mono ?_
  rintro e1 w1 ⟨rfl, hb1⟩
  rw [so]
  have r1 := rowAt_below hr hb1
  have e1 := rowC_below he hb1
  have c1 := rowC_cell e1
  have hz1 : w.heap.size + 1 < w1.heap.size := by have := hb1.size; simp at this; omega
  have hz0 : w.heap.size < w1.heap.size := by omega
  go_wp2_with fail
  refine (select_any h (moreE e m) _).mono ?_
  rintro e1 w2 ⟨rfl, hb2⟩
  go_wp2_with fail
  refine (awake_any _).mono ?_
  rintro e1 w3 ⟨rfl, hb3⟩
  go_wp2_with fail
  go_ret
  exact ⟨rfl, below_two (hb1.trans ((below_alloc hb2).trans (hb3.mono (below_alloc hb2).size) |>.mono hb1.size))⟩

set_option maxHeartbeats 4000000 in
theorem order_some (h : Hart) (e : Env) (m : BitVec 64) (w : World) (k i : Nat) (hk : k < 6) (hi : i < 6) (so : selO h e = some (ordN k)) (sm : selO h (moreE e m) = some (ordN i)) (hw : wakesB h e = true)
    (hrank : (rankN h i : Int) ≤ (rankN h k : Int)) (d1 : bits .and .u64 (((pendW h e).toNat : Int) / 2 ^ (ordN k)) 1 = 1) (d2 : bits .and .u64 ((h.ie.toNat : Int) / 2 ^ (ordN k)) 1 = 1) :
    Calls Try.prog 8 #[.agg (hartC h), .agg (envC e), .int .u64 (m.toNat : Int)] w fun e w' => e = .returned (.bool true) ∧ Below w.heap.size w w' := by
  obtain ⟨hr, he⟩ := two_rows w h e
  have hlo := ordN_lt k
  have hc := and_cause k
  have ht := top_cause k
  go_enter Try.func8, Try.ntmps8
  go_wp2_with fail
  refine (select_any h e _).mono ?_
  rintro e1 w1 ⟨rfl, hb1⟩
  rw [so]
  rw [show causeV (some (ordN k)) = 9223372036854775808 + (ordN k : Int) from rfl]
  have r1 := rowAt_below hr hb1
  have e1 := rowC_below he hb1
  have c1 := rowC_cell e1
  have hz1 : w.heap.size + 1 < w1.heap.size := by have := hb1.size; simp at this; omega
  have hz0 : w.heap.size < w1.heap.size := by omega
  go_wp2_with fail
  refine (select_any h (moreE e m) _).mono ?_
  rintro e1 w2 ⟨rfl, hb2⟩
  rw [sm]
  rw [show causeV (some (ordN i)) = 9223372036854775808 + (ordN i : Int) from rfl]
  have hq2 := below_alloc hb2
  have r2 := rowAt_below r1 hq2
  have e2 := rowC_below e1 hq2
  go_wp2_with fail
  refine (awake_any _).mono ?_
  rintro e1 w3 ⟨rfl, hb3⟩
  have r3 := rowAt_below r2 hb3
  have e3 := rowC_below e2 hb3
  go_wp2_with fail
  refine (wakes_any h e _).mono ?_
  rintro e1 w4 ⟨rfl, hb4⟩
  rw [hw]
  have r4 := rowAt_below r3 hb4
  have e4 := rowC_below e3 hb4
  have c4 : ∀ o, w4.cell? ⟨w.heap.size, o, none⟩ = (hartC h)[o]? := fun o => cell_of_row w4 _ o _ _ (0, 0) (rowAt_heap r4)
  go_wp2_with fail
  refine (rpending_any h e _).mono ?_
  rintro e1 w5 ⟨rfl, hb5⟩
  have r5 := rowAt_below r4 hb5
  have c5 : ∀ o, w5.cell? ⟨w.heap.size, o, none⟩ = (hartC h)[o]? := fun o => cell_of_row w5 _ o _ _ (0, 0) (rowAt_heap r5)
  go_wp2_with fail
  refine (rank_any h w.heap.size i hi _ r5).mono ?_
  rintro e1 w6 ⟨rfl, hb6⟩
  have r6 := rowAt_below r5 hb6
  go_wp2_with fail
  refine (rank_any h w.heap.size k hk _ r6).mono ?_
  rintro e1 w7 ⟨rfl, hb7⟩
  go_wp2_with fail
  go_ret
  have z2 := hq2.size
  have z3 := hb3.size
  have z4 := hb4.size
  have z5 := hb5.size
  have z6 := hb6.size
  exact ⟨rfl, below_two (hb1.trans ((hq2.trans ((hb3.trans ((hb4.trans ((hb5.trans ((hb6.trans (hb7.mono z6)).mono z5)).mono z4)).mono z3)).mono z2)).mono hb1.size))⟩

theorem trapOrder_cells (cs : Array Value) (hc : Flat.All2 leafH cs.toList) (ds : Array Value) (hd : Flat.All2 leafE ds.toList) (m : Int) (wm : (Lit.int .u64 m).wf = true) (w : World) :
    Calls Try.prog 8 #[.agg cs, .agg ds, .int .u64 m] w fun e w' => e = .returned (.bool true) ∧ Below w.heap.size w w' := by
  obtain ⟨h, rfl, _⟩ := hart_of hc
  obtain ⟨e, rfl⟩ := env_of hd
  obtain ⟨m, rfl⟩ := u64_bv wm
  cases so : selO h e with
  | none => exact order_none h e m w so
  | some n =>
    obtain ⟨k, i, hk, hi, rfl, sm, hrank, hb⟩ := order_plain h e (moreE e m) (on_more h e m) n so
    have hw : wakesB h e = true := by unfold wakesB; simpa using wakes_some h e k hb
    unfold onW at hb
    rw [bit_and, Bool.and_eq_true] at hb
    exact order_some h e m w k i hk hi so sm hw (by omega) (by rw [and1_walk, hb.1]; rfl) (by rw [and1_walk, hb.2]; rfl)
end Go.Proofs.Ythijheijognhmaa
