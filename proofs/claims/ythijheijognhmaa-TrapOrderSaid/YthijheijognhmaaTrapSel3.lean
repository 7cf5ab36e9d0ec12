/- Contracts: which interrupt is taken, by the document. -/
import Derived.Test.YthijheijognhmaaTrapSel2
namespace Go.Proofs.Ythijheijognhmaa
open Go.RowKit Wd
set_option linter.unusedVariables false
set_option linter.unusedSimpArgs false
attribute [local go_sem] zeroH_run hart_size hart_get_priv hart_get_status hart_get_ideleg hart_get_ie hart_get_ip loadR_hart storeR_hart rowAt_alloc rowAt_drew setRow_alloc_if and_L or_L clr_L loadCR_hart csrs_size env_size loadN_env rowC_alloc rowC_drew rowC_drewN
attribute [local go_sem ↓] load_row store_row loadC_row load_env
set_option maxRecDepth 4000

theorem ord_get (k : Nat) (hk : k < 6) : ([Value.int .u64 11, .int .u64 3, .int .u64 7, .int .u64 9, .int .u64 1, .int .u64 5] : List Value)[k]'(by simpa using hk) = .int .u64 (ordN k : Int) := by
  have hz : k = 0 ∨ k = 1 ∨ k = 2 ∨ k = 3 ∨ k = 4 ∨ k = 5 := by omega
  rcases hz with rfl | rfl | rfl | rfl | rfl | rfl <;> rfl
namespace Wd
def selA (h : Hart) (e : Env) (f k : Nat) : Option Nat :=
  match firstFrom (mT h e) f k with
  | some n => some n
  | none => if sOK h then firstO (sT h e) else none
theorem selA_step (h : Hart) (e : Env) (f k : Nat) (ht : mT h e (ordN k) = false) : selA h e (f + 1) k = selA h e f (k + 1) := by unfold selA; rw [first_step _ _ _ ht]
theorem selA_hit (h : Hart) (e : Env) (f k : Nat) (ht : mT h e (ordN k) = true) : selA h e (f + 1) k = some (ordN k) := by unfold selA; rw [first_hit _ _ _ ht]
theorem selA_end (h : Hart) (e : Env) (k : Nat) : selA h e (6 - 6) k = if sOK h then firstO (sT h e) else none := rfl
theorem selB_step (h : Hart) (e : Env) (f k : Nat) (ht : sT h e (ordN k) = false) : firstFrom (sT h e) (f + 1) k = firstFrom (sT h e) f (k + 1) := first_step _ _ _ ht
theorem selB_hit (h : Hart) (e : Env) (f k : Nat) (ht : sT h e (ordN k) = true) : firstFrom (sT h e) (f + 1) k = some (ordN k) := first_hit _ _ _ ht
theorem selO_A (h : Hart) (e : Env) (hm : mOK h = true) : selO h e = selA h e 6 0 := by unfold selO selA; rw [hm]; rfl
theorem selO_n (h : Hart) (e : Env) (hm : mOK h = false) (hs : sOK h = false) : selO h e = none := by unfold selO; rw [hm, hs]; rfl
end Wd
theorem sel_rest {w w1 : World} {o : Obj} {h : Hart} {e : Env} (hr : rowAt ((w.alloc o).alloc (.cells (envC e) 40)) w.heap.size = some (hartC h)) (he : rowC ((w.alloc o).alloc (.cells (envC e) 40)) (w.heap.size + 1) = some (envC e))
    (hb : Below ((w.alloc o).alloc (.cells (envC e) 40)).heap.size ((w.alloc o).alloc (.cells (envC e) 40)) w1) : (∀ o, w1.cell? ⟨w.heap.size, o, none⟩ = (hartC h)[o]?) ∧ w.heap.size < w1.heap.size := by
  refine ⟨(keepS hr he hb).2.2.2, ?_⟩
  have := hb.size
  simp at this
  omega
set_option maxHeartbeats 4000000 in
theorem rsel_0 (h : Hart) (e : Env) (p : h.priv = 0) (HS : Hid (selO h e = selA h e 6 0)) (HM : Hid (mOK h = true)) (HT : Hid (sOK h = true)) : Mk Try.prog 34 #[.agg (hartC h), .agg (envC e)] (.tuple #[.int .u64 (causeV (selO h e)), .bool (selO h e).isSome]) := by
  intro w
  obtain ⟨hr, he⟩ := two_rows w h e
  have hb := Below.refl ((w.alloc (.cells (hartC h) 28)).alloc (.cells (envC e) 40)).heap.size ((w.alloc (.cells (hartC h) 28)).alloc (.cells (envC e) 40))
  go_enter Try.func34, Try.ntmps34
  go_wp2_with fail
  go_region_held3 (fun w' => Below ((w.alloc (.cells (hartC h) 28)).alloc (.cells (envC e) 40)).heap.size ((w.alloc (.cells (hartC h) 28)).alloc (.cells (envC e) 40)) w' ∧ rowAt w' w.heap.size = some (hartC h) ∧ rowC w' (w.heap.size + 1) = some (envC e) ∧ (∀ o, w'.cell? ⟨w.heap.size, o, none⟩ = (hartC h)[o]?)) (first | exact keepS hr he hb1 | exact keepS hr he hb.drew | exact keepS hr he hb)
    (first
      | (go_at_call 30; refine ((rpending_any _ _).at (‹_ ∧ _›.1)).mono ?_; rintro e w1 ⟨rfl, hb1⟩))
  have hend := Lib.hid (below_two hb1)
  obtain ⟨hcell, hz⟩ := sel_rest hr he hb1
  clear hb hb1 hr he
  go_wp2_with fail
  go_loop [8] (fun i => ∃ k : Nat, k ≤ 6 ∧ i = .int .i64 k ∧ selO h e = selA h e (6 - k) k) (fun i => 6 - (intOf i).toNat)
  case atStart => exact ⟨0, by omega, rfl, HS.out⟩
  case round =>
    obtain ⟨k, hk, rfl, hf⟩ := hrel
    have Hf := Lib.hid hf
    clear hf
    have hlo := ordN_lt k
    have ho := or_top k
    by_cases hlt : k < 6
    · have hg := ord_get k hlt
      have d1 := and1_walk (andL (pendW h e) (h.ie.toNat : Int)) (ordN k)
      have d2 := and1_walk h.ideleg (ordN k)
      have e6 : 6 - k = (5 - k) + 1 := by omega
      have e5 : 6 - (k + 1) = 5 - k := by omega
      rw [e6] at Hf
      have E5 := Lib.hid e5
      clear e6 e5
      cases qa : bit (andL (pendW h e) (h.ie.toNat : Int)) (ordN k) with
      | false =>
        have hs := Lib.hid (Hf.out.trans (selA_step h e (5 - k) k (by unfold mT onW; rw [qa]; rfl)))
        rw [qa, if_neg (by simp)] at d1
        clear qa
        go_wp2_with fail
        go_round
        case rel => exact ⟨k + 1, by omega, by go_num, by rw [E5.out]; exact hs.out⟩
        case measure => simp [intOf]; omega
      | true =>
        rw [qa, if_pos rfl] at d1
        cases qb : bit h.ideleg (ordN k) with
        | true =>
          have hs := Lib.hid (Hf.out.trans (selA_step h e (5 - k) k (by unfold mT onW; rw [qa, qb]; rfl)))
          rw [qb, if_pos rfl] at d2
          clear qa qb
          go_wp2_with fail
          go_round
          case rel => exact ⟨k + 1, by omega, by go_num, by rw [E5.out]; exact hs.out⟩
          case measure => simp [intOf]; omega
        | false =>
          have hs := Lib.hid (Hf.out.trans (selA_hit h e (5 - k) k (by unfold mT onW; rw [qa, qb]; rfl)))
          rw [qb, if_neg (by simp)] at d2
          clear qa qb
          go_wp2_with fail
          go_ret2
          exact ⟨by rw [hs.out]; rfl, hend.out.alloc (by have := hend.out.size; omega) _⟩
    · have e6 : k = 6 := by omega
      subst e6
      have HS2 := Lib.hid (Hf.out.trans (selA_end h e 6))
      clear Hf
      clear hlt hk hlo ho
      go_wp2_with fail
      go_loop [10] (fun i => ∃ k : Nat, k ≤ 6 ∧ i = .int .i64 k ∧ selO h e = firstFrom (sT h e) (6 - k) k) (fun i => 6 - (intOf i).toNat)
      case atStart => exact ⟨0, by omega, rfl, (by rw [HS2.out, HT.out]; rfl)⟩
      case round =>
        obtain ⟨k, hk, rfl, hf⟩ := hrel
        have Hf := Lib.hid hf
        clear hf
        have hlo := ordN_lt k
        have ho := or_top k
        by_cases hlt : k < 6
        · have hg := ord_get k hlt
          have d1 := and1_walk (andL (pendW h e) (h.ie.toNat : Int)) (ordN k)
          have d2 := and1_walk h.ideleg (ordN k)
          have e6 : 6 - k = (5 - k) + 1 := by omega
          have e5 : 6 - (k + 1) = 5 - k := by omega
          rw [e6] at Hf
          have E5 := Lib.hid e5
          clear e6 e5
          cases qa : bit (andL (pendW h e) (h.ie.toNat : Int)) (ordN k) with
          | false =>
            have hs := Lib.hid (Hf.out.trans (selB_step h e (5 - k) k (by unfold sT onW; rw [qa]; rfl)))
            rw [qa, if_neg (by simp)] at d1
            clear qa
            go_wp2_with fail
            go_round
            case rel => exact ⟨k + 1, by omega, by go_num, by rw [E5.out]; exact hs.out⟩
            case measure => simp [intOf]; omega
          | true =>
            rw [qa, if_pos rfl] at d1
            cases qb : bit h.ideleg (ordN k) with
            | true =>
              have hs := Lib.hid (Hf.out.trans (selB_hit h e (5 - k) k (by unfold sT onW; rw [qa, qb]; rfl)))
              rw [qb, if_pos rfl] at d2
              clear qa qb
              go_wp2_with fail
              go_ret2
              exact ⟨by rw [hs.out]; rfl, hend.out.alloc (by have := hend.out.size; omega) _⟩
            | false =>
              have hs := Lib.hid (Hf.out.trans (selB_step h e (5 - k) k (by unfold sT onW; rw [qa, qb]; rfl)))
              rw [qb, if_neg (by simp)] at d2
              clear qa qb
              go_wp2_with fail
              go_round
              case rel => exact ⟨k + 1, by omega, by go_num, by rw [E5.out]; exact hs.out⟩
              case measure => simp [intOf]; omega
        · have e6 : k = 6 := by omega
          subst e6
          go_wp2_with fail
          go_ret2
          exact ⟨by rw [Hf.out]; rfl, hend.out.alloc (by have := hend.out.size; omega) _⟩

set_option maxHeartbeats 4000000 in
theorem rsel_1 (h : Hart) (e : Env) (p : h.priv = 1) (r : ((andL h.status 2).toNat : Int) = 2) (HS : Hid (selO h e = selA h e 6 0)) (HM : Hid (mOK h = true)) (HT : Hid (sOK h = true)) : Mk Try.prog 34 #[.agg (hartC h), .agg (envC e)] (.tuple #[.int .u64 (causeV (selO h e)), .bool (selO h e).isSome]) := by
  intro w
  obtain ⟨hr, he⟩ := two_rows w h e
  have hb := Below.refl ((w.alloc (.cells (hartC h) 28)).alloc (.cells (envC e) 40)).heap.size ((w.alloc (.cells (hartC h) 28)).alloc (.cells (envC e) 40))
  go_enter Try.func34, Try.ntmps34
  go_wp2_with fail
  go_region_held3 (fun w' => Below ((w.alloc (.cells (hartC h) 28)).alloc (.cells (envC e) 40)).heap.size ((w.alloc (.cells (hartC h) 28)).alloc (.cells (envC e) 40)) w' ∧ rowAt w' w.heap.size = some (hartC h) ∧ rowC w' (w.heap.size + 1) = some (envC e) ∧ (∀ o, w'.cell? ⟨w.heap.size, o, none⟩ = (hartC h)[o]?)) (first | exact keepS hr he hb1 | exact keepS hr he hb.drew | exact keepS hr he hb)
    (first
      | (go_at_call 30; refine ((rpending_any _ _).at (‹_ ∧ _›.1)).mono ?_; rintro e w1 ⟨rfl, hb1⟩))
  have hend := Lib.hid (below_two hb1)
  obtain ⟨hcell, hz⟩ := sel_rest hr he hb1
  clear hb hb1 hr he
  go_wp2_with fail
  go_loop [8] (fun i => ∃ k : Nat, k ≤ 6 ∧ i = .int .i64 k ∧ selO h e = selA h e (6 - k) k) (fun i => 6 - (intOf i).toNat)
  case atStart => exact ⟨0, by omega, rfl, HS.out⟩
  case round =>
    obtain ⟨k, hk, rfl, hf⟩ := hrel
    have Hf := Lib.hid hf
    clear hf
    have hlo := ordN_lt k
    have ho := or_top k
    by_cases hlt : k < 6
    · have hg := ord_get k hlt
      have d1 := and1_walk (andL (pendW h e) (h.ie.toNat : Int)) (ordN k)
      have d2 := and1_walk h.ideleg (ordN k)
      have e6 : 6 - k = (5 - k) + 1 := by omega
      have e5 : 6 - (k + 1) = 5 - k := by omega
      rw [e6] at Hf
      have E5 := Lib.hid e5
      clear e6 e5
      cases qa : bit (andL (pendW h e) (h.ie.toNat : Int)) (ordN k) with
      | false =>
        have hs := Lib.hid (Hf.out.trans (selA_step h e (5 - k) k (by unfold mT onW; rw [qa]; rfl)))
        rw [qa, if_neg (by simp)] at d1
        clear qa
        go_wp2_with fail
        go_round
        case rel => exact ⟨k + 1, by omega, by go_num, by rw [E5.out]; exact hs.out⟩
        case measure => simp [intOf]; omega
      | true =>
        rw [qa, if_pos rfl] at d1
        cases qb : bit h.ideleg (ordN k) with
        | true =>
          have hs := Lib.hid (Hf.out.trans (selA_step h e (5 - k) k (by unfold mT onW; rw [qa, qb]; rfl)))
          rw [qb, if_pos rfl] at d2
          clear qa qb
          go_wp2_with fail
          go_round
          case rel => exact ⟨k + 1, by omega, by go_num, by rw [E5.out]; exact hs.out⟩
          case measure => simp [intOf]; omega
        | false =>
          have hs := Lib.hid (Hf.out.trans (selA_hit h e (5 - k) k (by unfold mT onW; rw [qa, qb]; rfl)))
          rw [qb, if_neg (by simp)] at d2
          clear qa qb
          go_wp2_with fail
          go_ret2
          exact ⟨by rw [hs.out]; rfl, hend.out.alloc (by have := hend.out.size; omega) _⟩
    · have e6 : k = 6 := by omega
      subst e6
      have HS2 := Lib.hid (Hf.out.trans (selA_end h e 6))
      clear Hf
      clear hlt hk hlo ho
      go_wp2_with fail
      go_loop [10] (fun i => ∃ k : Nat, k ≤ 6 ∧ i = .int .i64 k ∧ selO h e = firstFrom (sT h e) (6 - k) k) (fun i => 6 - (intOf i).toNat)
      case atStart => exact ⟨0, by omega, rfl, (by rw [HS2.out, HT.out]; rfl)⟩
      case round =>
        obtain ⟨k, hk, rfl, hf⟩ := hrel
        have Hf := Lib.hid hf
        clear hf
        have hlo := ordN_lt k
        have ho := or_top k
        by_cases hlt : k < 6
        · have hg := ord_get k hlt
          have d1 := and1_walk (andL (pendW h e) (h.ie.toNat : Int)) (ordN k)
          have d2 := and1_walk h.ideleg (ordN k)
          have e6 : 6 - k = (5 - k) + 1 := by omega
          have e5 : 6 - (k + 1) = 5 - k := by omega
          rw [e6] at Hf
          have E5 := Lib.hid e5
          clear e6 e5
          cases qa : bit (andL (pendW h e) (h.ie.toNat : Int)) (ordN k) with
          | false =>
            have hs := Lib.hid (Hf.out.trans (selB_step h e (5 - k) k (by unfold sT onW; rw [qa]; rfl)))
            rw [qa, if_neg (by simp)] at d1
            clear qa
            go_wp2_with fail
            go_round
            case rel => exact ⟨k + 1, by omega, by go_num, by rw [E5.out]; exact hs.out⟩
            case measure => simp [intOf]; omega
          | true =>
            rw [qa, if_pos rfl] at d1
            cases qb : bit h.ideleg (ordN k) with
            | true =>
              have hs := Lib.hid (Hf.out.trans (selB_hit h e (5 - k) k (by unfold sT onW; rw [qa, qb]; rfl)))
              rw [qb, if_pos rfl] at d2
              clear qa qb
              go_wp2_with fail
              go_ret2
              exact ⟨by rw [hs.out]; rfl, hend.out.alloc (by have := hend.out.size; omega) _⟩
            | false =>
              have hs := Lib.hid (Hf.out.trans (selB_step h e (5 - k) k (by unfold sT onW; rw [qa, qb]; rfl)))
              rw [qb, if_neg (by simp)] at d2
              clear qa qb
              go_wp2_with fail
              go_round
              case rel => exact ⟨k + 1, by omega, by go_num, by rw [E5.out]; exact hs.out⟩
              case measure => simp [intOf]; omega
        · have e6 : k = 6 := by omega
          subst e6
          go_wp2_with fail
          go_ret2
          exact ⟨by rw [Hf.out]; rfl, hend.out.alloc (by have := hend.out.size; omega) _⟩

set_option maxHeartbeats 4000000 in
theorem rsel_1n (h : Hart) (e : Env) (p : h.priv = 1) (r : ((andL h.status 2).toNat : Int) = 0) (HS : Hid (selO h e = selA h e 6 0)) (HM : Hid (mOK h = true)) (HT : Hid (sOK h = false)) : Mk Try.prog 34 #[.agg (hartC h), .agg (envC e)] (.tuple #[.int .u64 (causeV (selO h e)), .bool (selO h e).isSome]) := by
  intro w
  obtain ⟨hr, he⟩ := two_rows w h e
  have hb := Below.refl ((w.alloc (.cells (hartC h) 28)).alloc (.cells (envC e) 40)).heap.size ((w.alloc (.cells (hartC h) 28)).alloc (.cells (envC e) 40))
  go_enter Try.func34, Try.ntmps34
  go_wp2_with fail
  go_region_held3 (fun w' => Below ((w.alloc (.cells (hartC h) 28)).alloc (.cells (envC e) 40)).heap.size ((w.alloc (.cells (hartC h) 28)).alloc (.cells (envC e) 40)) w' ∧ rowAt w' w.heap.size = some (hartC h) ∧ rowC w' (w.heap.size + 1) = some (envC e) ∧ (∀ o, w'.cell? ⟨w.heap.size, o, none⟩ = (hartC h)[o]?)) (first | exact keepS hr he hb1 | exact keepS hr he hb.drew | exact keepS hr he hb)
    (first
      | (go_at_call 30; refine ((rpending_any _ _).at (‹_ ∧ _›.1)).mono ?_; rintro e w1 ⟨rfl, hb1⟩))
  have hend := Lib.hid (below_two hb1)
  obtain ⟨hcell, hz⟩ := sel_rest hr he hb1
  clear hb hb1 hr he
  go_wp2_with fail
  go_loop [8] (fun i => ∃ k : Nat, k ≤ 6 ∧ i = .int .i64 k ∧ selO h e = selA h e (6 - k) k) (fun i => 6 - (intOf i).toNat)
  case atStart => exact ⟨0, by omega, rfl, HS.out⟩
  case round =>
    obtain ⟨k, hk, rfl, hf⟩ := hrel
    have Hf := Lib.hid hf
    clear hf
    have hlo := ordN_lt k
    have ho := or_top k
    by_cases hlt : k < 6
    · have hg := ord_get k hlt
      have d1 := and1_walk (andL (pendW h e) (h.ie.toNat : Int)) (ordN k)
      have d2 := and1_walk h.ideleg (ordN k)
      have e6 : 6 - k = (5 - k) + 1 := by omega
      have e5 : 6 - (k + 1) = 5 - k := by omega
      rw [e6] at Hf
      have E5 := Lib.hid e5
      clear e6 e5
      cases qa : bit (andL (pendW h e) (h.ie.toNat : Int)) (ordN k) with
      | false =>
        have hs := Lib.hid (Hf.out.trans (selA_step h e (5 - k) k (by unfold mT onW; rw [qa]; rfl)))
        rw [qa, if_neg (by simp)] at d1
        clear qa
        go_wp2_with fail
        go_round
        case rel => exact ⟨k + 1, by omega, by go_num, by rw [E5.out]; exact hs.out⟩
        case measure => simp [intOf]; omega
      | true =>
        rw [qa, if_pos rfl] at d1
        cases qb : bit h.ideleg (ordN k) with
        | true =>
          have hs := Lib.hid (Hf.out.trans (selA_step h e (5 - k) k (by unfold mT onW; rw [qa, qb]; rfl)))
          rw [qb, if_pos rfl] at d2
          clear qa qb
          go_wp2_with fail
          go_round
          case rel => exact ⟨k + 1, by omega, by go_num, by rw [E5.out]; exact hs.out⟩
          case measure => simp [intOf]; omega
        | false =>
          have hs := Lib.hid (Hf.out.trans (selA_hit h e (5 - k) k (by unfold mT onW; rw [qa, qb]; rfl)))
          rw [qb, if_neg (by simp)] at d2
          clear qa qb
          go_wp2_with fail
          go_ret2
          exact ⟨by rw [hs.out]; rfl, hend.out.alloc (by have := hend.out.size; omega) _⟩
    · have e6 : k = 6 := by omega
      subst e6
      have HS2 := Lib.hid (Hf.out.trans (selA_end h e 6))
      clear Hf
      clear hlt hk hlo ho
      go_wp2_with fail
      go_loop [10] (fun i => ∃ k : Nat, k ≤ 6 ∧ i = .int .i64 k) (fun i => 6 - (intOf i).toNat)
      case atStart => exact ⟨0, by omega, rfl⟩
      case round =>
        obtain ⟨k, hk, rfl⟩ := hrel
        have hlo := ordN_lt k
        have ho := or_top k
        by_cases hlt : k < 6
        · have hg := ord_get k hlt
          have d1 := and1_walk (andL (pendW h e) (h.ie.toNat : Int)) (ordN k)
          have d2 := and1_walk h.ideleg (ordN k)
          have e6 : 6 - k = (5 - k) + 1 := by omega
          have e5 : 6 - (k + 1) = 5 - k := by omega
          skip
          have E5 := Lib.hid e5
          clear e6 e5
          cases qa : bit (andL (pendW h e) (h.ie.toNat : Int)) (ordN k) with
          | false =>
            rw [qa, if_neg (by simp)] at d1
            clear qa
            go_wp2_with fail
            go_round
            case rel => exact ⟨k + 1, by omega, by go_num⟩
            case measure => simp [intOf]; omega
          | true =>
            rw [qa, if_pos rfl] at d1
            cases qb : bit h.ideleg (ordN k) with
            | true =>
              rw [qb, if_pos rfl] at d2
              clear qa qb
              go_wp2_with fail
              go_round
              case rel => exact ⟨k + 1, by omega, by go_num⟩
              case measure => simp [intOf]; omega
            | false =>
              rw [qb, if_neg (by simp)] at d2
              clear qa qb
              go_wp2_with fail
              go_round
              case rel => exact ⟨k + 1, by omega, by go_num⟩
              case measure => simp [intOf]; omega
        · have e6 : k = 6 := by omega
          subst e6
          go_wp2_with fail
          go_ret2
          exact ⟨by rw [HS2.out, HT.out]; rfl, hend.out.alloc (by have := hend.out.size; omega) _⟩

set_option maxHeartbeats 4000000 in
theorem rsel_x (h : Hart) (e : Env) (p : ¬ h.priv = 3) (p0 : ¬ h.priv = 0) (p1 : ¬ h.priv = 1) (HS : Hid (selO h e = selA h e 6 0)) (HM : Hid (mOK h = true)) (HT : Hid (sOK h = false)) : Mk Try.prog 34 #[.agg (hartC h), .agg (envC e)] (.tuple #[.int .u64 (causeV (selO h e)), .bool (selO h e).isSome]) := by
  intro w
  obtain ⟨hr, he⟩ := two_rows w h e
  have hb := Below.refl ((w.alloc (.cells (hartC h) 28)).alloc (.cells (envC e) 40)).heap.size ((w.alloc (.cells (hartC h) 28)).alloc (.cells (envC e) 40))
  go_enter Try.func34, Try.ntmps34
  go_wp2_with fail
  go_region_held3 (fun w' => Below ((w.alloc (.cells (hartC h) 28)).alloc (.cells (envC e) 40)).heap.size ((w.alloc (.cells (hartC h) 28)).alloc (.cells (envC e) 40)) w' ∧ rowAt w' w.heap.size = some (hartC h) ∧ rowC w' (w.heap.size + 1) = some (envC e) ∧ (∀ o, w'.cell? ⟨w.heap.size, o, none⟩ = (hartC h)[o]?)) (first | exact keepS hr he hb1 | exact keepS hr he hb.drew | exact keepS hr he hb)
    (first
      | (go_at_call 30; refine ((rpending_any _ _).at (‹_ ∧ _›.1)).mono ?_; rintro e w1 ⟨rfl, hb1⟩))
  have hend := Lib.hid (below_two hb1)
  obtain ⟨hcell, hz⟩ := sel_rest hr he hb1
  clear hb hb1 hr he
  go_wp2_with fail
  go_loop [8] (fun i => ∃ k : Nat, k ≤ 6 ∧ i = .int .i64 k ∧ selO h e = selA h e (6 - k) k) (fun i => 6 - (intOf i).toNat)
  case atStart => exact ⟨0, by omega, rfl, HS.out⟩
  case round =>
    obtain ⟨k, hk, rfl, hf⟩ := hrel
    have Hf := Lib.hid hf
    clear hf
    have hlo := ordN_lt k
    have ho := or_top k
    by_cases hlt : k < 6
    · have hg := ord_get k hlt
      have d1 := and1_walk (andL (pendW h e) (h.ie.toNat : Int)) (ordN k)
      have d2 := and1_walk h.ideleg (ordN k)
      have e6 : 6 - k = (5 - k) + 1 := by omega
      have e5 : 6 - (k + 1) = 5 - k := by omega
      rw [e6] at Hf
      have E5 := Lib.hid e5
      clear e6 e5
      cases qa : bit (andL (pendW h e) (h.ie.toNat : Int)) (ordN k) with
      | false =>
        have hs := Lib.hid (Hf.out.trans (selA_step h e (5 - k) k (by unfold mT onW; rw [qa]; rfl)))
        rw [qa, if_neg (by simp)] at d1
        clear qa
        go_wp2_with fail
        go_round
        case rel => exact ⟨k + 1, by omega, by go_num, by rw [E5.out]; exact hs.out⟩
        case measure => simp [intOf]; omega
      | true =>
        rw [qa, if_pos rfl] at d1
        cases qb : bit h.ideleg (ordN k) with
        | true =>
          have hs := Lib.hid (Hf.out.trans (selA_step h e (5 - k) k (by unfold mT onW; rw [qa, qb]; rfl)))
          rw [qb, if_pos rfl] at d2
          clear qa qb
          go_wp2_with fail
          go_round
          case rel => exact ⟨k + 1, by omega, by go_num, by rw [E5.out]; exact hs.out⟩
          case measure => simp [intOf]; omega
        | false =>
          have hs := Lib.hid (Hf.out.trans (selA_hit h e (5 - k) k (by unfold mT onW; rw [qa, qb]; rfl)))
          rw [qb, if_neg (by simp)] at d2
          clear qa qb
          go_wp2_with fail
          go_ret2
          exact ⟨by rw [hs.out]; rfl, hend.out.alloc (by have := hend.out.size; omega) _⟩
    · have e6 : k = 6 := by omega
      subst e6
      have HS2 := Lib.hid (Hf.out.trans (selA_end h e 6))
      clear Hf
      clear hlt hk hlo ho
      go_wp2_with fail
      go_loop [10] (fun i => ∃ k : Nat, k ≤ 6 ∧ i = .int .i64 k) (fun i => 6 - (intOf i).toNat)
      case atStart => exact ⟨0, by omega, rfl⟩
      case round =>
        obtain ⟨k, hk, rfl⟩ := hrel
        have hlo := ordN_lt k
        have ho := or_top k
        by_cases hlt : k < 6
        · have hg := ord_get k hlt
          have d1 := and1_walk (andL (pendW h e) (h.ie.toNat : Int)) (ordN k)
          have d2 := and1_walk h.ideleg (ordN k)
          have e6 : 6 - k = (5 - k) + 1 := by omega
          have e5 : 6 - (k + 1) = 5 - k := by omega
          skip
          have E5 := Lib.hid e5
          clear e6 e5
          cases qa : bit (andL (pendW h e) (h.ie.toNat : Int)) (ordN k) with
          | false =>
            rw [qa, if_neg (by simp)] at d1
            clear qa
            go_wp2_with fail
            go_round
            case rel => exact ⟨k + 1, by omega, by go_num⟩
            case measure => simp [intOf]; omega
          | true =>
            rw [qa, if_pos rfl] at d1
            cases qb : bit h.ideleg (ordN k) with
            | true =>
              rw [qb, if_pos rfl] at d2
              clear qa qb
              go_wp2_with fail
              go_round
              case rel => exact ⟨k + 1, by omega, by go_num⟩
              case measure => simp [intOf]; omega
            | false =>
              rw [qb, if_neg (by simp)] at d2
              clear qa qb
              go_wp2_with fail
              go_round
              case rel => exact ⟨k + 1, by omega, by go_num⟩
              case measure => simp [intOf]; omega
        · have e6 : k = 6 := by omega
          subst e6
          go_wp2_with fail
          go_ret2
          exact ⟨by rw [HS2.out, HT.out]; rfl, hend.out.alloc (by have := hend.out.size; omega) _⟩

set_option maxHeartbeats 4000000 in
theorem rsel_3 (h : Hart) (e : Env) (p : h.priv = 3) (q : ((andL h.status 8).toNat : Int) = 8) (HS : Hid (selO h e = selA h e 6 0)) (HM : Hid (mOK h = true)) (HT : Hid (sOK h = false)) : Mk Try.prog 34 #[.agg (hartC h), .agg (envC e)] (.tuple #[.int .u64 (causeV (selO h e)), .bool (selO h e).isSome]) := by
  intro w
  obtain ⟨hr, he⟩ := two_rows w h e
  have hb := Below.refl ((w.alloc (.cells (hartC h) 28)).alloc (.cells (envC e) 40)).heap.size ((w.alloc (.cells (hartC h) 28)).alloc (.cells (envC e) 40))
  go_enter Try.func34, Try.ntmps34
  go_wp2_with fail
  go_region_held3 (fun w' => Below ((w.alloc (.cells (hartC h) 28)).alloc (.cells (envC e) 40)).heap.size ((w.alloc (.cells (hartC h) 28)).alloc (.cells (envC e) 40)) w' ∧ rowAt w' w.heap.size = some (hartC h) ∧ rowC w' (w.heap.size + 1) = some (envC e) ∧ (∀ o, w'.cell? ⟨w.heap.size, o, none⟩ = (hartC h)[o]?)) (first | exact keepS hr he hb1 | exact keepS hr he hb.drew | exact keepS hr he hb)
    (first
      | (go_at_call 30; refine ((rpending_any _ _).at (‹_ ∧ _›.1)).mono ?_; rintro e w1 ⟨rfl, hb1⟩))
  have hend := Lib.hid (below_two hb1)
  obtain ⟨hcell, hz⟩ := sel_rest hr he hb1
  clear hb hb1 hr he
  go_wp2_with fail
  go_loop [8] (fun i => ∃ k : Nat, k ≤ 6 ∧ i = .int .i64 k ∧ selO h e = selA h e (6 - k) k) (fun i => 6 - (intOf i).toNat)
  case atStart => exact ⟨0, by omega, rfl, HS.out⟩
  case round =>
    obtain ⟨k, hk, rfl, hf⟩ := hrel
    have Hf := Lib.hid hf
    clear hf
    have hlo := ordN_lt k
    have ho := or_top k
    by_cases hlt : k < 6
    · have hg := ord_get k hlt
      have d1 := and1_walk (andL (pendW h e) (h.ie.toNat : Int)) (ordN k)
      have d2 := and1_walk h.ideleg (ordN k)
      have e6 : 6 - k = (5 - k) + 1 := by omega
      have e5 : 6 - (k + 1) = 5 - k := by omega
      rw [e6] at Hf
      have E5 := Lib.hid e5
      clear e6 e5
      cases qa : bit (andL (pendW h e) (h.ie.toNat : Int)) (ordN k) with
      | false =>
        have hs := Lib.hid (Hf.out.trans (selA_step h e (5 - k) k (by unfold mT onW; rw [qa]; rfl)))
        rw [qa, if_neg (by simp)] at d1
        clear qa
        go_wp2_with fail
        go_round
        case rel => exact ⟨k + 1, by omega, by go_num, by rw [E5.out]; exact hs.out⟩
        case measure => simp [intOf]; omega
      | true =>
        rw [qa, if_pos rfl] at d1
        cases qb : bit h.ideleg (ordN k) with
        | true =>
          have hs := Lib.hid (Hf.out.trans (selA_step h e (5 - k) k (by unfold mT onW; rw [qa, qb]; rfl)))
          rw [qb, if_pos rfl] at d2
          clear qa qb
          go_wp2_with fail
          go_round
          case rel => exact ⟨k + 1, by omega, by go_num, by rw [E5.out]; exact hs.out⟩
          case measure => simp [intOf]; omega
        | false =>
          have hs := Lib.hid (Hf.out.trans (selA_hit h e (5 - k) k (by unfold mT onW; rw [qa, qb]; rfl)))
          rw [qb, if_neg (by simp)] at d2
          clear qa qb
          go_wp2_with fail
          go_ret2
          exact ⟨by rw [hs.out]; rfl, hend.out.alloc (by have := hend.out.size; omega) _⟩
    · have e6 : k = 6 := by omega
      subst e6
      have HS2 := Lib.hid (Hf.out.trans (selA_end h e 6))
      clear Hf
      clear hlt hk hlo ho
      go_wp2_with fail
      go_loop [10] (fun i => ∃ k : Nat, k ≤ 6 ∧ i = .int .i64 k) (fun i => 6 - (intOf i).toNat)
      case atStart => exact ⟨0, by omega, rfl⟩
      case round =>
        obtain ⟨k, hk, rfl⟩ := hrel
        have hlo := ordN_lt k
        have ho := or_top k
        by_cases hlt : k < 6
        · have hg := ord_get k hlt
          have d1 := and1_walk (andL (pendW h e) (h.ie.toNat : Int)) (ordN k)
          have d2 := and1_walk h.ideleg (ordN k)
          have e6 : 6 - k = (5 - k) + 1 := by omega
          have e5 : 6 - (k + 1) = 5 - k := by omega
          skip
          have E5 := Lib.hid e5
          clear e6 e5
          cases qa : bit (andL (pendW h e) (h.ie.toNat : Int)) (ordN k) with
          | false =>
            rw [qa, if_neg (by simp)] at d1
            clear qa
            go_wp2_with fail
            go_round
            case rel => exact ⟨k + 1, by omega, by go_num⟩
            case measure => simp [intOf]; omega
          | true =>
            rw [qa, if_pos rfl] at d1
            cases qb : bit h.ideleg (ordN k) with
            | true =>
              rw [qb, if_pos rfl] at d2
              clear qa qb
              go_wp2_with fail
              go_round
              case rel => exact ⟨k + 1, by omega, by go_num⟩
              case measure => simp [intOf]; omega
            | false =>
              rw [qb, if_neg (by simp)] at d2
              clear qa qb
              go_wp2_with fail
              go_round
              case rel => exact ⟨k + 1, by omega, by go_num⟩
              case measure => simp [intOf]; omega
        · have e6 : k = 6 := by omega
          subst e6
          go_wp2_with fail
          go_ret2
          exact ⟨by rw [HS2.out, HT.out]; rfl, hend.out.alloc (by have := hend.out.size; omega) _⟩

set_option maxHeartbeats 4000000 in
theorem rsel_3n (h : Hart) (e : Env) (p : h.priv = 3) (q : ((andL h.status 8).toNat : Int) = 0) (HS : Hid (selO h e = none)) (HM : Hid (mOK h = false)) (HT : Hid (sOK h = false)) : Mk Try.prog 34 #[.agg (hartC h), .agg (envC e)] (.tuple #[.int .u64 (causeV (selO h e)), .bool (selO h e).isSome]) := by
  intro w
  obtain ⟨hr, he⟩ := two_rows w h e
  have hb := Below.refl ((w.alloc (.cells (hartC h) 28)).alloc (.cells (envC e) 40)).heap.size ((w.alloc (.cells (hartC h) 28)).alloc (.cells (envC e) 40))
  go_enter Try.func34, Try.ntmps34
  go_wp2_with fail
  go_region_held3 (fun w' => Below ((w.alloc (.cells (hartC h) 28)).alloc (.cells (envC e) 40)).heap.size ((w.alloc (.cells (hartC h) 28)).alloc (.cells (envC e) 40)) w' ∧ rowAt w' w.heap.size = some (hartC h) ∧ rowC w' (w.heap.size + 1) = some (envC e) ∧ (∀ o, w'.cell? ⟨w.heap.size, o, none⟩ = (hartC h)[o]?)) (first | exact keepS hr he hb1 | exact keepS hr he hb.drew | exact keepS hr he hb)
    (first
      | (go_at_call 30; refine ((rpending_any _ _).at (‹_ ∧ _›.1)).mono ?_; rintro e w1 ⟨rfl, hb1⟩))
  have hend := Lib.hid (below_two hb1)
  obtain ⟨hcell, hz⟩ := sel_rest hr he hb1
  clear hb hb1 hr he
  go_wp2_with fail
  go_loop [8] (fun i => ∃ k : Nat, k ≤ 6 ∧ i = .int .i64 k) (fun i => 6 - (intOf i).toNat)
  case atStart => exact ⟨0, by omega, rfl⟩
  case round =>
    obtain ⟨k, hk, rfl⟩ := hrel
    have hlo := ordN_lt k
    have ho := or_top k
    by_cases hlt : k < 6
    · have hg := ord_get k hlt
      have d1 := and1_walk (andL (pendW h e) (h.ie.toNat : Int)) (ordN k)
      have d2 := and1_walk h.ideleg (ordN k)
      have e6 : 6 - k = (5 - k) + 1 := by omega
      have e5 : 6 - (k + 1) = 5 - k := by omega
      skip
      have E5 := Lib.hid e5
      clear e6 e5
      cases qa : bit (andL (pendW h e) (h.ie.toNat : Int)) (ordN k) with
      | false =>
        rw [qa, if_neg (by simp)] at d1
        clear qa
        go_wp2_with fail
        go_round
        case rel => exact ⟨k + 1, by omega, by go_num⟩
        case measure => simp [intOf]; omega
      | true =>
        rw [qa, if_pos rfl] at d1
        cases qb : bit h.ideleg (ordN k) with
        | true =>
          rw [qb, if_pos rfl] at d2
          clear qa qb
          go_wp2_with fail
          go_round
          case rel => exact ⟨k + 1, by omega, by go_num⟩
          case measure => simp [intOf]; omega
        | false =>
          rw [qb, if_neg (by simp)] at d2
          clear qa qb
          go_wp2_with fail
          go_round
          case rel => exact ⟨k + 1, by omega, by go_num⟩
          case measure => simp [intOf]; omega
    · have e6 : k = 6 := by omega
      subst e6
      have HS2 := HS
      clear hlt hk hlo ho
      go_wp2_with fail
      go_loop [10] (fun i => ∃ k : Nat, k ≤ 6 ∧ i = .int .i64 k) (fun i => 6 - (intOf i).toNat)
      case atStart => exact ⟨0, by omega, rfl⟩
      case round =>
        obtain ⟨k, hk, rfl⟩ := hrel
        have hlo := ordN_lt k
        have ho := or_top k
        by_cases hlt : k < 6
        · have hg := ord_get k hlt
          have d1 := and1_walk (andL (pendW h e) (h.ie.toNat : Int)) (ordN k)
          have d2 := and1_walk h.ideleg (ordN k)
          have e6 : 6 - k = (5 - k) + 1 := by omega
          have e5 : 6 - (k + 1) = 5 - k := by omega
          skip
          have E5 := Lib.hid e5
          clear e6 e5
          cases qa : bit (andL (pendW h e) (h.ie.toNat : Int)) (ordN k) with
          | false =>
            rw [qa, if_neg (by simp)] at d1
            clear qa
            go_wp2_with fail
            go_round
            case rel => exact ⟨k + 1, by omega, by go_num⟩
            case measure => simp [intOf]; omega
          | true =>
            rw [qa, if_pos rfl] at d1
            cases qb : bit h.ideleg (ordN k) with
            | true =>
              rw [qb, if_pos rfl] at d2
              clear qa qb
              go_wp2_with fail
              go_round
              case rel => exact ⟨k + 1, by omega, by go_num⟩
              case measure => simp [intOf]; omega
            | false =>
              rw [qb, if_neg (by simp)] at d2
              clear qa qb
              go_wp2_with fail
              go_round
              case rel => exact ⟨k + 1, by omega, by go_num⟩
              case measure => simp [intOf]; omega
        · have e6 : k = 6 := by omega
          subst e6
          go_wp2_with fail
          go_ret2
          exact ⟨by rw [HS2.out]; rfl, hend.out.alloc (by have := hend.out.size; omega) _⟩

theorem rselect_any (h : Hart) (e : Env) : Mk Try.prog 34 #[.agg (hartC h), .agg (envC e)] (.tuple #[.int .u64 (causeV (selO h e)), .bool (selO h e).isSome]) := by
  by_cases p : h.priv = 3
  · have hs : sOK h = false := by unfold sOK; rw [p]; rfl
    cases q : bit h.status 3 with
    | true =>
      have hm : mOK h = true := by unfold mOK; rw [q, Bool.or_true]
      exact rsel_3 h e p (st_bit _ 3 (by omega) 8 (by decide) _ q) (selO_A h e hm) hm hs
    | false =>
      have hm : mOK h = false := by unfold mOK; rw [q, p]; rfl
      exact rsel_3n h e p (st_bit _ 3 (by omega) 8 (by decide) _ q) (selO_n h e hm hs) hm hs
  · have hm : mOK h = true := by unfold mOK; rw [decide_eq_true p, Bool.true_or]
    by_cases p0 : h.priv = 0
    · exact rsel_0 h e p0 (selO_A h e hm) hm (by rw [hid_iff]; unfold sOK; rw [p0]; rfl)
    · by_cases p1 : h.priv = 1
      · cases q : bit h.status 1 with
        | true => exact rsel_1 h e p1 (st_bit _ 1 (by omega) 2 (by decide) _ q) (selO_A h e hm) hm (by rw [hid_iff]; unfold sOK; rw [p1, q]; rfl)
        | false => exact rsel_1n h e p1 (st_bit _ 1 (by omega) 2 (by decide) _ q) (selO_A h e hm) hm (by rw [hid_iff]; unfold sOK; rw [p1, q]; rfl)
      · exact rsel_x h e p p0 p1 (selO_A h e hm) hm (by rw [hid_iff]; unfold sOK; rw [decide_eq_false p0, decide_eq_false p1]; rfl)
end Go.Proofs.Ythijheijognhmaa
