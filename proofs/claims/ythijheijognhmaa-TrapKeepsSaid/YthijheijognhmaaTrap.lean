/- Contracts of package trap, and of the document's: a trap. -/
import Derived.Test.YthijheijognhmaaTrapPlain
import Derived.Test.YthijheijognhmaaTrapClear
namespace Go.Proofs.Ythijheijognhmaa
open Go.RowKit Wd
set_option linter.unusedVariables false
set_option linter.unusedSimpArgs false

attribute [local go_sem] zeroH_run hart_size hart_set_pc hart_get_pc hart_set_priv hart_get_priv hart_set_status hart_get_status hart_set_edeleg hart_get_edeleg hart_set_ideleg hart_get_ideleg hart_set_ie hart_get_ie hart_set_ip hart_get_ip hart_set_tvec hart_get_tvec hart_set_epc hart_get_epc hart_set_cause hart_get_cause hart_set_tval hart_get_tval hart_set_stvec hart_get_stvec hart_set_sepc hart_get_sepc hart_set_scause hart_get_scause hart_set_stval hart_get_stval hart_set_res hart_get_res hart_set_resAt hart_get_resAt hart_set_resAt0 loadR_hart storeR_hart rowAt_alloc rowAt_drew setRow_alloc_if and_L or_L clr_L
attribute [local go_sem ↓] load_row store_row
set_option maxRecDepth 4000

theorem move_any (s : BitVec 64) (x y : Int) : Pu Try.prog 39 #[.int .u64 (s.toNat : Int), .int .u64 x, .int .u64 y] (.int .u64 ((moveW s x y).toNat : Int)) := by
  intro w
  by_cases h : andL s x = 0#64
  · have e : ((andL s x).toNat : Int) = 0 := by rw [h]; rfl
    have hm := Lib.hid (show moveW s x y = clrL s y from if_pos h)
    clear h
    go_enter Try.func39, Try.ntmps39
    go_wp2_with fail
    go_ret
    exact ⟨ret_int (by rw [hm.out]), rfl⟩
  · have e : ¬ ((andL s x).toNat : Int) = 0 := fun k => h (BitVec.eq_of_toNat_eq (by simpa using k))
    have hm := Lib.hid (show moveW s x y = orL s y from if_neg h)
    clear h
    go_enter Try.func39, Try.ntmps39
    go_wp2_with fail
    go_ret
    exact ⟨ret_int (by rw [hm.out]), rfl⟩

theorem place_any (vec c : BitVec 64) : Pu Try.prog 40 #[.int .u64 (vec.toNat : Int), .int .u64 (c.toNat : Int)] (.int .u64 ((placeW vec c).toNat : Int)) := by
  intro w
  have h1 := andL_pow vec 0 (by omega) 1 (by decide)
  have h2 := andL_pow c 63 (by omega) 9223372036854775808 (by decide)
  have h3 := Lib.hid (andL_63 c)
  cases b1 : vec.getLsbD 0 with
  | false =>
    rw [b1] at h1
    simp only [Bool.false_eq_true, if_false] at h1
    have hm := Lib.hid (show placeW vec c = clrL vec 3 by unfold placeW; rw [b1]; rfl)
    go_enter Try.func40, Try.ntmps40
    go_wp2_with fail
    go_ret
    exact ⟨ret_int (by rw [hm.out]), rfl⟩
  | true =>
    rw [b1] at h1
    simp only [if_true] at h1
    cases b2 : c.getLsbD 63 with
    | false =>
      rw [b2] at h2
      simp only [Bool.false_eq_true, if_false] at h2
      have hm := Lib.hid (show placeW vec c = clrL vec 3 by unfold placeW; rw [b1, b2]; rfl)
      go_enter Try.func40, Try.ntmps40
      go_wp2_with fail
      go_ret
      exact ⟨ret_int (by rw [hm.out]), rfl⟩
    | true =>
      rw [b2] at h2
      simp only [if_true] at h2
      have hm := Lib.hid (show placeW vec c = addK (clrL vec 3) (numC c) by unfold placeW; rw [b1, b2]; rfl)
      have hn := numC_lt c
      go_enter Try.func40, Try.ntmps40
      go_wp2_with fail
      go_ret
      exact ⟨ret_int (by rw [hm.out, h3.out]; exact addK_walk _ _), rfl⟩

theorem goes_any (h : Hart) (c : BitVec 64) (w : World) : Calls Try.prog 38 #[.agg (hartC h), .int .u64 (c.toNat : Int)] w fun e w' => e = .returned (.bool (goesB h c)) ∧ ∃ c1 : Array Value, w' = w.alloc (.cells c1 28) := by
  have h2 := andL_pow c 63 (by omega) 9223372036854775808 (by decide)
  have h3 := andL_63 c
  have hn := numC_lt c
  by_cases p : h.priv = 0 ∨ h.priv = 1
  · have hp : (decide (h.priv = 0) || decide (h.priv = 1)) = true := by simpa using p
    cases b2 : c.getLsbD 63 with
    | false =>
      rw [b2] at h2
      simp only [Bool.false_eq_true, if_false] at h2
      have hb := bitne_walk h.edeleg (numC c)
      have hm := Lib.hid (show goesB h c = bit h.edeleg (numC c) by unfold goesB degW; rw [hp, b2]; rfl)
      clear hp
      rcases p with p | p
      · go_enter Try.func38, Try.ntmps38
        go_wp2_with fail
        go_ret
        exact ⟨ret_bool (by rw [hm.out]), _, rfl⟩
      · go_enter Try.func38, Try.ntmps38
        go_wp2_with fail
        go_ret
        exact ⟨ret_bool (by rw [hm.out]), _, rfl⟩
    | true =>
      rw [b2] at h2
      simp only [if_true] at h2
      have hb := bitne_walk h.ideleg (numC c)
      have hm := Lib.hid (show goesB h c = bit h.ideleg (numC c) by unfold goesB degW; rw [hp, b2]; rfl)
      clear hp
      rcases p with p | p
      · go_enter Try.func38, Try.ntmps38
        go_wp2_with fail
        go_ret
        exact ⟨ret_bool (by rw [hm.out]), _, rfl⟩
      · go_enter Try.func38, Try.ntmps38
        go_wp2_with fail
        go_ret
        exact ⟨ret_bool (by rw [hm.out]), _, rfl⟩
  · have p0 : ¬ h.priv = 0 := fun e => p (.inl e)
    have p1 : ¬ h.priv = 1 := fun e => p (.inr e)
    have hm := Lib.hid (show goesB h c = false by unfold goesB; rw [decide_eq_false p0, decide_eq_false p1]; rfl)
    clear p
    go_enter Try.func38, Try.ntmps38
    go_wp2_with fail
    all_goals first
      | (exfalso; simp_all; done)
      | (go_ret; exact ⟨ret_bool hm.out.symm, _, rfl⟩)

set_option maxHeartbeats 4000000 in
theorem enter_any (h : Hart) (c t : BitVec 64) : Mk Try.prog 13 #[.agg (hartC h), .int .u64 (c.toNat : Int), .int .u64 (t.toNat : Int)] (.agg (hartC (enterH h c t))) := by
  intro w
  cases hb : goesB { h with res := false, resAt := 0#64 } c with
  | true =>
    have hg := Lib.hid hb
    by_cases p : h.priv = 1
    · have hg1 := Lib.hid (show goesB { h with res := false, resAt := 0#64, priv := 1 } c = true by rw [← p]; exact hb)
      have he := Lib.hid (show enterH h c t = { h with res := false, resAt := 0#64, scause := andL c 9223372036854775871, sepc := clrL h.pc 3, stval := t, status := orL (clrL (moveW h.status 2 32) 258) 256, priv := 1, pc := placeW h.stvec c } by
        rw [show enterH h c t = enterS h c t from if_pos hb]; unfold enterS; rw [if_pos p])
      clear hb
      go_enter Try.func13, Try.ntmps13
      go_wp2_with (first
            | (go_at_call 16; refine (clear_any _ _).mono ?_; rintro e w1 ⟨rfl, c1, c2, rfl⟩)
            | (go_at_call 38; refine (goes_any _ _ _).mono ?_; rintro e w1 ⟨rfl, c3, rfl⟩; first | rw [hg.out] | rw [hg1.out])
            | (go_at_call 39; refine (move_any _ _ _ _).mono ?_; rintro e w1 ⟨rfl, rfl⟩)
            | (go_at_call 40; refine (place_any _ _ _).mono ?_; rintro e w1 ⟨rfl, rfl⟩))
      exact ret_hart (b := w.heap.size + 1) rfl rfl (by simp [rowAt_alloc]; rfl) rfl ⟨by rw [he.out], by (repeat (refine Below.alloc ?_ (by simp <;> omega) _)); exact Below.refl _ _⟩
    · have he := Lib.hid (show enterH h c t = { h with res := false, resAt := 0#64, scause := andL c 9223372036854775871, sepc := clrL h.pc 3, stval := t, status := clrL (moveW h.status 2 32) 258, priv := 1, pc := placeW h.stvec c } by
        rw [show enterH h c t = enterS h c t from if_pos hb]; unfold enterS; rw [if_neg p])
      clear hb
      go_enter Try.func13, Try.ntmps13
      go_wp2_with (first
            | (go_at_call 16; refine (clear_any _ _).mono ?_; rintro e w1 ⟨rfl, c1, c2, rfl⟩)
            | (go_at_call 38; refine (goes_any _ _ _).mono ?_; rintro e w1 ⟨rfl, c3, rfl⟩; rw [hg.out])
            | (go_at_call 39; refine (move_any _ _ _ _).mono ?_; rintro e w1 ⟨rfl, rfl⟩)
            | (go_at_call 40; refine (place_any _ _ _).mono ?_; rintro e w1 ⟨rfl, rfl⟩))
      exact ret_hart (b := w.heap.size + 1) rfl rfl (by simp [rowAt_alloc]; rfl) rfl ⟨by rw [he.out], by (repeat (refine Below.alloc ?_ (by simp <;> omega) _)); exact Below.refl _ _⟩
  | false =>
    have hg := Lib.hid hb
    have he := Lib.hid (show enterH h c t = enterM h c t from if_neg (by rw [show goesB h c = false from hb]; simp))
    clear hb
    go_enter Try.func13, Try.ntmps13
    go_wp2_with (first
      | (go_at_call 16; refine (clear_any _ _).mono ?_; rintro e w1 ⟨rfl, c1, c2, rfl⟩)
      | (go_at_call 38; refine (goes_any _ _ _).mono ?_; rintro e w1 ⟨rfl, c3, rfl⟩; rw [hg.out])
      | (go_at_call 39; refine (move_any _ _ _ _).mono ?_; rintro e w1 ⟨rfl, rfl⟩)
      | (go_at_call 40; refine (place_any _ _ _).mono ?_; rintro e w1 ⟨rfl, rfl⟩))
    exact ret_hart (b := w.heap.size + 1) rfl rfl (by simp [rowAt_alloc]; rfl) rfl ⟨by rw [he.out]; rfl, by (repeat (refine Below.alloc ?_ (by simp <;> omega) _)); exact Below.refl _ _⟩
end Go.Proofs.Ythijheijognhmaa
