/- Contracts: the ways back from Machine and from Super, of the program and of the document. -/
import Derived.Test.YthijheijognhmaaTrapRef
import Derived.Deep.RegionWith
namespace Go.Proofs.Ythijheijognhmaa
open Go.RowKit Wd
set_option linter.unusedVariables false
set_option linter.unusedSimpArgs false

attribute [local go_sem] zeroH_run hart_size hart_set_pc hart_get_pc hart_set_priv hart_get_priv hart_set_status hart_get_status hart_set_edeleg hart_get_edeleg hart_set_ideleg hart_get_ideleg hart_set_ie hart_get_ie hart_set_ip hart_get_ip hart_set_tvec hart_get_tvec hart_set_epc hart_get_epc hart_set_cause hart_get_cause hart_set_tval hart_get_tval hart_set_stvec hart_get_stvec hart_set_sepc hart_get_sepc hart_set_scause hart_get_scause hart_set_stval hart_get_stval hart_set_res hart_get_res hart_set_resAt hart_get_resAt hart_set_resAt0 loadR_hart storeR_hart rowAt_alloc rowAt_drew setRow_drew setRow_alloc_if and_L or_L clr_L addK_walk addK_walk2
attribute [local go_sem ↓] load_row store_row
set_option maxRecDepth 4000
namespace Wd
theorem mpp_back (s : BitVec 64) : ((andL s 6144).toNat : Int) / 2048 = ((s.toNat / 2048 % 4 : Nat) : Int) := by
  have h : (andL s 6144).toNat / 2048 = s.toNat / 2048 % 4 := by
    unfold andL
    rw [BitVec.toNat_and, show (BitVec.ofInt 64 6144).toNat = 6144 from by decide, show 2048 = 2 ^ 11 from rfl, ← Nat.shiftRight_eq_div_pow, ← Nat.shiftRight_eq_div_pow, Nat.shiftRight_and_distrib,
      show 6144 >>> 11 = 2 ^ 2 - 1 from by decide, Nat.and_two_pow_sub_one_eq_mod]
  rw [← h]; omega
theorem mpp_before (s : BitVec 64) : bits .and .u64 ((s.toNat : Int) / 2048) 3 = ((s.toNat / 2048 % 4 : Nat) : Int) := by
  rw [show (2048 : Int) = 2 ^ 11 from by decide, shr64, and64, of64, show BitVec.ofInt 64 3 = 3#64 from rfl, BitVec.toNat_and, show (3#64 : BitVec 64).toNat = 2 ^ 2 - 1 from rfl, Nat.and_two_pow_sub_one_eq_mod,
    BitVec.toNat_ushiftRight, Nat.shiftRight_eq_div_pow]
theorem or_clr (s : BitVec 64) (a b : Int) (h : BitVec.ofInt 64 a &&& ~~~BitVec.ofInt 64 b = BitVec.ofInt 64 a) : clrL (orL s a) b = orL (clrL s b) a := by
  unfold clrL orL
  apply BitVec.eq_of_getLsbD_eq
  intro i hi
  have hk := congrArg (fun v => v.getLsbD i) h
  simp only [BitVec.getLsbD_and, BitVec.getLsbD_not, decide_eq_true hi, Bool.true_and] at hk
  rw [BitVec.getLsbD_and, BitVec.getLsbD_or, BitVec.getLsbD_or, BitVec.getLsbD_and, BitVec.getLsbD_not, decide_eq_true hi]
  cases s.getLsbD i <;> cases hx : (BitVec.ofInt 64 a).getLsbD i <;> cases hy : (BitVec.ofInt 64 b).getLsbD i <;> simp_all
def mretS (h : Hart) : BitVec 64 := orL (clrL (moveW h.status 128 8) 6144) 128
def mretH (h : Hart) : Hart :=
  { h with res := false, resAt := 0#64, priv := backI h.status, pc := h.epc, status := if backI h.status = 3 then mretS h else clrL (mretS h) 131072 }
def sretH (h : Hart) : Hart :=
  { h with res := false, resAt := 0#64, priv := if h.status.getLsbD 8 then 1 else 0, pc := h.sepc, status := orL (clrL (moveW h.status 32 2) 131328) 32 }
theorem backI_cases (s : BitVec 64) : backI s = 0 ∨ backI s = 1 ∨ backI s = 3 := by
  unfold backI
  split
  · omega
  · omega
end Wd

theorem back_any (s : BitVec 64) : Pu Try.prog 43 #[.int .u64 (s.toNat : Int)] (.int .i64 (backI s)) := by
  intro w
  have h1 := mpp_back s
  have hb : backI s = if s.toNat / 2048 % 4 = 2 then 3 else ((s.toNat / 2048 % 4 : Nat) : Int) := rfl
  have hlt : s.toNat / 2048 % 4 < 4 := Nat.mod_lt _ (by omega)
  generalize s.toNat / 2048 % 4 = p at h1 hb hlt
  have hp : p = 0 ∨ p = 1 ∨ p = 2 ∨ p = 3 := by omega
  rcases hp with rfl | rfl | rfl | rfl
  · have hb' := Lib.hid (show backI s = 0 from hb)
    clear hb hlt
    have h2 : ((andL s 6144).toNat : Int) / 2048 = 0 := h1
    clear h1
    go_enter Try.func43, Try.ntmps43
    go_wp2_with fail
    go_ret
    exact ⟨ret_int (by rw [hb'.out]), rfl⟩
  · have hb' := Lib.hid (show backI s = 1 from hb)
    clear hb hlt
    have h2 : ((andL s 6144).toNat : Int) / 2048 = 1 := h1
    clear h1
    go_enter Try.func43, Try.ntmps43
    go_wp2_with fail
    go_ret
    exact ⟨ret_int (by rw [hb'.out]), rfl⟩
  · have hb' := Lib.hid (show backI s = 3 from hb)
    clear hb hlt
    have h2 : ((andL s 6144).toNat : Int) / 2048 = 2 := h1
    clear h1
    go_enter Try.func43, Try.ntmps43
    go_wp2_with fail
    go_ret
    exact ⟨ret_int (by rw [hb'.out]), rfl⟩
  · have hb' := Lib.hid (show backI s = 3 from hb)
    clear hb hlt
    have h2 : ((andL s 6144).toNat : Int) / 2048 = 3 := h1
    clear h1
    go_enter Try.func43, Try.ntmps43
    go_wp2_with fail
    go_ret
    exact ⟨ret_int (by rw [hb'.out]), rfl⟩

theorem before_any (s : BitVec 64) : Pu Try.prog 44 #[.int .u64 (s.toNat : Int)] (.int .i64 (backI s)) := by
  intro w
  have h1 := mpp_before s
  have hb : backI s = if s.toNat / 2048 % 4 = 2 then 3 else ((s.toNat / 2048 % 4 : Nat) : Int) := rfl
  have hlt : s.toNat / 2048 % 4 < 4 := Nat.mod_lt _ (by omega)
  generalize s.toNat / 2048 % 4 = p at h1 hb hlt
  have hp : p = 0 ∨ p = 1 ∨ p = 2 ∨ p = 3 := by omega
  rcases hp with rfl | rfl | rfl | rfl
  · have hb' := Lib.hid (show backI s = 0 from hb)
    clear hb hlt
    have h2 : bits .and .u64 ((s.toNat : Int) / 2048) 3 = 0 := h1
    clear h1
    go_enter Try.func44, Try.ntmps44
    go_wp2_with fail
    go_ret
    exact ⟨ret_int (by rw [hb'.out]), rfl⟩
  · have hb' := Lib.hid (show backI s = 1 from hb)
    clear hb hlt
    have h2 : bits .and .u64 ((s.toNat : Int) / 2048) 3 = 1 := h1
    clear h1
    go_enter Try.func44, Try.ntmps44
    go_wp2_with fail
    go_ret
    exact ⟨ret_int (by rw [hb'.out]), rfl⟩
  · have hb' := Lib.hid (show backI s = 3 from hb)
    clear hb hlt
    have h2 : bits .and .u64 ((s.toNat : Int) / 2048) 3 = 2 := h1
    clear h1
    go_enter Try.func44, Try.ntmps44
    go_wp2_with fail
    go_ret
    exact ⟨ret_int (by rw [hb'.out]), rfl⟩
  · have hb' := Lib.hid (show backI s = 3 from hb)
    clear hb hlt
    have h2 : bits .and .u64 ((s.toNat : Int) / 2048) 3 = 3 := h1
    clear h1
    go_enter Try.func44, Try.ntmps44
    go_wp2_with fail
    go_ret
    exact ⟨ret_int (by rw [hb'.out]), rfl⟩

set_option maxHeartbeats 4000000 in
theorem mret_any (h : Hart) : Mk Try.prog 24 #[.agg (hartC h)] (.agg (hartC (mretH h))) := by
  intro w
  have he0 : mretH h = { h with res := false, resAt := 0#64, priv := backI h.status, pc := h.epc, status := if backI h.status = 3 then mretS h else clrL (mretS h) 131072 } := rfl
  unfold mretS at he0
  rcases backI_cases h.status with hk | hk | hk
  · rw [hk, if_neg (by decide)] at he0
    have he := Lib.hid he0
    clear he0
    go_enter Try.func24, Try.ntmps24
    go_wp2_with (first
      | (go_at_call 16; refine (clear_any _ _).mono ?_; rintro e w1 ⟨rfl, c1, c2, rfl⟩)
      | (go_at_call 43; refine (back_any _ _).mono ?_; rintro e w1 ⟨rfl, rfl⟩; rw [hk])
      | (go_at_call 39; refine (move_any _ _ _ _).mono ?_; rintro e w1 ⟨rfl, rfl⟩))
    go_region_with (first
      | (go_at_call 16; refine (clear_any _ _).mono ?_; rintro e w1 ⟨rfl, c1, c2, rfl⟩)
      | (go_at_call 43; refine (back_any _ _).mono ?_; rintro e w1 ⟨rfl, rfl⟩; rw [hk])
      | (go_at_call 39; refine (move_any _ _ _ _).mono ?_; rintro e w1 ⟨rfl, rfl⟩))
    all_goals
      go_wp2_with (first
      | (go_at_call 16; refine (clear_any _ _).mono ?_; rintro e w1 ⟨rfl, c1, c2, rfl⟩)
      | (go_at_call 43; refine (back_any _ _).mono ?_; rintro e w1 ⟨rfl, rfl⟩; rw [hk])
      | (go_at_call 39; refine (move_any _ _ _ _).mono ?_; rintro e w1 ⟨rfl, rfl⟩))
      exact ret_hart (b := w.heap.size + 1) rfl rfl (by simp [rowAt_alloc, rowAt_drew]; rfl) rfl ⟨by rw [he.out], by (repeat (first | refine Below.drew ?_ | refine Below.alloc ?_ (by simp <;> omega) _)); exact Below.refl _ _⟩
  · rw [hk, if_neg (by decide)] at he0
    have he := Lib.hid he0
    clear he0
    go_enter Try.func24, Try.ntmps24
    go_wp2_with (first
      | (go_at_call 16; refine (clear_any _ _).mono ?_; rintro e w1 ⟨rfl, c1, c2, rfl⟩)
      | (go_at_call 43; refine (back_any _ _).mono ?_; rintro e w1 ⟨rfl, rfl⟩; rw [hk])
      | (go_at_call 39; refine (move_any _ _ _ _).mono ?_; rintro e w1 ⟨rfl, rfl⟩))
    go_region_with (first
      | (go_at_call 16; refine (clear_any _ _).mono ?_; rintro e w1 ⟨rfl, c1, c2, rfl⟩)
      | (go_at_call 43; refine (back_any _ _).mono ?_; rintro e w1 ⟨rfl, rfl⟩; rw [hk])
      | (go_at_call 39; refine (move_any _ _ _ _).mono ?_; rintro e w1 ⟨rfl, rfl⟩))
    all_goals
      go_wp2_with (first
      | (go_at_call 16; refine (clear_any _ _).mono ?_; rintro e w1 ⟨rfl, c1, c2, rfl⟩)
      | (go_at_call 43; refine (back_any _ _).mono ?_; rintro e w1 ⟨rfl, rfl⟩; rw [hk])
      | (go_at_call 39; refine (move_any _ _ _ _).mono ?_; rintro e w1 ⟨rfl, rfl⟩))
      exact ret_hart (b := w.heap.size + 1) rfl rfl (by simp [rowAt_alloc, rowAt_drew]; rfl) rfl ⟨by rw [he.out], by (repeat (first | refine Below.drew ?_ | refine Below.alloc ?_ (by simp <;> omega) _)); exact Below.refl _ _⟩
  · rw [hk, if_pos rfl] at he0
    have he := Lib.hid he0
    clear he0
    go_enter Try.func24, Try.ntmps24
    go_wp2_with (first
      | (go_at_call 16; refine (clear_any _ _).mono ?_; rintro e w1 ⟨rfl, c1, c2, rfl⟩)
      | (go_at_call 43; refine (back_any _ _).mono ?_; rintro e w1 ⟨rfl, rfl⟩; rw [hk])
      | (go_at_call 39; refine (move_any _ _ _ _).mono ?_; rintro e w1 ⟨rfl, rfl⟩))
    go_region_with (first
      | (go_at_call 16; refine (clear_any _ _).mono ?_; rintro e w1 ⟨rfl, c1, c2, rfl⟩)
      | (go_at_call 43; refine (back_any _ _).mono ?_; rintro e w1 ⟨rfl, rfl⟩; rw [hk])
      | (go_at_call 39; refine (move_any _ _ _ _).mono ?_; rintro e w1 ⟨rfl, rfl⟩))
    all_goals
      go_wp2_with (first
      | (go_at_call 16; refine (clear_any _ _).mono ?_; rintro e w1 ⟨rfl, c1, c2, rfl⟩)
      | (go_at_call 43; refine (back_any _ _).mono ?_; rintro e w1 ⟨rfl, rfl⟩; rw [hk])
      | (go_at_call 39; refine (move_any _ _ _ _).mono ?_; rintro e w1 ⟨rfl, rfl⟩))
      exact ret_hart (b := w.heap.size + 1) rfl rfl (by simp [rowAt_alloc, rowAt_drew]; rfl) rfl ⟨by rw [he.out], by (repeat (first | refine Below.drew ?_ | refine Below.alloc ?_ (by simp <;> omega) _)); exact Below.refl _ _⟩

set_option maxHeartbeats 4000000 in
theorem rmret_any (h : Hart) : Mk Try.prog 25 #[.agg (hartC h)] (.agg (hartC (mretH h))) := by
  intro w
  have hs : mretS h = clrL (orL (putW h.status 8 (((andL h.status 128).toNat : Int) != 0)) 128) 6144 := by rw [or_clr _ 128 6144 (by decide), putW_move]; rfl
  have he0 : mretH h = { h with res := false, resAt := 0#64, priv := backI h.status, pc := h.epc, status := if backI h.status = 3 then mretS h else clrL (mretS h) 131072 } := rfl
  rw [hs] at he0
  clear hs
  rcases backI_cases h.status with hk | hk | hk
  · rw [hk, if_neg (by decide)] at he0
    have he := Lib.hid he0
    clear he0
    go_enter Try.func25, Try.ntmps25
    go_wp2_with (first
      | (go_at_call 44; refine (before_any _ _).mono ?_; rintro e w1 ⟨rfl, rfl⟩; rw [hk])
      | (go_at_call 41; refine (put_any _ _ _ _).mono ?_; rintro e w1 ⟨rfl, rfl⟩))
    exact ret_hart (b := w.heap.size + 1) rfl rfl (by simp [rowAt_alloc, rowAt_drew]; rfl) rfl ⟨by rw [he.out], by (repeat (first | refine Below.drew ?_ | refine Below.alloc ?_ (by simp <;> omega) _)); exact Below.refl _ _⟩
  · rw [hk, if_neg (by decide)] at he0
    have he := Lib.hid he0
    clear he0
    go_enter Try.func25, Try.ntmps25
    go_wp2_with (first
      | (go_at_call 44; refine (before_any _ _).mono ?_; rintro e w1 ⟨rfl, rfl⟩; rw [hk])
      | (go_at_call 41; refine (put_any _ _ _ _).mono ?_; rintro e w1 ⟨rfl, rfl⟩))
    exact ret_hart (b := w.heap.size + 1) rfl rfl (by simp [rowAt_alloc, rowAt_drew]; rfl) rfl ⟨by rw [he.out], by (repeat (first | refine Below.drew ?_ | refine Below.alloc ?_ (by simp <;> omega) _)); exact Below.refl _ _⟩
  · rw [hk, if_pos rfl] at he0
    have he := Lib.hid he0
    clear he0
    go_enter Try.func25, Try.ntmps25
    go_wp2_with (first
      | (go_at_call 44; refine (before_any _ _).mono ?_; rintro e w1 ⟨rfl, rfl⟩; rw [hk])
      | (go_at_call 41; refine (put_any _ _ _ _).mono ?_; rintro e w1 ⟨rfl, rfl⟩))
    exact ret_hart (b := w.heap.size + 1) rfl rfl (by simp [rowAt_alloc, rowAt_drew]; rfl) rfl ⟨by rw [he.out], by (repeat (first | refine Below.drew ?_ | refine Below.alloc ?_ (by simp <;> omega) _)); exact Below.refl _ _⟩

set_option maxHeartbeats 4000000 in
theorem sret_any (h : Hart) : Mk Try.prog 26 #[.agg (hartC h)] (.agg (hartC (sretH h))) := by
  intro w
  have h8 := andL_pow h.status 8 (by omega) 256 (by decide)
  have he0 : sretH h = { h with res := false, resAt := 0#64, priv := if h.status.getLsbD 8 then 1 else 0, pc := h.sepc, status := orL (clrL (moveW h.status 32 2) 131328) 32 } := by
    rfl
  cases hc : h.status.getLsbD 8 with
  | true =>
    rw [hc] at he0 h8
    simp only [if_true] at he0 h8
    have he := Lib.hid he0
    clear he0
    go_enter Try.func26, Try.ntmps26
    go_wp2_with (first
      | (go_at_call 16; refine (clear_any _ _).mono ?_; rintro e w1 ⟨rfl, c1, c2, rfl⟩)
      | (go_at_call 39; refine (move_any _ _ _ _).mono ?_; rintro e w1 ⟨rfl, rfl⟩))
    exact ret_hart (b := w.heap.size + 1) rfl rfl (by simp [rowAt_alloc, rowAt_drew]; rfl) rfl ⟨by rw [he.out], by (repeat (first | refine Below.drew ?_ | refine Below.alloc ?_ (by simp <;> omega) _)); exact Below.refl _ _⟩
  | false =>
    rw [hc] at he0 h8
    simp only [Bool.false_eq_true, if_false] at he0 h8
    have he := Lib.hid he0
    clear he0
    go_enter Try.func26, Try.ntmps26
    go_wp2_with (first
      | (go_at_call 16; refine (clear_any _ _).mono ?_; rintro e w1 ⟨rfl, c1, c2, rfl⟩)
      | (go_at_call 39; refine (move_any _ _ _ _).mono ?_; rintro e w1 ⟨rfl, rfl⟩))
    exact ret_hart (b := w.heap.size + 1) rfl rfl (by simp [rowAt_alloc, rowAt_drew]; rfl) rfl ⟨by rw [he.out], by (repeat (first | refine Below.drew ?_ | refine Below.alloc ?_ (by simp <;> omega) _)); exact Below.refl _ _⟩

set_option maxHeartbeats 4000000 in
theorem rsret_any (h : Hart) : Mk Try.prog 27 #[.agg (hartC h)] (.agg (hartC (sretH h))) := by
  intro w
  have h8 := andL_pow h.status 8 (by omega) 256 (by decide)
  have he0 : sretH h = { h with res := false, resAt := 0#64, priv := if h.status.getLsbD 8 then 1 else 0, pc := h.sepc, status := clrL (orL (putW h.status 2 (((andL h.status 32).toNat : Int) != 0)) 32) 131328 } := by
    rw [or_clr _ 32 131328 (by decide), putW_move]; rfl
  cases hc : h.status.getLsbD 8 with
  | true =>
    rw [hc] at he0 h8
    simp only [if_true] at he0 h8
    have he := Lib.hid he0
    clear he0
    go_enter Try.func27, Try.ntmps27
    go_wp2_with (first
      | (go_at_call 44; refine (before_any _ _).mono ?_; rintro e w1 ⟨rfl, rfl⟩)
      | (go_at_call 41; refine (put_any _ _ _ _).mono ?_; rintro e w1 ⟨rfl, rfl⟩))
    exact ret_hart (b := w.heap.size + 1) rfl rfl (by simp [rowAt_alloc, rowAt_drew]; rfl) rfl ⟨by rw [he.out], by (repeat (first | refine Below.drew ?_ | refine Below.alloc ?_ (by simp <;> omega) _)); exact Below.refl _ _⟩
  | false =>
    rw [hc] at he0 h8
    simp only [Bool.false_eq_true, if_false] at he0 h8
    have he := Lib.hid he0
    clear he0
    go_enter Try.func27, Try.ntmps27
    go_wp2_with (first
      | (go_at_call 44; refine (before_any _ _).mono ?_; rintro e w1 ⟨rfl, rfl⟩)
      | (go_at_call 41; refine (put_any _ _ _ _).mono ?_; rintro e w1 ⟨rfl, rfl⟩))
    exact ret_hart (b := w.heap.size + 1) rfl rfl (by simp [rowAt_alloc, rowAt_drew]; rfl) rfl ⟨by rw [he.out], by (repeat (first | refine Below.drew ?_ | refine Below.alloc ?_ (by simp <;> omega) _)); exact Below.refl _ _⟩
end Go.Proofs.Ythijheijognhmaa
