/- The law TrapWhere, walked: each call answers true. -/
import Derived.Test.YthijheijognhmaaTrapLaws
namespace Go.Proofs.Ythijheijognhmaa
open Go.RowKit Wd
set_option linter.unusedVariables false
set_option linter.unusedSimpArgs false

namespace Wd
theorem small_of (c : BitVec 64) (h : c.toNat < 16) : ∃ k, k < 16 ∧ c = BitVec.ofNat 64 k := ⟨c.toNat, h, by rw [BitVec.ofNat_toNat, BitVec.setWidth_eq]⟩
theorem small_top (c : BitVec 64) (h : c.toNat < 16) : c.getLsbD 63 = false := by
  obtain ⟨k, hk, rfl⟩ := small_of c h
  exact (show ∀ k, k < 16 → (BitVec.ofNat 64 k).getLsbD 63 = false by decide +kernel) k hk
theorem small_num (c : BitVec 64) (h : c.toNat < 16) : numC c = c.toNat := by
  obtain ⟨k, hk, rfl⟩ := small_of c h
  exact (show ∀ k, k < 16 → numC (BitVec.ofNat 64 k) = (BitVec.ofNat 64 k).toNat by decide +kernel) k hk
theorem small_kept (c : BitVec 64) (h : c.toNat < 16) : andL c 9223372036854775871 = c := by
  obtain ⟨k, hk, rfl⟩ := small_of c h
  exact (show ∀ k, k < 16 → andL (BitVec.ofNat 64 k) 9223372036854775871 = BitVec.ofNat 64 k by decide +kernel) k hk
theorem int_top (c : BitVec 64) (h : c.toNat < 16) : (orL c 9223372036854775808).getLsbD 63 = true := by
  obtain ⟨k, hk, rfl⟩ := small_of c h
  exact (show ∀ k, k < 16 → (orL (BitVec.ofNat 64 k) 9223372036854775808).getLsbD 63 = true by decide +kernel) k hk
theorem int_num (c : BitVec 64) (h : c.toNat < 16) : numC (orL c 9223372036854775808) = c.toNat := by
  obtain ⟨k, hk, rfl⟩ := small_of c h
  exact (show ∀ k, k < 16 → numC (orL (BitVec.ofNat 64 k) 9223372036854775808) = (BitVec.ofNat 64 k).toNat by decide +kernel) k hk
theorem int_kept (c : BitVec 64) (h : c.toNat < 16) : andL (orL c 9223372036854775808) 9223372036854775871 = orL c 9223372036854775808 := by
  obtain ⟨k, hk, rfl⟩ := small_of c h
  exact (show ∀ k, k < 16 → andL (orL (BitVec.ofNat 64 k) 9223372036854775808) 9223372036854775871 = orL (BitVec.ofNat 64 k) 9223372036854775808 by decide +kernel) k hk
end Wd
theorem rowAt_drewN (w : World) (b n : Nat) : rowAt (w.drewN n) b = rowAt w b := by
  unfold rowAt
  rfl
theorem setRow_drewN (w : World) (b n : Nat) (cs : Array Value) : (w.drewN n).setRow b cs = (w.setRow b cs).drewN n := rfl
attribute [local go_sem] zeroH_run hart_size hart_set_pc hart_get_pc hart_set_priv hart_get_priv hart_set_status hart_get_status hart_set_edeleg hart_get_edeleg hart_set_ideleg hart_get_ideleg hart_set_ie hart_get_ie hart_set_ip hart_get_ip hart_set_tvec hart_get_tvec hart_set_epc hart_get_epc hart_set_cause hart_get_cause hart_set_tval hart_get_tval hart_set_stvec hart_get_stvec hart_set_sepc hart_get_sepc hart_set_scause hart_get_scause hart_set_stval hart_get_stval hart_set_res hart_get_res hart_set_resAt hart_get_resAt hart_set_resAt0 loadR_hart storeR_hart rowAt_alloc rowAt_drew rowAt_drewN setRow_alloc_if and_L or_L clr_L addK_walk addK_walk2 setRow_drew setRow_drewN
attribute [local go_sem ↓] load_row store_row
set_option maxRecDepth 4000

/-- Of a row, its cells: as they were, in a world in which nothing old has turned. -/
theorem row_below {w w0 w' : World} {h : Hart} (h0 : w0 = w.alloc (.cells (hartC h) 28)) (hb : Below w0.heap.size w0 w') : (∀ o, w'.cell? ⟨w.heap.size, o, none⟩ = (hartC h)[o]?) ∧ w.heap.size < w'.heap.size ∧ rowAt w' w.heap.size = some (hartC h) := by
  subst h0
  have hr : rowAt w' w.heap.size = some (hartC h) := rowAt_below (by rw [rowAt_alloc, if_pos rfl]) hb
  refine ⟨fun o => cell_of_row w' _ o _ _ (0, 0) (rowAt_heap hr), ?_, hr⟩
  have := hb.size
  simp at this
  omega

theorem where_end {w w1 w2 : World} {c d : Array Value} (hb : Below (w.alloc (.cells c 28)).heap.size (w.alloc (.cells c 28)) w1) (hb2 : Below (w1.alloc (.cells d 28)).heap.size (w1.alloc (.cells d 28)) w2) : Below w.heap.size w w2 := by
  have h1 := below_alloc hb
  have h2 := below_alloc hb2
  exact h1.trans (h2.mono h1.size)

set_option maxHeartbeats 4000000 in
theorem where_0s00 (h : Hart) (n : Int) (t c : BitVec 64) (w : World) (hk : (IntKind.u64.wrap n).tmod 16 = (c.toNat : Int)) (hc : c.toNat < 16)
    (p : h.priv = 0) (d : bits .and .u64 ((h.edeleg.toNat : Int) / 2 ^ c.toNat) 1 = 1) (v : ((andL h.stvec 1).toNat : Int) = 0)
    (eP : (enterH h (c) t).priv = 1) (ePC : (enterH h (c) t).pc = clrL h.stvec 3) (eT : (enterH h (c) t).stval = t) (eC : (enterH h (c) t).scause = c) :
    Calls Try.prog 4 #[.agg (hartC h), .int .i64 n, .bool false, .int .u64 (t.toNat : Int)] w fun e w' => e = .returned (.bool true) ∧ Below w.heap.size w w' := by
  have hb := Below.refl (w.alloc (.cells (hartC h) 28)).heap.size (w.alloc (.cells (hartC h) 28))
  go_enter Try.func4, Try.ntmps4
  go_wp2_with fail
  go_quiet (fail)
  go_wp2_with fail
  refine ((enter_any _ _ _).at (below_drewN hb _)).mono ?_
  clear hb
  rintro e w1 ⟨rfl, hb⟩
  obtain ⟨hcell, hz, hrow⟩ := row_below rfl hb
  go_wp2_with fail
  go_quiet (fail)
  go_wp2_with fail
  go_quiet (fail)
  go_wp2_with fail
  refine ((awake_any).at (below_drewN (Below.refl _ _) _)).mono ?_
  rintro e w2 ⟨rfl, hb2⟩
  obtain ⟨hcell2, hz2, hrow2⟩ := row_below rfl hb2
  go_wp2_with fail
  go_ret
  exact ⟨rfl, where_end hb hb2⟩

set_option maxHeartbeats 4000000 in
theorem where_0s01 (h : Hart) (n : Int) (t c : BitVec 64) (w : World) (hk : (IntKind.u64.wrap n).tmod 16 = (c.toNat : Int)) (hc : c.toNat < 16)
    (p : h.priv = 0) (d : bits .and .u64 ((h.edeleg.toNat : Int) / 2 ^ c.toNat) 1 = 1) (v : ((andL h.stvec 1).toNat : Int) = 1)
    (eP : (enterH h (c) t).priv = 1) (ePC : (enterH h (c) t).pc = clrL h.stvec 3) (eT : (enterH h (c) t).stval = t) (eC : (enterH h (c) t).scause = c) :
    Calls Try.prog 4 #[.agg (hartC h), .int .i64 n, .bool false, .int .u64 (t.toNat : Int)] w fun e w' => e = .returned (.bool true) ∧ Below w.heap.size w w' := by
  have hb := Below.refl (w.alloc (.cells (hartC h) 28)).heap.size (w.alloc (.cells (hartC h) 28))
  go_enter Try.func4, Try.ntmps4
  go_wp2_with fail
  go_quiet (fail)
  go_wp2_with fail
  refine ((enter_any _ _ _).at (below_drewN hb _)).mono ?_
  clear hb
  rintro e w1 ⟨rfl, hb⟩
  obtain ⟨hcell, hz, hrow⟩ := row_below rfl hb
  go_wp2_with fail
  go_quiet (fail)
  go_wp2_with fail
  go_quiet (fail)
  go_wp2_with fail
  refine ((awake_any).at (below_drewN (Below.refl _ _) _)).mono ?_
  rintro e w2 ⟨rfl, hb2⟩
  obtain ⟨hcell2, hz2, hrow2⟩ := row_below rfl hb2
  go_wp2_with fail
  go_ret
  exact ⟨rfl, where_end hb hb2⟩

set_option maxHeartbeats 4000000 in
theorem where_0s10 (h : Hart) (n : Int) (t c : BitVec 64) (w : World) (hk : (IntKind.u64.wrap n).tmod 16 = (c.toNat : Int)) (hc : c.toNat < 16)
    (p : h.priv = 1) (d : bits .and .u64 ((h.edeleg.toNat : Int) / 2 ^ c.toNat) 1 = 1) (v : ((andL h.stvec 1).toNat : Int) = 0)
    (eP : (enterH h (c) t).priv = 1) (ePC : (enterH h (c) t).pc = clrL h.stvec 3) (eT : (enterH h (c) t).stval = t) (eC : (enterH h (c) t).scause = c) :
    Calls Try.prog 4 #[.agg (hartC h), .int .i64 n, .bool false, .int .u64 (t.toNat : Int)] w fun e w' => e = .returned (.bool true) ∧ Below w.heap.size w w' := by
  have hb := Below.refl (w.alloc (.cells (hartC h) 28)).heap.size (w.alloc (.cells (hartC h) 28))
  go_enter Try.func4, Try.ntmps4
  go_wp2_with fail
  go_quiet (fail)
  go_wp2_with fail
  refine ((enter_any _ _ _).at (below_drewN hb _)).mono ?_
  clear hb
  rintro e w1 ⟨rfl, hb⟩
  obtain ⟨hcell, hz, hrow⟩ := row_below rfl hb
  go_wp2_with fail
  go_quiet (fail)
  go_wp2_with fail
  go_quiet (fail)
  go_wp2_with fail
  refine ((awake_any).at (below_drewN (Below.refl _ _) _)).mono ?_
  rintro e w2 ⟨rfl, hb2⟩
  obtain ⟨hcell2, hz2, hrow2⟩ := row_below rfl hb2
  go_wp2_with fail
  go_ret
  exact ⟨rfl, where_end hb hb2⟩

set_option maxHeartbeats 4000000 in
theorem where_0s11 (h : Hart) (n : Int) (t c : BitVec 64) (w : World) (hk : (IntKind.u64.wrap n).tmod 16 = (c.toNat : Int)) (hc : c.toNat < 16)
    (p : h.priv = 1) (d : bits .and .u64 ((h.edeleg.toNat : Int) / 2 ^ c.toNat) 1 = 1) (v : ((andL h.stvec 1).toNat : Int) = 1)
    (eP : (enterH h (c) t).priv = 1) (ePC : (enterH h (c) t).pc = clrL h.stvec 3) (eT : (enterH h (c) t).stval = t) (eC : (enterH h (c) t).scause = c) :
    Calls Try.prog 4 #[.agg (hartC h), .int .i64 n, .bool false, .int .u64 (t.toNat : Int)] w fun e w' => e = .returned (.bool true) ∧ Below w.heap.size w w' := by
  have hb := Below.refl (w.alloc (.cells (hartC h) 28)).heap.size (w.alloc (.cells (hartC h) 28))
  go_enter Try.func4, Try.ntmps4
  go_wp2_with fail
  go_quiet (fail)
  go_wp2_with fail
  refine ((enter_any _ _ _).at (below_drewN hb _)).mono ?_
  clear hb
  rintro e w1 ⟨rfl, hb⟩
  obtain ⟨hcell, hz, hrow⟩ := row_below rfl hb
  go_wp2_with fail
  go_quiet (fail)
  go_wp2_with fail
  go_quiet (fail)
  go_wp2_with fail
  refine ((awake_any).at (below_drewN (Below.refl _ _) _)).mono ?_
  rintro e w2 ⟨rfl, hb2⟩
  obtain ⟨hcell2, hz2, hrow2⟩ := row_below rfl hb2
  go_wp2_with fail
  go_ret
  exact ⟨rfl, where_end hb hb2⟩

set_option maxHeartbeats 4000000 in
theorem where_0m00 (h : Hart) (n : Int) (t c : BitVec 64) (w : World) (hk : (IntKind.u64.wrap n).tmod 16 = (c.toNat : Int)) (hc : c.toNat < 16)
    (p : h.priv = 0) (d : bits .and .u64 ((h.edeleg.toNat : Int) / 2 ^ c.toNat) 1 = 0) (v : ((andL h.tvec 1).toNat : Int) = 0)
    (eP : (enterH h (c) t).priv = 3) (ePC : (enterH h (c) t).pc = clrL h.tvec 3) (eT : (enterH h (c) t).tval = t) (eC : (enterH h (c) t).cause = c) :
    Calls Try.prog 4 #[.agg (hartC h), .int .i64 n, .bool false, .int .u64 (t.toNat : Int)] w fun e w' => e = .returned (.bool true) ∧ Below w.heap.size w w' := by
  have hb := Below.refl (w.alloc (.cells (hartC h) 28)).heap.size (w.alloc (.cells (hartC h) 28))
  go_enter Try.func4, Try.ntmps4
  go_wp2_with fail
  go_quiet (fail)
  go_wp2_with fail
  refine ((enter_any _ _ _).at (below_drewN hb _)).mono ?_
  clear hb
  rintro e w1 ⟨rfl, hb⟩
  obtain ⟨hcell, hz, hrow⟩ := row_below rfl hb
  go_wp2_with fail
  go_quiet (fail)
  go_wp2_with fail
  refine ((awake_any).at (below_drewN (Below.refl _ _) _)).mono ?_
  rintro e w2 ⟨rfl, hb2⟩
  obtain ⟨hcell2, hz2, hrow2⟩ := row_below rfl hb2
  go_wp2_with fail
  go_ret
  exact ⟨rfl, where_end hb hb2⟩

set_option maxHeartbeats 4000000 in
theorem where_0m01 (h : Hart) (n : Int) (t c : BitVec 64) (w : World) (hk : (IntKind.u64.wrap n).tmod 16 = (c.toNat : Int)) (hc : c.toNat < 16)
    (p : h.priv = 0) (d : bits .and .u64 ((h.edeleg.toNat : Int) / 2 ^ c.toNat) 1 = 0) (v : ((andL h.tvec 1).toNat : Int) = 1)
    (eP : (enterH h (c) t).priv = 3) (ePC : (enterH h (c) t).pc = clrL h.tvec 3) (eT : (enterH h (c) t).tval = t) (eC : (enterH h (c) t).cause = c) :
    Calls Try.prog 4 #[.agg (hartC h), .int .i64 n, .bool false, .int .u64 (t.toNat : Int)] w fun e w' => e = .returned (.bool true) ∧ Below w.heap.size w w' := by
  have hb := Below.refl (w.alloc (.cells (hartC h) 28)).heap.size (w.alloc (.cells (hartC h) 28))
  go_enter Try.func4, Try.ntmps4
  go_wp2_with fail
  go_quiet (fail)
  go_wp2_with fail
  refine ((enter_any _ _ _).at (below_drewN hb _)).mono ?_
  clear hb
  rintro e w1 ⟨rfl, hb⟩
  obtain ⟨hcell, hz, hrow⟩ := row_below rfl hb
  go_wp2_with fail
  go_quiet (fail)
  go_wp2_with fail
  refine ((awake_any).at (below_drewN (Below.refl _ _) _)).mono ?_
  rintro e w2 ⟨rfl, hb2⟩
  obtain ⟨hcell2, hz2, hrow2⟩ := row_below rfl hb2
  go_wp2_with fail
  go_ret
  exact ⟨rfl, where_end hb hb2⟩

set_option maxHeartbeats 4000000 in
theorem where_0m10 (h : Hart) (n : Int) (t c : BitVec 64) (w : World) (hk : (IntKind.u64.wrap n).tmod 16 = (c.toNat : Int)) (hc : c.toNat < 16)
    (p : h.priv = 1) (d : bits .and .u64 ((h.edeleg.toNat : Int) / 2 ^ c.toNat) 1 = 0) (v : ((andL h.tvec 1).toNat : Int) = 0)
    (eP : (enterH h (c) t).priv = 3) (ePC : (enterH h (c) t).pc = clrL h.tvec 3) (eT : (enterH h (c) t).tval = t) (eC : (enterH h (c) t).cause = c) :
    Calls Try.prog 4 #[.agg (hartC h), .int .i64 n, .bool false, .int .u64 (t.toNat : Int)] w fun e w' => e = .returned (.bool true) ∧ Below w.heap.size w w' := by
  have hb := Below.refl (w.alloc (.cells (hartC h) 28)).heap.size (w.alloc (.cells (hartC h) 28))
  go_enter Try.func4, Try.ntmps4
  go_wp2_with fail
  go_quiet (fail)
  go_wp2_with fail
  refine ((enter_any _ _ _).at (below_drewN hb _)).mono ?_
  clear hb
  rintro e w1 ⟨rfl, hb⟩
  obtain ⟨hcell, hz, hrow⟩ := row_below rfl hb
  go_wp2_with fail
  go_quiet (fail)
  go_wp2_with fail
  refine ((awake_any).at (below_drewN (Below.refl _ _) _)).mono ?_
  rintro e w2 ⟨rfl, hb2⟩
  obtain ⟨hcell2, hz2, hrow2⟩ := row_below rfl hb2
  go_wp2_with fail
  go_ret
  exact ⟨rfl, where_end hb hb2⟩

set_option maxHeartbeats 4000000 in
theorem where_0m11 (h : Hart) (n : Int) (t c : BitVec 64) (w : World) (hk : (IntKind.u64.wrap n).tmod 16 = (c.toNat : Int)) (hc : c.toNat < 16)
    (p : h.priv = 1) (d : bits .and .u64 ((h.edeleg.toNat : Int) / 2 ^ c.toNat) 1 = 0) (v : ((andL h.tvec 1).toNat : Int) = 1)
    (eP : (enterH h (c) t).priv = 3) (ePC : (enterH h (c) t).pc = clrL h.tvec 3) (eT : (enterH h (c) t).tval = t) (eC : (enterH h (c) t).cause = c) :
    Calls Try.prog 4 #[.agg (hartC h), .int .i64 n, .bool false, .int .u64 (t.toNat : Int)] w fun e w' => e = .returned (.bool true) ∧ Below w.heap.size w w' := by
  have hb := Below.refl (w.alloc (.cells (hartC h) 28)).heap.size (w.alloc (.cells (hartC h) 28))
  go_enter Try.func4, Try.ntmps4
  go_wp2_with fail
  go_quiet (fail)
  go_wp2_with fail
  refine ((enter_any _ _ _).at (below_drewN hb _)).mono ?_
  clear hb
  rintro e w1 ⟨rfl, hb⟩
  obtain ⟨hcell, hz, hrow⟩ := row_below rfl hb
  go_wp2_with fail
  go_quiet (fail)
  go_wp2_with fail
  refine ((awake_any).at (below_drewN (Below.refl _ _) _)).mono ?_
  rintro e w2 ⟨rfl, hb2⟩
  obtain ⟨hcell2, hz2, hrow2⟩ := row_below rfl hb2
  go_wp2_with fail
  go_ret
  exact ⟨rfl, where_end hb hb2⟩

set_option maxHeartbeats 4000000 in
theorem where_0mx0 (h : Hart) (n : Int) (t c : BitVec 64) (w : World) (hk : (IntKind.u64.wrap n).tmod 16 = (c.toNat : Int)) (hc : c.toNat < 16)
    (p0 : ¬ h.priv = 0) (p1 : ¬ h.priv = 1)  (v : ((andL h.tvec 1).toNat : Int) = 0)
    (eP : (enterH h (c) t).priv = 3) (ePC : (enterH h (c) t).pc = clrL h.tvec 3) (eT : (enterH h (c) t).tval = t) (eC : (enterH h (c) t).cause = c) :
    Calls Try.prog 4 #[.agg (hartC h), .int .i64 n, .bool false, .int .u64 (t.toNat : Int)] w fun e w' => e = .returned (.bool true) ∧ Below w.heap.size w w' := by
  have hb := Below.refl (w.alloc (.cells (hartC h) 28)).heap.size (w.alloc (.cells (hartC h) 28))
  go_enter Try.func4, Try.ntmps4
  go_wp2_with fail
  go_quiet (fail)
  go_wp2_with fail
  refine ((enter_any _ _ _).at (below_drewN hb _)).mono ?_
  clear hb
  rintro e w1 ⟨rfl, hb⟩
  obtain ⟨hcell, hz, hrow⟩ := row_below rfl hb
  go_wp2_with fail
  go_quiet (fail)
  go_wp2_with fail
  refine ((awake_any).at (below_drewN (Below.refl _ _) _)).mono ?_
  rintro e w2 ⟨rfl, hb2⟩
  obtain ⟨hcell2, hz2, hrow2⟩ := row_below rfl hb2
  go_wp2_with fail
  go_ret
  exact ⟨rfl, where_end hb hb2⟩

set_option maxHeartbeats 4000000 in
theorem where_0mx1 (h : Hart) (n : Int) (t c : BitVec 64) (w : World) (hk : (IntKind.u64.wrap n).tmod 16 = (c.toNat : Int)) (hc : c.toNat < 16)
    (p0 : ¬ h.priv = 0) (p1 : ¬ h.priv = 1)  (v : ((andL h.tvec 1).toNat : Int) = 1)
    (eP : (enterH h (c) t).priv = 3) (ePC : (enterH h (c) t).pc = clrL h.tvec 3) (eT : (enterH h (c) t).tval = t) (eC : (enterH h (c) t).cause = c) :
    Calls Try.prog 4 #[.agg (hartC h), .int .i64 n, .bool false, .int .u64 (t.toNat : Int)] w fun e w' => e = .returned (.bool true) ∧ Below w.heap.size w w' := by
  have hb := Below.refl (w.alloc (.cells (hartC h) 28)).heap.size (w.alloc (.cells (hartC h) 28))
  go_enter Try.func4, Try.ntmps4
  go_wp2_with fail
  go_quiet (fail)
  go_wp2_with fail
  refine ((enter_any _ _ _).at (below_drewN hb _)).mono ?_
  clear hb
  rintro e w1 ⟨rfl, hb⟩
  obtain ⟨hcell, hz, hrow⟩ := row_below rfl hb
  go_wp2_with fail
  go_quiet (fail)
  go_wp2_with fail
  refine ((awake_any).at (below_drewN (Below.refl _ _) _)).mono ?_
  rintro e w2 ⟨rfl, hb2⟩
  obtain ⟨hcell2, hz2, hrow2⟩ := row_below rfl hb2
  go_wp2_with fail
  go_ret
  exact ⟨rfl, where_end hb hb2⟩

set_option maxHeartbeats 4000000 in
theorem where_1s00 (h : Hart) (n : Int) (t c : BitVec 64) (w : World) (hk : (IntKind.u64.wrap n).tmod 16 = (c.toNat : Int)) (hc : c.toNat < 16)
    (p : h.priv = 0) (d : bits .and .u64 ((h.ideleg.toNat : Int) / 2 ^ c.toNat) 1 = 1) (v : ((andL h.stvec 1).toNat : Int) = 0)
    (eP : (enterH h (orL c 9223372036854775808) t).priv = 1) (ePC : (enterH h (orL c 9223372036854775808) t).pc = clrL h.stvec 3) (eT : (enterH h (orL c 9223372036854775808) t).stval = t) (eC : (enterH h (orL c 9223372036854775808) t).scause = orL c 9223372036854775808) :
    Calls Try.prog 4 #[.agg (hartC h), .int .i64 n, .bool true, .int .u64 (t.toNat : Int)] w fun e w' => e = .returned (.bool true) ∧ Below w.heap.size w w' := by
  have hb := Below.refl (w.alloc (.cells (hartC h) 28)).heap.size (w.alloc (.cells (hartC h) 28))
  go_enter Try.func4, Try.ntmps4
  go_wp2_with fail
  go_quiet (fail)
  go_wp2_with fail
  go_quiet (fail)
  go_wp2_with fail
  refine ((enter_any _ _ _).at (below_drewN hb _)).mono ?_
  clear hb
  rintro e w1 ⟨rfl, hb⟩
  obtain ⟨hcell, hz, hrow⟩ := row_below rfl hb
  go_wp2_with fail
  go_quiet (fail)
  go_wp2_with fail
  go_quiet (fail)
  go_wp2_with fail
  refine ((awake_any).at (below_drewN (Below.refl _ _) _)).mono ?_
  rintro e w2 ⟨rfl, hb2⟩
  obtain ⟨hcell2, hz2, hrow2⟩ := row_below rfl hb2
  go_wp2_with fail
  go_ret
  exact ⟨rfl, where_end hb hb2⟩

set_option maxHeartbeats 4000000 in
theorem where_1s01 (h : Hart) (n : Int) (t c : BitVec 64) (w : World) (hk : (IntKind.u64.wrap n).tmod 16 = (c.toNat : Int)) (hc : c.toNat < 16)
    (p : h.priv = 0) (d : bits .and .u64 ((h.ideleg.toNat : Int) / 2 ^ c.toNat) 1 = 1) (v : ((andL h.stvec 1).toNat : Int) = 1)
    (eP : (enterH h (orL c 9223372036854775808) t).priv = 1) (ePC : (enterH h (orL c 9223372036854775808) t).pc = addK (clrL h.stvec 3) c.toNat) (eT : (enterH h (orL c 9223372036854775808) t).stval = t) (eC : (enterH h (orL c 9223372036854775808) t).scause = orL c 9223372036854775808) :
    Calls Try.prog 4 #[.agg (hartC h), .int .i64 n, .bool true, .int .u64 (t.toNat : Int)] w fun e w' => e = .returned (.bool true) ∧ Below w.heap.size w w' := by
  have hb := Below.refl (w.alloc (.cells (hartC h) 28)).heap.size (w.alloc (.cells (hartC h) 28))
  go_enter Try.func4, Try.ntmps4
  go_wp2_with fail
  go_quiet (fail)
  go_wp2_with fail
  go_quiet (fail)
  go_wp2_with fail
  refine ((enter_any _ _ _).at (below_drewN hb _)).mono ?_
  clear hb
  rintro e w1 ⟨rfl, hb⟩
  obtain ⟨hcell, hz, hrow⟩ := row_below rfl hb
  go_wp2_with fail
  go_quiet (fail)
  go_wp2_with fail
  go_quiet (fail)
  go_wp2_with fail
  refine ((awake_any).at (below_drewN (Below.refl _ _) _)).mono ?_
  rintro e w2 ⟨rfl, hb2⟩
  obtain ⟨hcell2, hz2, hrow2⟩ := row_below rfl hb2
  go_wp2_with fail
  go_ret
  exact ⟨rfl, where_end hb hb2⟩

set_option maxHeartbeats 4000000 in
theorem where_1s10 (h : Hart) (n : Int) (t c : BitVec 64) (w : World) (hk : (IntKind.u64.wrap n).tmod 16 = (c.toNat : Int)) (hc : c.toNat < 16)
    (p : h.priv = 1) (d : bits .and .u64 ((h.ideleg.toNat : Int) / 2 ^ c.toNat) 1 = 1) (v : ((andL h.stvec 1).toNat : Int) = 0)
    (eP : (enterH h (orL c 9223372036854775808) t).priv = 1) (ePC : (enterH h (orL c 9223372036854775808) t).pc = clrL h.stvec 3) (eT : (enterH h (orL c 9223372036854775808) t).stval = t) (eC : (enterH h (orL c 9223372036854775808) t).scause = orL c 9223372036854775808) :
    Calls Try.prog 4 #[.agg (hartC h), .int .i64 n, .bool true, .int .u64 (t.toNat : Int)] w fun e w' => e = .returned (.bool true) ∧ Below w.heap.size w w' := by
  have hb := Below.refl (w.alloc (.cells (hartC h) 28)).heap.size (w.alloc (.cells (hartC h) 28))
  go_enter Try.func4, Try.ntmps4
  go_wp2_with fail
  go_quiet (fail)
  go_wp2_with fail
  go_quiet (fail)
  go_wp2_with fail
  refine ((enter_any _ _ _).at (below_drewN hb _)).mono ?_
  clear hb
  rintro e w1 ⟨rfl, hb⟩
  obtain ⟨hcell, hz, hrow⟩ := row_below rfl hb
  go_wp2_with fail
  go_quiet (fail)
  go_wp2_with fail
  go_quiet (fail)
  go_wp2_with fail
  refine ((awake_any).at (below_drewN (Below.refl _ _) _)).mono ?_
  rintro e w2 ⟨rfl, hb2⟩
  obtain ⟨hcell2, hz2, hrow2⟩ := row_below rfl hb2
  go_wp2_with fail
  go_ret
  exact ⟨rfl, where_end hb hb2⟩

set_option maxHeartbeats 4000000 in
theorem where_1s11 (h : Hart) (n : Int) (t c : BitVec 64) (w : World) (hk : (IntKind.u64.wrap n).tmod 16 = (c.toNat : Int)) (hc : c.toNat < 16)
    (p : h.priv = 1) (d : bits .and .u64 ((h.ideleg.toNat : Int) / 2 ^ c.toNat) 1 = 1) (v : ((andL h.stvec 1).toNat : Int) = 1)
    (eP : (enterH h (orL c 9223372036854775808) t).priv = 1) (ePC : (enterH h (orL c 9223372036854775808) t).pc = addK (clrL h.stvec 3) c.toNat) (eT : (enterH h (orL c 9223372036854775808) t).stval = t) (eC : (enterH h (orL c 9223372036854775808) t).scause = orL c 9223372036854775808) :
    Calls Try.prog 4 #[.agg (hartC h), .int .i64 n, .bool true, .int .u64 (t.toNat : Int)] w fun e w' => e = .returned (.bool true) ∧ Below w.heap.size w w' := by
  have hb := Below.refl (w.alloc (.cells (hartC h) 28)).heap.size (w.alloc (.cells (hartC h) 28))
  go_enter Try.func4, Try.ntmps4
  go_wp2_with fail
  go_quiet (fail)
  go_wp2_with fail
  go_quiet (fail)
  go_wp2_with fail
  refine ((enter_any _ _ _).at (below_drewN hb _)).mono ?_
  clear hb
  rintro e w1 ⟨rfl, hb⟩
  obtain ⟨hcell, hz, hrow⟩ := row_below rfl hb
  go_wp2_with fail
  go_quiet (fail)
  go_wp2_with fail
  go_quiet (fail)
  go_wp2_with fail
  refine ((awake_any).at (below_drewN (Below.refl _ _) _)).mono ?_
  rintro e w2 ⟨rfl, hb2⟩
  obtain ⟨hcell2, hz2, hrow2⟩ := row_below rfl hb2
  go_wp2_with fail
  go_ret
  exact ⟨rfl, where_end hb hb2⟩

set_option maxHeartbeats 4000000 in
theorem where_1m00 (h : Hart) (n : Int) (t c : BitVec 64) (w : World) (hk : (IntKind.u64.wrap n).tmod 16 = (c.toNat : Int)) (hc : c.toNat < 16)
    (p : h.priv = 0) (d : bits .and .u64 ((h.ideleg.toNat : Int) / 2 ^ c.toNat) 1 = 0) (v : ((andL h.tvec 1).toNat : Int) = 0)
    (eP : (enterH h (orL c 9223372036854775808) t).priv = 3) (ePC : (enterH h (orL c 9223372036854775808) t).pc = clrL h.tvec 3) (eT : (enterH h (orL c 9223372036854775808) t).tval = t) (eC : (enterH h (orL c 9223372036854775808) t).cause = orL c 9223372036854775808) :
    Calls Try.prog 4 #[.agg (hartC h), .int .i64 n, .bool true, .int .u64 (t.toNat : Int)] w fun e w' => e = .returned (.bool true) ∧ Below w.heap.size w w' := by
  have hb := Below.refl (w.alloc (.cells (hartC h) 28)).heap.size (w.alloc (.cells (hartC h) 28))
  go_enter Try.func4, Try.ntmps4
  go_wp2_with fail
  go_quiet (fail)
  go_wp2_with fail
  go_quiet (fail)
  go_wp2_with fail
  refine ((enter_any _ _ _).at (below_drewN hb _)).mono ?_
  clear hb
  rintro e w1 ⟨rfl, hb⟩
  obtain ⟨hcell, hz, hrow⟩ := row_below rfl hb
  go_wp2_with fail
  go_quiet (fail)
  go_wp2_with fail
  refine ((awake_any).at (below_drewN (Below.refl _ _) _)).mono ?_
  rintro e w2 ⟨rfl, hb2⟩
  obtain ⟨hcell2, hz2, hrow2⟩ := row_below rfl hb2
  go_wp2_with fail
  go_ret
  exact ⟨rfl, where_end hb hb2⟩

set_option maxHeartbeats 4000000 in
theorem where_1m01 (h : Hart) (n : Int) (t c : BitVec 64) (w : World) (hk : (IntKind.u64.wrap n).tmod 16 = (c.toNat : Int)) (hc : c.toNat < 16)
    (p : h.priv = 0) (d : bits .and .u64 ((h.ideleg.toNat : Int) / 2 ^ c.toNat) 1 = 0) (v : ((andL h.tvec 1).toNat : Int) = 1)
    (eP : (enterH h (orL c 9223372036854775808) t).priv = 3) (ePC : (enterH h (orL c 9223372036854775808) t).pc = addK (clrL h.tvec 3) c.toNat) (eT : (enterH h (orL c 9223372036854775808) t).tval = t) (eC : (enterH h (orL c 9223372036854775808) t).cause = orL c 9223372036854775808) :
    Calls Try.prog 4 #[.agg (hartC h), .int .i64 n, .bool true, .int .u64 (t.toNat : Int)] w fun e w' => e = .returned (.bool true) ∧ Below w.heap.size w w' := by
  have hb := Below.refl (w.alloc (.cells (hartC h) 28)).heap.size (w.alloc (.cells (hartC h) 28))
  go_enter Try.func4, Try.ntmps4
  go_wp2_with fail
  go_quiet (fail)
  go_wp2_with fail
  go_quiet (fail)
  go_wp2_with fail
  refine ((enter_any _ _ _).at (below_drewN hb _)).mono ?_
  clear hb
  rintro e w1 ⟨rfl, hb⟩
  obtain ⟨hcell, hz, hrow⟩ := row_below rfl hb
  go_wp2_with fail
  go_quiet (fail)
  go_wp2_with fail
  refine ((awake_any).at (below_drewN (Below.refl _ _) _)).mono ?_
  rintro e w2 ⟨rfl, hb2⟩
  obtain ⟨hcell2, hz2, hrow2⟩ := row_below rfl hb2
  go_wp2_with fail
  go_ret
  exact ⟨rfl, where_end hb hb2⟩

set_option maxHeartbeats 4000000 in
theorem where_1m10 (h : Hart) (n : Int) (t c : BitVec 64) (w : World) (hk : (IntKind.u64.wrap n).tmod 16 = (c.toNat : Int)) (hc : c.toNat < 16)
    (p : h.priv = 1) (d : bits .and .u64 ((h.ideleg.toNat : Int) / 2 ^ c.toNat) 1 = 0) (v : ((andL h.tvec 1).toNat : Int) = 0)
    (eP : (enterH h (orL c 9223372036854775808) t).priv = 3) (ePC : (enterH h (orL c 9223372036854775808) t).pc = clrL h.tvec 3) (eT : (enterH h (orL c 9223372036854775808) t).tval = t) (eC : (enterH h (orL c 9223372036854775808) t).cause = orL c 9223372036854775808) :
    Calls Try.prog 4 #[.agg (hartC h), .int .i64 n, .bool true, .int .u64 (t.toNat : Int)] w fun e w' => e = .returned (.bool true) ∧ Below w.heap.size w w' := by
  have hb := Below.refl (w.alloc (.cells (hartC h) 28)).heap.size (w.alloc (.cells (hartC h) 28))
  go_enter Try.func4, Try.ntmps4
  go_wp2_with fail
  go_quiet (fail)
  go_wp2_with fail
  go_quiet (fail)
  go_wp2_with fail
  refine ((enter_any _ _ _).at (below_drewN hb _)).mono ?_
  clear hb
  rintro e w1 ⟨rfl, hb⟩
  obtain ⟨hcell, hz, hrow⟩ := row_below rfl hb
  go_wp2_with fail
  go_quiet (fail)
  go_wp2_with fail
  refine ((awake_any).at (below_drewN (Below.refl _ _) _)).mono ?_
  rintro e w2 ⟨rfl, hb2⟩
  obtain ⟨hcell2, hz2, hrow2⟩ := row_below rfl hb2
  go_wp2_with fail
  go_ret
  exact ⟨rfl, where_end hb hb2⟩

set_option maxHeartbeats 4000000 in
theorem where_1m11 (h : Hart) (n : Int) (t c : BitVec 64) (w : World) (hk : (IntKind.u64.wrap n).tmod 16 = (c.toNat : Int)) (hc : c.toNat < 16)
    (p : h.priv = 1) (d : bits .and .u64 ((h.ideleg.toNat : Int) / 2 ^ c.toNat) 1 = 0) (v : ((andL h.tvec 1).toNat : Int) = 1)
    (eP : (enterH h (orL c 9223372036854775808) t).priv = 3) (ePC : (enterH h (orL c 9223372036854775808) t).pc = addK (clrL h.tvec 3) c.toNat) (eT : (enterH h (orL c 9223372036854775808) t).tval = t) (eC : (enterH h (orL c 9223372036854775808) t).cause = orL c 9223372036854775808) :
    Calls Try.prog 4 #[.agg (hartC h), .int .i64 n, .bool true, .int .u64 (t.toNat : Int)] w fun e w' => e = .returned (.bool true) ∧ Below w.heap.size w w' := by
  have hb := Below.refl (w.alloc (.cells (hartC h) 28)).heap.size (w.alloc (.cells (hartC h) 28))
  go_enter Try.func4, Try.ntmps4
  go_wp2_with fail
  go_quiet (fail)
  go_wp2_with fail
  go_quiet (fail)
  go_wp2_with fail
  refine ((enter_any _ _ _).at (below_drewN hb _)).mono ?_
  clear hb
  rintro e w1 ⟨rfl, hb⟩
  obtain ⟨hcell, hz, hrow⟩ := row_below rfl hb
  go_wp2_with fail
  go_quiet (fail)
  go_wp2_with fail
  refine ((awake_any).at (below_drewN (Below.refl _ _) _)).mono ?_
  rintro e w2 ⟨rfl, hb2⟩
  obtain ⟨hcell2, hz2, hrow2⟩ := row_below rfl hb2
  go_wp2_with fail
  go_ret
  exact ⟨rfl, where_end hb hb2⟩

set_option maxHeartbeats 4000000 in
theorem where_1mx0 (h : Hart) (n : Int) (t c : BitVec 64) (w : World) (hk : (IntKind.u64.wrap n).tmod 16 = (c.toNat : Int)) (hc : c.toNat < 16)
    (p0 : ¬ h.priv = 0) (p1 : ¬ h.priv = 1)  (v : ((andL h.tvec 1).toNat : Int) = 0)
    (eP : (enterH h (orL c 9223372036854775808) t).priv = 3) (ePC : (enterH h (orL c 9223372036854775808) t).pc = clrL h.tvec 3) (eT : (enterH h (orL c 9223372036854775808) t).tval = t) (eC : (enterH h (orL c 9223372036854775808) t).cause = orL c 9223372036854775808) :
    Calls Try.prog 4 #[.agg (hartC h), .int .i64 n, .bool true, .int .u64 (t.toNat : Int)] w fun e w' => e = .returned (.bool true) ∧ Below w.heap.size w w' := by
  have hb := Below.refl (w.alloc (.cells (hartC h) 28)).heap.size (w.alloc (.cells (hartC h) 28))
  go_enter Try.func4, Try.ntmps4
  go_wp2_with fail
  go_quiet (fail)
  go_wp2_with fail
  go_quiet (fail)
  go_wp2_with fail
  refine ((enter_any _ _ _).at (below_drewN hb _)).mono ?_
  clear hb
  rintro e w1 ⟨rfl, hb⟩
  obtain ⟨hcell, hz, hrow⟩ := row_below rfl hb
  go_wp2_with fail
  go_quiet (fail)
  go_wp2_with fail
  refine ((awake_any).at (below_drewN (Below.refl _ _) _)).mono ?_
  rintro e w2 ⟨rfl, hb2⟩
  obtain ⟨hcell2, hz2, hrow2⟩ := row_below rfl hb2
  go_wp2_with fail
  go_ret
  exact ⟨rfl, where_end hb hb2⟩

set_option maxHeartbeats 4000000 in
theorem where_1mx1 (h : Hart) (n : Int) (t c : BitVec 64) (w : World) (hk : (IntKind.u64.wrap n).tmod 16 = (c.toNat : Int)) (hc : c.toNat < 16)
    (p0 : ¬ h.priv = 0) (p1 : ¬ h.priv = 1)  (v : ((andL h.tvec 1).toNat : Int) = 1)
    (eP : (enterH h (orL c 9223372036854775808) t).priv = 3) (ePC : (enterH h (orL c 9223372036854775808) t).pc = addK (clrL h.tvec 3) c.toNat) (eT : (enterH h (orL c 9223372036854775808) t).tval = t) (eC : (enterH h (orL c 9223372036854775808) t).cause = orL c 9223372036854775808) :
    Calls Try.prog 4 #[.agg (hartC h), .int .i64 n, .bool true, .int .u64 (t.toNat : Int)] w fun e w' => e = .returned (.bool true) ∧ Below w.heap.size w w' := by
  have hb := Below.refl (w.alloc (.cells (hartC h) 28)).heap.size (w.alloc (.cells (hartC h) 28))
  go_enter Try.func4, Try.ntmps4
  go_wp2_with fail
  go_quiet (fail)
  go_wp2_with fail
  go_quiet (fail)
  go_wp2_with fail
  refine ((enter_any _ _ _).at (below_drewN hb _)).mono ?_
  clear hb
  rintro e w1 ⟨rfl, hb⟩
  obtain ⟨hcell, hz, hrow⟩ := row_below rfl hb
  go_wp2_with fail
  go_quiet (fail)
  go_wp2_with fail
  refine ((awake_any).at (below_drewN (Below.refl _ _) _)).mono ?_
  rintro e w2 ⟨rfl, hb2⟩
  obtain ⟨hcell2, hz2, hrow2⟩ := row_below rfl hb2
  go_wp2_with fail
  go_ret
  exact ⟨rfl, where_end hb hb2⟩

theorem where_top (v : BitVec 64) (b : Bool) (h : v.getLsbD 0 = b) : ((andL v 1).toNat : Int) = if b then 1 else 0 := by
  rw [andL_pow v 0 (by omega) 1 (by decide), h]

theorem trapWhere_walk (h : Hart) (n : Int) (i : Bool) (t : BitVec 64) (w : World) :
    Calls Try.prog 4 #[.agg (hartC h), .int .i64 n, .bool i, .int .u64 (t.toNat : Int)] w fun e w' => e = .returned (.bool true) ∧ Below w.heap.size w w' := by
  have hx : ∃ c : BitVec 64, (IntKind.u64.wrap n).tmod 16 = (c.toNat : Int) ∧ c.toNat < 16 := by
    rw [w64]
    generalize (BitVec.ofInt 64 n).toNat = m
    refine ⟨BitVec.ofNat 64 (m % 16), ?_, ?_⟩
    · rw [BitVec.toNat_ofNat, Nat.mod_eq_of_lt (by omega), Int.tmod_eq_emod_of_nonneg (by omega)]
      omega
    · rw [BitVec.toNat_ofNat]
      omega
  obtain ⟨c, hk, hc⟩ := hx
  cases i with
  | false =>
    have hn := small_num c hc
    have ht := small_top c hc
    have hl := small_kept c hc
    have hg : ∀ vec, placeW vec c = clrL vec 3 := fun vec => by unfold placeW; rw [ht, Bool.and_false]; rfl
    have d := and1_walk h.edeleg c.toNat
    have hd : degW h c = h.edeleg := by unfold degW; rw [ht]; rfl
    by_cases p : h.priv = 0
    · cases hb : bit h.edeleg c.toNat with
      | true =>
        rw [hb] at d
        have e : enterH h c t = enterS h c t := if_pos (by unfold goesB; rw [hd, hn, show bit h.edeleg c.toNat = true from hb, decide_eq_true p]; rfl)
        have eP : (enterH h c t).priv = 1 := by rw [e]; rfl
        have ePC : (enterH h c t).pc = clrL h.stvec 3 := by rw [e]; exact hg _
        have eT : (enterH h c t).stval = t := by rw [e]; rfl
        have eC : (enterH h c t).scause = c := by rw [e]; exact hl
        cases hv : h.stvec.getLsbD 0 with
        | true => exact where_0s01 h n t c w hk hc p d (where_top _ _ hv) eP ePC eT eC
        | false => exact where_0s00 h n t c w hk hc p d (where_top _ _ hv) eP ePC eT eC
      | false =>
        rw [hb] at d
        have e : enterH h c t = enterM h c t := if_neg (by unfold goesB; rw [hd, hn, show bit h.edeleg c.toNat = false from hb, Bool.and_false]; simp)
        have eP : (enterH h c t).priv = 3 := by rw [e]; rfl
        have ePC : (enterH h c t).pc = clrL h.tvec 3 := by rw [e]; exact hg _
        have eT : (enterH h c t).tval = t := by rw [e]; rfl
        have eC : (enterH h c t).cause = c := by rw [e]; exact hl
        cases hv : h.tvec.getLsbD 0 with
        | true => exact where_0m01 h n t c w hk hc p d (where_top _ _ hv) eP ePC eT eC
        | false => exact where_0m00 h n t c w hk hc p d (where_top _ _ hv) eP ePC eT eC
    · by_cases p1 : h.priv = 1
      · cases hb : bit h.edeleg c.toNat with
        | true =>
          rw [hb] at d
          have e : enterH h c t = enterS h c t := if_pos (by unfold goesB; rw [hd, hn, show bit h.edeleg c.toNat = true from hb, decide_eq_true p1, Bool.or_true]; rfl)
          have eP : (enterH h c t).priv = 1 := by rw [e]; rfl
          have ePC : (enterH h c t).pc = clrL h.stvec 3 := by rw [e]; exact hg _
          have eT : (enterH h c t).stval = t := by rw [e]; rfl
          have eC : (enterH h c t).scause = c := by rw [e]; exact hl
          cases hv : h.stvec.getLsbD 0 with
          | true => exact where_0s11 h n t c w hk hc p1 d (where_top _ _ hv) eP ePC eT eC
          | false => exact where_0s10 h n t c w hk hc p1 d (where_top _ _ hv) eP ePC eT eC
        | false =>
          rw [hb] at d
          have e : enterH h c t = enterM h c t := if_neg (by unfold goesB; rw [hd, hn, show bit h.edeleg c.toNat = false from hb, Bool.and_false]; simp)
          have eP : (enterH h c t).priv = 3 := by rw [e]; rfl
          have ePC : (enterH h c t).pc = clrL h.tvec 3 := by rw [e]; exact hg _
          have eT : (enterH h c t).tval = t := by rw [e]; rfl
          have eC : (enterH h c t).cause = c := by rw [e]; exact hl
          cases hv : h.tvec.getLsbD 0 with
          | true => exact where_0m11 h n t c w hk hc p1 d (where_top _ _ hv) eP ePC eT eC
          | false => exact where_0m10 h n t c w hk hc p1 d (where_top _ _ hv) eP ePC eT eC
      · have e : enterH h c t = enterM h c t := if_neg (by unfold goesB; rw [decide_eq_false p, decide_eq_false p1]; simp)
        have eP : (enterH h c t).priv = 3 := by rw [e]; rfl
        have ePC : (enterH h c t).pc = clrL h.tvec 3 := by rw [e]; exact hg _
        have eT : (enterH h c t).tval = t := by rw [e]; rfl
        have eC : (enterH h c t).cause = c := by rw [e]; exact hl
        cases hv : h.tvec.getLsbD 0 with
        | true => exact where_0mx1 h n t c w hk hc p p1 (where_top _ _ hv) eP ePC eT eC
        | false => exact where_0mx0 h n t c w hk hc p p1 (where_top _ _ hv) eP ePC eT eC
  | true =>
    have hn := int_num c hc
    have ht := int_top c hc
    have hl := int_kept c hc
    have hg1 : ∀ vec : BitVec 64, vec.getLsbD 0 = true → placeW vec (orL c 9223372036854775808) = addK (clrL vec 3) c.toNat := fun vec hv => by unfold placeW; rw [ht, hv, hn]; rfl
    have hg0 : ∀ vec : BitVec 64, vec.getLsbD 0 = false → placeW vec (orL c 9223372036854775808) = clrL vec 3 := fun vec hv => by unfold placeW; rw [hv]; rfl
    have d := and1_walk h.ideleg c.toNat
    have hd : degW h (orL c 9223372036854775808) = h.ideleg := by unfold degW; rw [ht]; rfl
    by_cases p : h.priv = 0
    · cases hb : bit h.ideleg c.toNat with
      | true =>
        rw [hb] at d
        have e : enterH h (orL c 9223372036854775808) t = enterS h (orL c 9223372036854775808) t := if_pos (by unfold goesB; rw [hd, hn, show bit h.ideleg c.toNat = true from hb, decide_eq_true p]; rfl)
        have eP : (enterH h (orL c 9223372036854775808) t).priv = 1 := by rw [e]; rfl
        have eT : (enterH h (orL c 9223372036854775808) t).stval = t := by rw [e]; rfl
        have eC : (enterH h (orL c 9223372036854775808) t).scause = (orL c 9223372036854775808) := by rw [e]; exact hl
        cases hv : h.stvec.getLsbD 0 with
        | true => exact where_1s01 h n t c w hk hc p d (where_top _ _ hv) eP (by rw [e]; exact hg1 _ hv) eT eC
        | false => exact where_1s00 h n t c w hk hc p d (where_top _ _ hv) eP (by rw [e]; exact hg0 _ hv) eT eC
      | false =>
        rw [hb] at d
        have e : enterH h (orL c 9223372036854775808) t = enterM h (orL c 9223372036854775808) t := if_neg (by unfold goesB; rw [hd, hn, show bit h.ideleg c.toNat = false from hb, Bool.and_false]; simp)
        have eP : (enterH h (orL c 9223372036854775808) t).priv = 3 := by rw [e]; rfl
        have eT : (enterH h (orL c 9223372036854775808) t).tval = t := by rw [e]; rfl
        have eC : (enterH h (orL c 9223372036854775808) t).cause = (orL c 9223372036854775808) := by rw [e]; exact hl
        cases hv : h.tvec.getLsbD 0 with
        | true => exact where_1m01 h n t c w hk hc p d (where_top _ _ hv) eP (by rw [e]; exact hg1 _ hv) eT eC
        | false => exact where_1m00 h n t c w hk hc p d (where_top _ _ hv) eP (by rw [e]; exact hg0 _ hv) eT eC
    · by_cases p1 : h.priv = 1
      · cases hb : bit h.ideleg c.toNat with
        | true =>
          rw [hb] at d
          have e : enterH h (orL c 9223372036854775808) t = enterS h (orL c 9223372036854775808) t := if_pos (by unfold goesB; rw [hd, hn, show bit h.ideleg c.toNat = true from hb, decide_eq_true p1, Bool.or_true]; rfl)
          have eP : (enterH h (orL c 9223372036854775808) t).priv = 1 := by rw [e]; rfl
          have eT : (enterH h (orL c 9223372036854775808) t).stval = t := by rw [e]; rfl
          have eC : (enterH h (orL c 9223372036854775808) t).scause = (orL c 9223372036854775808) := by rw [e]; exact hl
          cases hv : h.stvec.getLsbD 0 with
          | true => exact where_1s11 h n t c w hk hc p1 d (where_top _ _ hv) eP (by rw [e]; exact hg1 _ hv) eT eC
          | false => exact where_1s10 h n t c w hk hc p1 d (where_top _ _ hv) eP (by rw [e]; exact hg0 _ hv) eT eC
        | false =>
          rw [hb] at d
          have e : enterH h (orL c 9223372036854775808) t = enterM h (orL c 9223372036854775808) t := if_neg (by unfold goesB; rw [hd, hn, show bit h.ideleg c.toNat = false from hb, Bool.and_false]; simp)
          have eP : (enterH h (orL c 9223372036854775808) t).priv = 3 := by rw [e]; rfl
          have eT : (enterH h (orL c 9223372036854775808) t).tval = t := by rw [e]; rfl
          have eC : (enterH h (orL c 9223372036854775808) t).cause = (orL c 9223372036854775808) := by rw [e]; exact hl
          cases hv : h.tvec.getLsbD 0 with
          | true => exact where_1m11 h n t c w hk hc p1 d (where_top _ _ hv) eP (by rw [e]; exact hg1 _ hv) eT eC
          | false => exact where_1m10 h n t c w hk hc p1 d (where_top _ _ hv) eP (by rw [e]; exact hg0 _ hv) eT eC
      · have e : enterH h (orL c 9223372036854775808) t = enterM h (orL c 9223372036854775808) t := if_neg (by unfold goesB; rw [decide_eq_false p, decide_eq_false p1]; simp)
        have eP : (enterH h (orL c 9223372036854775808) t).priv = 3 := by rw [e]; rfl
        have eT : (enterH h (orL c 9223372036854775808) t).tval = t := by rw [e]; rfl
        have eC : (enterH h (orL c 9223372036854775808) t).cause = (orL c 9223372036854775808) := by rw [e]; exact hl
        cases hv : h.tvec.getLsbD 0 with
        | true => exact where_1mx1 h n t c w hk hc p p1 (where_top _ _ hv) eP (by rw [e]; exact hg1 _ hv) eT eC
        | false => exact where_1mx0 h n t c w hk hc p p1 (where_top _ _ hv) eP (by rw [e]; exact hg0 _ hv) eT eC

theorem trapWhere_cells (cs : Array Value) (hc : Flat.All2 leafH cs.toList) (n : Int) (wn : (Lit.int .i64 n).wf = true) (i : Bool) (t : Int) (wt : (Lit.int .u64 t).wf = true) (w : World) :
    Calls Try.prog 4 #[.agg cs, .int .i64 n, .bool i, .int .u64 t] w fun e w' => e = .returned (.bool true) ∧ Below w.heap.size w w' := by
  obtain ⟨k, rfl, _⟩ := hart_of hc
  obtain ⟨t, rfl⟩ := u64_bv wt
  exact trapWhere_walk k n i t w
end Go.Proofs.Ythijheijognhmaa
