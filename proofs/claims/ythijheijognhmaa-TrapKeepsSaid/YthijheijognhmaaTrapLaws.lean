/- awake, and the laws TrapEnters and TrapReturns, walked: each call answers true. -/
import Derived.Test.YthijheijognhmaaTrapEq
import Derived.Deep.RegionHeld3
import Derived.Laws.StructEq
namespace Go.Proofs.Ythijheijognhmaa
open Go.RowKit Wd
set_option linter.unusedVariables false
set_option linter.unusedSimpArgs false

attribute [local go_sem] zeroH_run hart_size hart_set_pc hart_get_pc hart_set_priv hart_get_priv hart_set_status hart_get_status hart_set_edeleg hart_get_edeleg hart_set_ideleg hart_get_ideleg hart_set_ie hart_get_ie hart_set_ip hart_get_ip hart_set_tvec hart_get_tvec hart_set_epc hart_get_epc hart_set_cause hart_get_cause hart_set_tval hart_get_tval hart_set_stvec hart_get_stvec hart_set_sepc hart_get_sepc hart_set_scause hart_get_scause hart_set_stval hart_get_stval hart_set_res hart_get_res hart_set_resAt hart_get_resAt hart_set_resAt0 loadR_hart storeR_hart rowAt_alloc rowAt_drew setRow_alloc_if and_L or_L clr_L addK_walk addK_walk2 setRow_drew
attribute [local go_sem ↓] load_row store_row
set_option maxRecDepth 4000

namespace Wd
def hartA : Hart := { zeroH with pc := 8#64, priv := 0, tvec := 257#64 }
def hartE : Hart := enterH hartA 9223372036854775815#64 0#64
theorem hartE_pc : ((hartE).pc.toNat : Int) = 284 := by decide +kernel
theorem hartE_priv : (hartE).priv = 3 := by decide +kernel
theorem hartE_epc : ((hartE).epc.toNat : Int) = 8 := by decide +kernel
def csrsA : Array Value := ((hartL hartA).drop 34 |>.take 30).toArray
end Wd
theorem build_C (w : World) : (Instr.build 26 #[(5, .int .u64 257)]).run Try.prog w = .ok (.agg csrsA) w := run_build w _ _ _ (by kernel_rfl)
theorem build_H (w : World) : (Instr.build 28 #[(0, .int .u64 8), (1, .int .i64 0), (3, .agg csrsA)]).run Try.prog w = .ok (.agg (hartC hartA)) w := run_build w _ _ _ (by kernel_rfl)
theorem awakeEnter : Mk Try.prog 13 #[.agg (hartC hartA), .int .u64 9223372036854775815, .int .u64 0] (.agg (hartC hartE)) := enter_any hartA 9223372036854775815#64 0#64
attribute [local go_sem ↓] build_C build_H
attribute [local go_sem] hartE_pc hartE_priv hartE_epc
set_option maxHeartbeats 1000000 in
theorem awake_any : Mk Try.prog 12 #[] (.bool true) := by
  intro w
  have hb := Below.refl w.heap.size w
  go_enter Try.func12, Try.ntmps12
  go_wp2_with (go_at_call 13; refine ((awakeEnter).at hb).mono ?_; clear hb; rintro e w1 ⟨rfl, hb⟩)
  go_ret
  exact ⟨rfl, hb.alloc hb.size _⟩

theorem wf_enter (h : Hart) (c t : BitVec 64) : (Lit.int .i64 (enterH h c t).priv).wf = true := by
  unfold enterH
  split <;> rfl
theorem wf_mret (h : Hart) : (Lit.int .i64 (mretH h).priv).wf = true := by
  show (Lit.int .i64 (backI h.status)).wf = true
  rcases backI_cases h.status with hk | hk | hk <;> rw [hk] <;> rfl
theorem wf_sret (h : Hart) : (Lit.int .i64 (sretH h).priv).wf = true := by
  show (Lit.int .i64 (if h.status.getLsbD 8 then 1 else 0)).wf = true
  split <;> rfl

set_option maxHeartbeats 4000000 in
theorem trapEnters_walk (h : Hart) (c t : BitVec 64) (w : World) :
    Calls Try.prog 3 #[.agg (hartC h), .int .u64 (c.toNat : Int), .int .u64 (t.toNat : Int)] w fun e w' => e = .returned (.bool true) ∧ Below w.heap.size w w' := by
  have hb := Below.refl (w.alloc (.cells (hartC h) 28)).heap.size (w.alloc (.cells (hartC h) 28))
  have hr : rowAt (w.alloc (.cells (hartC h) 28)) w.heap.size = some (hartC h) := by rw [rowAt_alloc, if_pos rfl]
  have hE := eq_hart (enterH h c t) (wf_enter h c t)
  go_enter Try.func3, Try.ntmps3
  go_wp2_with fail
  go_region_held3 (fun w' => Below (w.alloc (.cells (hartC h) 28)).heap.size (w.alloc (.cells (hartC h) 28)) w' ∧ rowAt w' w.heap.size = some (hartC h)) (first | exact ⟨hb1, rowAt_below hr hb1⟩ | exact ⟨hb.drew, rowAt_below hr hb.drew⟩ | exact ⟨hb, rowAt_below hr hb⟩)
    (first
      | (go_at_call 12; refine ((awake_any).at (‹_ ∧ _›.1)).mono ?_; rintro e w1 ⟨rfl, hb1⟩)
      | (go_at_call 13; refine ((enter_any _ _ _).at (‹_ ∧ _›.1)).mono ?_; rintro e w1 ⟨rfl, hb1⟩)
      | (go_at_call 14; refine ((renter_any _ _ _).at (‹_ ∧ _›.1)).mono ?_; rintro e w1 ⟨rfl, hb1⟩))
  all_goals
    go_wp2_with fail
    go_ret
    exact ⟨rfl, below_alloc hb1⟩

set_option maxHeartbeats 4000000 in
theorem trapReturns_walk (h : Hart) (w : World) :
    Calls Try.prog 6 #[.agg (hartC h)] w fun e w' => e = .returned (.bool true) ∧ Below w.heap.size w w' := by
  have hb := Below.refl (w.alloc (.cells (hartC h) 28)).heap.size (w.alloc (.cells (hartC h) 28))
  have hr : rowAt (w.alloc (.cells (hartC h) 28)) w.heap.size = some (hartC h) := by rw [rowAt_alloc, if_pos rfl]
  have hM := eq_hart (mretH h) (wf_mret h)
  have hS := eq_hart (sretH h) (wf_sret h)
  go_enter Try.func6, Try.ntmps6
  go_wp2_with fail
  go_region_held3 (fun w' => Below (w.alloc (.cells (hartC h) 28)).heap.size (w.alloc (.cells (hartC h) 28)) w' ∧ rowAt w' w.heap.size = some (hartC h)) (first | exact ⟨hb1, rowAt_below hr hb1⟩ | exact ⟨hb.drew, rowAt_below hr hb.drew⟩ | exact ⟨hb, rowAt_below hr hb⟩)
    (first
      | (go_at_call 12; refine ((awake_any).at (‹_ ∧ _›.1)).mono ?_; rintro e w1 ⟨rfl, hb1⟩)
      | (go_at_call 24; refine ((mret_any _).at (‹_ ∧ _›.1)).mono ?_; rintro e w1 ⟨rfl, hb1⟩)
      | (go_at_call 25; refine ((rmret_any _).at (‹_ ∧ _›.1)).mono ?_; rintro e w1 ⟨rfl, hb1⟩)
      | (go_at_call 26; refine ((sret_any _).at (‹_ ∧ _›.1)).mono ?_; rintro e w1 ⟨rfl, hb1⟩)
      | (go_at_call 27; refine ((rsret_any _).at (‹_ ∧ _›.1)).mono ?_; rintro e w1 ⟨rfl, hb1⟩))
  all_goals
    go_wp2_with fail
    go_ret
    exact ⟨rfl, below_alloc hb1⟩

/-! ### The cells of any core -/
def leafH : List Flat.Leaf := .int .u64 :: .int .i64 :: (List.replicate 62 (.int .u64) ++ [.bool, .int .u64])
theorem all2_split {a b : List Flat.Leaf} {x : List Value} (h : Flat.All2 (a ++ b) x) : ∃ x1 x2, x = x1 ++ x2 ∧ Flat.All2 a x1 ∧ Flat.All2 b x2 := by
  induction a generalizing x with
  | nil => exact ⟨[], x, rfl, trivial, h⟩
  | cons l ls ih =>
    cases x with
    | nil => exact False.elim h
    | cons v vs =>
      obtain ⟨x1, x2, e, h1, h2⟩ := ih h.2
      exact ⟨v :: x1, x2, by rw [e]; rfl, ⟨h.1, h1⟩, h2⟩
theorem words_of {n : Nat} {x : List Value} (h : Flat.All2 (List.replicate n (.int .u64)) x) : ∃ vs : List (BitVec 64), vs.length = n ∧ x = vs.map fun v => Value.int .u64 (v.toNat : Int) := by
  induction n generalizing x with
  | zero =>
    cases x with
    | nil => exact ⟨[], rfl, rfl⟩
    | cons v vs => exact False.elim h
  | succ n ih =>
    cases x with
    | nil => exact False.elim h
    | cons v vs =>
      obtain ⟨⟨z, rfl, hz⟩, h2⟩ := h
      obtain ⟨u, rfl⟩ := u64_bv hz
      obtain ⟨us, hl, rfl⟩ := ih h2
      exact ⟨u :: us, by simp [hl], rfl⟩
set_option maxRecDepth 20000 in
set_option maxHeartbeats 4000000 in
theorem hart_of {cs : Array Value} (h : Flat.All2 leafH cs.toList) : ∃ k : Hart, cs = hartC k ∧ (Lit.int .i64 k.priv).wf = true := by
  obtain ⟨l⟩ := cs
  unfold leafH at h
  match l, h with
  | v0 :: v1 :: rest, h =>
    obtain ⟨⟨z0, rfl, w0⟩, ⟨z1, rfl, w1⟩, h⟩ := h
    obtain ⟨x1, x2, rfl, h1, h2⟩ := all2_split h
    obtain ⟨vs, hl, rfl⟩ := words_of h1
    obtain ⟨p, rfl⟩ := u64_bv w0
    match x2, h2 with
    | [u0, u1], h2 =>
      obtain ⟨⟨b, rfl⟩, ⟨z2, rfl, w2⟩, _⟩ := h2
      obtain ⟨q, rfl⟩ := u64_bv w2
      match vs, hl with
      | a0 :: a1 :: a2 :: a3 :: a4 :: a5 :: a6 :: a7 :: a8 :: a9 :: a10 :: a11 :: a12 :: a13 :: a14 :: a15 :: a16 :: a17 :: a18 :: a19 :: a20 :: a21 :: a22 :: a23 :: a24 :: a25 :: a26 :: a27 :: a28 :: a29 :: a30 :: a31 :: a32 :: a33 :: a34 :: a35 :: a36 :: a37 :: a38 :: a39 :: a40 :: a41 :: a42 :: a43 :: a44 :: a45 :: a46 :: a47 :: a48 :: a49 :: a50 :: a51 :: a52 :: a53 :: a54 :: a55 :: a56 :: a57 :: a58 :: a59 :: a60 :: a61 :: [], _ =>
        exact ⟨⟨p, z1, fun i => [a0, a1, a2, a3, a4, a5, a6, a7, a8, a9, a10, a11, a12, a13, a14, a15, a16, a17, a18, a19, a20, a21, a22, a23, a24, a25, a26, a27, a28, a29, a30, a31].getD i 0#64, a32, a33, a34, a35, a36, a37, a38, a39, a40, a41, a42, a43, a44, a45, a46, a47, a48, a49, a50, a51, a52, a53, fun i => [a54, a55, a56, a57].getD i 0#64, fun i => [a58, a59, a60, a61].getD i 0#64, b, q⟩, rfl, w1⟩
theorem trapEnters_cells (cs : Array Value) (hc : Flat.All2 leafH cs.toList) (c : Int) (wc : (Lit.int .u64 c).wf = true) (t : Int) (wt : (Lit.int .u64 t).wf = true) (w : World) :
    Calls Try.prog 3 #[.agg cs, .int .u64 c, .int .u64 t] w fun e w' => e = .returned (.bool true) ∧ Below w.heap.size w w' := by
  obtain ⟨k, rfl, _⟩ := hart_of hc
  obtain ⟨c, rfl⟩ := u64_bv wc
  obtain ⟨t, rfl⟩ := u64_bv wt
  exact trapEnters_walk k c t w
theorem trapReturns_cells (cs : Array Value) (hc : Flat.All2 leafH cs.toList) (w : World) :
    Calls Try.prog 6 #[.agg cs] w fun e w' => e = .returned (.bool true) ∧ Below w.heap.size w w' := by
  obtain ⟨k, rfl, _⟩ := hart_of hc
  exact trapReturns_walk k w
end Go.Proofs.Ythijheijognhmaa
