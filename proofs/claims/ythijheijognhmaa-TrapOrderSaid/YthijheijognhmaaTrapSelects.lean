/- The law TrapSelects, walked: each call answers true. -/
import Derived.Test.YthijheijognhmaaTrapSel4
import Derived.Test.YthijheijognhmaaTrapLaws
namespace Go.Proofs.Ythijheijognhmaa
open Go.RowKit Wd
set_option linter.unusedVariables false
set_option linter.unusedSimpArgs false
attribute [local go_sem] zeroH_run hart_size loadR_hart storeR_hart rowAt_alloc rowAt_drew setRow_alloc_if env_size loadN_env rowC_alloc rowC_drew rowC_drewN
attribute [local go_sem ↓] load_row store_row load_env
set_option maxRecDepth 4000

theorem keepT {W w' : World} {b c : Nat} {h : Hart} {e : Env} (hr : rowAt W b = some (hartC h)) (he : rowC W c = some (envC e)) (hb : Below W.heap.size W w') :
    Below W.heap.size W w' ∧ rowAt w' b = some (hartC h) ∧ rowC w' c = some (envC e) := ⟨hb, rowAt_below hr hb, rowC_below he hb⟩
set_option maxHeartbeats 4000000 in
theorem trapSelects_walk (h : Hart) (e : Env) (k : Int) (w : World) :
    Calls Try.prog 11 #[.agg (hartC h), .agg (envC e), .int .i64 k] w fun e w' => e = .returned (.bool true) ∧ Below w.heap.size w w' := by
  obtain ⟨hr, he⟩ := two_rows w h e
  have hb := Below.refl ((w.alloc (.cells (hartC h) 28)).alloc (.cells (envC e) 40)).heap.size ((w.alloc (.cells (hartC h) 28)).alloc (.cells (envC e) 40))
  go_enter Try.func11, Try.ntmps11
  go_wp2_with fail
  refine ((select_any _ _).at hb).mono ?_
  rintro e1 w1 ⟨rfl, hb1⟩
  obtain ⟨_, hr1, he1⟩ := keepT hr he hb1
  clear hb
  go_wp2_with fail
  refine ((rselect_any _ _).at hb1).mono ?_
  rintro e1 w2 ⟨rfl, hb⟩
  obtain ⟨_, hr2, he2⟩ := keepT hr he hb
  clear hb1
  go_wp2_with fail
  go_region_held3 (fun w' => Below ((w.alloc (.cells (hartC h) 28)).alloc (.cells (envC e) 40)).heap.size ((w.alloc (.cells (hartC h) 28)).alloc (.cells (envC e) 40)) w' ∧ rowAt w' w.heap.size = some (hartC h) ∧ rowC w' (w.heap.size + 1) = some (envC e)) (first | exact keepT hr he hb1 | exact keepT hr he hb.drew | exact keepT hr he hb)
    (first
      | (go_at_call 12; refine ((awake_any).at (‹_ ∧ _›.1)).mono ?_; rintro e w1 ⟨rfl, hb1⟩)
      | (go_at_call 29; refine ((wakes_any _ _).at (‹_ ∧ _›.1)).mono ?_; rintro e w1 ⟨rfl, hb1⟩)
      | (go_at_call 35; refine ((rwakes_any _ _).at (‹_ ∧ _›.1)).mono ?_; rintro e w1 ⟨rfl, hb1⟩)
      | (go_at_call 36; refine ((priv_any _ _).at (‹_ ∧ _›.1)).mono ?_; rintro e w1 ⟨rfl, hb1⟩)
      | (go_at_call 37; refine ((rpriv_any _ _).at (‹_ ∧ _›.1)).mono ?_; rintro e w1 ⟨rfl, hb1⟩))
  all_goals
    go_wp2_with fail
    go_ret
    exact ⟨rfl, below_two hb1⟩
def leafE : List Flat.Leaf := (List.replicate 7 (.int .u64)) ++ [.bool, .int .u64, .bool]
theorem env_of {cs : Array Value} (h : Flat.All2 leafE cs.toList) : ∃ e : Env, cs = envC e := by
  obtain ⟨l⟩ := cs
  unfold leafE at h
  obtain ⟨x1, x2, hx, h1, h2⟩ := all2_split h
  obtain ⟨vs, hl, rfl⟩ := words_of h1
  match x2, h2 with
  | [u0, u1, u2], h2 =>
    obtain ⟨⟨b, rfl⟩, ⟨z, rfl, wz⟩, ⟨c, rfl⟩, _⟩ := h2
    obtain ⟨q, rfl⟩ := u64_bv wz
    match vs, hl with
    | [a0, a1, a2, a3, a4, a5, a6], _ =>
      refine ⟨⟨a0, a1, a2, fun i => [a3, a4, a5, a6].getD i 0#64, b, q, c⟩, ?_⟩
      have hx' : l = _ := hx
      rw [hx']
      rfl
def zeroE : Env := ⟨0#64, 0#64, 0#64, fun _ => 0#64, false, 0#64, false⟩
theorem trapSelects_cells (cs : Array Value) (hc : Flat.All2 leafH cs.toList) (ds : Array Value) (hd : Flat.All2 leafE ds.toList) (k : Int) (wk : (Lit.int .i64 k).wf = true) (w : World) :
    Calls Try.prog 11 #[.agg cs, .agg ds, .int .i64 k] w fun e w' => e = .returned (.bool true) ∧ Below w.heap.size w w' := by
  obtain ⟨h, rfl, _⟩ := hart_of hc
  obtain ⟨e, rfl⟩ := env_of hd
  exact trapSelects_walk h e k w
end Go.Proofs.Ythijheijognhmaa
