/- The core's state, Hart, as 66 cells: what each field is, what a write of one makes of it; the whole of it out of a block, and into one. -/
import Derived.Test.YthijheijognhmaaBase
import Derived.Test.YthijheijognhmaaFlat
import Derived.Deep.WholeRow
import Derived.Deep.Cut
namespace Go.Proofs.Ythijheijognhmaa
open Go.RowKit
namespace Wd
structure Hart where
  pc : BitVec 64
  priv : Int
  x : Nat → BitVec 64
  status : BitVec 64
  edeleg : BitVec 64
  ideleg : BitVec 64
  ie : BitVec 64
  ip : BitVec 64
  tvec : BitVec 64
  counteren : BitVec 64
  scratch : BitVec 64
  epc : BitVec 64
  cause : BitVec 64
  tval : BitVec 64
  stvec : BitVec 64
  scounteren : BitVec 64
  sscratch : BitVec 64
  sepc : BitVec 64
  scause : BitVec 64
  stval : BitVec 64
  satp : BitVec 64
  inhibit : BitVec 64
  instret : BitVec 64
  cycle : BitVec 64
  cyAt : BitVec 64
  ev : Nat → BitVec 64
  hpm : Nat → BitVec 64
  res : Bool
  resAt : BitVec 64
def hartL (h : Hart) : List Value := [.int .u64 (h.pc.toNat : Int), .int .i64 h.priv, .int .u64 ((h.x 0).toNat : Int), .int .u64 ((h.x 1).toNat : Int), .int .u64 ((h.x 2).toNat : Int), .int .u64 ((h.x 3).toNat : Int), .int .u64 ((h.x 4).toNat : Int), .int .u64 ((h.x 5).toNat : Int), .int .u64 ((h.x 6).toNat : Int), .int .u64 ((h.x 7).toNat : Int), .int .u64 ((h.x 8).toNat : Int), .int .u64 ((h.x 9).toNat : Int), .int .u64 ((h.x 10).toNat : Int), .int .u64 ((h.x 11).toNat : Int), .int .u64 ((h.x 12).toNat : Int), .int .u64 ((h.x 13).toNat : Int), .int .u64 ((h.x 14).toNat : Int), .int .u64 ((h.x 15).toNat : Int), .int .u64 ((h.x 16).toNat : Int), .int .u64 ((h.x 17).toNat : Int), .int .u64 ((h.x 18).toNat : Int), .int .u64 ((h.x 19).toNat : Int), .int .u64 ((h.x 20).toNat : Int), .int .u64 ((h.x 21).toNat : Int), .int .u64 ((h.x 22).toNat : Int), .int .u64 ((h.x 23).toNat : Int), .int .u64 ((h.x 24).toNat : Int), .int .u64 ((h.x 25).toNat : Int), .int .u64 ((h.x 26).toNat : Int), .int .u64 ((h.x 27).toNat : Int), .int .u64 ((h.x 28).toNat : Int), .int .u64 ((h.x 29).toNat : Int), .int .u64 ((h.x 30).toNat : Int), .int .u64 ((h.x 31).toNat : Int), .int .u64 (h.status.toNat : Int), .int .u64 (h.edeleg.toNat : Int), .int .u64 (h.ideleg.toNat : Int), .int .u64 (h.ie.toNat : Int), .int .u64 (h.ip.toNat : Int), .int .u64 (h.tvec.toNat : Int), .int .u64 (h.counteren.toNat : Int), .int .u64 (h.scratch.toNat : Int), .int .u64 (h.epc.toNat : Int), .int .u64 (h.cause.toNat : Int), .int .u64 (h.tval.toNat : Int), .int .u64 (h.stvec.toNat : Int), .int .u64 (h.scounteren.toNat : Int), .int .u64 (h.sscratch.toNat : Int), .int .u64 (h.sepc.toNat : Int), .int .u64 (h.scause.toNat : Int), .int .u64 (h.stval.toNat : Int), .int .u64 (h.satp.toNat : Int), .int .u64 (h.inhibit.toNat : Int), .int .u64 (h.instret.toNat : Int), .int .u64 (h.cycle.toNat : Int), .int .u64 (h.cyAt.toNat : Int), .int .u64 ((h.ev 0).toNat : Int), .int .u64 ((h.ev 1).toNat : Int), .int .u64 ((h.ev 2).toNat : Int), .int .u64 ((h.ev 3).toNat : Int), .int .u64 ((h.hpm 0).toNat : Int), .int .u64 ((h.hpm 1).toNat : Int), .int .u64 ((h.hpm 2).toNat : Int), .int .u64 ((h.hpm 3).toNat : Int), .bool h.res, .int .u64 (h.resAt.toNat : Int)]
def hartC (h : Hart) : Array Value := (hartL h).toArray
theorem hart_size (h : Hart) : (hartC h).size = 66 := rfl
set_option maxRecDepth 4000 in
theorem hart_one (h : Hart) : (hartC h).all (·.oneCell') = true := by simp [hartC, hartL, Value.oneCell']
theorem hart_get_pc (h : Hart) : (hartC h)[0]? = some (.int .u64 (h.pc.toNat : Int)) := rfl
theorem hart_set_pc (h : Hart) (v : BitVec 64) : (hartC h).setIfInBounds 0 (.int .u64 (v.toNat : Int)) = hartC { h with pc := v } := rfl
theorem hart_get_priv (h : Hart) : (hartC h)[1]? = some (.int .i64 h.priv) := rfl
theorem hart_set_priv (h : Hart) (v : Int) : (hartC h).setIfInBounds 1 (.int .i64 v) = hartC { h with priv := v } := rfl
theorem hart_get_status (h : Hart) : (hartC h)[34]? = some (.int .u64 (h.status.toNat : Int)) := rfl
theorem hart_set_status (h : Hart) (v : BitVec 64) : (hartC h).setIfInBounds 34 (.int .u64 (v.toNat : Int)) = hartC { h with status := v } := rfl
theorem hart_get_edeleg (h : Hart) : (hartC h)[35]? = some (.int .u64 (h.edeleg.toNat : Int)) := rfl
theorem hart_set_edeleg (h : Hart) (v : BitVec 64) : (hartC h).setIfInBounds 35 (.int .u64 (v.toNat : Int)) = hartC { h with edeleg := v } := rfl
theorem hart_get_ideleg (h : Hart) : (hartC h)[36]? = some (.int .u64 (h.ideleg.toNat : Int)) := rfl
theorem hart_set_ideleg (h : Hart) (v : BitVec 64) : (hartC h).setIfInBounds 36 (.int .u64 (v.toNat : Int)) = hartC { h with ideleg := v } := rfl
theorem hart_get_ie (h : Hart) : (hartC h)[37]? = some (.int .u64 (h.ie.toNat : Int)) := rfl
theorem hart_set_ie (h : Hart) (v : BitVec 64) : (hartC h).setIfInBounds 37 (.int .u64 (v.toNat : Int)) = hartC { h with ie := v } := rfl
theorem hart_get_ip (h : Hart) : (hartC h)[38]? = some (.int .u64 (h.ip.toNat : Int)) := rfl
theorem hart_set_ip (h : Hart) (v : BitVec 64) : (hartC h).setIfInBounds 38 (.int .u64 (v.toNat : Int)) = hartC { h with ip := v } := rfl
theorem hart_get_tvec (h : Hart) : (hartC h)[39]? = some (.int .u64 (h.tvec.toNat : Int)) := rfl
theorem hart_set_tvec (h : Hart) (v : BitVec 64) : (hartC h).setIfInBounds 39 (.int .u64 (v.toNat : Int)) = hartC { h with tvec := v } := rfl
theorem hart_get_counteren (h : Hart) : (hartC h)[40]? = some (.int .u64 (h.counteren.toNat : Int)) := rfl
theorem hart_set_counteren (h : Hart) (v : BitVec 64) : (hartC h).setIfInBounds 40 (.int .u64 (v.toNat : Int)) = hartC { h with counteren := v } := rfl
theorem hart_get_scratch (h : Hart) : (hartC h)[41]? = some (.int .u64 (h.scratch.toNat : Int)) := rfl
theorem hart_set_scratch (h : Hart) (v : BitVec 64) : (hartC h).setIfInBounds 41 (.int .u64 (v.toNat : Int)) = hartC { h with scratch := v } := rfl
theorem hart_get_epc (h : Hart) : (hartC h)[42]? = some (.int .u64 (h.epc.toNat : Int)) := rfl
theorem hart_set_epc (h : Hart) (v : BitVec 64) : (hartC h).setIfInBounds 42 (.int .u64 (v.toNat : Int)) = hartC { h with epc := v } := rfl
theorem hart_get_cause (h : Hart) : (hartC h)[43]? = some (.int .u64 (h.cause.toNat : Int)) := rfl
theorem hart_set_cause (h : Hart) (v : BitVec 64) : (hartC h).setIfInBounds 43 (.int .u64 (v.toNat : Int)) = hartC { h with cause := v } := rfl
theorem hart_get_tval (h : Hart) : (hartC h)[44]? = some (.int .u64 (h.tval.toNat : Int)) := rfl
theorem hart_set_tval (h : Hart) (v : BitVec 64) : (hartC h).setIfInBounds 44 (.int .u64 (v.toNat : Int)) = hartC { h with tval := v } := rfl
theorem hart_get_stvec (h : Hart) : (hartC h)[45]? = some (.int .u64 (h.stvec.toNat : Int)) := rfl
theorem hart_set_stvec (h : Hart) (v : BitVec 64) : (hartC h).setIfInBounds 45 (.int .u64 (v.toNat : Int)) = hartC { h with stvec := v } := rfl
theorem hart_get_scounteren (h : Hart) : (hartC h)[46]? = some (.int .u64 (h.scounteren.toNat : Int)) := rfl
theorem hart_set_scounteren (h : Hart) (v : BitVec 64) : (hartC h).setIfInBounds 46 (.int .u64 (v.toNat : Int)) = hartC { h with scounteren := v } := rfl
theorem hart_get_sscratch (h : Hart) : (hartC h)[47]? = some (.int .u64 (h.sscratch.toNat : Int)) := rfl
theorem hart_set_sscratch (h : Hart) (v : BitVec 64) : (hartC h).setIfInBounds 47 (.int .u64 (v.toNat : Int)) = hartC { h with sscratch := v } := rfl
theorem hart_get_sepc (h : Hart) : (hartC h)[48]? = some (.int .u64 (h.sepc.toNat : Int)) := rfl
theorem hart_set_sepc (h : Hart) (v : BitVec 64) : (hartC h).setIfInBounds 48 (.int .u64 (v.toNat : Int)) = hartC { h with sepc := v } := rfl
theorem hart_get_scause (h : Hart) : (hartC h)[49]? = some (.int .u64 (h.scause.toNat : Int)) := rfl
theorem hart_set_scause (h : Hart) (v : BitVec 64) : (hartC h).setIfInBounds 49 (.int .u64 (v.toNat : Int)) = hartC { h with scause := v } := rfl
theorem hart_get_stval (h : Hart) : (hartC h)[50]? = some (.int .u64 (h.stval.toNat : Int)) := rfl
theorem hart_set_stval (h : Hart) (v : BitVec 64) : (hartC h).setIfInBounds 50 (.int .u64 (v.toNat : Int)) = hartC { h with stval := v } := rfl
theorem hart_get_satp (h : Hart) : (hartC h)[51]? = some (.int .u64 (h.satp.toNat : Int)) := rfl
theorem hart_set_satp (h : Hart) (v : BitVec 64) : (hartC h).setIfInBounds 51 (.int .u64 (v.toNat : Int)) = hartC { h with satp := v } := rfl
theorem hart_get_inhibit (h : Hart) : (hartC h)[52]? = some (.int .u64 (h.inhibit.toNat : Int)) := rfl
theorem hart_set_inhibit (h : Hart) (v : BitVec 64) : (hartC h).setIfInBounds 52 (.int .u64 (v.toNat : Int)) = hartC { h with inhibit := v } := rfl
theorem hart_get_instret (h : Hart) : (hartC h)[53]? = some (.int .u64 (h.instret.toNat : Int)) := rfl
theorem hart_set_instret (h : Hart) (v : BitVec 64) : (hartC h).setIfInBounds 53 (.int .u64 (v.toNat : Int)) = hartC { h with instret := v } := rfl
theorem hart_get_cycle (h : Hart) : (hartC h)[54]? = some (.int .u64 (h.cycle.toNat : Int)) := rfl
theorem hart_set_cycle (h : Hart) (v : BitVec 64) : (hartC h).setIfInBounds 54 (.int .u64 (v.toNat : Int)) = hartC { h with cycle := v } := rfl
theorem hart_get_cyAt (h : Hart) : (hartC h)[55]? = some (.int .u64 (h.cyAt.toNat : Int)) := rfl
theorem hart_set_cyAt (h : Hart) (v : BitVec 64) : (hartC h).setIfInBounds 55 (.int .u64 (v.toNat : Int)) = hartC { h with cyAt := v } := rfl
theorem hart_get_res (h : Hart) : (hartC h)[64]? = some (.bool h.res) := rfl
theorem hart_set_res (h : Hart) (v : Bool) : (hartC h).setIfInBounds 64 (.bool v) = hartC { h with res := v } := rfl
theorem hart_get_resAt (h : Hart) : (hartC h)[65]? = some (.int .u64 (h.resAt.toNat : Int)) := rfl
theorem hart_set_resAt (h : Hart) (v : BitVec 64) : (hartC h).setIfInBounds 65 (.int .u64 (v.toNat : Int)) = hartC { h with resAt := v } := rfl
theorem hart_set_resAt0 (h : Hart) : (hartC h).setIfInBounds 65 (.int .u64 0) = hartC { h with resAt := 0#64 } := rfl
def zeroH : Hart := ⟨0#64, 0, fun _ => 0#64, 0#64, 0#64, 0#64, 0#64, 0#64, 0#64, 0#64, 0#64, 0#64, 0#64, 0#64, 0#64, 0#64, 0#64, 0#64, 0#64, 0#64, 0#64, 0#64, 0#64, 0#64, 0#64, fun _ => 0#64, fun _ => 0#64, false, 0#64⟩
end Wd
open Wd

theorem infoH : (Try.prog.info? 28).map (fun i => (i.zero, i.size)) = some (some (Value.agg (hartC zeroH)), 66) := by kernel_rfl
theorem zeroH_run (w : World) : (zeroValue 28).run Try.prog w = .ok (Value.agg (hartC zeroH)) w := (zero_of_info infoH).1 w
theorem sizeH (h : Hart) : (Try.prog.info? 28).map (·.size) = some (hartC h).size := (zero_of_info infoH).2
/-- A block's row, where it is one, and may be written. -/
noncomputable def rowAt (w : World) (b : Nat) : Option (Array Value) :=
  match w.heap[b]? with
  | some (.cells cs t (0, 0)) => if t = 28 then some cs else none
  | _ => none
theorem rowAt_heap {w : World} {b : Nat} {cs : Array Value} (h : rowAt w b = some cs) : w.heap[b]? = some (.cells cs 28 (0, 0)) := by
  unfold rowAt at h
  split at h
  · split at h
    · simp_all
    · simp at h
  · simp at h
theorem rowAt_of {w : World} {b : Nat} {cs : Array Value} (h : w.heap[b]? = some (.cells cs 28 (0, 0))) : rowAt w b = some cs := by
  unfold rowAt
  rw [h]
  simp
theorem rowAt_alloc (w : World) (cs : Array Value) (b : Nat) : rowAt (w.alloc (.cells cs 28)) b = if b = w.heap.size then some cs else rowAt w b := by
  by_cases h : b = w.heap.size
  · subst h
    rw [if_pos rfl]
    exact rowAt_of (heap_alloc_last w _)
  · rw [if_neg h]
    unfold rowAt
    have e : (w.alloc (.cells cs 28)).heap[b]? = w.heap[b]? := by
      show (w.heap.push _)[b]? = _
      rw [Array.getElem?_push, if_neg h]
    rw [e]
theorem rowAt_below {w w' : World} {b : Nat} {cs : Array Value} (h : rowAt w b = some cs) (hb : Below w.heap.size w w') : rowAt w' b = some cs := by
  have hh := rowAt_heap h
  have hlt : b < w.heap.size := by
    by_cases g : b < w.heap.size
    · exact g
    · rw [Array.getElem?_eq_none (by omega)] at hh
      simp at hh
  exact rowAt_of ((hb.block b hlt).trans hh)

/-- The whole of a core out of a block, and into one. -/
theorem load_hart (w : World) (b : Nat) (h : Hart) (hr : rowAt w b = some (hartC h)) : (Instr.loadAt 28 (.pointer (some ⟨b, 0, none⟩))).run Try.prog w = .ok (.agg (hartC h)) w := by
  simp only [Instr.loadAt, Instr.sureAddr, Sem.run_bind, Sem.run_pure, Result.andThen]
  exact run_loadVar_row w b _ _ _ (0, 0) _ (rowAt_heap hr) Try.underlying28 rfl (sizeH h)
theorem store_hart (w : World) (b : Nat) (h h' : Hart) (hr : rowAt w b = some (hartC h)) : (Instr.storeAt 28 (.pointer (some ⟨b, 0, none⟩)) (.agg (hartC h'))).run Try.prog w = .ok () (w.setRow b (hartC h')) := by
  simp only [Instr.storeAt, Instr.sureAddr, Sem.run_bind, Sem.run_pure, Result.andThen]
  exact run_storeVar_row w b _ _ _ _ (rowAt_heap hr) (sizeH h') rfl (hart_one h')
theorem setRow_alloc (w : World) (cs cs' : Array Value) : (w.alloc (.cells cs 28)).setRow w.heap.size cs' = w.alloc (.cells cs' 28) := World.setRow_alloc_new w cs cs' _
theorem setRow_alloc_lt (w : World) (o : Obj) (b : Nat) (cs' : Array Value) (h : b < w.heap.size) : (w.alloc o).setRow b cs' = (w.setRow b cs').alloc o := by
  simp only [World.setRow, World.alloc]
  congr 1
  apply Array.ext_getElem?
  intro i
  rw [Array.getElem?_modify, Array.getElem?_push, Array.getElem?_push, Array.getElem?_modify, Array.size_modify]
  by_cases e : i = w.heap.size
  · subst e
    have hne : ¬ b = w.heap.size := by omega
    simp [hne]
  · simp [e]

/-! ### As the walk meets them: the cells of a row out of a block, and into one -/
noncomputable def loadR (w : World) (b : Nat) : Option (Array Value) → Result (Array Value)
  | some cs => if cs.size = 66 then .ok cs w else (loadCells ⟨b, 0, none⟩ 66).run Try.prog w
  | none => (loadCells ⟨b, 0, none⟩ 66).run Try.prog w
noncomputable def storeR (w : World) (b : Nat) (c : Array Value) : Option (Array Value) → Result Unit
  | some cs => if cs.size = c.size ∧ c.all (·.oneCell') = true then .ok () (w.setRow b c) else (storeCells ⟨b, 0, none⟩ c.toList 0).run Try.prog w
  | none => (storeCells ⟨b, 0, none⟩ c.toList 0).run Try.prog w
theorem load_row (w : World) (b : Nat) : (loadCellsFrom ⟨b, 0, none⟩ 0 66 #[]).run Try.prog w = loadR w b (rowAt w b) := by
  cases hr : rowAt w b with
  | none => rfl
  | some cs =>
    by_cases hs : cs.size = 66
    · have e : loadR w b (some cs) = .ok cs w := if_pos hs
      rw [e]
      have hl := run_loadCells_list (P := Try.prog) w ⟨b, 0, none⟩ cs.toList (fun j v hv => by
        have hadd : (⟨b, 0, none⟩ : Addr).add j = ⟨b, j, none⟩ := by unfold Addr.add; split <;> simp_all
        rw [hadd, cell_of_row w b j cs _ (0, 0) (rowAt_heap hr)]
        simpa using hv)
      simp only [Array.length_toList, Array.toArray_toList, hs] at hl
      exact hl
    · exact (if_neg hs).symm
theorem store_row (w : World) (b : Nat) (c : Array Value) : (storeCells ⟨b, 0, none⟩ c.toList 0).run Try.prog w = storeR w b c (rowAt w b) := by
  cases hr : rowAt w b with
  | none => rfl
  | some cs =>
    by_cases hs : cs.size = c.size ∧ c.all (·.oneCell') = true
    · have e : storeR w b c (some cs) = .ok () (w.setRow b c) := if_pos hs
      rw [e]
      have := run_storeCells_from (P := Try.prog) b _ c.toList 0 cs w (rowAt_heap hr) (by simp; omega) (fun v hv => (Array.all_eq_true_iff_forall_mem.1 hs.2) v (by simpa using hv))
      simpa using this
    · exact (if_neg hs).symm
theorem loadR_hart (w : World) (b : Nat) (h : Hart) : loadR w b (some (hartC h)) = .ok (hartC h) w := by
  unfold loadR
  simp only [hart_size, if_true]
theorem storeR_hart (w : World) (b : Nat) (h k : Hart) : storeR w b (hartC k) (some (hartC h)) = .ok () (w.setRow b (hartC k)) := by
  have hh : (hartC h).size = (hartC k).size ∧ (hartC k).all (·.oneCell') = true := ⟨by rw [hart_size, hart_size], hart_one k⟩
  unfold storeR
  simp only
  rw [if_pos hh]
theorem rowAt_drew (w : World) (b : Nat) : rowAt w.drew b = rowAt w b := rfl
theorem setRow_drew (w : World) (b : Nat) (cs : Array Value) : w.drew.setRow b cs = (w.setRow b cs).drew := rfl
theorem setRow_alloc_if (w : World) (cs cs' : Array Value) (b : Nat) : (w.alloc (.cells cs 28)).setRow b cs' = if b = w.heap.size then w.alloc (.cells cs' 28) else if b < w.heap.size then (w.setRow b cs').alloc (.cells cs 28) else (w.alloc (.cells cs 28)).setRow b cs' := by
  by_cases h : b = w.heap.size
  · subst h
    rw [if_pos rfl, setRow_alloc]
  · rw [if_neg h]
    by_cases g : b < w.heap.size
    · rw [if_pos g, setRow_alloc_lt _ _ _ _ g]
    · rw [if_neg g]
/-- The way out of a function that hands a core back out of a block. -/
theorem ret_hart {fn : Func} {R : Ending → World → Prop} {a : Act} {w : World} {p : Tmp} {b : Nat} {h : Hart} (hf : fn.results = #[.cell p 28]) (hp : a.tmps.getD p undef = .pointer (some ⟨b, 0, none⟩))
    (hr : rowAt w b = some (hartC h)) (hd : a.defers = []) (hR : R (.returned (.agg (hartC h))) w) : bodyPost Try.prog fn R .ret a w :=
  bodyPost_ret (results_cell_row hf _ _ b _ (hartC h) (0, 0) _ hp (rowAt_heap hr) Try.underlying28 rfl (sizeH h)) hd hR
end Go.Proofs.Ythijheijognhmaa
