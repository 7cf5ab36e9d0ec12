/- awake of the laws on package walk; and Walk where nothing is read. -/
import Derived.Test.YthjhcdkbajbpdaaWalkWalk
import Derived.Test.YthjhcdkbajbpdaaWalkReader
namespace Go.Proofs.Ythjhcdkbajbpdaa
open Go.RowKit Wd
set_option linter.unusedVariables false
set_option linter.unusedSimpArgs false
set_option maxRecDepth 8000
theorem fn_neq1 (K : FuncId) (c1 c2 : Value) (w : World) : (binOp .neq 33 (.func (.func K) #[] #[c1, c2]) .nilFunc).run Try.prog w = .ok (.bool true) w := by kernel_rfl
theorem fn_neq2 (w : World) : (binOp .neq 33 .nilFunc .nilFunc).run Try.prog w = .ok (.bool false) w := by kernel_rfl
attribute [local go_sem] fn_neq1 fn_neq2
/-- An address that may not be: nothing is asked. -/
theorem walk_no (satp va : BitVec 64) (fv : Value) (w : World) (hs : ¬ sext va 39 = va) : Calls Try.prog 15 #[.int .u64 (satp.toNat : Int), .int .u64 (va.toNat : Int), fv] w fun e w' =>
    e = .returned (.tuple #[.agg zeroP, .int .i64 7]) ∧ Below w.heap.size w w' := by
  have hn : (((sext va 39).toNat : Int) != (va.toNat : Int)) = true := by rw [ne64]; simpa using hs
  clear hs
  go_enter Try.func15, Try.ntmps15
  go_wp2_with fail
  go_step3
  go_wp2_with fail
  refine (sext_any _ _ _).mono ?_
  rintro e w1 ⟨rfl, hq1⟩
  have hh : w1.heap[w.heap.size]? = some (.cells zeroP 29 (0, 0)) := by rw [hq1.heap]; exact heap_alloc_new _ _
  have hb : Below w.heap.size w w1 := ((Below.refl _ _).alloc (Nat.le_refl _) _).trans (hq1.below _)
  have cc : ∀ o, w1.cell? ⟨w.heap.size, o, none⟩ = (#[.int .i64 0, .int .u64 0, .int .u64 0, .int .u64 0, .int .u64 0] : Array Value)[o]? := fun o => cell_of_row w1 _ o _ _ (0, 0) hh
  have cf : ∀ o, w1.frozen? ⟨w.heap.size, o, none⟩ = false := fun o => frozen_of_row w1 _ o _ _ hh
  have HH := Lib.hid hh
  have HB := Lib.hid hb
  clear hh hb hq1
  go_wp2_with fail
  rw [Exit.noGoto_ret]
  refine ret_pte (b := w.heap.size) (cs := zeroP) (v := .int .i64 7) rfl rfl rfl ?_ rfl rfl ?_
  · have e := heap_setCell_same _ _ 4 _ _ (.int .u64 0) (heap_setCell_same _ _ 3 _ _ (.int .u64 0) (heap_setCell_same _ _ 2 _ _ (.int .u64 0) (heap_setCell_same _ _ 1 _ _ (.int .u64 0) (heap_setCell_same _ _ 0 _ _ (.int .i64 0) HH.out))))
    exact e
  · refine ⟨rfl, ?_⟩
    refine Below.setCell (Below.setCell (Below.setCell (Below.setCell (Below.setCell HB.out ?_ _) ?_ _) ?_ _) ?_ _) ?_ _ <;> simp
theorem walk_nil (satp va : BitVec 64) (w : World) (hs : sext va 39 = va) : Calls Try.prog 15 #[.int .u64 (satp.toNat : Int), .int .u64 (va.toNat : Int), .nilFunc] w fun e w' =>
    e = .returned (.tuple #[.agg zeroP, .int .i64 6]) ∧ Below w.heap.size w w' := by
  have HS := Lib.hid hs
  clear hs
  go_enter Try.func15, Try.ntmps15
  go_wp2_with fail
  go_step3
  go_wp2_with fail
  refine (sext_any _ _ _).mono ?_
  rintro e w1 ⟨rfl, hq1⟩
  rw [HS.out]
  go_wp2_with fail
  refine (zext_any _ _ _).mono ?_
  rintro e w2 ⟨rfl, hq2⟩
  have hh : w2.heap[w.heap.size]? = some (.cells zeroP 29 (0, 0)) := by
    rw [hq2.heap]
    show (w1.heap.push _)[w.heap.size]? = _
    rw [hq1.heap]
    have := heap_alloc_old (w.alloc (.cells zeroP 29)) (.cells zeroP 29) (r := w.heap.size) (by simp)
    exact this.trans (heap_alloc_new _ _)
  have hb : Below w.heap.size w w2 := by
    have a := ((Below.refl w.heap.size w).alloc (Nat.le_refl _) (.cells zeroP 29)).trans (hq1.below _)
    exact (a.alloc a.size (.cells zeroP 29)).trans (hq2.below _)
  have cc : ∀ o, w2.cell? ⟨w.heap.size, o, none⟩ = (#[.int .i64 0, .int .u64 0, .int .u64 0, .int .u64 0, .int .u64 0] : Array Value)[o]? := fun o => cell_of_row w2 _ o _ _ (0, 0) hh
  have cf : ∀ o, w2.frozen? ⟨w.heap.size, o, none⟩ = false := fun o => frozen_of_row w2 _ o _ _ hh
  have HH := Lib.hid hh
  have HB := Lib.hid hb
  clear hh hb hq1 hq2
  go_wp2_with fail
  go_step3
  go_wp2_with fail
  refine wp_loop_rounds 1 ?_
  rw [rounds_succ]
  go_wp2_with fail
  rw [Exit.noGoto_ret]
  refine ret_pte (b := w.heap.size) (cs := zeroP) (v := .int .i64 6) rfl rfl rfl ?_ rfl rfl ?_
  · have e := heap_setCell_same _ _ 4 _ _ (.int .u64 0) (heap_setCell_same _ _ 3 _ _ (.int .u64 0) (heap_setCell_same _ _ 2 _ _ (.int .u64 0) (heap_setCell_same _ _ 1 _ _ (.int .u64 0) (heap_setCell_same _ _ 0 _ _ (.int .i64 0) HH.out))))
    exact e
  · refine ⟨rfl, ?_⟩
    refine Below.setCell (Below.setCell (Below.setCell (Below.setCell (Below.setCell HB.out ?_ _) ?_ _) ?_ _) ?_ _) ?_ _ <;> simp

/-- Walk, whatever the address. -/
theorem walk_any (satp va : BitVec 64) (K : FuncId) (c1 c2 : Value) (L : Look) (ba : Option Nat) (n0 : Nat) (R : World → Option Nat → List (BitVec 64) → Prop) (hR : ReaderOk K c1 c2 L ba n0 R)
    (w : World) (g : Option Nat) (h0 : R w g []) (hn : n0 ≤ w.heap.size) (hg : ∀ k, g = some k → k < w.heap.size) :
    Calls Try.prog 15 #[.int .u64 (satp.toNat : Int), .int .u64 (va.toNat : Int), .func (.func K) #[] #[c1, c2]] w fun e w' =>
      e = .returned (.tuple #[.agg (pteC (pteOf (walkR satp va L))), .int .i64 (walkR satp va L).2.1]) ∧ ∃ g', R w' g' (walkR satp va L).2.2 ∧ Newer w g g' ∧ Apart ba g w w' := by
  by_cases hs : sext va 39 = va
  · exact walk_ok satp va K c1 c2 L ba n0 R hR w g h0 hn hg hs
  · refine (walk_no satp va _ w hs).mono ?_
    rintro e w' ⟨rfl, hb⟩
    rw [show walkR satp va L = (none, 7, []) from if_neg hs]
    refine ⟨rfl, g, hR.keep w w' g [] h0 hb.os hb.tape hb.output hb.size (fun k hk => hb.block k ?_), Newer.refl _ _, Below.apart hb _ _⟩
    rcases hk with hk | hk
    · omega
    · exact hg k hk.symm

/-- The laws' reader is made. -/
theorem mkreader (A : Option Addr) (n c : Nat) (hole : Bool) (ba : Nat) (w : World) : Calls Try.prog 16 #[.agg #[.slice A n c, .bool hole], .pointer (some ⟨ba, 0, none⟩)] w fun e w' =>
    e = .returned (.func (.func 50) #[] #[.pointer (some ⟨w.heap.size + 1, 0, none⟩), .pointer (some ⟨w.heap.size, 0, none⟩)]) ∧
      w' = (w.alloc (.cells #[.slice A n c, .bool hole] 25)).alloc (.cells #[.pointer (some ⟨ba, 0, none⟩)] 35) := by
  go_enter Try.func16, Try.ntmps16
  go_wp2_with fail
  go_ret
  exact ⟨rfl, rfl⟩
/-- What stands behind it. -/
theorem rdm_start {w : World} {A : Option Addr} {c ba : Nat} {hole : Bool} {l : List (BitVec 64 × BitVec 64)} (hmax : l.length ≤ 9223372036854775807) (hba : w.heap[ba]? = some (.cells #[.slice none 0 0] 26 (0, 0)))
    (hc : 0 < l.length → ∃ bl off, A = some ⟨bl, off, none⟩ ∧ (bl < w.heap.size ∧ bl ≠ ba) ∧ ∀ i, i < l.length → w.cell? ⟨bl, off + i * 2, none⟩ = some (.int .u64 ((l.getD i (0#64, 0#64)).1.toNat : Int)) ∧ w.cell? ⟨bl, off + i * 2 + 1, none⟩ = some (.int .u64 ((l.getD i (0#64, 0#64)).2.toNat : Int))) :
    RdM (w.heap.size + 2) (w.heap.size + 1) ba w.heap.size l hole ((w.alloc (.cells #[.slice A l.length c, .bool hole] 25)).alloc (.cells #[.pointer (some ⟨ba, 0, none⟩)] 35)) none [] := by
  have hlt : ba < w.heap.size := by
    by_cases g : ba < w.heap.size
    · exact g
    · rw [Array.getElem?_eq_none (by omega)] at hba
      simp at hba
  have hold : ∀ k, k < w.heap.size → ((w.alloc (.cells #[.slice A l.length c, .bool hole] 25)).alloc (.cells #[.pointer (some ⟨ba, 0, none⟩)] 35)).heap[k]? = w.heap[k]? := fun k hk =>
    (((Below.refl w.heap.size w).alloc (Nat.le_refl _) (.cells #[.slice A l.length c, .bool hole] 25)).alloc (by simp) (.cells #[.pointer (some ⟨ba, 0, none⟩)] 35)).block k hk
  refine ⟨⟨by omega, by omega, hmax, A, c, ?_, ?_⟩, by omega, by omega, by simp, ?_, .slice none 0 0, by rw [hold _ hlt]; exact hba, World.ownsRow_nil _ _ _ _, rfl⟩
  · rw [heap_alloc_old _ _ (by simp)]
    exact heap_alloc_new _ _
  · intro h0
    obtain ⟨bl, off, e, hl, hcell⟩ := hc h0
    refine ⟨bl, off, e, ⟨by omega, hl.2⟩, fun i hi => ?_⟩
    have hce : ∀ o, ((w.alloc (.cells #[.slice A l.length c, .bool hole] 25)).alloc (.cells #[.pointer (some ⟨ba, 0, none⟩)] 35)).cell? ⟨bl, o, none⟩ = w.cell? ⟨bl, o, none⟩ := fun o => World.cell?_of_block (hold _ hl.1)
    rw [hce, hce]
    exact hcell i hi
  · have := heap_alloc_new (w.alloc (.cells #[.slice A l.length c, .bool hole] 25)) (.cells #[.pointer (some ⟨ba, 0, none⟩)] 35)
    simpa using this
end Go.Proofs.Ythjhcdkbajbpdaa
