/- Contracts on reservations, of the program and of the document; the law AmoHolds, walked: each call answers true. -/
import Derived.Test.YthijheijognhmaaAmoLaws
import Derived.Test.YthijheijognhmaaHartEq
import Derived.Test.YthijheijognhmaaTrapPlain
import Derived.Test.YthijheijognhmaaTrapClear
import Derived.Deep.RegionHeld3
import Derived.Laws.StructEq
namespace Go.Proofs.Ythijheijognhmaa
open Go.RowKit Wd
set_option linter.unusedVariables false
set_option linter.unusedSimpArgs false

attribute [local go_sem] zeroH_run hart_size hart_set_res hart_get_res hart_set_resAt hart_get_resAt hart_set_resAt0 loadR_hart storeR_hart rowAt_alloc rowAt_drew setRow_drew setRow_alloc_if
attribute [local go_sem ↓] load_row store_row
set_option maxRecDepth 4000

namespace Wd
def granW (a : BitVec 64) : BitVec 64 := clrL a 7
theorem gran_nat (a : BitVec 64) : (granW a).toNat = a.toNat / 8 * 8 := by
  have e : granW a = (a >>> 3) <<< 3 := by
    apply BitVec.eq_of_getLsbD_eq
    intro i hi
    unfold granW clrL
    rw [BitVec.getLsbD_and, BitVec.getLsbD_not, decide_eq_true hi, BitVec.getLsbD_shiftLeft, BitVec.getLsbD_ushiftRight, decide_eq_true hi]
    have h7 : (BitVec.ofInt 64 7).getLsbD i = decide (i < 3) := (show ∀ i, i < 64 → (BitVec.ofInt 64 7).getLsbD i = decide (i < 3) from by decide) i hi
    rw [h7]
    by_cases c : i < 3
    · rw [decide_eq_true c]; simp
    · rw [decide_eq_false c, show 3 + (i - 3) = i from by omega]; simp
  have hl := a.isLt
  rw [e, BitVec.toNat_shiftLeft, BitVec.toNat_ushiftRight, Nat.shiftRight_eq_div_pow, Nat.shiftLeft_eq]
  omega
theorem gran_clr (a : BitVec 64) : bits .andNot .u64 (a.toNat : Int) 7 = ((granW a).toNat : Int) := clr_L a 7
theorem gran_sub (a : BitVec 64) : (a.toNat : Int) - (a.toNat : Int) % 8 = ((granW a).toNat : Int) := by
  rw [gran_nat]
  omega
theorem gran_same (a b : BitVec 64) : ((granW a).toNat = (granW b).toNat) ↔ a.toNat / 8 = b.toNat / 8 := by
  rw [gran_nat, gran_nat]
  omega
def holdsB (h : Hart) (a : BitVec 64) : Bool := h.res && ((h.resAt.toNat : Int) == ((granW a).toNat : Int))
end Wd
attribute [local go_sem] gran_clr gran_sub

theorem Pu.qt {P : Program} {f : FuncId} {args : Array Value} {v : Value} (h : Pu P f args v) : Qt P f args v := fun w => (h w).mono fun _ _ k => ⟨k.1, by rw [k.2]; exact Quiet.refl _⟩

theorem gran_any (a : BitVec 64) : Pu Try.prog 18 #[.int .u64 (a.toNat : Int)] (.int .u64 ((granW a).toNat : Int)) := by
  intro w
  go_enter Try.func18, Try.ntmps18
  go_wp2_with fail
  go_ret
  exact ⟨rfl, rfl⟩

theorem rgran_any (a : BitVec 64) : Pu Try.prog 19 #[.int .u64 (a.toNat : Int)] (.int .u64 ((granW a).toNat : Int)) := by
  intro w
  have hl := a.isLt
  have hb : 0 ≤ (a.toNat : Int) ∧ (a.toNat : Int) < 18446744073709551616 := by omega
  go_enter Try.func19, Try.ntmps19
  go_wp2_with fail
  go_ret
  exact ⟨rfl, rfl⟩

theorem rclear_any (h : Hart) (w : World) : Calls Try.prog 23 #[.agg (hartC h)] w fun e w' =>
    e = .returned (.agg (hartC { h with res := false, resAt := 0#64 })) ∧ Below w.heap.size w w' := by
  go_enter Try.func23, Try.ntmps23
  go_wp2_with fail
  exact ret_hart (b := w.heap.size + 1) rfl rfl (by simp [rowAt_alloc]) rfl ⟨rfl, by (repeat (first | refine Below.drew ?_ | refine Below.alloc ?_ (by simp <;> omega) _)); exact Below.refl _ _⟩

theorem hold_any (h : Hart) (a : BitVec 64) (w : World) : Calls Try.prog 15 #[.agg (hartC h), .int .u64 (a.toNat : Int)] w fun e w' =>
    e = .returned (.agg (hartC { h with res := true, resAt := granW a })) ∧ ∃ c1 c2 : Array Value, w' = (w.alloc (.cells c1 28)).alloc (.cells c2 28) := by
  go_enter Try.func15, Try.ntmps15
  go_wp2_with (go_at_call 18; refine (gran_any _ _).mono ?_; rintro e w1 ⟨rfl, rfl⟩)
  exact ret_hart (b := w.heap.size + 1) rfl rfl (by simp [rowAt_alloc, rowAt_drew]) rfl ⟨rfl, _, _, rfl⟩

theorem rhold_any (h : Hart) (a : BitVec 64) (w : World) : Calls Try.prog 22 #[.agg (hartC h), .int .u64 (a.toNat : Int)] w fun e w' =>
    e = .returned (.agg (hartC { h with res := true, resAt := granW a })) ∧ Below w.heap.size w w' := by
  go_enter Try.func22, Try.ntmps22
  go_wp2_with (go_at_call 19; refine (rgran_any _ _).mono ?_; rintro e w1 ⟨rfl, rfl⟩)
  exact ret_hart (b := w.heap.size + 1) rfl rfl (by simp [rowAt_alloc, rowAt_drew]) rfl ⟨rfl, by (repeat (first | refine Below.drew ?_ | refine Below.alloc ?_ (by simp <;> omega) _)); exact Below.refl _ _⟩

theorem holds_any (h : Hart) (a : BitVec 64) (w : World) : Calls Try.prog 20 #[.agg (hartC h), .int .u64 (a.toNat : Int)] w fun e w' =>
    e = .returned (.bool (holdsB h a)) ∧ Below w.heap.size w w' := by
  have hb := (Below.refl w.heap.size w).alloc (Nat.le_refl _) (.cells (hartC h) 28)
  cases hr : h.res with
  | false =>
    have hh := Lib.hid (show holdsB h a = false by unfold holdsB; rw [hr]; rfl)
    go_enter Try.func20, Try.ntmps20
    go_wp2_with fail
    go_quiet ((go_at_call 18; exact (gran_any _).qt.quiet))
    go_wp2_with fail
    go_ret
    exact ⟨ret_bool (by rw [hh.out]), below_drewN hb _⟩
  | true =>
    have hh := Lib.hid (show holdsB h a = ((h.resAt.toNat : Int) == ((granW a).toNat : Int)) by unfold holdsB; rw [hr]; rfl)
    go_enter Try.func20, Try.ntmps20
    go_wp2_with fail
    go_quiet ((go_at_call 18; exact (gran_any _).qt.quiet))
    go_wp2_with fail
    go_ret
    exact ⟨ret_bool (by rw [hh.out]), below_drewN hb _⟩

theorem rholds_any (h : Hart) (a : BitVec 64) (w : World) : Calls Try.prog 21 #[.agg (hartC h), .int .u64 (a.toNat : Int)] w fun e w' =>
    e = .returned (.bool (holdsB h a)) ∧ Below w.heap.size w w' := by
  have hb := (Below.refl w.heap.size w).alloc (Nat.le_refl _) (.cells (hartC h) 28)
  cases hr : h.res with
  | false =>
    have hh := Lib.hid (show holdsB h a = false by unfold holdsB; rw [hr]; rfl)
    go_enter Try.func21, Try.ntmps21
    go_wp2_with fail
    go_quiet ((go_at_call 19; exact (rgran_any _).qt.quiet))
    go_wp2_with fail
    go_ret
    exact ⟨ret_bool (by rw [hh.out]), below_drewN hb _⟩
  | true =>
    have hh := Lib.hid (show holdsB h a = ((h.resAt.toNat : Int) == ((granW a).toNat : Int)) by unfold holdsB; rw [hr]; rfl)
    go_enter Try.func21, Try.ntmps21
    go_wp2_with fail
    go_quiet ((go_at_call 19; exact (rgran_any _).qt.quiet))
    go_wp2_with fail
    go_ret
    exact ⟨ret_bool (by rw [hh.out]), below_drewN hb _⟩
theorem keep_alloc {W w' : World} {b : Nat} {cs : Array Value} {o : Obj} (h : Below W.heap.size W w' ∧ rowAt w' b = some cs) : Below W.heap.size W (w'.alloc o) ∧ rowAt (w'.alloc o) b = some cs :=
  ⟨h.1.alloc h.1.size o, rowAt_below h.2 ((Below.refl _ _).alloc (Nat.le_refl _) o)⟩
end Go.Proofs.Ythijheijognhmaa
