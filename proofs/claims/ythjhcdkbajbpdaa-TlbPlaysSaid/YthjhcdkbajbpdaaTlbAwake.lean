/- awake of the laws on package tlb; the law TlbNil. -/
import Derived.Test.YthjhcdkbajbpdaaTlbNew
import Derived.Test.YthjhcdkbajbpdaaTlbPut
import Derived.Test.YthjhcdkbajbpdaaTlbNils
import Derived.Test.YthjhcdkbajbpdaaFlat
namespace Go.Proofs.Ythjhcdkbajbpdaa
open Go.RowKit Wd Pl
set_option linter.unusedVariables false
set_option linter.unusedSimpArgs false
set_option maxRecDepth 8000
namespace Wd
def leaf7 : Lf := ⟨0, 0, 0, 0, 7⟩
def awWs : List Wy := putWs (mkW 2) 0 4096#64 leaf7
theorem aw_may : mayP 4096#64 leaf7 = true := by decide +kernel
theorem aw_len : awWs.length = 2 := by decide +kernel
theorem aw_fnd : fndI awWs 8191#64 < awWs.length := by decide +kernel
theorem aw_look : pteY (lookY awWs 8191#64) = #[.int .i64 0, .int .u64 0, .int .u64 0, .int .u64 0, .int .u64 7] := by rfl
end Wd
set_option maxHeartbeats 1000000 in
theorem tawake_any : Mk Try.prog 34 #[] (.bool true) := by
  intro w
  have c1 := Lib.hid (new_ok 2 (.inl rfl))
  go_enter Try.func34, Try.ntmps34
  go_wp2_with fail
  refine (c1.out w).mono ?_
  rintro e w1 ⟨rfl, hT, hb1⟩
  have cP := Lib.hid (put_any _ _ _ _ 4096#64 leaf7 w1 hT)
  have HB1 := Lib.hid hb1
  clear hT hb1 c1
  go_wp2_with fail
  refine cP.out.mono ?_
  rintro e w2 ⟨rfl, hT2, ho2⟩
  rw [if_pos aw_may]
  have cL := look_any _ _ _ _ 8191#64 w2 hT2
  rw [show putWs (mkW 2) 0 4096#64 leaf7 = awWs from rfl, aw_look, show fndIs awWs 8191#64 = true from decide_eq_true aw_fnd] at cL
  replace cL := Lib.hid cL
  have HB2 := Lib.hid (HB1.out.trans (ho2.below (B := w.heap.size) (fun x hx => by simp at hx; omega) HB1.out.size))
  clear hT2 ho2 cP HB1
  go_wp2_with fail
  refine cL.out.mono ?_
  rintro e w3 ⟨rfl, _, ho3⟩
  have HB3 := Lib.hid (HB2.out.trans (ho3.below (B := w.heap.size) (fun x hx => by simp at hx; omega) HB2.out.size))
  clear ho3 cL
  go_wp2_with fail
  go_ret
  exact ⟨rfl, HB3.out.alloc HB3.out.size _⟩
theorem five_of {cs : Array Value} (hc : Flat.All2 [.int .i64, .int .u64, .int .u64, .int .u64, .int .u64] cs.toList) : ∃ z0 z1 z2 z3 z4 : Int, cs = #[.int .i64 z0, .int .u64 z1, .int .u64 z2, .int .u64 z3, .int .u64 z4] := by
  have hl := hc.len
  obtain ⟨v0, g0, z0, rfl, _⟩ := hc.get 0 _ rfl
  obtain ⟨v1, g1, z1, rfl, _⟩ := hc.get 1 _ rfl
  obtain ⟨v2, g2, z2, rfl, _⟩ := hc.get 2 _ rfl
  obtain ⟨v3, g3, z3, rfl, _⟩ := hc.get 3 _ rfl
  obtain ⟨v4, g4, z4, rfl, _⟩ := hc.get 4 _ rfl
  refine ⟨z0, z1, z2, z3, z4, Array.toList_inj.1 ?_⟩
  apply List.ext_getElem?
  intro i
  match i with
  | 0 => exact g0
  | 1 => exact g1
  | 2 => exact g2
  | 3 => exact g3
  | 4 => exact g4
  | i + 5 => rw [List.getElem?_eq_none (by simp at hl ⊢; omega), List.getElem?_eq_none (by simp)]
theorem tlbNil_cells (va : Int) (w0 : (Lit.int .u64 va).wf = true) (cs : Array Value) (hc : Flat.All2 [.int .i64, .int .u64, .int .u64, .int .u64, .int .u64] cs.toList) (n : Int) (w2 : (Lit.int .i64 n).wf = true) (w : World) :
    Calls Try.prog 14 #[.int .u64 va, .agg cs, .int .i64 n] w fun e w' => e = .returned (.bool true) ∧ Below w.heap.size w w' := by
  obtain ⟨z0, z1, z2, z3, z4, e⟩ := five_of hc
  rw [e]
  have h := nil_law va n z0 z1 z2 z3 z4
  have a : Hid (Mk Try.prog 34 #[] (.bool true)) := Lib.hid tawake_any
  exact h a w
end Go.Proofs.Ythjhcdkbajbpdaa
