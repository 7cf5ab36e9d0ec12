/- Contracts of the document's walk: Begin, end, At. -/
import Derived.Test.YthjhcdkbajbpdaaOnly
import Derived.Test.YthjhcdkbajbpdaaWalkEnds
import Derived.Test.YthjhcdkbajbpdaaWalkFns
import Derived.Deep.RegionHeld3
import Derived.Deep.Cut
import Derived.Outline
namespace Go.Proofs.Ythjhcdkbajbpdaa
open Go.RowKit Wd
set_option linter.unusedVariables false
set_option linter.unusedSimpArgs false
set_option maxRecDepth 8000
namespace Wd
/-- A walk under way, of the document. -/
structure Gs where
  va : BitVec 64
  lv : Int
  table : BitVec 64
  pl : Int
  p0 : BitVec 64
  p1 : BitVec 64
  p2 : BitVec 64
  en : BitVec 64
  er : Int
  ov : Bool
def gsC (s : Gs) : Array Value := #[.int .u64 (s.va.toNat : Int), .int .i64 s.lv, .int .u64 (s.table.toNat : Int), .int .i64 s.pl, .int .u64 (s.p0.toNat : Int), .int .u64 (s.p1.toNat : Int), .int .u64 (s.p2.toNat : Int), .int .u64 (s.en.toNat : Int), .int .i64 s.er, .bool s.ov]
theorem gp_0 : IntKind.i64.wrap (9 * 0) = 0 := by decide
theorem gp_1 : IntKind.i64.wrap (9 * 1) = 9 := by decide
theorem gp_2 : IntKind.i64.wrap (9 * 2) = 18 := by decide
theorem gp_9 : IntKind.i64.wrap 9 = 9 := by decide
theorem gp_18 : IntKind.i64.wrap 18 = 18 := by decide
theorem gp_z : IntKind.i64.wrap 0 = 0 := by decide
theorem gp_a12 : IntKind.i64.wrap (12 + 0) = 12 := by decide
theorem gp_a21 : IntKind.i64.wrap (12 + 9) = 21 := by decide
theorem gp_a30 : IntKind.i64.wrap (12 + 18) = 30 := by decide
theorem gp_b20 : IntKind.i64.wrap (20 + 0) = 20 := by decide
theorem gp_b29 : IntKind.i64.wrap (20 + 9) = 29 := by decide
theorem gp_b38 : IntKind.i64.wrap (20 + 18) = 38 := by decide
theorem gp_12 : IntKind.i64.wrap 12 = 12 := by decide
theorem gp_21 : IntKind.i64.wrap 21 = 21 := by decide
theorem gp_30 : IntKind.i64.wrap 30 = 30 := by decide
theorem gp_20 : IntKind.i64.wrap 20 = 20 := by decide
theorem gp_29 : IntKind.i64.wrap 29 = 29 := by decide
theorem gp_38 : IntKind.i64.wrap 38 = 38 := by decide
end Wd
attribute [local go_sem] and_L or_L clr_L shl_12 mul8_L add_L gp_0 gp_1 gp_2 gp_9 gp_18 gp_z gp_a12 gp_a21 gp_a30 gp_b20 gp_b29 gp_b38 gp_12 gp_21 gp_30 gp_20 gp_29 gp_38
theorem gs_cells {w : World} {b : Nat} {s : Gs} {t : TypeId} (h : Bk w b (gsC s) t) :
    w.cell? ⟨b, 0, none⟩ = some (.int .u64 (s.va.toNat : Int)) ∧ w.cell? ⟨b, 1, none⟩ = some (.int .i64 s.lv) ∧ w.cell? ⟨b, 2, none⟩ = some (.int .u64 (s.table.toNat : Int)) ∧ w.cell? ⟨b, 3, none⟩ = some (.int .i64 s.pl) ∧ w.cell? ⟨b, 4, none⟩ = some (.int .u64 (s.p0.toNat : Int)) ∧
    w.cell? ⟨b, 5, none⟩ = some (.int .u64 (s.p1.toNat : Int)) ∧ w.cell? ⟨b, 6, none⟩ = some (.int .u64 (s.p2.toNat : Int)) ∧ w.cell? ⟨b, 7, none⟩ = some (.int .u64 (s.en.toNat : Int)) ∧ w.cell? ⟨b, 8, none⟩ = some (.int .i64 s.er) ∧ w.cell? ⟨b, 9, none⟩ = some (.bool s.ov) :=
  ⟨h.get rfl, h.get rfl, h.get rfl, h.get rfl, h.get rfl, h.get rfl, h.get rfl, h.get rfl, h.get rfl, h.get rfl⟩
def endG (s : Gs) (e : Int) : Gs := ⟨s.va, s.lv, s.table, 0, 0#64, 0#64, 0#64, 0#64, e, true⟩
theorem end_any (s : Gs) (b : Nat) (er : Int) (w : World) (h : Bk w b (gsC s) 87) : Calls Try.prog 74 #[.pointer (some ⟨b, 0, none⟩), .int .i64 er] w fun e w' =>
    e = .returned (.tuple #[]) ∧ Bk w' b (gsC (endG s er)) 87 ∧ Just [b] w w' := by
  have hf : ∀ o, w.frozen? ⟨b, o, none⟩ = false := h.free
  obtain ⟨c0, c1, c2, c3, c4, c5, c6, c7, c8, c9⟩ := gs_cells h
  have H := Lib.hid h
  clear h
  go_enter Try.func74, Try.ntmps74
  go_wp2_with fail
  refine bodyPost_end (results_none rfl _ _ _) rfl ?_
  refine ⟨rfl, ?_, ?_⟩
  · have e : (((((((gsC s).setIfInBounds 3 (.int .i64 0)).setIfInBounds 4 (.int .u64 0)).setIfInBounds 5 (.int .u64 0)).setIfInBounds 6 (.int .u64 0)).setIfInBounds 7 (.int .u64 0)).setIfInBounds 8 (.int .i64 er)).setIfInBounds 9 (.bool true) = gsC (endG s er) := by simp [gsC, endG]
    rw [← e]
    exact ((((((H.out.set 3 _).set 4 _).set 5 _).set 6 _).set 7 _).set 8 _).set 9 _
  · exact (((((((Just.refl [b] w).set (.inl (by simp)) 3 _).set (.inl (by simp)) 4 _).set (.inl (by simp)) 5 _).set (.inl (by simp)) 6 _).set (.inl (by simp)) 7 _).set (.inl (by simp)) 8 _).set (.inl (by simp)) 9 _
theorem at_any (s : Gs) (b l : Nat) (w : World) (hl : s.lv = (l : Int)) (h2 : l ≤ 2) (h : Bk w b (gsC s) 87) : Calls Try.prog 54 #[.pointer (some ⟨b, 0, none⟩)] w fun e w' =>
    e = .returned (.int .u64 ((atW s.table s.va l).toNat : Int)) ∧ Quiet w w' := by
  obtain ⟨c0, c1, c2, _⟩ := gs_cells h
  rw [hl] at c1
  clear h hl
  have cf := fun hi lo => rfield_any s.va hi lo
  have cz := fun v : BitVec 64 => rzext_any v 56
  have CF := Lib.hid cf
  have CZ := Lib.hid cz
  clear cf cz
  have h3 : l = 0 ∨ l = 1 ∨ l = 2 := by omega
  clear h2
  rcases h3 with rfl | rfl | rfl
  all_goals
    go_enter Try.func54, Try.ntmps54
    go_wp2_with fail
    go_quiet ((first | (go_at_call 72; exact (CF.out _ _).quiet2) | (go_at_call 75; exact (CZ.out _).quiet2) | (go_at_call 72; exact (CF.out _ _).quiet) | (go_at_call 75; exact (CZ.out _).quiet)))
    go_wp2_with fail
    go_ret
    exact ⟨rfl, (Quiet.refl _).drewN _⟩
end Go.Proofs.Ythjhcdkbajbpdaa
