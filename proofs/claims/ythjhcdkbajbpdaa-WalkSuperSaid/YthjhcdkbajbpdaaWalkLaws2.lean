/- The law WalkChecks, walked: each call answers true. -/
import Derived.Test.YthjhcdkbajbpdaaWalkLaws
namespace Go.Proofs.Ythjhcdkbajbpdaa
open Go.RowKit Wd
set_option linter.unusedVariables false
set_option linter.unusedSimpArgs false
attribute [local go_sem] and_L or_L
set_option maxRecDepth 8000

theorem one_in {W w' : World} {b : Nat} {l a0 a1 a2 e : Int} (h : rowC W b = some #[.int .i64 l, .int .u64 a0, .int .u64 a1, .int .u64 a2, .int .u64 e]) (hb : Below W.heap.size W w') :
    Below W.heap.size W w' ∧ w'.cell? ⟨b, 0, none⟩ = some (.int .i64 l) ∧ w'.cell? ⟨b, 1, none⟩ = some (.int .u64 a0) ∧ w'.cell? ⟨b, 2, none⟩ = some (.int .u64 a1) ∧ w'.cell? ⟨b, 3, none⟩ = some (.int .u64 a2) ∧ w'.cell? ⟨b, 4, none⟩ = some (.int .u64 e) :=
  ⟨hb, (pte_in h hb).2⟩
set_option maxHeartbeats 8000000 in
theorem walkChecks_walk (p : Pte) (va : BitVec 64) (k v : Int) (sum mxr page : Bool) (w : World) :
    Calls Try.prog 9 #[.agg (pteC p), .int .u64 (va.toNat : Int), .int .i64 k, .int .i64 v, .bool sum, .bool mxr, .bool page] w fun e w' => e = .returned (.bool true) ∧ Below w.heap.size w w' := by
  have hlv : 12 ≤ 12 + 9 * lvN p.level ∧ 12 + 9 * lvN p.level ≤ 30 := by
    unfold lvN
    split
    · omega
    · split <;> omega
  have RA : Mk Try.prog 32 #[.agg #[.int .i64 p.level, .int .u64 (p.p0.toNat : Int), .int .u64 (p.p1.toNat : Int), .int .u64 (p.p2.toNat : Int), .int .u64 (p.entry.toNat : Int)], .int .u64 (va.toNat : Int)] (.int .u64 ((addrW p.entry va (12 + 9 * lvN p.level)).toNat : Int)) := by
    have := raddr_any p va
    rw [addr_same _ _ _ hlv.1 hlv.2] at this
    exact this
  have AD : Mk Try.prog 19 #[.agg #[.int .i64 p.level, .int .u64 (p.p0.toNat : Int), .int .u64 (p.p1.toNat : Int), .int .u64 (p.p2.toNat : Int), .int .u64 (p.entry.toNat : Int)], .int .u64 (va.toNat : Int)] (.int .u64 ((addrW p.entry va (12 + 9 * lvN p.level)).toNat : Int)) := addr_any p va
  generalize addrW p.entry va (12 + 9 * lvN p.level) = ad at RA AD
  have C1 : Mk Try.prog 26 #[.agg #[.int .i64 p.level, .int .u64 (p.p0.toNat : Int), .int .u64 (p.p1.toNat : Int), .int .u64 (p.p2.toNat : Int), .int .u64 (p.entry.toNat : Int)], .int .i64 k, .int .i64 v, .bool sum, .bool mxr] (.bool (checkB p.entry k v sum mxr)) := check_any p k v sum mxr
  have C2 : Mk Try.prog 29 #[.agg #[.int .i64 p.level, .int .u64 (p.p0.toNat : Int), .int .u64 (p.p1.toNat : Int), .int .u64 (p.p2.toNat : Int), .int .u64 (p.entry.toNat : Int)], .int .i64 k, .int .i64 v, .bool sum, .bool mxr] (.bool (checkB p.entry k v sum mxr)) := rcheck_any p k v sum mxr
  replace RA := Lib.hid RA
  replace AD := Lib.hid AD
  replace C1 := Lib.hid C1
  replace C2 := Lib.hid C2
  have r0 : rowC (w.alloc (.cells #[.int .i64 p.level, .int .u64 (p.p0.toNat : Int), .int .u64 (p.p1.toNat : Int), .int .u64 (p.p2.toNat : Int), .int .u64 (p.entry.toNat : Int)] 29)) w.heap.size = some #[.int .i64 p.level, .int .u64 (p.p0.toNat : Int), .int .u64 (p.p1.toNat : Int), .int .u64 (p.p2.toNat : Int), .int .u64 (p.entry.toNat : Int)] := by rw [rowC_alloc, if_pos rfl]
  replace r0 := Lib.hid r0
  have HB0 := Lib.hid ((Below.refl w.heap.size w).alloc (Nat.le_refl _) (.cells #[.int .i64 p.level, .int .u64 (p.p0.toNat : Int), .int .u64 (p.p1.toNat : Int), .int .u64 (p.p2.toNat : Int), .int .u64 (p.entry.toNat : Int)] 29))
  unfold pteC
  clear hlv
  go_enter Try.func9, Try.ntmps9
  go_wp2_with fail
  refine (marks_any p k _).mono ?_
  rintro e w1 ⟨rfl, hb1⟩
  obtain ⟨_, c0, c1, c2, c3, c4⟩ := one_in r0.out hb1
  have r1 := Lib.hid (rowC_below r0.out hb1)
  have HB1 := Lib.hid (HB0.out.trans (hb1.mono HB0.out.size))
  clear hb1 r0
  go_wp2_with fail
  refine (rmarks_any p k _).mono ?_
  rintro e w2 ⟨rfl, hb2⟩
  have r2 := Lib.hid (rowC_below r1.out hb2)
  have HB2 := Lib.hid (HB1.out.trans (hb2.mono HB1.out.size))
  clear hb2 r1 c0 c1 c2 c3 c4
  go_wp2_with fail
  go_region_held3 (fun w' => Below w2.heap.size w2 w' ∧ w'.cell? ⟨w.heap.size, 0, none⟩ = some (.int .i64 p.level) ∧ w'.cell? ⟨w.heap.size, 1, none⟩ = some (.int .u64 (p.p0.toNat : Int)) ∧ w'.cell? ⟨w.heap.size, 2, none⟩ = some (.int .u64 (p.p1.toNat : Int)) ∧ w'.cell? ⟨w.heap.size, 3, none⟩ = some (.int .u64 (p.p2.toNat : Int)) ∧ w'.cell? ⟨w.heap.size, 4, none⟩ = some (.int .u64 (p.entry.toNat : Int))) (first | exact one_in r2.out hb3 | exact one_in r2.out (Below.refl _ _).drew | exact one_in r2.out (Below.refl _ _))
    (first
      | (go_at_call 17; refine ((awake_any).at (‹_ ∧ _›.1)).mono ?_; rintro e w4 ⟨rfl, hb3⟩)
      | (go_at_call 26; refine ((C1.out).at (‹_ ∧ _›.1)).mono ?_; rintro e w4 ⟨rfl, hb3⟩)
      | (go_at_call 29; refine ((C2.out).at (‹_ ∧ _›.1)).mono ?_; rintro e w4 ⟨rfl, hb3⟩)
      | (go_at_call 30; refine (((fault_any _ _).qt.mk).at (‹_ ∧ _›.1)).mono ?_; rintro e w4 ⟨rfl, hb3⟩)
      | (go_at_call 31; refine (((rfault_any _ _).qt.mk).at (‹_ ∧ _›.1)).mono ?_; rintro e w4 ⟨rfl, hb3⟩))
  all_goals
    have r3 := Lib.hid (rowC_below r2.out hb3)
    obtain ⟨_, c0, c1, c2, c3, c4⟩ := one_in r2.out hb3
    have HB3 := Lib.hid (HB2.out.trans (hb3.mono HB2.out.size))
    clear hb3 r2
    by_cases l0 : p.level < 0
    · go_wp2_with fail
      go_quiet (fail)
      go_wp2_with fail
      go_ret
      exact ⟨rfl, below_drewN HB3.out _⟩
    · by_cases l2 : 2 < p.level
      · have l0' : decide (p.level < 0) = false := by simpa using l0
        go_wp2_with fail
        go_quiet (fail)
        go_wp2_with fail
        go_ret
        exact ⟨rfl, below_drewN HB3.out _⟩
      · clear c0 c1 c2 c3 c4
        have l0' : decide (p.level < 0) = false := by simpa using l0
        have l2' : decide (2 < p.level) = false := by simpa using l2
        go_wp2_with fail
        go_region_held3 (fun w' => Below w4.heap.size w4 w' ∧ w'.cell? ⟨w.heap.size, 0, none⟩ = some (.int .i64 p.level) ∧ w'.cell? ⟨w.heap.size, 1, none⟩ = some (.int .u64 (p.p0.toNat : Int)) ∧ w'.cell? ⟨w.heap.size, 2, none⟩ = some (.int .u64 (p.p1.toNat : Int)) ∧ w'.cell? ⟨w.heap.size, 3, none⟩ = some (.int .u64 (p.p2.toNat : Int)) ∧ w'.cell? ⟨w.heap.size, 4, none⟩ = some (.int .u64 (p.entry.toNat : Int))) (first | exact one_in r3.out hb5 | exact one_in r3.out (Below.refl _ _).drew | exact one_in r3.out (Below.refl _ _))
          (first
            | (go_at_call 19; refine ((AD.out).at (‹_ ∧ _›.1)).mono ?_; rintro e w5 ⟨rfl, hb5⟩)
            | (go_at_call 32; refine ((RA.out).at (‹_ ∧ _›.1)).mono ?_; rintro e w5 ⟨rfl, hb5⟩))
        all_goals
          go_wp2_with fail
          go_ret
          exact ⟨rfl, HB3.out.trans (hb5.mono HB3.out.size)⟩

def leafP : List Flat.Leaf := [.int .i64, .int .u64, .int .u64, .int .u64, .int .u64]
def listP : List Value := [.int .i64 0, .int .u64 0, .int .u64 0, .int .u64 0, .int .u64 0]
theorem pte_of {cs : Array Value} (h : Flat.All2 leafP cs.toList) : ∃ p : Pte, cs = pteC p := by
  obtain ⟨l⟩ := cs
  unfold leafP at h
  replace h : Flat.All2 [.int .i64, .int .u64, .int .u64, .int .u64, .int .u64] l := h
  cases l with
  | nil => exact False.elim h
  | cons v0 l =>
  obtain ⟨⟨z0, rfl, w0⟩, h⟩ := h
  cases l with
  | nil => exact False.elim h
  | cons v1 l =>
  obtain ⟨⟨z1, rfl, w1⟩, h⟩ := h
  cases l with
  | nil => exact False.elim h
  | cons v2 l =>
  obtain ⟨⟨z2, rfl, w2⟩, h⟩ := h
  cases l with
  | nil => exact False.elim h
  | cons v3 l =>
  obtain ⟨⟨z3, rfl, w3⟩, h⟩ := h
  cases l with
  | nil => exact False.elim h
  | cons v4 l =>
  obtain ⟨⟨z4, rfl, w4⟩, h⟩ := h
  cases l with
  | cons v l => exact False.elim h
  | nil =>
  obtain ⟨a, rfl⟩ := u64_bv w1
  obtain ⟨b, rfl⟩ := u64_bv w2
  obtain ⟨c, rfl⟩ := u64_bv w3
  obtain ⟨d, rfl⟩ := u64_bv w4
  exact ⟨⟨z0, a, b, c, d⟩, rfl⟩
theorem walkChecks_cells (cs : Array Value) (hc : Flat.All2 leafP cs.toList) (va : Int) (wv : (Lit.int .u64 va).wf = true) (k : Int) (wk : (Lit.int .i64 k).wf = true) (v : Int) (wp : (Lit.int .i64 v).wf = true) (sum mxr page : Bool) (w : World) :
    Calls Try.prog 9 #[.agg cs, .int .u64 va, .int .i64 k, .int .i64 v, .bool sum, .bool mxr, .bool page] w fun e w' => e = .returned (.bool true) ∧ Below w.heap.size w w' := by
  obtain ⟨p, rfl⟩ := pte_of hc
  obtain ⟨a, rfl⟩ := u64_bv wv
  exact walkChecks_walk p a k v sum mxr page w
theorem walkMarked_cells (cs : Array Value) (hc : Flat.All2 leafP cs.toList) (k : Int) (wk : (Lit.int .i64 k).wf = true) (v : Int) (wp : (Lit.int .i64 v).wf = true) (sum mxr : Bool) (w : World) :
    Calls Try.prog 8 #[.agg cs, .int .i64 k, .int .i64 v, .bool sum, .bool mxr] w fun e w' => e = .returned (.bool true) ∧ Below w.heap.size w w' := by
  obtain ⟨p, rfl⟩ := pte_of hc
  exact walkMarked_walk p k v sum mxr w
theorem walkRights_cells (cs : Array Value) (hc : Flat.All2 leafP cs.toList) (m : Int) (wm : (Lit.int .u64 m).wf = true) (k : Int) (wk : (Lit.int .i64 k).wf = true) (v : Int) (wp : (Lit.int .i64 v).wf = true) (sum mxr : Bool) (w : World) :
    Calls Try.prog 7 #[.agg cs, .int .u64 m, .int .i64 k, .int .i64 v, .bool sum, .bool mxr] w fun e w' => e = .returned (.bool true) ∧ Below w.heap.size w w' := by
  obtain ⟨p, rfl⟩ := pte_of hc
  obtain ⟨a, rfl⟩ := u64_bv wm
  exact walkRights_walk p a k v sum mxr w _ _ _ rfl rfl rfl (rights_more p.entry a k v sum mxr) (rights_let p.entry k v sum mxr) (fun h => by rw [h]; exact rights_fetch p.entry v sum mxr)
end Go.Proofs.Ythjhcdkbajbpdaa
