/- The law WalkSuper, walked: each call answers true. -/
import Derived.Test.YthjhcdkbajbpdaaWalkLaws2
import Derived.Test.YthjhcdkbajbpdaaWalkSuperPlain
namespace Go.Proofs.Ythjhcdkbajbpdaa
open Go.RowKit Wd
set_option linter.unusedVariables false
set_option linter.unusedSimpArgs false
set_option maxRecDepth 8000
namespace Wd
theorem shl_10 (v : BitVec 64) : IntKind.u64.wrap ((v.toNat : Int) * 1024) = ((shlW v 10).toNat : Int) := shl_L v 10 _ (by decide)
end Wd
attribute [local go_sem] and_L or_L clr_L shl_10 shl_12 sub_L
/-- What is kept of the law's reader: two variables. -/
def RdS (n0 bk bl : Nat) (k : Int) (q : BitVec 64) (w : World) (g : Option Nat) (xs : List (BitVec 64)) : Prop :=
  bk < n0 ∧ bl < n0 ∧ n0 ≤ w.heap.size ∧ w.heap[bk]? = some (.cells #[.int .i64 k] 3 (0, 0)) ∧ w.heap[bl]? = some (.cells #[.int .u64 ((leafS q).toNat : Int)] 22 (0, 0))
set_option maxHeartbeats 4000000 in
theorem readerS_call (bk bl : Nat) (k : Int) (q pa : BitVec 64) (w : World) (hk : k = 1 ∨ k = 2) (hk1 : w.heap[bk]? = some (.cells #[.int .i64 k] 3 (0, 0))) (hl1 : w.heap[bl]? = some (.cells #[.int .u64 ((leafS q).toNat : Int)] 22 (0, 0))) :
    Calls Try.prog 20 #[.int .u64 (pa.toNat : Int), .pointer (some ⟨bk, 0, none⟩), .pointer (some ⟨bl, 0, none⟩)] w fun e w' =>
      e = .returned (.tuple #[.int .u64 ((lookS k q pa).1.toNat : Int), .bool (lookS k q pa).2]) ∧ w' = w := by
  have ck : w.cell? ⟨bk, 0, none⟩ = some (.int .i64 k) := cell_of_row w _ 0 _ _ (0, 0) hk1
  have cl : w.cell? ⟨bl, 0, none⟩ = some (.int .u64 ((leafS q).toNat : Int)) := cell_of_row w _ 0 _ _ (0, 0) hl1
  clear hk1 hl1
  rcases hk with rfl | rfl
  · by_cases hp : (pa.toNat : Int) < 8192
    · have hL := Lib.hid (show lookS 1 q pa = (2049#64, true) by unfold lookS; rw [if_pos ⟨rfl, by omega⟩])
      go_enter Try.func20, Try.ntmps20
      go_wp2_with fail
      go_ret2
      exact ⟨by rw [hL.out]; rfl, rfl⟩
    · have hL := Lib.hid (show lookS 1 q pa = (leafS q, true) by unfold lookS; rw [if_neg (by omega)])
      go_enter Try.func20, Try.ntmps20
      go_wp2_with fail
      go_ret2
      exact ⟨by rw [hL.out]; rfl, rfl⟩
  · have hL := Lib.hid (show lookS 2 q pa = (leafS q, true) by unfold lookS; rw [if_neg (by omega)])
    go_enter Try.func20, Try.ntmps20
    go_wp2_with fail
    go_ret2
    exact ⟨by rw [hL.out]; rfl, rfl⟩
theorem readerS_ok (n0 bk bl : Nat) (k : Int) (q : BitVec 64) (hk : k = 1 ∨ k = 2) : ReaderOk 20 (.pointer (some ⟨bk, 0, none⟩)) (.pointer (some ⟨bl, 0, none⟩)) (lookS k q) none n0 (RdS n0 bk bl k q) where
  call w g xs pa h _ _ := by
    obtain ⟨h1, h2, h3, h4, h5⟩ := h
    refine (readerS_call bk bl k q pa w hk h4 h5).mono ?_
    rintro e w' ⟨he, rfl⟩
    exact ⟨he, g, ⟨h1, h2, h3, h4, h5⟩, Newer.refl _ _, Apart.refl _ _ _⟩
  keep w w' g xs h _ _ _ hs hh := by
    obtain ⟨h1, h2, h3, h4, h5⟩ := h
    exact ⟨h1, h2, by omega, by rw [hh _ (.inl h1)]; exact h4, by rw [hh _ (.inl h2)]; exact h5⟩
  old b hb := by simp at hb
  ent a b c w := by kernel_rfl
end Go.Proofs.Ythjhcdkbajbpdaa
