/- The document's Put: what it refuses; the whole contract. -/
import Derived.Test.YthjhcdkbajbpdaaRtlbPut
namespace Go.Proofs.Ythjhcdkbajbpdaa
open Go.RowKit Wd Pl
set_option linter.unusedVariables false
set_option linter.unusedSimpArgs false
set_option maxRecDepth 100000
theorem rput_bad (p q : Nat) (ws : List Wy) (st : Int) (va : BitVec 64) (f : Lf) (w : World) (h : Tb w 103 111 p q ws st) (hf : mayP va f = false) : Calls Try.prog 64 #[.pointer (some ⟨p, 0, none⟩), .int .u64 (va.toNat : Int), .agg (lfC f)] w fun e w' =>
    e = .returned (.int .i64 1) ∧ Below w.heap.size w w' := by
  obtain ⟨lv, p0, p1, p2, en⟩ := f
  unfold lfC
  clear h
  by_cases h0 : lv < 0
  · go_enter Try.func64, Try.ntmps64
    go_wp2_with fail
    go_ret
    exact ⟨rfl, (Below.refl _ _).alloc (Nat.le_refl _) _⟩
  have hn0 : decide (lv < 0) = false := decide_eq_false h0
  by_cases h2 : 2 < lv
  · clear hf
    go_enter Try.func64, Try.ntmps64
    go_wp2_with fail
    go_ret
    exact ⟨rfl, (Below.refl _ _).alloc (Nat.le_refl _) _⟩
  have hn2 : decide (2 < lv) = false := decide_eq_false h2
  have hpr : properB va = false := by
    unfold mayP at hf
    simp only at hf
    rw [decide_eq_true (show 0 ≤ lv by omega), decide_eq_true (show lv ≤ 2 by omega)] at hf
    simpa using hf
  have cP := Lib.hid (tright_any va)
  rw [hpr] at cP
  clear hf hpr
  go_enter Try.func64, Try.ntmps64
  go_wp2_with fail
  refine (cP.out _).mono ?_
  rintro e w1 ⟨rfl, hq1⟩
  go_wp2_with fail
  go_ret
  exact ⟨rfl, ((Below.refl _ _).alloc (Nat.le_refl _) _).trans (hq1.below _)⟩
theorem rput_any (p q : Nat) (ws : List Wy) (st : Int) (va : BitVec 64) (f : Lf) (w : World) (h : Tb w 103 111 p q ws st) : Calls Try.prog 64 #[.pointer (some ⟨p, 0, none⟩), .int .u64 (va.toNat : Int), .agg (lfC f)] w fun e w' =>
    e = .returned (.int .i64 (if mayP va f = true then 0 else 1)) ∧ Tb w' 103 111 p q (putWs ws st va f) (putSt ws st va f) ∧ Only [p, q] w w' := by
  unfold putWs putSt
  cases hf : mayP va f with
  | true => exact rput_ok p q ws st va f w h hf
  | false =>
    refine (rput_bad p q ws st va f w h hf).mono ?_
    rintro e w' ⟨he, hb⟩
    exact ⟨he, h.below hb, only_below hb _⟩
end Go.Proofs.Ythjhcdkbajbpdaa
