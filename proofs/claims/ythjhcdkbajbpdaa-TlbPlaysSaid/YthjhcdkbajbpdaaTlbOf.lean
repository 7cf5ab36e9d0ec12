/- Contract: is a way's entry of an address. -/
import Derived.Test.YthjhcdkbajbpdaaTlbSmall
import Derived.Test.YthjhcdkbajbpdaaCells
import Derived.BigQuiet
namespace Go.Proofs.Ythjhcdkbajbpdaa
open Go.RowKit Wd
set_option linter.unusedVariables false
set_option linter.unusedSimpArgs false
namespace Wd
/-- A way of a TLB: whether it has an entry; the entry. -/
structure Wy where
  is : Bool
  vpn : BitVec 64
  lv : Int
  p0 : Int
  p1 : Int
  p2 : Int
  en : Int
def wyC (y : Wy) : List Value := [.bool y.is, .int .u64 (y.vpn.toNat : Int), .int .i64 y.lv, .int .u64 y.p0, .int .u64 y.p1, .int .u64 y.p2, .int .u64 y.en]
def ofB (y : Wy) (va : BitVec 64) : Bool := y.is && properB va && (vpnW va y.lv.toNat == y.vpn)
end Wd
theorem of_any (y : Wy) (va : BitVec 64) (hl : y.is = true → 0 ≤ y.lv ∧ y.lv ≤ 2) : Mk Try.prog 80 #[.agg (wyC y).toArray, .int .u64 (va.toNat : Int)] (.bool (ofB y va)) := by
  intro w
  obtain ⟨is, vpn, lv, p0, p1, p2, en⟩ := y
  unfold ofB wyC
  simp only at hl ⊢
  have c1 := proper_any va
  have bx := Box.new w [.bool is, .int .u64 (vpn.toNat : Int), .int .i64 lv, .int .u64 p0, .int .u64 p1, .int .u64 p2, .int .u64 en] 99
  have x0 := bx.get (k := 0) rfl
  have x1 := bx.get (k := 1) rfl
  have x2 := bx.get (k := 2) rfl
  clear bx
  cases is with
  | false =>
    go_enter Try.func80, Try.ntmps80
    go_wp2_with fail
    go_quiet (fail)
    go_wp2
    go_ret
    exact ⟨rfl, ((Below.refl _ _).alloc (Nat.le_refl _) _).trans ((Quiet.refl _).drewN _ |>.below _)⟩
  | true =>
    obtain ⟨l, rfl⟩ : ∃ l : Nat, lv = (l : Int) := ⟨lv.toNat, by have := hl rfl; omega⟩
    have c2 := vpn_any va l (by have := hl rfl; omega)
    rw [show ((l : Int)).toNat = l from rfl]
    generalize vpnW va l = V at c2 ⊢
    generalize properB va = pb at c1 ⊢
    cases pb with
    | false =>
      go_enter Try.func80, Try.ntmps80
      go_wp2_with fail
      go_quiet ((go_at_call 61; exact c1.quiet))
      go_wp2
      go_ret
      exact ⟨rfl, ((Below.refl _ _).alloc (Nat.le_refl _) _).trans ((Quiet.refl _).drewN _ |>.below _)⟩
    | true =>
      go_enter Try.func80, Try.ntmps80
      go_wp2_with fail
      go_quiet ((first
        | (go_at_call 61; exact c1.quiet)
        | (go_at_call 63; exact c2.quiet)))
      go_wp2
      go_ret
      exact ⟨ret_bool (by rw [eq64]; simp), ((Below.refl _ _).alloc (Nat.le_refl _) _).trans ((Quiet.refl _).drewN _ |>.below _)⟩
end Go.Proofs.Ythjhcdkbajbpdaa
