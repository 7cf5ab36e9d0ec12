/- Contracts' forms: a call that computes a value and only draws (Qt), or makes new memory besides (Mk); how such contracts are met in a walk. -/
import Derived.WalkKit
import Derived.ProofKit
import Derived.OpenShut
import Derived.Lib.Hide
import Derived.BigQuiet
import Derived.Deep.QuietTactic
import Derived.Test.YthjhcdkbajbpdaaChecked
import Derived.Test.YthjhcdkbajbpdaaWord
namespace Go.Proofs.Ythjhcdkbajbpdaa
open Go.RowKit

/-- The world has at most drawn. -/
def Quiet (w w' : World) : Prop := ∃ n, w' = w.drewN n
theorem Quiet.refl (w : World) : Quiet w w := ⟨0, rfl⟩
theorem Quiet.trans {a b c : World} (h : Quiet a b) (k : Quiet b c) : Quiet a c := by
  obtain ⟨n, rfl⟩ := h
  obtain ⟨m, rfl⟩ := k
  exact ⟨n + m, by rw [World.drewN_drewN]⟩
theorem Quiet.drewN {a b : World} (h : Quiet a b) (n : Nat) : Quiet a (b.drewN n) := h.trans ⟨n, rfl⟩
theorem Quiet.drew {a b : World} (h : Quiet a b) : Quiet a b.drew := h.trans ⟨1, rfl⟩
theorem below_drewN {B : Nat} {a w : World} (h : Below B a w) (n : Nat) : Below B a (w.drewN n) := ⟨h.os, h.tape, h.output, h.size, h.block⟩
theorem grown_drewN {a w : World} (h : Grown a w) (n : Nat) : Grown a (w.drewN n) := h
theorem Quiet.below {a b : World} (h : Quiet a b) (B : Nat) : Below B a b := by
  obtain ⟨n, rfl⟩ := h
  exact below_drewN (Below.refl _ _) n
theorem Quiet.grown {a b : World} (h : Quiet a b) : Grown a b := by
  obtain ⟨n, rfl⟩ := h
  exact grown_drewN (Grown.refl _) n

theorem Quiet.owns {a b : World} (h : Quiet a b) {base : Nat} {e : TypeId} {size n : Nat} {v : Value} {xs : List Value} (k : a.ownsRow base e size v n xs) : b.ownsRow base e size v n xs := by
  obtain ⟨m, rfl⟩ := h
  exact k
theorem Quiet.cell {a b : World} (h : Quiet a b) (p : Addr) : b.cell? p = a.cell? p := by
  obtain ⟨m, rfl⟩ := h
  rfl
theorem Quiet.size {a b : World} (h : Quiet a b) : b.heap.size = a.heap.size := by
  obtain ⟨m, rfl⟩ := h
  rfl
theorem Quiet.heap {a b : World} (h : Quiet a b) : b.heap = a.heap := by
  obtain ⟨m, rfl⟩ := h
  rfl

/-- Function f, at these arguments, in whatever world, hands back v; the world has at most drawn. -/
def Qt (P : Program) (f : FuncId) (args : Array Value) (v : Value) : Prop := ∀ w, Calls P f args w fun e w' => e = .returned v ∧ Quiet w w'
theorem Qt.quiet {P : Program} {f : FuncId} {args : Array Value} {v : Value} (h : Qt P f args v) {w : World} {n : Nat} :
    Calls P f args (w.drewN n) fun e w'' => e = .returned v ∧ ∃ m, w'' = w.drewN m :=
  (h (w.drewN n)).mono fun _ _ ⟨he, m, hm⟩ => ⟨he, n + m, by rw [hm, World.drewN_drewN]⟩
theorem Qt.quiet2 {P : Program} {f : FuncId} {args : Array Value} {v : Value} (h : Qt P f args v) {w : World} {a n : Nat} :
    Calls P f args (w.drewN (a + n)) fun e w'' => e = .returned v ∧ ∃ m, w'' = w.drewN (a + m) :=
  (h (w.drewN (a + n))).mono fun _ _ ⟨he, m, hm⟩ => ⟨he, n + m, by rw [hm, World.drewN_drewN, Nat.add_assoc]⟩

theorem Qt.at {P : Program} {f : FuncId} {args : Array Value} {v : Value} (h : Qt P f args v) {w0 w : World} (hq : Quiet w0 w) :
    Calls P f args w fun e w' => e = .returned v ∧ Quiet w0 w' :=
  (h w).mono fun _ _ ⟨he, k⟩ => ⟨he, hq.trans k⟩

/-- Function f, at these arguments, in whatever world, hands back v; it has at most made new memory. -/
def Mk (P : Program) (f : FuncId) (args : Array Value) (v : Value) : Prop := ∀ w : World, Calls P f args w fun e w' => e = .returned v ∧ Below w.heap.size w w'
theorem Mk.at {P : Program} {f : FuncId} {args : Array Value} {v : Value} (h : Mk P f args v) {w0 w : World} (hb : Below w0.heap.size w0 w) :
    Calls P f args w fun e w' => e = .returned v ∧ Below w0.heap.size w0 w' :=
  (h w).mono fun _ _ ⟨he, k⟩ => ⟨he, hb.trans (k.mono hb.size)⟩
theorem Qt.mk {P : Program} {f : FuncId} {args : Array Value} {v : Value} (h : Qt P f args v) : Mk P f args v := fun w => (h w).mono fun _ _ ⟨he, k⟩ => ⟨he, k.below _⟩

theorem ret_int {k : IntKind} {a b : Int} (h : a = b) : Ending.returned (.int k a) = .returned (.int k b) := by rw [h]
theorem ret_bool {a b : Bool} (h : a = b) : Ending.returned (.bool a) = .returned (.bool b) := by rw [h]
theorem val_int {k : IntKind} {a b : Int} (h : a = b) : Value.int k a = .int k b := by rw [h]
theorem ret_two {a b c d : Value} (h : a = c) (k : b = d) : Ending.returned (.tuple #[a, b]) = .returned (.tuple #[c, d]) := by rw [h, k]

/-- What a number that fits its kind is. -/
theorem u64_bv {a : Int} (h : (Lit.int .u64 a).wf = true) : ∃ v : BitVec 64, a = (v.toNat : Int) := by
  simp [Lit.wf, IntKind.min, IntKind.max, IntKind.signed, IntKind.bits] at h
  refine ⟨BitVec.ofInt 64 a, ?_⟩
  rw [BitVec.toNat_ofInt]
  omega
theorem u32_bv {a : Int} (h : (Lit.int .u32 a).wf = true) : ∃ v : BitVec 32, a = (v.toNat : Int) := by
  simp [Lit.wf, IntKind.min, IntKind.max, IntKind.signed, IntKind.bits] at h
  refine ⟨BitVec.ofInt 32 a, ?_⟩
  rw [BitVec.toNat_ofInt]
  omega
theorem i64_bd {a : Int} (h : (Lit.int .i64 a).wf = true) : -9223372036854775808 ≤ a ∧ a ≤ 9223372036854775807 := by
  simp [Lit.wf, IntKind.min, IntKind.max, IntKind.signed, IntKind.bits] at h
  omega
end Go.Proofs.Ythjhcdkbajbpdaa
