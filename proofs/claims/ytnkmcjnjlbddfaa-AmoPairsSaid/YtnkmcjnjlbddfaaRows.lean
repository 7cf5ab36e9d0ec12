/-
  No cell of these rows narrows 'for every input' (looked for: loops, veiled, ifaces, maps, wideKeys, modest, calm, conditions, laid).
  DERIVED. THE GIVEN ROWS OF THIS SEAT. 6 by the template 'for every input the law returns true; each argument reads behind the call as it read before'; 0 by the template 'total and deterministic' (their statements: YtnkmcjnjlbddfaaTotals.lean).
  GIVEN WITH THE SEED: the statements are not yours to turn. If you find one false, say at which input.
  Laid BY PROGRAM, IN A SANDBOX (cutbox-rows.mjs): the forced cells as the released guide's own fill.sh prints them over the translation e5bc7d1d0d492e18… (all of the seat's roots in one cut). By AI agents, Wed Nov 11 2026. No macro, syntax, notation, axiom, sorry.
-/
import Derived.Test.YtnkmcjnjlbddfaaChecked
import GoSem.Claim
import GoSem.ClaimJoined
import GoSem.ClaimMapViews
import Derived.JoinedTies
import Derived.KernelRfl
namespace Go.Proofs.Ytnkmcjnjlbddfaa
/- THE CELL 'sum', in the pinned program and in every row, IS THE sha256 OF THE DUMP (.gsa) THAT YtnkmcjnjlbddfaaProg.lean LOADS. Nothing in Lean hashes anything: it is a label: what it is worth is what the hold of that sum in a sandbox is worth. -/
noncomputable def Try.pinned : Pinned := { name := "ytnkmcjnjlbddfaa", sum := "e5bc7d1d0d492e188a2cb2986d088aaab00fada3fb7a169ecf6b38193f3d5897", checked := Try.checked }
namespace Rows
def none {H : Type} : Left H := { results := [], args := [] }

/-- 'tappetlaw06.AmoMakes': WHATEVER THE INPUT: true; the input reads as it did. -/
def amoMakesSpec : ChangeSpec := { name := "amoMakes", fn := fun _ => fun
  | [d1, d2, d3, d4] => { results := [.lit (.bool true)], args := [d1, d2, d3, d4] }
  | _ => none }
def amoMakesRow : OpenClaim := { program := "ytnkmcjnjlbddfaa", sum := "e5bc7d1d0d492e188a2cb2986d088aaab00fada3fb7a169ecf6b38193f3d5897", func := "tappet/tappetlaw06.AmoMakes", spec := "amoMakes", apart := false }
def AmoMakesSaid : Prop := amoMakesRow.holds Try.pinned (OpenSpec.ofChange amoMakesSpec)

/-- ITS FALSE NEIGHBOUR: 'it returns false'. Refute it at one input. -/
def amoMakesWrong : ChangeSpec := { name := "amoMakes", fn := fun _ => fun
  | [d1, d2, d3, d4] => { results := [.lit (.bool false)], args := [d1, d2, d3, d4] }
  | _ => none }
def AmoMakesWrongFalsely : Prop := amoMakesRow.holds Try.pinned (OpenSpec.ofChange amoMakesWrong)

/-- 'tappetlaw06.AmoHolds': WHATEVER THE INPUT: true; the input reads as it did. -/
def amoHoldsSpec : ChangeSpec := { name := "amoHolds", fn := fun _ => fun
  | [d1, d2, d3] => { results := [.lit (.bool true)], args := [d1, d2, d3] }
  | _ => none }
def amoHoldsRow : OpenClaim := { program := "ytnkmcjnjlbddfaa", sum := "e5bc7d1d0d492e188a2cb2986d088aaab00fada3fb7a169ecf6b38193f3d5897", func := "tappet/tappetlaw06.AmoHolds", spec := "amoHolds", apart := false }
def AmoHoldsSaid : Prop := amoHoldsRow.holds Try.pinned (OpenSpec.ofChange amoHoldsSpec)

/-- ITS FALSE NEIGHBOUR: 'it returns false'. Refute it at one input. -/
def amoHoldsWrong : ChangeSpec := { name := "amoHolds", fn := fun _ => fun
  | [d1, d2, d3] => { results := [.lit (.bool false)], args := [d1, d2, d3] }
  | _ => none }
def AmoHoldsWrongFalsely : Prop := amoHoldsRow.holds Try.pinned (OpenSpec.ofChange amoHoldsWrong)

/-- 'tappetlaw06.AmoExtends': WHATEVER THE INPUT: true; the input reads as it did. -/
def amoExtendsSpec : ChangeSpec := { name := "amoExtends", fn := fun _ => fun
  | [d1, d2, d3] => { results := [.lit (.bool true)], args := [d1, d2, d3] }
  | _ => none }
def amoExtendsRow : OpenClaim := { program := "ytnkmcjnjlbddfaa", sum := "e5bc7d1d0d492e188a2cb2986d088aaab00fada3fb7a169ecf6b38193f3d5897", func := "tappet/tappetlaw06.AmoExtends", spec := "amoExtends", apart := false }
def AmoExtendsSaid : Prop := amoExtendsRow.holds Try.pinned (OpenSpec.ofChange amoExtendsSpec)

/-- ITS FALSE NEIGHBOUR: 'it returns false'. Refute it at one input. -/
def amoExtendsWrong : ChangeSpec := { name := "amoExtends", fn := fun _ => fun
  | [d1, d2, d3] => { results := [.lit (.bool false)], args := [d1, d2, d3] }
  | _ => none }
def AmoExtendsWrongFalsely : Prop := amoExtendsRow.holds Try.pinned (OpenSpec.ofChange amoExtendsWrong)

/-- 'tappetlaw06.AmoPairs': WHATEVER THE INPUT: true; the input reads as it did. -/
def amoPairsSpec : ChangeSpec := { name := "amoPairs", fn := fun _ => fun
  | [d1, d2, d3] => { results := [.lit (.bool true)], args := [d1, d2, d3] }
  | _ => none }
def amoPairsRow : OpenClaim := { program := "ytnkmcjnjlbddfaa", sum := "e5bc7d1d0d492e188a2cb2986d088aaab00fada3fb7a169ecf6b38193f3d5897", func := "tappet/tappetlaw06.AmoPairs", spec := "amoPairs", unfollowed := true, recurses := true, apart := false }
def AmoPairsSaid : Prop := amoPairsRow.holds Try.pinned (OpenSpec.ofChange amoPairsSpec)

/-- ITS FALSE NEIGHBOUR: 'it returns false'. Refute it at one input. -/
def amoPairsWrong : ChangeSpec := { name := "amoPairs", fn := fun _ => fun
  | [d1, d2, d3] => { results := [.lit (.bool false)], args := [d1, d2, d3] }
  | _ => none }
def AmoPairsWrongFalsely : Prop := amoPairsRow.holds Try.pinned (OpenSpec.ofChange amoPairsWrong)

/-- 'tappetlaw06.AmoOrders': WHATEVER THE INPUT: true; the input reads as it did. -/
def amoOrdersSpec : ChangeSpec := { name := "amoOrders", fn := fun _ => fun
  | [d1, d2, d3, d4] => { results := [.lit (.bool true)], args := [d1, d2, d3, d4] }
  | _ => none }
def amoOrdersRow : OpenClaim := { program := "ytnkmcjnjlbddfaa", sum := "e5bc7d1d0d492e188a2cb2986d088aaab00fada3fb7a169ecf6b38193f3d5897", func := "tappet/tappetlaw06.AmoOrders", spec := "amoOrders", apart := false }
def AmoOrdersSaid : Prop := amoOrdersRow.holds Try.pinned (OpenSpec.ofChange amoOrdersSpec)

/-- ITS FALSE NEIGHBOUR: 'it returns false'. Refute it at one input. -/
def amoOrdersWrong : ChangeSpec := { name := "amoOrders", fn := fun _ => fun
  | [d1, d2, d3, d4] => { results := [.lit (.bool false)], args := [d1, d2, d3, d4] }
  | _ => none }
def AmoOrdersWrongFalsely : Prop := amoOrdersRow.holds Try.pinned (OpenSpec.ofChange amoOrdersWrong)

/-- 'tappetlaw06.AmoLoads': WHATEVER THE INPUT: true; the input reads as it did. -/
def amoLoadsSpec : ChangeSpec := { name := "amoLoads", fn := fun _ => fun
  | [d1, d2] => { results := [.lit (.bool true)], args := [d1, d2] }
  | _ => none }
def amoLoadsRow : OpenClaim := { program := "ytnkmcjnjlbddfaa", sum := "e5bc7d1d0d492e188a2cb2986d088aaab00fada3fb7a169ecf6b38193f3d5897", func := "tappet/tappetlaw06.AmoLoads", spec := "amoLoads", apart := false }
def AmoLoadsSaid : Prop := amoLoadsRow.holds Try.pinned (OpenSpec.ofChange amoLoadsSpec)

/-- ITS FALSE NEIGHBOUR: 'it returns false'. Refute it at one input. -/
def amoLoadsWrong : ChangeSpec := { name := "amoLoads", fn := fun _ => fun
  | [d1, d2] => { results := [.lit (.bool false)], args := [d1, d2] }
  | _ => none }
def AmoLoadsWrongFalsely : Prop := amoLoadsRow.holds Try.pinned (OpenSpec.ofChange amoLoadsWrong)

/- THE SECOND FORM. 'bulk': how many values and letters a reading holds, each counted each time it is reached (what is shared counts as often as it is met; a slice's spare places count too). A statement '..UptoSaid' is the law's where the arguments, and the package variables that the reading takes, are together of bulk at most 1048576: NARROWER than '..Said'. Prove '..Said' where nothing that the law and all that it calls make is longer than what came in: it says more and counts as full. Else prove '..UptoSaid'. A law counts once. -/
mutual
def uptoBulk {H : Type} : DataW H → Nat
  | .lit (.string bytes) => bytes.length + 1
  | .lit _ => 1
  | .nil => 1
  | .ptr d => uptoBulk d + 1
  | .slice elems spare => uptoBulkAll elems + uptoBulkAll spare + 1
  | .agg parts => uptoBulkAll parts + 1
  | .iface _ d => uptoBulk d + 1
  | .map entries => uptoBulkEntries entries + 1
  | .held _ => 1
def uptoBulkAll {H : Type} : List (DataW H) → Nat
  | [] => 0
  | d :: r => uptoBulk d + uptoBulkAll r
def uptoBulkEntries {H : Type} : List (Lit × DataW H) → Nat
  | [] => 0
  | x :: r => uptoBulkEntry x + uptoBulkEntries r
def uptoBulkEntry {H : Type} : Lit × DataW H → Nat
  | (.string bytes, d) => bytes.length + uptoBulk d + 1
  | (_, d) => uptoBulk d + 1
 end
def uptoSmall : (H : Type) → List (DataW H) → Bool := fun _ ds => decide (uptoBulkAll ds ≤ 1048576)
def OpenSpec.upto (s : _root_.Go.ChangeSpec) : _root_.Go.OpenSpec := { _root_.Go.OpenSpec.ofChange s with cond := some uptoSmall }

/-- 'tappetlaw06.AmoMakes', WHERE WHAT IT READS IS OF BULK AT MOST 1048576: true; the input reads as it did. -/
def amoMakesUptoRow : OpenClaim := { program := "ytnkmcjnjlbddfaa", sum := "e5bc7d1d0d492e188a2cb2986d088aaab00fada3fb7a169ecf6b38193f3d5897", func := "tappet/tappetlaw06.AmoMakes", spec := "amoMakes", apart := false, narrowed := true }
def AmoMakesUptoSaid : Prop := amoMakesUptoRow.holds Try.pinned (OpenSpec.upto amoMakesSpec)

/-- 'tappetlaw06.AmoHolds', WHERE WHAT IT READS IS OF BULK AT MOST 1048576: true; the input reads as it did. -/
def amoHoldsUptoRow : OpenClaim := { program := "ytnkmcjnjlbddfaa", sum := "e5bc7d1d0d492e188a2cb2986d088aaab00fada3fb7a169ecf6b38193f3d5897", func := "tappet/tappetlaw06.AmoHolds", spec := "amoHolds", apart := false, narrowed := true }
def AmoHoldsUptoSaid : Prop := amoHoldsUptoRow.holds Try.pinned (OpenSpec.upto amoHoldsSpec)

/-- 'tappetlaw06.AmoExtends', WHERE WHAT IT READS IS OF BULK AT MOST 1048576: true; the input reads as it did. -/
def amoExtendsUptoRow : OpenClaim := { program := "ytnkmcjnjlbddfaa", sum := "e5bc7d1d0d492e188a2cb2986d088aaab00fada3fb7a169ecf6b38193f3d5897", func := "tappet/tappetlaw06.AmoExtends", spec := "amoExtends", apart := false, narrowed := true }
def AmoExtendsUptoSaid : Prop := amoExtendsUptoRow.holds Try.pinned (OpenSpec.upto amoExtendsSpec)

/-- 'tappetlaw06.AmoPairs', WHERE WHAT IT READS IS OF BULK AT MOST 1048576: true; the input reads as it did. -/
def amoPairsUptoRow : OpenClaim := { program := "ytnkmcjnjlbddfaa", sum := "e5bc7d1d0d492e188a2cb2986d088aaab00fada3fb7a169ecf6b38193f3d5897", func := "tappet/tappetlaw06.AmoPairs", spec := "amoPairs", unfollowed := true, recurses := true, apart := false, narrowed := true }
def AmoPairsUptoSaid : Prop := amoPairsUptoRow.holds Try.pinned (OpenSpec.upto amoPairsSpec)

/-- 'tappetlaw06.AmoOrders', WHERE WHAT IT READS IS OF BULK AT MOST 1048576: true; the input reads as it did. -/
def amoOrdersUptoRow : OpenClaim := { program := "ytnkmcjnjlbddfaa", sum := "e5bc7d1d0d492e188a2cb2986d088aaab00fada3fb7a169ecf6b38193f3d5897", func := "tappet/tappetlaw06.AmoOrders", spec := "amoOrders", apart := false, narrowed := true }
def AmoOrdersUptoSaid : Prop := amoOrdersUptoRow.holds Try.pinned (OpenSpec.upto amoOrdersSpec)

/-- 'tappetlaw06.AmoLoads', WHERE WHAT IT READS IS OF BULK AT MOST 1048576: true; the input reads as it did. -/
def amoLoadsUptoRow : OpenClaim := { program := "ytnkmcjnjlbddfaa", sum := "e5bc7d1d0d492e188a2cb2986d088aaab00fada3fb7a169ecf6b38193f3d5897", func := "tappet/tappetlaw06.AmoLoads", spec := "amoLoads", apart := false, narrowed := true }
def AmoLoadsUptoSaid : Prop := amoLoadsUptoRow.holds Try.pinned (OpenSpec.upto amoLoadsSpec)

end Rows
end Go.Proofs.Ytnkmcjnjlbddfaa
