/-
  No cell of these rows narrows 'for every input' (looked for: loops, veiled, ifaces, maps, wideKeys, modest, calm, conditions, laid).
  DERIVED. THE GIVEN ROWS OF THIS SEAT. 9 by the template 'for every input the law returns true; each argument reads behind the call as it read before'; 0 by the template 'total and deterministic' (their statements: YthijheijognhmaaTotals.lean).
  GIVEN WITH THE SEED: the statements are not yours to turn. If you find one false, say at which input.
  Laid BY PROGRAM, IN A SANDBOX (cutbox-rows.mjs): the forced cells as the released guide's own fill.sh prints them over the translation ca724803c97478e0… (all of the seat's roots in one cut). By AI agents, Wed Nov 11 2026. No macro, syntax, notation, axiom, sorry.
-/
import Derived.Test.YthijheijognhmaaChecked
import GoSem.Claim
import GoSem.ClaimJoined
import GoSem.ClaimMapViews
import Derived.JoinedTies
import Derived.KernelRfl
namespace Go.Proofs.Ythijheijognhmaa
/- THE CELL 'sum', in the pinned program and in every row, IS THE sha256 OF THE DUMP (.gsa) THAT YthijheijognhmaaProg.lean LOADS. Nothing in Lean hashes anything: it is a label: what it is worth is what the hold of that sum in a sandbox is worth. -/
noncomputable def Try.pinned : Pinned := { name := "ythijheijognhmaa", sum := "ca724803c97478e06b69b155333be8de6af7ae37f0f33c4a6832dbaa82a17ef4", checked := Try.checked }
namespace Rows
def none {H : Type} : Left H := { results := [], args := [] }

/-- 'tappetlaw08.TrapEnters': WHATEVER THE INPUT: true; the input reads as it did. -/
def trapEntersSpec : ChangeSpec := { name := "trapEnters", fn := fun _ => fun
  | [d1, d2, d3] => { results := [.lit (.bool true)], args := [d1, d2, d3] }
  | _ => none }
def trapEntersRow : OpenClaim := { program := "ythijheijognhmaa", sum := "ca724803c97478e06b69b155333be8de6af7ae37f0f33c4a6832dbaa82a17ef4", func := "tappet/tappetlaw08.TrapEnters", spec := "trapEnters", apart := false }
def TrapEntersSaid : Prop := trapEntersRow.holds Try.pinned (OpenSpec.ofChange trapEntersSpec)

/-- ITS FALSE NEIGHBOUR: 'it returns false'. Refute it at one input. -/
def trapEntersWrong : ChangeSpec := { name := "trapEnters", fn := fun _ => fun
  | [d1, d2, d3] => { results := [.lit (.bool false)], args := [d1, d2, d3] }
  | _ => none }
def TrapEntersWrongFalsely : Prop := trapEntersRow.holds Try.pinned (OpenSpec.ofChange trapEntersWrong)

/-- 'tappetlaw08.TrapWhere': WHATEVER THE INPUT: true; the input reads as it did. -/
def trapWhereSpec : ChangeSpec := { name := "trapWhere", fn := fun _ => fun
  | [d1, d2, d3, d4] => { results := [.lit (.bool true)], args := [d1, d2, d3, d4] }
  | _ => none }
def trapWhereRow : OpenClaim := { program := "ythijheijognhmaa", sum := "ca724803c97478e06b69b155333be8de6af7ae37f0f33c4a6832dbaa82a17ef4", func := "tappet/tappetlaw08.TrapWhere", spec := "trapWhere", apart := false }
def TrapWhereSaid : Prop := trapWhereRow.holds Try.pinned (OpenSpec.ofChange trapWhereSpec)

/-- ITS FALSE NEIGHBOUR: 'it returns false'. Refute it at one input. -/
def trapWhereWrong : ChangeSpec := { name := "trapWhere", fn := fun _ => fun
  | [d1, d2, d3, d4] => { results := [.lit (.bool false)], args := [d1, d2, d3, d4] }
  | _ => none }
def TrapWhereWrongFalsely : Prop := trapWhereRow.holds Try.pinned (OpenSpec.ofChange trapWhereWrong)

/-- 'tappetlaw06.AmoHolds': WHATEVER THE INPUT: true; the input reads as it did. -/
def amoHoldsSpec : ChangeSpec := { name := "amoHolds", fn := fun _ => fun
  | [d1, d2, d3] => { results := [.lit (.bool true)], args := [d1, d2, d3] }
  | _ => none }
def amoHoldsRow : OpenClaim := { program := "ythijheijognhmaa", sum := "ca724803c97478e06b69b155333be8de6af7ae37f0f33c4a6832dbaa82a17ef4", func := "tappet/tappetlaw06.AmoHolds", spec := "amoHolds", apart := false }
def AmoHoldsSaid : Prop := amoHoldsRow.holds Try.pinned (OpenSpec.ofChange amoHoldsSpec)

/-- ITS FALSE NEIGHBOUR: 'it returns false'. Refute it at one input. -/
def amoHoldsWrong : ChangeSpec := { name := "amoHolds", fn := fun _ => fun
  | [d1, d2, d3] => { results := [.lit (.bool false)], args := [d1, d2, d3] }
  | _ => none }
def AmoHoldsWrongFalsely : Prop := amoHoldsRow.holds Try.pinned (OpenSpec.ofChange amoHoldsWrong)

/-- 'tappetlaw08.TrapReturns': WHATEVER THE INPUT: true; the input reads as it did. -/
def trapReturnsSpec : ChangeSpec := { name := "trapReturns", fn := fun _ => fun
  | [d] => { results := [.lit (.bool true)], args := [d] }
  | _ => none }
def trapReturnsRow : OpenClaim := { program := "ythijheijognhmaa", sum := "ca724803c97478e06b69b155333be8de6af7ae37f0f33c4a6832dbaa82a17ef4", func := "tappet/tappetlaw08.TrapReturns", spec := "trapReturns", apart := false }
def TrapReturnsSaid : Prop := trapReturnsRow.holds Try.pinned (OpenSpec.ofChange trapReturnsSpec)

/-- ITS FALSE NEIGHBOUR: 'it returns false'. Refute it at one input. -/
def trapReturnsWrong : ChangeSpec := { name := "trapReturns", fn := fun _ => fun
  | [d] => { results := [.lit (.bool false)], args := [d] }
  | _ => none }
def TrapReturnsWrongFalsely : Prop := trapReturnsRow.holds Try.pinned (OpenSpec.ofChange trapReturnsWrong)

/-- 'tappetlaw08.TrapBack': WHATEVER THE INPUT: true; the input reads as it did. -/
def trapBackSpec : ChangeSpec := { name := "trapBack", fn := fun _ => fun
  | [d1, d2, d3] => { results := [.lit (.bool true)], args := [d1, d2, d3] }
  | _ => none }
def trapBackRow : OpenClaim := { program := "ythijheijognhmaa", sum := "ca724803c97478e06b69b155333be8de6af7ae37f0f33c4a6832dbaa82a17ef4", func := "tappet/tappetlaw08.TrapBack", spec := "trapBack", apart := false }
def TrapBackSaid : Prop := trapBackRow.holds Try.pinned (OpenSpec.ofChange trapBackSpec)

/-- ITS FALSE NEIGHBOUR: 'it returns false'. Refute it at one input. -/
def trapBackWrong : ChangeSpec := { name := "trapBack", fn := fun _ => fun
  | [d1, d2, d3] => { results := [.lit (.bool false)], args := [d1, d2, d3] }
  | _ => none }
def TrapBackWrongFalsely : Prop := trapBackRow.holds Try.pinned (OpenSpec.ofChange trapBackWrong)

/-- 'tappetlaw08.TrapOrder': WHATEVER THE INPUT: true; the input reads as it did. -/
def trapOrderSpec : ChangeSpec := { name := "trapOrder", fn := fun _ => fun
  | [d1, d2, d3] => { results := [.lit (.bool true)], args := [d1, d2, d3] }
  | _ => none }
def trapOrderRow : OpenClaim := { program := "ythijheijognhmaa", sum := "ca724803c97478e06b69b155333be8de6af7ae37f0f33c4a6832dbaa82a17ef4", func := "tappet/tappetlaw08.TrapOrder", spec := "trapOrder", unfollowed := true, recurses := true, apart := false }
def TrapOrderSaid : Prop := trapOrderRow.holds Try.pinned (OpenSpec.ofChange trapOrderSpec)

/-- ITS FALSE NEIGHBOUR: 'it returns false'. Refute it at one input. -/
def trapOrderWrong : ChangeSpec := { name := "trapOrder", fn := fun _ => fun
  | [d1, d2, d3] => { results := [.lit (.bool false)], args := [d1, d2, d3] }
  | _ => none }
def TrapOrderWrongFalsely : Prop := trapOrderRow.holds Try.pinned (OpenSpec.ofChange trapOrderWrong)

/-- 'tappetlaw08.TrapKeeps': WHATEVER THE INPUT: true; the input reads as it did. -/
def trapKeepsSpec : ChangeSpec := { name := "trapKeeps", fn := fun _ => fun
  | [d1, d2, d3] => { results := [.lit (.bool true)], args := [d1, d2, d3] }
  | _ => none }
def trapKeepsRow : OpenClaim := { program := "ythijheijognhmaa", sum := "ca724803c97478e06b69b155333be8de6af7ae37f0f33c4a6832dbaa82a17ef4", func := "tappet/tappetlaw08.TrapKeeps", spec := "trapKeeps", apart := false }
def TrapKeepsSaid : Prop := trapKeepsRow.holds Try.pinned (OpenSpec.ofChange trapKeepsSpec)

/-- ITS FALSE NEIGHBOUR: 'it returns false'. Refute it at one input. -/
def trapKeepsWrong : ChangeSpec := { name := "trapKeeps", fn := fun _ => fun
  | [d1, d2, d3] => { results := [.lit (.bool false)], args := [d1, d2, d3] }
  | _ => none }
def TrapKeepsWrongFalsely : Prop := trapKeepsRow.holds Try.pinned (OpenSpec.ofChange trapKeepsWrong)

/-- 'tappetlaw08.TrapNone': WHATEVER THE INPUT: true; the input reads as it did. -/
def trapNoneSpec : ChangeSpec := { name := "trapNone", fn := fun _ => fun
  | [d1, d2] => { results := [.lit (.bool true)], args := [d1, d2] }
  | _ => none }
def trapNoneRow : OpenClaim := { program := "ythijheijognhmaa", sum := "ca724803c97478e06b69b155333be8de6af7ae37f0f33c4a6832dbaa82a17ef4", func := "tappet/tappetlaw08.TrapNone", spec := "trapNone", apart := false }
def TrapNoneSaid : Prop := trapNoneRow.holds Try.pinned (OpenSpec.ofChange trapNoneSpec)

/-- ITS FALSE NEIGHBOUR: 'it returns false'. Refute it at one input. -/
def trapNoneWrong : ChangeSpec := { name := "trapNone", fn := fun _ => fun
  | [d1, d2] => { results := [.lit (.bool false)], args := [d1, d2] }
  | _ => none }
def TrapNoneWrongFalsely : Prop := trapNoneRow.holds Try.pinned (OpenSpec.ofChange trapNoneWrong)

/-- 'tappetlaw08.TrapSelects': WHATEVER THE INPUT: true; the input reads as it did. -/
def trapSelectsSpec : ChangeSpec := { name := "trapSelects", fn := fun _ => fun
  | [d1, d2, d3] => { results := [.lit (.bool true)], args := [d1, d2, d3] }
  | _ => none }
def trapSelectsRow : OpenClaim := { program := "ythijheijognhmaa", sum := "ca724803c97478e06b69b155333be8de6af7ae37f0f33c4a6832dbaa82a17ef4", func := "tappet/tappetlaw08.TrapSelects", spec := "trapSelects", apart := false }
def TrapSelectsSaid : Prop := trapSelectsRow.holds Try.pinned (OpenSpec.ofChange trapSelectsSpec)

/-- ITS FALSE NEIGHBOUR: 'it returns false'. Refute it at one input. -/
def trapSelectsWrong : ChangeSpec := { name := "trapSelects", fn := fun _ => fun
  | [d1, d2, d3] => { results := [.lit (.bool false)], args := [d1, d2, d3] }
  | _ => none }
def TrapSelectsWrongFalsely : Prop := trapSelectsRow.holds Try.pinned (OpenSpec.ofChange trapSelectsWrong)

/- THE SECOND FORM. 'bulk': how many values and letters a reading holds, each counted each time it is reached (what is shared counts as often as it is met; a slice's spare places count too). A statement '..UptoSaid' is the law's where the arguments, and the package variables that the reading takes, are together of bulk at most 1048576: NARROWER than '..Said'. Prove '..Said' where nothing that the law and all that it calls make is longer than what came in: it says more and counts as full. Else prove '..UptoSaid'. A law counts once. -/
mutual
def uptoBulk {H : Type} : DataW H → Nat
  | .lit (.string bytes) => bytes.length + 1
  | .lit _ => 1
  | .nil => 1
  | .ptr d => uptoBulk d + 1
  | .slice elems spare => uptoBulkAll elems + uptoBulkAll spare + 1
  | .agg parts => uptoBulkAll parts + 1
  | .iface _ d => uptoBulk d + 1
  | .map entries => uptoBulkEntries entries + 1
  | .held _ => 1
def uptoBulkAll {H : Type} : List (DataW H) → Nat
  | [] => 0
  | d :: r => uptoBulk d + uptoBulkAll r
def uptoBulkEntries {H : Type} : List (Lit × DataW H) → Nat
  | [] => 0
  | x :: r => uptoBulkEntry x + uptoBulkEntries r
def uptoBulkEntry {H : Type} : Lit × DataW H → Nat
  | (.string bytes, d) => bytes.length + uptoBulk d + 1
  | (_, d) => uptoBulk d + 1
 end
def uptoSmall : (H : Type) → List (DataW H) → Bool := fun _ ds => decide (uptoBulkAll ds ≤ 1048576)
def OpenSpec.upto (s : _root_.Go.ChangeSpec) : _root_.Go.OpenSpec := { _root_.Go.OpenSpec.ofChange s with cond := some uptoSmall }

/-- 'tappetlaw08.TrapEnters', WHERE WHAT IT READS IS OF BULK AT MOST 1048576: true; the input reads as it did. -/
def trapEntersUptoRow : OpenClaim := { program := "ythijheijognhmaa", sum := "ca724803c97478e06b69b155333be8de6af7ae37f0f33c4a6832dbaa82a17ef4", func := "tappet/tappetlaw08.TrapEnters", spec := "trapEnters", apart := false, narrowed := true }
def TrapEntersUptoSaid : Prop := trapEntersUptoRow.holds Try.pinned (OpenSpec.upto trapEntersSpec)

/-- 'tappetlaw08.TrapWhere', WHERE WHAT IT READS IS OF BULK AT MOST 1048576: true; the input reads as it did. -/
def trapWhereUptoRow : OpenClaim := { program := "ythijheijognhmaa", sum := "ca724803c97478e06b69b155333be8de6af7ae37f0f33c4a6832dbaa82a17ef4", func := "tappet/tappetlaw08.TrapWhere", spec := "trapWhere", apart := false, narrowed := true }
def TrapWhereUptoSaid : Prop := trapWhereUptoRow.holds Try.pinned (OpenSpec.upto trapWhereSpec)

/-- 'tappetlaw06.AmoHolds', WHERE WHAT IT READS IS OF BULK AT MOST 1048576: true; the input reads as it did. -/
def amoHoldsUptoRow : OpenClaim := { program := "ythijheijognhmaa", sum := "ca724803c97478e06b69b155333be8de6af7ae37f0f33c4a6832dbaa82a17ef4", func := "tappet/tappetlaw06.AmoHolds", spec := "amoHolds", apart := false, narrowed := true }
def AmoHoldsUptoSaid : Prop := amoHoldsUptoRow.holds Try.pinned (OpenSpec.upto amoHoldsSpec)

/-- 'tappetlaw08.TrapReturns', WHERE WHAT IT READS IS OF BULK AT MOST 1048576: true; the input reads as it did. -/
def trapReturnsUptoRow : OpenClaim := { program := "ythijheijognhmaa", sum := "ca724803c97478e06b69b155333be8de6af7ae37f0f33c4a6832dbaa82a17ef4", func := "tappet/tappetlaw08.TrapReturns", spec := "trapReturns", apart := false, narrowed := true }
def TrapReturnsUptoSaid : Prop := trapReturnsUptoRow.holds Try.pinned (OpenSpec.upto trapReturnsSpec)

/-- 'tappetlaw08.TrapBack', WHERE WHAT IT READS IS OF BULK AT MOST 1048576: true; the input reads as it did. -/
def trapBackUptoRow : OpenClaim := { program := "ythijheijognhmaa", sum := "ca724803c97478e06b69b155333be8de6af7ae37f0f33c4a6832dbaa82a17ef4", func := "tappet/tappetlaw08.TrapBack", spec := "trapBack", apart := false, narrowed := true }
def TrapBackUptoSaid : Prop := trapBackUptoRow.holds Try.pinned (OpenSpec.upto trapBackSpec)

/-- 'tappetlaw08.TrapOrder', WHERE WHAT IT READS IS OF BULK AT MOST 1048576: true; the input reads as it did. -/
def trapOrderUptoRow : OpenClaim := { program := "ythijheijognhmaa", sum := "ca724803c97478e06b69b155333be8de6af7ae37f0f33c4a6832dbaa82a17ef4", func := "tappet/tappetlaw08.TrapOrder", spec := "trapOrder", unfollowed := true, recurses := true, apart := false, narrowed := true }
def TrapOrderUptoSaid : Prop := trapOrderUptoRow.holds Try.pinned (OpenSpec.upto trapOrderSpec)

/-- 'tappetlaw08.TrapKeeps', WHERE WHAT IT READS IS OF BULK AT MOST 1048576: true; the input reads as it did. -/
def trapKeepsUptoRow : OpenClaim := { program := "ythijheijognhmaa", sum := "ca724803c97478e06b69b155333be8de6af7ae37f0f33c4a6832dbaa82a17ef4", func := "tappet/tappetlaw08.TrapKeeps", spec := "trapKeeps", apart := false, narrowed := true }
def TrapKeepsUptoSaid : Prop := trapKeepsUptoRow.holds Try.pinned (OpenSpec.upto trapKeepsSpec)

/-- 'tappetlaw08.TrapNone', WHERE WHAT IT READS IS OF BULK AT MOST 1048576: true; the input reads as it did. -/
def trapNoneUptoRow : OpenClaim := { program := "ythijheijognhmaa", sum := "ca724803c97478e06b69b155333be8de6af7ae37f0f33c4a6832dbaa82a17ef4", func := "tappet/tappetlaw08.TrapNone", spec := "trapNone", apart := false, narrowed := true }
def TrapNoneUptoSaid : Prop := trapNoneUptoRow.holds Try.pinned (OpenSpec.upto trapNoneSpec)

/-- 'tappetlaw08.TrapSelects', WHERE WHAT IT READS IS OF BULK AT MOST 1048576: true; the input reads as it did. -/
def trapSelectsUptoRow : OpenClaim := { program := "ythijheijognhmaa", sum := "ca724803c97478e06b69b155333be8de6af7ae37f0f33c4a6832dbaa82a17ef4", func := "tappet/tappetlaw08.TrapSelects", spec := "trapSelects", apart := false, narrowed := true }
def TrapSelectsUptoSaid : Prop := trapSelectsUptoRow.holds Try.pinned (OpenSpec.upto trapSelectsSpec)

end Rows
end Go.Proofs.Ythijheijognhmaa
