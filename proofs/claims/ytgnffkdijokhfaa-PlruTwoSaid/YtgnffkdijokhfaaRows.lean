/-
  No cell of these rows narrows 'for every input' (looked for: loops, veiled, ifaces, maps, wideKeys, modest, calm, conditions, laid).
  DERIVED. THE GIVEN ROWS OF THIS SEAT. 4 by the template 'for every input the law returns true; each argument reads behind the call as it read before'; 0 by the template 'total and deterministic' (their statements: YtgnffkdijokhfaaTotals.lean).
  GIVEN WITH THE SEED: the statements are not yours to turn. If you find one false, say at which input.
  Laid BY PROGRAM, IN A SANDBOX (cutbox-rows.mjs): the forced cells as the released guide's own fill.sh prints them over the translation 3464f92df93ecd8d… (all of the seat's roots in one cut). By AI agents, Wed Nov 11 2026. No macro, syntax, notation, axiom, sorry.
-/
import Derived.Test.YtgnffkdijokhfaaChecked
import GoSem.Claim
import GoSem.ClaimJoined
import GoSem.ClaimMapViews
import Derived.JoinedTies
import Derived.KernelRfl
namespace Go.Proofs.Ytgnffkdijokhfaa
/- THE CELL 'sum', in the pinned program and in every row, IS THE sha256 OF THE DUMP (.gsa) THAT YtgnffkdijokhfaaProg.lean LOADS. Nothing in Lean hashes anything: it is a label: what it is worth is what the hold of that sum in a sandbox is worth. -/
noncomputable def Try.pinned : Pinned := { name := "ytgnffkdijokhfaa", sum := "3464f92df93ecd8d3f6544cbcdcde1b01f420ff8e79c87b0867a22a52c8b5804", checked := Try.checked }
namespace Rows
def none {H : Type} : Left H := { results := [], args := [] }

/-- 'tappetlaw15.PlruTells': WHATEVER THE INPUT: true; the input reads as it did. -/
def plruTellsSpec : ChangeSpec := { name := "plruTells", fn := fun _ => fun
  | [d1, d2, d3] => { results := [.lit (.bool true)], args := [d1, d2, d3] }
  | _ => none }
def plruTellsRow : OpenClaim := { program := "ytgnffkdijokhfaa", sum := "3464f92df93ecd8d3f6544cbcdcde1b01f420ff8e79c87b0867a22a52c8b5804", func := "tappet/tappetlaw15.PlruTells", spec := "plruTells", apart := false }
def PlruTellsSaid : Prop := plruTellsRow.holds Try.pinned (OpenSpec.ofChange plruTellsSpec)

/-- ITS FALSE NEIGHBOUR: 'it returns false'. Refute it at one input. -/
def plruTellsWrong : ChangeSpec := { name := "plruTells", fn := fun _ => fun
  | [d1, d2, d3] => { results := [.lit (.bool false)], args := [d1, d2, d3] }
  | _ => none }
def PlruTellsWrongFalsely : Prop := plruTellsRow.holds Try.pinned (OpenSpec.ofChange plruTellsWrong)

/-- 'tappetlaw15.PlruSpares': WHATEVER THE INPUT: true; the input reads as it did. -/
def plruSparesSpec : ChangeSpec := { name := "plruSpares", fn := fun _ => fun
  | [d1, d2, d3] => { results := [.lit (.bool true)], args := [d1, d2, d3] }
  | _ => none }
def plruSparesRow : OpenClaim := { program := "ytgnffkdijokhfaa", sum := "3464f92df93ecd8d3f6544cbcdcde1b01f420ff8e79c87b0867a22a52c8b5804", func := "tappet/tappetlaw15.PlruSpares", spec := "plruSpares", apart := false }
def PlruSparesSaid : Prop := plruSparesRow.holds Try.pinned (OpenSpec.ofChange plruSparesSpec)

/-- ITS FALSE NEIGHBOUR: 'it returns false'. Refute it at one input. -/
def plruSparesWrong : ChangeSpec := { name := "plruSpares", fn := fun _ => fun
  | [d1, d2, d3] => { results := [.lit (.bool false)], args := [d1, d2, d3] }
  | _ => none }
def PlruSparesWrongFalsely : Prop := plruSparesRow.holds Try.pinned (OpenSpec.ofChange plruSparesWrong)

/-- 'tappetlaw15.PlruRound': WHATEVER THE INPUT: true; the input reads as it did. -/
def plruRoundSpec : ChangeSpec := { name := "plruRound", fn := fun _ => fun
  | [d1, d2] => { results := [.lit (.bool true)], args := [d1, d2] }
  | _ => none }
def plruRoundRow : OpenClaim := { program := "ytgnffkdijokhfaa", sum := "3464f92df93ecd8d3f6544cbcdcde1b01f420ff8e79c87b0867a22a52c8b5804", func := "tappet/tappetlaw15.PlruRound", spec := "plruRound", apart := false }
def PlruRoundSaid : Prop := plruRoundRow.holds Try.pinned (OpenSpec.ofChange plruRoundSpec)

/-- ITS FALSE NEIGHBOUR: 'it returns false'. Refute it at one input. -/
def plruRoundWrong : ChangeSpec := { name := "plruRound", fn := fun _ => fun
  | [d1, d2] => { results := [.lit (.bool false)], args := [d1, d2] }
  | _ => none }
def PlruRoundWrongFalsely : Prop := plruRoundRow.holds Try.pinned (OpenSpec.ofChange plruRoundWrong)

/-- 'tappetlaw15.PlruTwo': WHATEVER THE INPUT: true; the input reads as it did. -/
def plruTwoSpec : ChangeSpec := { name := "plruTwo", fn := fun _ => fun
  | [d1, d2] => { results := [.lit (.bool true)], args := [d1, d2] }
  | _ => none }
def plruTwoRow : OpenClaim := { program := "ytgnffkdijokhfaa", sum := "3464f92df93ecd8d3f6544cbcdcde1b01f420ff8e79c87b0867a22a52c8b5804", func := "tappet/tappetlaw15.PlruTwo", spec := "plruTwo", apart := false }
def PlruTwoSaid : Prop := plruTwoRow.holds Try.pinned (OpenSpec.ofChange plruTwoSpec)

/-- ITS FALSE NEIGHBOUR: 'it returns false'. Refute it at one input. -/
def plruTwoWrong : ChangeSpec := { name := "plruTwo", fn := fun _ => fun
  | [d1, d2] => { results := [.lit (.bool false)], args := [d1, d2] }
  | _ => none }
def PlruTwoWrongFalsely : Prop := plruTwoRow.holds Try.pinned (OpenSpec.ofChange plruTwoWrong)

/- THE SECOND FORM. 'bulk': how many values and letters a reading holds, each counted each time it is reached (what is shared counts as often as it is met; a slice's spare places count too). A statement '..UptoSaid' is the law's where the arguments, and the package variables that the reading takes, are together of bulk at most 1048576: NARROWER than '..Said'. Prove '..Said' where nothing that the law and all that it calls make is longer than what came in: it says more and counts as full. Else prove '..UptoSaid'. A law counts once. -/
mutual
def uptoBulk {H : Type} : DataW H → Nat
  | .lit (.string bytes) => bytes.length + 1
  | .lit _ => 1
  | .nil => 1
  | .ptr d => uptoBulk d + 1
  | .slice elems spare => uptoBulkAll elems + uptoBulkAll spare + 1
  | .agg parts => uptoBulkAll parts + 1
  | .iface _ d => uptoBulk d + 1
  | .map entries => uptoBulkEntries entries + 1
  | .held _ => 1
def uptoBulkAll {H : Type} : List (DataW H) → Nat
  | [] => 0
  | d :: r => uptoBulk d + uptoBulkAll r
def uptoBulkEntries {H : Type} : List (Lit × DataW H) → Nat
  | [] => 0
  | x :: r => uptoBulkEntry x + uptoBulkEntries r
def uptoBulkEntry {H : Type} : Lit × DataW H → Nat
  | (.string bytes, d) => bytes.length + uptoBulk d + 1
  | (_, d) => uptoBulk d + 1
 end
def uptoSmall : (H : Type) → List (DataW H) → Bool := fun _ ds => decide (uptoBulkAll ds ≤ 1048576)
def OpenSpec.upto (s : _root_.Go.ChangeSpec) : _root_.Go.OpenSpec := { _root_.Go.OpenSpec.ofChange s with cond := some uptoSmall }

/-- 'tappetlaw15.PlruTells', WHERE WHAT IT READS IS OF BULK AT MOST 1048576: true; the input reads as it did. -/
def plruTellsUptoRow : OpenClaim := { program := "ytgnffkdijokhfaa", sum := "3464f92df93ecd8d3f6544cbcdcde1b01f420ff8e79c87b0867a22a52c8b5804", func := "tappet/tappetlaw15.PlruTells", spec := "plruTells", apart := false, narrowed := true }
def PlruTellsUptoSaid : Prop := plruTellsUptoRow.holds Try.pinned (OpenSpec.upto plruTellsSpec)

/-- 'tappetlaw15.PlruSpares', WHERE WHAT IT READS IS OF BULK AT MOST 1048576: true; the input reads as it did. -/
def plruSparesUptoRow : OpenClaim := { program := "ytgnffkdijokhfaa", sum := "3464f92df93ecd8d3f6544cbcdcde1b01f420ff8e79c87b0867a22a52c8b5804", func := "tappet/tappetlaw15.PlruSpares", spec := "plruSpares", apart := false, narrowed := true }
def PlruSparesUptoSaid : Prop := plruSparesUptoRow.holds Try.pinned (OpenSpec.upto plruSparesSpec)

/-- 'tappetlaw15.PlruRound', WHERE WHAT IT READS IS OF BULK AT MOST 1048576: true; the input reads as it did. -/
def plruRoundUptoRow : OpenClaim := { program := "ytgnffkdijokhfaa", sum := "3464f92df93ecd8d3f6544cbcdcde1b01f420ff8e79c87b0867a22a52c8b5804", func := "tappet/tappetlaw15.PlruRound", spec := "plruRound", apart := false, narrowed := true }
def PlruRoundUptoSaid : Prop := plruRoundUptoRow.holds Try.pinned (OpenSpec.upto plruRoundSpec)

/-- 'tappetlaw15.PlruTwo', WHERE WHAT IT READS IS OF BULK AT MOST 1048576: true; the input reads as it did. -/
def plruTwoUptoRow : OpenClaim := { program := "ytgnffkdijokhfaa", sum := "3464f92df93ecd8d3f6544cbcdcde1b01f420ff8e79c87b0867a22a52c8b5804", func := "tappet/tappetlaw15.PlruTwo", spec := "plruTwo", apart := false, narrowed := true }
def PlruTwoUptoSaid : Prop := plruTwoUptoRow.holds Try.pinned (OpenSpec.upto plruTwoSpec)

end Rows
end Go.Proofs.Ytgnffkdijokhfaa
