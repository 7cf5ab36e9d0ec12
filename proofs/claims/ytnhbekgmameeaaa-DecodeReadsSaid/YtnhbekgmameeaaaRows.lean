/-
  No cell of these rows narrows 'for every input' (looked for: loops, veiled, ifaces, maps, wideKeys, modest, calm, conditions, laid).
  DERIVED. THE GIVEN ROWS OF THIS SEAT. 9 by the template 'for every input the law returns true; each argument reads behind the call as it read before'; 0 by the template 'total and deterministic' (their statements: YtnhbekgmameeaaaTotals.lean).
  GIVEN WITH THE SEED: the statements are not yours to turn. If you find one false, say at which input.
  Laid BY PROGRAM, IN A SANDBOX (cutbox-rows.mjs): the forced cells as the released guide's own fill.sh prints them over the translation bc5ee74d4b7f7c64… (all of the seat's roots in one cut). By AI agents, Wed Nov 11 2026. No macro, syntax, notation, axiom, sorry.
-/
import Derived.Test.YtnhbekgmameeaaaChecked
import GoSem.Claim
import GoSem.ClaimJoined
import GoSem.ClaimMapViews
import Derived.JoinedTies
import Derived.KernelRfl
namespace Go.Proofs.Ytnhbekgmameeaaa
/- THE CELL 'sum', in the pinned program and in every row, IS THE sha256 OF THE DUMP (.gsa) THAT YtnhbekgmameeaaaProg.lean LOADS. Nothing in Lean hashes anything: it is a label: what it is worth is what the hold of that sum in a sandbox is worth. -/
noncomputable def Try.pinned : Pinned := { name := "ytnhbekgmameeaaa", sum := "bc5ee74d4b7f7c64d47d2a71b39a48d9f2bb248b6ab2168d393a3c660dd2ea16", checked := Try.checked }
namespace Rows
def none {H : Type} : Left H := { results := [], args := [] }

/-- 'tappetlaw01.BitsBytes': WHATEVER THE INPUT: true; the input reads as it did. -/
def bitsBytesSpec : ChangeSpec := { name := "bitsBytes", fn := fun _ => fun
  | [d1, d2, d3] => { results := [.lit (.bool true)], args := [d1, d2, d3] }
  | _ => none }
def bitsBytesRow : OpenClaim := { program := "ytnhbekgmameeaaa", sum := "bc5ee74d4b7f7c64d47d2a71b39a48d9f2bb248b6ab2168d393a3c660dd2ea16", func := "tappet/tappetlaw01.BitsBytes", spec := "bitsBytes", unfollowed := true, recurses := true, apart := false }
def BitsBytesSaid : Prop := bitsBytesRow.holds Try.pinned (OpenSpec.ofChange bitsBytesSpec)

/-- ITS FALSE NEIGHBOUR: 'it returns false'. Refute it at one input. -/
def bitsBytesWrong : ChangeSpec := { name := "bitsBytes", fn := fun _ => fun
  | [d1, d2, d3] => { results := [.lit (.bool false)], args := [d1, d2, d3] }
  | _ => none }
def BitsBytesWrongFalsely : Prop := bitsBytesRow.holds Try.pinned (OpenSpec.ofChange bitsBytesWrong)

/-- 'tappetlaw02.ShapeBack': WHATEVER THE INPUT: true; the input reads as it did. -/
def shapeBackSpec : ChangeSpec := { name := "shapeBack", fn := fun _ => fun
  | [d] => { results := [.lit (.bool true)], args := [d] }
  | _ => none }
def shapeBackRow : OpenClaim := { program := "ytnhbekgmameeaaa", sum := "bc5ee74d4b7f7c64d47d2a71b39a48d9f2bb248b6ab2168d393a3c660dd2ea16", func := "tappet/tappetlaw02.ShapeBack", spec := "shapeBack", apart := false }
def ShapeBackSaid : Prop := shapeBackRow.holds Try.pinned (OpenSpec.ofChange shapeBackSpec)

/-- ITS FALSE NEIGHBOUR: 'it returns false'. Refute it at one input. -/
def shapeBackWrong : ChangeSpec := { name := "shapeBack", fn := fun _ => fun
  | [d] => { results := [.lit (.bool false)], args := [d] }
  | _ => none }
def ShapeBackWrongFalsely : Prop := shapeBackRow.holds Try.pinned (OpenSpec.ofChange shapeBackWrong)

/-- 'tappetlaw03.DecodeWords': WHATEVER THE INPUT: true; the input reads as it did. -/
def decodeWordsSpec : ChangeSpec := { name := "decodeWords", fn := fun _ => fun
  | [d] => { results := [.lit (.bool true)], args := [d] }
  | _ => none }
def decodeWordsRow : OpenClaim := { program := "ytnhbekgmameeaaa", sum := "bc5ee74d4b7f7c64d47d2a71b39a48d9f2bb248b6ab2168d393a3c660dd2ea16", func := "tappet/tappetlaw03.DecodeWords", spec := "decodeWords", apart := false }
def DecodeWordsSaid : Prop := decodeWordsRow.holds Try.pinned (OpenSpec.ofChange decodeWordsSpec)

/-- ITS FALSE NEIGHBOUR: 'it returns false'. Refute it at one input. -/
def decodeWordsWrong : ChangeSpec := { name := "decodeWords", fn := fun _ => fun
  | [d] => { results := [.lit (.bool false)], args := [d] }
  | _ => none }
def DecodeWordsWrongFalsely : Prop := decodeWordsRow.holds Try.pinned (OpenSpec.ofChange decodeWordsWrong)

/-- 'tappetlaw03.DecodeOrder': WHATEVER THE INPUT: true; the input reads as it did. -/
def decodeOrderSpec : ChangeSpec := { name := "decodeOrder", fn := fun _ => fun
  | [d1, d2] => { results := [.lit (.bool true)], args := [d1, d2] }
  | _ => none }
def decodeOrderRow : OpenClaim := { program := "ytnhbekgmameeaaa", sum := "bc5ee74d4b7f7c64d47d2a71b39a48d9f2bb248b6ab2168d393a3c660dd2ea16", func := "tappet/tappetlaw03.DecodeOrder", spec := "decodeOrder", apart := false }
def DecodeOrderSaid : Prop := decodeOrderRow.holds Try.pinned (OpenSpec.ofChange decodeOrderSpec)

/-- ITS FALSE NEIGHBOUR: 'it returns false'. Refute it at one input. -/
def decodeOrderWrong : ChangeSpec := { name := "decodeOrder", fn := fun _ => fun
  | [d1, d2] => { results := [.lit (.bool false)], args := [d1, d2] }
  | _ => none }
def DecodeOrderWrongFalsely : Prop := decodeOrderRow.holds Try.pinned (OpenSpec.ofChange decodeOrderWrong)

/-- 'tappetlaw03.DecodeNone': WHATEVER THE INPUT: true; the input reads as it did. -/
def decodeNoneSpec : ChangeSpec := { name := "decodeNone", fn := fun _ => fun
  | [d] => { results := [.lit (.bool true)], args := [d] }
  | _ => none }
def decodeNoneRow : OpenClaim := { program := "ytnhbekgmameeaaa", sum := "bc5ee74d4b7f7c64d47d2a71b39a48d9f2bb248b6ab2168d393a3c660dd2ea16", func := "tappet/tappetlaw03.DecodeNone", spec := "decodeNone", apart := false }
def DecodeNoneSaid : Prop := decodeNoneRow.holds Try.pinned (OpenSpec.ofChange decodeNoneSpec)

/-- ITS FALSE NEIGHBOUR: 'it returns false'. Refute it at one input. -/
def decodeNoneWrong : ChangeSpec := { name := "decodeNone", fn := fun _ => fun
  | [d] => { results := [.lit (.bool false)], args := [d] }
  | _ => none }
def DecodeNoneWrongFalsely : Prop := decodeNoneRow.holds Try.pinned (OpenSpec.ofChange decodeNoneWrong)

/-- 'tappetlaw03.DecodeEncodes': WHATEVER THE INPUT: true; the input reads as it did. -/
def decodeEncodesSpec : ChangeSpec := { name := "decodeEncodes", fn := fun _ => fun
  | [d] => { results := [.lit (.bool true)], args := [d] }
  | _ => none }
def decodeEncodesRow : OpenClaim := { program := "ytnhbekgmameeaaa", sum := "bc5ee74d4b7f7c64d47d2a71b39a48d9f2bb248b6ab2168d393a3c660dd2ea16", func := "tappet/tappetlaw03.DecodeEncodes", spec := "decodeEncodes", apart := false }
def DecodeEncodesSaid : Prop := decodeEncodesRow.holds Try.pinned (OpenSpec.ofChange decodeEncodesSpec)

/-- ITS FALSE NEIGHBOUR: 'it returns false'. Refute it at one input. -/
def decodeEncodesWrong : ChangeSpec := { name := "decodeEncodes", fn := fun _ => fun
  | [d] => { results := [.lit (.bool false)], args := [d] }
  | _ => none }
def DecodeEncodesWrongFalsely : Prop := decodeEncodesRow.holds Try.pinned (OpenSpec.ofChange decodeEncodesWrong)

/-- 'tappetlaw03.DecodeBack': WHATEVER THE INPUT: true; the input reads as it did. -/
def decodeBackSpec : ChangeSpec := { name := "decodeBack", fn := fun _ => fun
  | [d] => { results := [.lit (.bool true)], args := [d] }
  | _ => none }
def decodeBackRow : OpenClaim := { program := "ytnhbekgmameeaaa", sum := "bc5ee74d4b7f7c64d47d2a71b39a48d9f2bb248b6ab2168d393a3c660dd2ea16", func := "tappet/tappetlaw03.DecodeBack", spec := "decodeBack", apart := false }
def DecodeBackSaid : Prop := decodeBackRow.holds Try.pinned (OpenSpec.ofChange decodeBackSpec)

/-- ITS FALSE NEIGHBOUR: 'it returns false'. Refute it at one input. -/
def decodeBackWrong : ChangeSpec := { name := "decodeBack", fn := fun _ => fun
  | [d] => { results := [.lit (.bool false)], args := [d] }
  | _ => none }
def DecodeBackWrongFalsely : Prop := decodeBackRow.holds Try.pinned (OpenSpec.ofChange decodeBackWrong)

/-- 'tappetlaw03.DecodeRoles': WHATEVER THE INPUT: true; the input reads as it did. -/
def decodeRolesSpec : ChangeSpec := { name := "decodeRoles", fn := fun _ => fun
  | [d] => { results := [.lit (.bool true)], args := [d] }
  | _ => none }
def decodeRolesRow : OpenClaim := { program := "ytnhbekgmameeaaa", sum := "bc5ee74d4b7f7c64d47d2a71b39a48d9f2bb248b6ab2168d393a3c660dd2ea16", func := "tappet/tappetlaw03.DecodeRoles", spec := "decodeRoles", apart := false }
def DecodeRolesSaid : Prop := decodeRolesRow.holds Try.pinned (OpenSpec.ofChange decodeRolesSpec)

/-- ITS FALSE NEIGHBOUR: 'it returns false'. Refute it at one input. -/
def decodeRolesWrong : ChangeSpec := { name := "decodeRoles", fn := fun _ => fun
  | [d] => { results := [.lit (.bool false)], args := [d] }
  | _ => none }
def DecodeRolesWrongFalsely : Prop := decodeRolesRow.holds Try.pinned (OpenSpec.ofChange decodeRolesWrong)

/-- 'tappetlaw03.DecodeReads': WHATEVER THE INPUT: true; the input reads as it did. -/
def decodeReadsSpec : ChangeSpec := { name := "decodeReads", fn := fun _ => fun
  | [d] => { results := [.lit (.bool true)], args := [d] }
  | _ => none }
def decodeReadsRow : OpenClaim := { program := "ytnhbekgmameeaaa", sum := "bc5ee74d4b7f7c64d47d2a71b39a48d9f2bb248b6ab2168d393a3c660dd2ea16", func := "tappet/tappetlaw03.DecodeReads", spec := "decodeReads", apart := false }
def DecodeReadsSaid : Prop := decodeReadsRow.holds Try.pinned (OpenSpec.ofChange decodeReadsSpec)

/-- ITS FALSE NEIGHBOUR: 'it returns false'. Refute it at one input. -/
def decodeReadsWrong : ChangeSpec := { name := "decodeReads", fn := fun _ => fun
  | [d] => { results := [.lit (.bool false)], args := [d] }
  | _ => none }
def DecodeReadsWrongFalsely : Prop := decodeReadsRow.holds Try.pinned (OpenSpec.ofChange decodeReadsWrong)

/- THE SECOND FORM. 'bulk': how many values and letters a reading holds, each counted each time it is reached (what is shared counts as often as it is met; a slice's spare places count too). A statement '..UptoSaid' is the law's where the arguments, and the package variables that the reading takes, are together of bulk at most 1048576: NARROWER than '..Said'. Prove '..Said' where nothing that the law and all that it calls make is longer than what came in: it says more and counts as full. Else prove '..UptoSaid'. A law counts once. -/
mutual
def uptoBulk {H : Type} : DataW H → Nat
  | .lit (.string bytes) => bytes.length + 1
  | .lit _ => 1
  | .nil => 1
  | .ptr d => uptoBulk d + 1
  | .slice elems spare => uptoBulkAll elems + uptoBulkAll spare + 1
  | .agg parts => uptoBulkAll parts + 1
  | .iface _ d => uptoBulk d + 1
  | .map entries => uptoBulkEntries entries + 1
  | .held _ => 1
def uptoBulkAll {H : Type} : List (DataW H) → Nat
  | [] => 0
  | d :: r => uptoBulk d + uptoBulkAll r
def uptoBulkEntries {H : Type} : List (Lit × DataW H) → Nat
  | [] => 0
  | x :: r => uptoBulkEntry x + uptoBulkEntries r
def uptoBulkEntry {H : Type} : Lit × DataW H → Nat
  | (.string bytes, d) => bytes.length + uptoBulk d + 1
  | (_, d) => uptoBulk d + 1
 end
def uptoSmall : (H : Type) → List (DataW H) → Bool := fun _ ds => decide (uptoBulkAll ds ≤ 1048576)
def OpenSpec.upto (s : _root_.Go.ChangeSpec) : _root_.Go.OpenSpec := { _root_.Go.OpenSpec.ofChange s with cond := some uptoSmall }

/-- 'tappetlaw01.BitsBytes', WHERE WHAT IT READS IS OF BULK AT MOST 1048576: true; the input reads as it did. -/
def bitsBytesUptoRow : OpenClaim := { program := "ytnhbekgmameeaaa", sum := "bc5ee74d4b7f7c64d47d2a71b39a48d9f2bb248b6ab2168d393a3c660dd2ea16", func := "tappet/tappetlaw01.BitsBytes", spec := "bitsBytes", unfollowed := true, recurses := true, apart := false, narrowed := true }
def BitsBytesUptoSaid : Prop := bitsBytesUptoRow.holds Try.pinned (OpenSpec.upto bitsBytesSpec)

/-- 'tappetlaw02.ShapeBack', WHERE WHAT IT READS IS OF BULK AT MOST 1048576: true; the input reads as it did. -/
def shapeBackUptoRow : OpenClaim := { program := "ytnhbekgmameeaaa", sum := "bc5ee74d4b7f7c64d47d2a71b39a48d9f2bb248b6ab2168d393a3c660dd2ea16", func := "tappet/tappetlaw02.ShapeBack", spec := "shapeBack", apart := false, narrowed := true }
def ShapeBackUptoSaid : Prop := shapeBackUptoRow.holds Try.pinned (OpenSpec.upto shapeBackSpec)

/-- 'tappetlaw03.DecodeWords', WHERE WHAT IT READS IS OF BULK AT MOST 1048576: true; the input reads as it did. -/
def decodeWordsUptoRow : OpenClaim := { program := "ytnhbekgmameeaaa", sum := "bc5ee74d4b7f7c64d47d2a71b39a48d9f2bb248b6ab2168d393a3c660dd2ea16", func := "tappet/tappetlaw03.DecodeWords", spec := "decodeWords", apart := false, narrowed := true }
def DecodeWordsUptoSaid : Prop := decodeWordsUptoRow.holds Try.pinned (OpenSpec.upto decodeWordsSpec)

/-- 'tappetlaw03.DecodeOrder', WHERE WHAT IT READS IS OF BULK AT MOST 1048576: true; the input reads as it did. -/
def decodeOrderUptoRow : OpenClaim := { program := "ytnhbekgmameeaaa", sum := "bc5ee74d4b7f7c64d47d2a71b39a48d9f2bb248b6ab2168d393a3c660dd2ea16", func := "tappet/tappetlaw03.DecodeOrder", spec := "decodeOrder", apart := false, narrowed := true }
def DecodeOrderUptoSaid : Prop := decodeOrderUptoRow.holds Try.pinned (OpenSpec.upto decodeOrderSpec)

/-- 'tappetlaw03.DecodeNone', WHERE WHAT IT READS IS OF BULK AT MOST 1048576: true; the input reads as it did. -/
def decodeNoneUptoRow : OpenClaim := { program := "ytnhbekgmameeaaa", sum := "bc5ee74d4b7f7c64d47d2a71b39a48d9f2bb248b6ab2168d393a3c660dd2ea16", func := "tappet/tappetlaw03.DecodeNone", spec := "decodeNone", apart := false, narrowed := true }
def DecodeNoneUptoSaid : Prop := decodeNoneUptoRow.holds Try.pinned (OpenSpec.upto decodeNoneSpec)

/-- 'tappetlaw03.DecodeEncodes', WHERE WHAT IT READS IS OF BULK AT MOST 1048576: true; the input reads as it did. -/
def decodeEncodesUptoRow : OpenClaim := { program := "ytnhbekgmameeaaa", sum := "bc5ee74d4b7f7c64d47d2a71b39a48d9f2bb248b6ab2168d393a3c660dd2ea16", func := "tappet/tappetlaw03.DecodeEncodes", spec := "decodeEncodes", apart := false, narrowed := true }
def DecodeEncodesUptoSaid : Prop := decodeEncodesUptoRow.holds Try.pinned (OpenSpec.upto decodeEncodesSpec)

/-- 'tappetlaw03.DecodeBack', WHERE WHAT IT READS IS OF BULK AT MOST 1048576: true; the input reads as it did. -/
def decodeBackUptoRow : OpenClaim := { program := "ytnhbekgmameeaaa", sum := "bc5ee74d4b7f7c64d47d2a71b39a48d9f2bb248b6ab2168d393a3c660dd2ea16", func := "tappet/tappetlaw03.DecodeBack", spec := "decodeBack", apart := false, narrowed := true }
def DecodeBackUptoSaid : Prop := decodeBackUptoRow.holds Try.pinned (OpenSpec.upto decodeBackSpec)

/-- 'tappetlaw03.DecodeRoles', WHERE WHAT IT READS IS OF BULK AT MOST 1048576: true; the input reads as it did. -/
def decodeRolesUptoRow : OpenClaim := { program := "ytnhbekgmameeaaa", sum := "bc5ee74d4b7f7c64d47d2a71b39a48d9f2bb248b6ab2168d393a3c660dd2ea16", func := "tappet/tappetlaw03.DecodeRoles", spec := "decodeRoles", apart := false, narrowed := true }
def DecodeRolesUptoSaid : Prop := decodeRolesUptoRow.holds Try.pinned (OpenSpec.upto decodeRolesSpec)

/-- 'tappetlaw03.DecodeReads', WHERE WHAT IT READS IS OF BULK AT MOST 1048576: true; the input reads as it did. -/
def decodeReadsUptoRow : OpenClaim := { program := "ytnhbekgmameeaaa", sum := "bc5ee74d4b7f7c64d47d2a71b39a48d9f2bb248b6ab2168d393a3c660dd2ea16", func := "tappet/tappetlaw03.DecodeReads", spec := "decodeReads", apart := false, narrowed := true }
def DecodeReadsUptoSaid : Prop := decodeReadsUptoRow.holds Try.pinned (OpenSpec.upto decodeReadsSpec)

end Rows
end Go.Proofs.Ytnhbekgmameeaaa
