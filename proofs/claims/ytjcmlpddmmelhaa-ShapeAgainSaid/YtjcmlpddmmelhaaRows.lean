/-
  No cell of these rows narrows 'for every input' (looked for: loops, veiled, ifaces, maps, wideKeys, modest, calm, conditions, laid).
  DERIVED. THE GIVEN ROWS OF THIS SEAT. 8 by the template 'for every input the law returns true; each argument reads behind the call as it read before'; 0 by the template 'total and deterministic' (their statements: YtjcmlpddmmelhaaTotals.lean).
  GIVEN WITH THE SEED: the statements are not yours to turn. If you find one false, say at which input.
  Laid BY PROGRAM, IN A SANDBOX (cutbox-rows.mjs): the forced cells as the released guide's own fill.sh prints them over the translation 7a913dba8db745a3… (all of the seat's roots in one cut). By AI agents, Wed Nov 11 2026. No macro, syntax, notation, axiom, sorry.
-/
import Derived.Test.YtjcmlpddmmelhaaChecked
import GoSem.Claim
import GoSem.ClaimJoined
import GoSem.ClaimMapViews
import Derived.JoinedTies
import Derived.KernelRfl
namespace Go.Proofs.Ytjcmlpddmmelhaa
/- THE CELL 'sum', in the pinned program and in every row, IS THE sha256 OF THE DUMP (.gsa) THAT YtjcmlpddmmelhaaProg.lean LOADS. Nothing in Lean hashes anything: it is a label: what it is worth is what the hold of that sum in a sandbox is worth. -/
noncomputable def Try.pinned : Pinned := { name := "ytjcmlpddmmelhaa", sum := "7a913dba8db745a30900b5d277222127dc2aa4a6d54ab111a2a2b06fe69a3b75", checked := Try.checked }
namespace Rows
def none {H : Type} : Left H := { results := [], args := [] }

/-- 'tappetlaw02.ShapeFields': WHATEVER THE INPUT: true; the input reads as it did. -/
def shapeFieldsSpec : ChangeSpec := { name := "shapeFields", fn := fun _ => fun
  | [d] => { results := [.lit (.bool true)], args := [d] }
  | _ => none }
def shapeFieldsRow : OpenClaim := { program := "ytjcmlpddmmelhaa", sum := "7a913dba8db745a30900b5d277222127dc2aa4a6d54ab111a2a2b06fe69a3b75", func := "tappet/tappetlaw02.ShapeFields", spec := "shapeFields", apart := false }
def ShapeFieldsSaid : Prop := shapeFieldsRow.holds Try.pinned (OpenSpec.ofChange shapeFieldsSpec)

/-- ITS FALSE NEIGHBOUR: 'it returns false'. Refute it at one input. -/
def shapeFieldsWrong : ChangeSpec := { name := "shapeFields", fn := fun _ => fun
  | [d] => { results := [.lit (.bool false)], args := [d] }
  | _ => none }
def ShapeFieldsWrongFalsely : Prop := shapeFieldsRow.holds Try.pinned (OpenSpec.ofChange shapeFieldsWrong)

/-- 'tappetlaw02.ShapeLays': WHATEVER THE INPUT: true; the input reads as it did. -/
def shapeLaysSpec : ChangeSpec := { name := "shapeLays", fn := fun _ => fun
  | [d] => { results := [.lit (.bool true)], args := [d] }
  | _ => none }
def shapeLaysRow : OpenClaim := { program := "ytjcmlpddmmelhaa", sum := "7a913dba8db745a30900b5d277222127dc2aa4a6d54ab111a2a2b06fe69a3b75", func := "tappet/tappetlaw02.ShapeLays", spec := "shapeLays", apart := false }
def ShapeLaysSaid : Prop := shapeLaysRow.holds Try.pinned (OpenSpec.ofChange shapeLaysSpec)

/-- ITS FALSE NEIGHBOUR: 'it returns false'. Refute it at one input. -/
def shapeLaysWrong : ChangeSpec := { name := "shapeLays", fn := fun _ => fun
  | [d] => { results := [.lit (.bool false)], args := [d] }
  | _ => none }
def ShapeLaysWrongFalsely : Prop := shapeLaysRow.holds Try.pinned (OpenSpec.ofChange shapeLaysWrong)

/-- 'tappetlaw02.ShapeImms': WHATEVER THE INPUT: true; the input reads as it did. -/
def shapeImmsSpec : ChangeSpec := { name := "shapeImms", fn := fun _ => fun
  | [d] => { results := [.lit (.bool true)], args := [d] }
  | _ => none }
def shapeImmsRow : OpenClaim := { program := "ytjcmlpddmmelhaa", sum := "7a913dba8db745a30900b5d277222127dc2aa4a6d54ab111a2a2b06fe69a3b75", func := "tappet/tappetlaw02.ShapeImms", spec := "shapeImms", apart := false }
def ShapeImmsSaid : Prop := shapeImmsRow.holds Try.pinned (OpenSpec.ofChange shapeImmsSpec)

/-- ITS FALSE NEIGHBOUR: 'it returns false'. Refute it at one input. -/
def shapeImmsWrong : ChangeSpec := { name := "shapeImms", fn := fun _ => fun
  | [d] => { results := [.lit (.bool false)], args := [d] }
  | _ => none }
def ShapeImmsWrongFalsely : Prop := shapeImmsRow.holds Try.pinned (OpenSpec.ofChange shapeImmsWrong)

/-- 'tappetlaw02.ShapeJumps': WHATEVER THE INPUT: true; the input reads as it did. -/
def shapeJumpsSpec : ChangeSpec := { name := "shapeJumps", fn := fun _ => fun
  | [d] => { results := [.lit (.bool true)], args := [d] }
  | _ => none }
def shapeJumpsRow : OpenClaim := { program := "ytjcmlpddmmelhaa", sum := "7a913dba8db745a30900b5d277222127dc2aa4a6d54ab111a2a2b06fe69a3b75", func := "tappet/tappetlaw02.ShapeJumps", spec := "shapeJumps", apart := false }
def ShapeJumpsSaid : Prop := shapeJumpsRow.holds Try.pinned (OpenSpec.ofChange shapeJumpsSpec)

/-- ITS FALSE NEIGHBOUR: 'it returns false'. Refute it at one input. -/
def shapeJumpsWrong : ChangeSpec := { name := "shapeJumps", fn := fun _ => fun
  | [d] => { results := [.lit (.bool false)], args := [d] }
  | _ => none }
def ShapeJumpsWrongFalsely : Prop := shapeJumpsRow.holds Try.pinned (OpenSpec.ofChange shapeJumpsWrong)

/-- 'tappetlaw02.ShapeParts': WHATEVER THE INPUT: true; the input reads as it did. -/
def shapePartsSpec : ChangeSpec := { name := "shapeParts", fn := fun _ => fun
  | [d] => { results := [.lit (.bool true)], args := [d] }
  | _ => none }
def shapePartsRow : OpenClaim := { program := "ytjcmlpddmmelhaa", sum := "7a913dba8db745a30900b5d277222127dc2aa4a6d54ab111a2a2b06fe69a3b75", func := "tappet/tappetlaw02.ShapeParts", spec := "shapeParts", apart := false }
def ShapePartsSaid : Prop := shapePartsRow.holds Try.pinned (OpenSpec.ofChange shapePartsSpec)

/-- ITS FALSE NEIGHBOUR: 'it returns false'. Refute it at one input. -/
def shapePartsWrong : ChangeSpec := { name := "shapeParts", fn := fun _ => fun
  | [d] => { results := [.lit (.bool false)], args := [d] }
  | _ => none }
def ShapePartsWrongFalsely : Prop := shapePartsRow.holds Try.pinned (OpenSpec.ofChange shapePartsWrong)

/-- 'tappetlaw02.ShapeRefuses': WHATEVER THE INPUT: true; the input reads as it did. -/
def shapeRefusesSpec : ChangeSpec := { name := "shapeRefuses", fn := fun _ => fun
  | [d1, d2] => { results := [.lit (.bool true)], args := [d1, d2] }
  | _ => none }
def shapeRefusesRow : OpenClaim := { program := "ytjcmlpddmmelhaa", sum := "7a913dba8db745a30900b5d277222127dc2aa4a6d54ab111a2a2b06fe69a3b75", func := "tappet/tappetlaw02.ShapeRefuses", spec := "shapeRefuses", apart := false }
def ShapeRefusesSaid : Prop := shapeRefusesRow.holds Try.pinned (OpenSpec.ofChange shapeRefusesSpec)

/-- ITS FALSE NEIGHBOUR: 'it returns false'. Refute it at one input. -/
def shapeRefusesWrong : ChangeSpec := { name := "shapeRefuses", fn := fun _ => fun
  | [d1, d2] => { results := [.lit (.bool false)], args := [d1, d2] }
  | _ => none }
def ShapeRefusesWrongFalsely : Prop := shapeRefusesRow.holds Try.pinned (OpenSpec.ofChange shapeRefusesWrong)

/-- 'tappetlaw02.ShapeBack': WHATEVER THE INPUT: true; the input reads as it did. -/
def shapeBackSpec : ChangeSpec := { name := "shapeBack", fn := fun _ => fun
  | [d] => { results := [.lit (.bool true)], args := [d] }
  | _ => none }
def shapeBackRow : OpenClaim := { program := "ytjcmlpddmmelhaa", sum := "7a913dba8db745a30900b5d277222127dc2aa4a6d54ab111a2a2b06fe69a3b75", func := "tappet/tappetlaw02.ShapeBack", spec := "shapeBack", apart := false }
def ShapeBackSaid : Prop := shapeBackRow.holds Try.pinned (OpenSpec.ofChange shapeBackSpec)

/-- ITS FALSE NEIGHBOUR: 'it returns false'. Refute it at one input. -/
def shapeBackWrong : ChangeSpec := { name := "shapeBack", fn := fun _ => fun
  | [d] => { results := [.lit (.bool false)], args := [d] }
  | _ => none }
def ShapeBackWrongFalsely : Prop := shapeBackRow.holds Try.pinned (OpenSpec.ofChange shapeBackWrong)

/-- 'tappetlaw02.ShapeAgain': WHATEVER THE INPUT: true; the input reads as it did. -/
def shapeAgainSpec : ChangeSpec := { name := "shapeAgain", fn := fun _ => fun
  | [d] => { results := [.lit (.bool true)], args := [d] }
  | _ => none }
def shapeAgainRow : OpenClaim := { program := "ytjcmlpddmmelhaa", sum := "7a913dba8db745a30900b5d277222127dc2aa4a6d54ab111a2a2b06fe69a3b75", func := "tappet/tappetlaw02.ShapeAgain", spec := "shapeAgain", apart := false }
def ShapeAgainSaid : Prop := shapeAgainRow.holds Try.pinned (OpenSpec.ofChange shapeAgainSpec)

/-- ITS FALSE NEIGHBOUR: 'it returns false'. Refute it at one input. -/
def shapeAgainWrong : ChangeSpec := { name := "shapeAgain", fn := fun _ => fun
  | [d] => { results := [.lit (.bool false)], args := [d] }
  | _ => none }
def ShapeAgainWrongFalsely : Prop := shapeAgainRow.holds Try.pinned (OpenSpec.ofChange shapeAgainWrong)

/- THE SECOND FORM. 'bulk': how many values and letters a reading holds, each counted each time it is reached (what is shared counts as often as it is met; a slice's spare places count too). A statement '..UptoSaid' is the law's where the arguments, and the package variables that the reading takes, are together of bulk at most 1048576: NARROWER than '..Said'. Prove '..Said' where nothing that the law and all that it calls make is longer than what came in: it says more and counts as full. Else prove '..UptoSaid'. A law counts once. -/
mutual
def uptoBulk {H : Type} : DataW H → Nat
  | .lit (.string bytes) => bytes.length + 1
  | .lit _ => 1
  | .nil => 1
  | .ptr d => uptoBulk d + 1
  | .slice elems spare => uptoBulkAll elems + uptoBulkAll spare + 1
  | .agg parts => uptoBulkAll parts + 1
  | .iface _ d => uptoBulk d + 1
  | .map entries => uptoBulkEntries entries + 1
  | .held _ => 1
def uptoBulkAll {H : Type} : List (DataW H) → Nat
  | [] => 0
  | d :: r => uptoBulk d + uptoBulkAll r
def uptoBulkEntries {H : Type} : List (Lit × DataW H) → Nat
  | [] => 0
  | x :: r => uptoBulkEntry x + uptoBulkEntries r
def uptoBulkEntry {H : Type} : Lit × DataW H → Nat
  | (.string bytes, d) => bytes.length + uptoBulk d + 1
  | (_, d) => uptoBulk d + 1
 end
def uptoSmall : (H : Type) → List (DataW H) → Bool := fun _ ds => decide (uptoBulkAll ds ≤ 1048576)
def OpenSpec.upto (s : _root_.Go.ChangeSpec) : _root_.Go.OpenSpec := { _root_.Go.OpenSpec.ofChange s with cond := some uptoSmall }

/-- 'tappetlaw02.ShapeFields', WHERE WHAT IT READS IS OF BULK AT MOST 1048576: true; the input reads as it did. -/
def shapeFieldsUptoRow : OpenClaim := { program := "ytjcmlpddmmelhaa", sum := "7a913dba8db745a30900b5d277222127dc2aa4a6d54ab111a2a2b06fe69a3b75", func := "tappet/tappetlaw02.ShapeFields", spec := "shapeFields", apart := false, narrowed := true }
def ShapeFieldsUptoSaid : Prop := shapeFieldsUptoRow.holds Try.pinned (OpenSpec.upto shapeFieldsSpec)

/-- 'tappetlaw02.ShapeLays', WHERE WHAT IT READS IS OF BULK AT MOST 1048576: true; the input reads as it did. -/
def shapeLaysUptoRow : OpenClaim := { program := "ytjcmlpddmmelhaa", sum := "7a913dba8db745a30900b5d277222127dc2aa4a6d54ab111a2a2b06fe69a3b75", func := "tappet/tappetlaw02.ShapeLays", spec := "shapeLays", apart := false, narrowed := true }
def ShapeLaysUptoSaid : Prop := shapeLaysUptoRow.holds Try.pinned (OpenSpec.upto shapeLaysSpec)

/-- 'tappetlaw02.ShapeImms', WHERE WHAT IT READS IS OF BULK AT MOST 1048576: true; the input reads as it did. -/
def shapeImmsUptoRow : OpenClaim := { program := "ytjcmlpddmmelhaa", sum := "7a913dba8db745a30900b5d277222127dc2aa4a6d54ab111a2a2b06fe69a3b75", func := "tappet/tappetlaw02.ShapeImms", spec := "shapeImms", apart := false, narrowed := true }
def ShapeImmsUptoSaid : Prop := shapeImmsUptoRow.holds Try.pinned (OpenSpec.upto shapeImmsSpec)

/-- 'tappetlaw02.ShapeJumps', WHERE WHAT IT READS IS OF BULK AT MOST 1048576: true; the input reads as it did. -/
def shapeJumpsUptoRow : OpenClaim := { program := "ytjcmlpddmmelhaa", sum := "7a913dba8db745a30900b5d277222127dc2aa4a6d54ab111a2a2b06fe69a3b75", func := "tappet/tappetlaw02.ShapeJumps", spec := "shapeJumps", apart := false, narrowed := true }
def ShapeJumpsUptoSaid : Prop := shapeJumpsUptoRow.holds Try.pinned (OpenSpec.upto shapeJumpsSpec)

/-- 'tappetlaw02.ShapeParts', WHERE WHAT IT READS IS OF BULK AT MOST 1048576: true; the input reads as it did. -/
def shapePartsUptoRow : OpenClaim := { program := "ytjcmlpddmmelhaa", sum := "7a913dba8db745a30900b5d277222127dc2aa4a6d54ab111a2a2b06fe69a3b75", func := "tappet/tappetlaw02.ShapeParts", spec := "shapeParts", apart := false, narrowed := true }
def ShapePartsUptoSaid : Prop := shapePartsUptoRow.holds Try.pinned (OpenSpec.upto shapePartsSpec)

/-- 'tappetlaw02.ShapeRefuses', WHERE WHAT IT READS IS OF BULK AT MOST 1048576: true; the input reads as it did. -/
def shapeRefusesUptoRow : OpenClaim := { program := "ytjcmlpddmmelhaa", sum := "7a913dba8db745a30900b5d277222127dc2aa4a6d54ab111a2a2b06fe69a3b75", func := "tappet/tappetlaw02.ShapeRefuses", spec := "shapeRefuses", apart := false, narrowed := true }
def ShapeRefusesUptoSaid : Prop := shapeRefusesUptoRow.holds Try.pinned (OpenSpec.upto shapeRefusesSpec)

/-- 'tappetlaw02.ShapeBack', WHERE WHAT IT READS IS OF BULK AT MOST 1048576: true; the input reads as it did. -/
def shapeBackUptoRow : OpenClaim := { program := "ytjcmlpddmmelhaa", sum := "7a913dba8db745a30900b5d277222127dc2aa4a6d54ab111a2a2b06fe69a3b75", func := "tappet/tappetlaw02.ShapeBack", spec := "shapeBack", apart := false, narrowed := true }
def ShapeBackUptoSaid : Prop := shapeBackUptoRow.holds Try.pinned (OpenSpec.upto shapeBackSpec)

/-- 'tappetlaw02.ShapeAgain', WHERE WHAT IT READS IS OF BULK AT MOST 1048576: true; the input reads as it did. -/
def shapeAgainUptoRow : OpenClaim := { program := "ytjcmlpddmmelhaa", sum := "7a913dba8db745a30900b5d277222127dc2aa4a6d54ab111a2a2b06fe69a3b75", func := "tappet/tappetlaw02.ShapeAgain", spec := "shapeAgain", apart := false, narrowed := true }
def ShapeAgainUptoSaid : Prop := shapeAgainUptoRow.holds Try.pinned (OpenSpec.upto shapeAgainSpec)

end Rows
end Go.Proofs.Ytjcmlpddmmelhaa
