/-
  No cell of these rows narrows 'for every input' (looked for: loops, veiled, ifaces, maps, wideKeys, modest, calm, conditions, laid).
  DERIVED. THE GIVEN ROWS OF THIS SEAT. 12 by the template 'for every input the law returns true; each argument reads behind the call as it read before'; 0 by the template 'total and deterministic' (their statements: YthjhcdkbajbpdaaTotals.lean).
  GIVEN WITH THE SEED: the statements are not yours to turn. If you find one false, say at which input.
  Laid BY PROGRAM, IN A SANDBOX (cutbox-rows.mjs): the forced cells as the released guide's own fill.sh prints them over the translation 6d94703f3b78c21c… (all of the seat's roots in one cut). By AI agents, Wed Nov 11 2026. No macro, syntax, notation, axiom, sorry.
-/
import Derived.Test.YthjhcdkbajbpdaaChecked
import GoSem.Claim
import GoSem.ClaimJoined
import GoSem.ClaimMapViews
import Derived.JoinedTies
import Derived.KernelRfl
namespace Go.Proofs.Ythjhcdkbajbpdaa
/- THE CELL 'sum', in the pinned program and in every row, IS THE sha256 OF THE DUMP (.gsa) THAT YthjhcdkbajbpdaaProg.lean LOADS. Nothing in Lean hashes anything: it is a label: what it is worth is what the hold of that sum in a sandbox is worth. -/
noncomputable def Try.pinned : Pinned := { name := "ythjhcdkbajbpdaa", sum := "6d94703f3b78c21c7c71adb132dc184583fa1ff6cffdb0a1b285b81eafe1b94e", checked := Try.checked }
namespace Rows
def none {H : Type} : Left H := { results := [], args := [] }

/-- 'tappetlaw17.WalkPage': WHATEVER THE INPUT: true; the input reads as it did. -/
def walkPageSpec : ChangeSpec := { name := "walkPage", fn := fun _ => fun
  | [d1, d2, d3, d4] => { results := [.lit (.bool true)], args := [d1, d2, d3, d4] }
  | _ => none }
def walkPageRow : OpenClaim := { program := "ythjhcdkbajbpdaa", sum := "6d94703f3b78c21c7c71adb132dc184583fa1ff6cffdb0a1b285b81eafe1b94e", func := "tappet/tappetlaw17.WalkPage", spec := "walkPage", unfollowed := true, recurses := true, apart := false }
def WalkPageSaid : Prop := walkPageRow.holds Try.pinned (OpenSpec.ofChange walkPageSpec)

/-- ITS FALSE NEIGHBOUR: 'it returns false'. Refute it at one input. -/
def walkPageWrong : ChangeSpec := { name := "walkPage", fn := fun _ => fun
  | [d1, d2, d3, d4] => { results := [.lit (.bool false)], args := [d1, d2, d3, d4] }
  | _ => none }
def WalkPageWrongFalsely : Prop := walkPageRow.holds Try.pinned (OpenSpec.ofChange walkPageWrong)

/-- 'tappetlaw17.WalkSuper': WHATEVER THE INPUT: true; the input reads as it did. -/
def walkSuperSpec : ChangeSpec := { name := "walkSuper", fn := fun _ => fun
  | [d1, d2, d3, d4] => { results := [.lit (.bool true)], args := [d1, d2, d3, d4] }
  | _ => none }
def walkSuperRow : OpenClaim := { program := "ythjhcdkbajbpdaa", sum := "6d94703f3b78c21c7c71adb132dc184583fa1ff6cffdb0a1b285b81eafe1b94e", func := "tappet/tappetlaw17.WalkSuper", spec := "walkSuper", unfollowed := true, recurses := true, apart := false }
def WalkSuperSaid : Prop := walkSuperRow.holds Try.pinned (OpenSpec.ofChange walkSuperSpec)

/-- ITS FALSE NEIGHBOUR: 'it returns false'. Refute it at one input. -/
def walkSuperWrong : ChangeSpec := { name := "walkSuper", fn := fun _ => fun
  | [d1, d2, d3, d4] => { results := [.lit (.bool false)], args := [d1, d2, d3, d4] }
  | _ => none }
def WalkSuperWrongFalsely : Prop := walkSuperRow.holds Try.pinned (OpenSpec.ofChange walkSuperWrong)

/-- 'tappetlaw17.WalkBad': WHATEVER THE INPUT: true; the input reads as it did. -/
def walkBadSpec : ChangeSpec := { name := "walkBad", fn := fun _ => fun
  | [d1, d2, d3, d4] => { results := [.lit (.bool true)], args := [d1, d2, d3, d4] }
  | _ => none }
def walkBadRow : OpenClaim := { program := "ythjhcdkbajbpdaa", sum := "6d94703f3b78c21c7c71adb132dc184583fa1ff6cffdb0a1b285b81eafe1b94e", func := "tappet/tappetlaw17.WalkBad", spec := "walkBad", unfollowed := true, recurses := true, apart := false }
def WalkBadSaid : Prop := walkBadRow.holds Try.pinned (OpenSpec.ofChange walkBadSpec)

/-- ITS FALSE NEIGHBOUR: 'it returns false'. Refute it at one input. -/
def walkBadWrong : ChangeSpec := { name := "walkBad", fn := fun _ => fun
  | [d1, d2, d3, d4] => { results := [.lit (.bool false)], args := [d1, d2, d3, d4] }
  | _ => none }
def WalkBadWrongFalsely : Prop := walkBadRow.holds Try.pinned (OpenSpec.ofChange walkBadWrong)

/-- 'tappetlaw17.WalkWalks': WHATEVER THE INPUT: true; the input reads as it did. -/
def walkWalksSpec : ChangeSpec := { name := "walkWalks", fn := fun _ => fun
  | [d1, d2, d3, d4] => { results := [.lit (.bool true)], args := [d1, d2, d3, d4] }
  | _ => none }
def walkWalksRow : OpenClaim := { program := "ythjhcdkbajbpdaa", sum := "6d94703f3b78c21c7c71adb132dc184583fa1ff6cffdb0a1b285b81eafe1b94e", func := "tappet/tappetlaw17.WalkWalks", spec := "walkWalks", unfollowed := true, recurses := true, apart := false }
def WalkWalksSaid : Prop := walkWalksRow.holds Try.pinned (OpenSpec.ofChange walkWalksSpec)

/-- ITS FALSE NEIGHBOUR: 'it returns false'. Refute it at one input. -/
def walkWalksWrong : ChangeSpec := { name := "walkWalks", fn := fun _ => fun
  | [d1, d2, d3, d4] => { results := [.lit (.bool false)], args := [d1, d2, d3, d4] }
  | _ => none }
def WalkWalksWrongFalsely : Prop := walkWalksRow.holds Try.pinned (OpenSpec.ofChange walkWalksWrong)

/-- 'tappetlaw17.WalkRights': WHATEVER THE INPUT: true; the input reads as it did. -/
def walkRightsSpec : ChangeSpec := { name := "walkRights", fn := fun _ => fun
  | [d1, d2, d3, d4, d5, d6] => { results := [.lit (.bool true)], args := [d1, d2, d3, d4, d5, d6] }
  | _ => none }
def walkRightsRow : OpenClaim := { program := "ythjhcdkbajbpdaa", sum := "6d94703f3b78c21c7c71adb132dc184583fa1ff6cffdb0a1b285b81eafe1b94e", func := "tappet/tappetlaw17.WalkRights", spec := "walkRights", unfollowed := true, recurses := true, apart := false }
def WalkRightsSaid : Prop := walkRightsRow.holds Try.pinned (OpenSpec.ofChange walkRightsSpec)

/-- ITS FALSE NEIGHBOUR: 'it returns false'. Refute it at one input. -/
def walkRightsWrong : ChangeSpec := { name := "walkRights", fn := fun _ => fun
  | [d1, d2, d3, d4, d5, d6] => { results := [.lit (.bool false)], args := [d1, d2, d3, d4, d5, d6] }
  | _ => none }
def WalkRightsWrongFalsely : Prop := walkRightsRow.holds Try.pinned (OpenSpec.ofChange walkRightsWrong)

/-- 'tappetlaw17.WalkMarked': WHATEVER THE INPUT: true; the input reads as it did. -/
def walkMarkedSpec : ChangeSpec := { name := "walkMarked", fn := fun _ => fun
  | [d1, d2, d3, d4, d5] => { results := [.lit (.bool true)], args := [d1, d2, d3, d4, d5] }
  | _ => none }
def walkMarkedRow : OpenClaim := { program := "ythjhcdkbajbpdaa", sum := "6d94703f3b78c21c7c71adb132dc184583fa1ff6cffdb0a1b285b81eafe1b94e", func := "tappet/tappetlaw17.WalkMarked", spec := "walkMarked", unfollowed := true, recurses := true, apart := false }
def WalkMarkedSaid : Prop := walkMarkedRow.holds Try.pinned (OpenSpec.ofChange walkMarkedSpec)

/-- ITS FALSE NEIGHBOUR: 'it returns false'. Refute it at one input. -/
def walkMarkedWrong : ChangeSpec := { name := "walkMarked", fn := fun _ => fun
  | [d1, d2, d3, d4, d5] => { results := [.lit (.bool false)], args := [d1, d2, d3, d4, d5] }
  | _ => none }
def WalkMarkedWrongFalsely : Prop := walkMarkedRow.holds Try.pinned (OpenSpec.ofChange walkMarkedWrong)

/-- 'tappetlaw17.WalkChecks': WHATEVER THE INPUT: true; the input reads as it did. -/
def walkChecksSpec : ChangeSpec := { name := "walkChecks", fn := fun _ => fun
  | [d1, d2, d3, d4, d5, d6, d7] => { results := [.lit (.bool true)], args := [d1, d2, d3, d4, d5, d6, d7] }
  | _ => none }
def walkChecksRow : OpenClaim := { program := "ythjhcdkbajbpdaa", sum := "6d94703f3b78c21c7c71adb132dc184583fa1ff6cffdb0a1b285b81eafe1b94e", func := "tappet/tappetlaw17.WalkChecks", spec := "walkChecks", unfollowed := true, recurses := true, apart := false }
def WalkChecksSaid : Prop := walkChecksRow.holds Try.pinned (OpenSpec.ofChange walkChecksSpec)

/-- ITS FALSE NEIGHBOUR: 'it returns false'. Refute it at one input. -/
def walkChecksWrong : ChangeSpec := { name := "walkChecks", fn := fun _ => fun
  | [d1, d2, d3, d4, d5, d6, d7] => { results := [.lit (.bool false)], args := [d1, d2, d3, d4, d5, d6, d7] }
  | _ => none }
def WalkChecksWrongFalsely : Prop := walkChecksRow.holds Try.pinned (OpenSpec.ofChange walkChecksWrong)

/-- 'tappetlaw16.TlbRecent': WHATEVER THE INPUT: true; the input reads as it did. -/
def tlbRecentSpec : ChangeSpec := { name := "tlbRecent", fn := fun _ => fun
  | [d1, d2, d3] => { results := [.lit (.bool true)], args := [d1, d2, d3] }
  | _ => none }
def tlbRecentRow : OpenClaim := { program := "ythjhcdkbajbpdaa", sum := "6d94703f3b78c21c7c71adb132dc184583fa1ff6cffdb0a1b285b81eafe1b94e", func := "tappet/tappetlaw16.TlbRecent", spec := "tlbRecent", apart := false }
def TlbRecentSaid : Prop := tlbRecentRow.holds Try.pinned (OpenSpec.ofChange tlbRecentSpec)

/-- ITS FALSE NEIGHBOUR: 'it returns false'. Refute it at one input. -/
def tlbRecentWrong : ChangeSpec := { name := "tlbRecent", fn := fun _ => fun
  | [d1, d2, d3] => { results := [.lit (.bool false)], args := [d1, d2, d3] }
  | _ => none }
def TlbRecentWrongFalsely : Prop := tlbRecentRow.holds Try.pinned (OpenSpec.ofChange tlbRecentWrong)

/-- 'tappetlaw16.TlbStays': WHATEVER THE INPUT: true; the input reads as it did. -/
def tlbStaysSpec : ChangeSpec := { name := "tlbStays", fn := fun _ => fun
  | [d1, d2, d3] => { results := [.lit (.bool true)], args := [d1, d2, d3] }
  | _ => none }
def tlbStaysRow : OpenClaim := { program := "ythjhcdkbajbpdaa", sum := "6d94703f3b78c21c7c71adb132dc184583fa1ff6cffdb0a1b285b81eafe1b94e", func := "tappet/tappetlaw16.TlbStays", spec := "tlbStays", apart := false }
def TlbStaysSaid : Prop := tlbStaysRow.holds Try.pinned (OpenSpec.ofChange tlbStaysSpec)

/-- ITS FALSE NEIGHBOUR: 'it returns false'. Refute it at one input. -/
def tlbStaysWrong : ChangeSpec := { name := "tlbStays", fn := fun _ => fun
  | [d1, d2, d3] => { results := [.lit (.bool false)], args := [d1, d2, d3] }
  | _ => none }
def TlbStaysWrongFalsely : Prop := tlbStaysRow.holds Try.pinned (OpenSpec.ofChange tlbStaysWrong)

/-- 'tappetlaw16.TlbFinds': WHATEVER THE INPUT: true; the input reads as it did. -/
def tlbFindsSpec : ChangeSpec := { name := "tlbFinds", fn := fun _ => fun
  | [d1, d2, d3, d4, d5, d6] => { results := [.lit (.bool true)], args := [d1, d2, d3, d4, d5, d6] }
  | _ => none }
def tlbFindsRow : OpenClaim := { program := "ythjhcdkbajbpdaa", sum := "6d94703f3b78c21c7c71adb132dc184583fa1ff6cffdb0a1b285b81eafe1b94e", func := "tappet/tappetlaw16.TlbFinds", spec := "tlbFinds", apart := false }
def TlbFindsSaid : Prop := tlbFindsRow.holds Try.pinned (OpenSpec.ofChange tlbFindsSpec)

/-- ITS FALSE NEIGHBOUR: 'it returns false'. Refute it at one input. -/
def tlbFindsWrong : ChangeSpec := { name := "tlbFinds", fn := fun _ => fun
  | [d1, d2, d3, d4, d5, d6] => { results := [.lit (.bool false)], args := [d1, d2, d3, d4, d5, d6] }
  | _ => none }
def TlbFindsWrongFalsely : Prop := tlbFindsRow.holds Try.pinned (OpenSpec.ofChange tlbFindsWrong)

/-- 'tappetlaw16.TlbPlays': WHATEVER THE INPUT: true; the input reads as it did. -/
def tlbPlaysSpec : ChangeSpec := { name := "tlbPlays", fn := fun _ => fun
  | [d1, d2] => { results := [.lit (.bool true)], args := [d1, d2] }
  | _ => none }
def tlbPlaysRow : OpenClaim := { program := "ythjhcdkbajbpdaa", sum := "6d94703f3b78c21c7c71adb132dc184583fa1ff6cffdb0a1b285b81eafe1b94e", func := "tappet/tappetlaw16.TlbPlays", spec := "tlbPlays", unfollowed := true, recurses := true, apart := false }
def TlbPlaysSaid : Prop := tlbPlaysRow.holds Try.pinned (OpenSpec.ofChange tlbPlaysSpec)

/-- ITS FALSE NEIGHBOUR: 'it returns false'. Refute it at one input. -/
def tlbPlaysWrong : ChangeSpec := { name := "tlbPlays", fn := fun _ => fun
  | [d1, d2] => { results := [.lit (.bool false)], args := [d1, d2] }
  | _ => none }
def TlbPlaysWrongFalsely : Prop := tlbPlaysRow.holds Try.pinned (OpenSpec.ofChange tlbPlaysWrong)

/-- 'tappetlaw16.TlbNil': WHATEVER THE INPUT: true; the input reads as it did. -/
def tlbNilSpec : ChangeSpec := { name := "tlbNil", fn := fun _ => fun
  | [d1, d2, d3] => { results := [.lit (.bool true)], args := [d1, d2, d3] }
  | _ => none }
def tlbNilRow : OpenClaim := { program := "ythjhcdkbajbpdaa", sum := "6d94703f3b78c21c7c71adb132dc184583fa1ff6cffdb0a1b285b81eafe1b94e", func := "tappet/tappetlaw16.TlbNil", spec := "tlbNil", apart := false }
def TlbNilSaid : Prop := tlbNilRow.holds Try.pinned (OpenSpec.ofChange tlbNilSpec)

/-- ITS FALSE NEIGHBOUR: 'it returns false'. Refute it at one input. -/
def tlbNilWrong : ChangeSpec := { name := "tlbNil", fn := fun _ => fun
  | [d1, d2, d3] => { results := [.lit (.bool false)], args := [d1, d2, d3] }
  | _ => none }
def TlbNilWrongFalsely : Prop := tlbNilRow.holds Try.pinned (OpenSpec.ofChange tlbNilWrong)

/- THE SECOND FORM. 'bulk': how many values and letters a reading holds, each counted each time it is reached (what is shared counts as often as it is met; a slice's spare places count too). A statement '..UptoSaid' is the law's where the arguments, and the package variables that the reading takes, are together of bulk at most 1048576: NARROWER than '..Said'. Prove '..Said' where nothing that the law and all that it calls make is longer than what came in: it says more and counts as full. Else prove '..UptoSaid'. A law counts once. -/
mutual
def uptoBulk {H : Type} : DataW H → Nat
  | .lit (.string bytes) => bytes.length + 1
  | .lit _ => 1
  | .nil => 1
  | .ptr d => uptoBulk d + 1
  | .slice elems spare => uptoBulkAll elems + uptoBulkAll spare + 1
  | .agg parts => uptoBulkAll parts + 1
  | .iface _ d => uptoBulk d + 1
  | .map entries => uptoBulkEntries entries + 1
  | .held _ => 1
def uptoBulkAll {H : Type} : List (DataW H) → Nat
  | [] => 0
  | d :: r => uptoBulk d + uptoBulkAll r
def uptoBulkEntries {H : Type} : List (Lit × DataW H) → Nat
  | [] => 0
  | x :: r => uptoBulkEntry x + uptoBulkEntries r
def uptoBulkEntry {H : Type} : Lit × DataW H → Nat
  | (.string bytes, d) => bytes.length + uptoBulk d + 1
  | (_, d) => uptoBulk d + 1
 end
def uptoSmall : (H : Type) → List (DataW H) → Bool := fun _ ds => decide (uptoBulkAll ds ≤ 1048576)
def OpenSpec.upto (s : _root_.Go.ChangeSpec) : _root_.Go.OpenSpec := { _root_.Go.OpenSpec.ofChange s with cond := some uptoSmall }

/-- 'tappetlaw17.WalkPage', WHERE WHAT IT READS IS OF BULK AT MOST 1048576: true; the input reads as it did. -/
def walkPageUptoRow : OpenClaim := { program := "ythjhcdkbajbpdaa", sum := "6d94703f3b78c21c7c71adb132dc184583fa1ff6cffdb0a1b285b81eafe1b94e", func := "tappet/tappetlaw17.WalkPage", spec := "walkPage", unfollowed := true, recurses := true, apart := false, narrowed := true }
def WalkPageUptoSaid : Prop := walkPageUptoRow.holds Try.pinned (OpenSpec.upto walkPageSpec)

/-- 'tappetlaw17.WalkSuper', WHERE WHAT IT READS IS OF BULK AT MOST 1048576: true; the input reads as it did. -/
def walkSuperUptoRow : OpenClaim := { program := "ythjhcdkbajbpdaa", sum := "6d94703f3b78c21c7c71adb132dc184583fa1ff6cffdb0a1b285b81eafe1b94e", func := "tappet/tappetlaw17.WalkSuper", spec := "walkSuper", unfollowed := true, recurses := true, apart := false, narrowed := true }
def WalkSuperUptoSaid : Prop := walkSuperUptoRow.holds Try.pinned (OpenSpec.upto walkSuperSpec)

/-- 'tappetlaw17.WalkBad', WHERE WHAT IT READS IS OF BULK AT MOST 1048576: true; the input reads as it did. -/
def walkBadUptoRow : OpenClaim := { program := "ythjhcdkbajbpdaa", sum := "6d94703f3b78c21c7c71adb132dc184583fa1ff6cffdb0a1b285b81eafe1b94e", func := "tappet/tappetlaw17.WalkBad", spec := "walkBad", unfollowed := true, recurses := true, apart := false, narrowed := true }
def WalkBadUptoSaid : Prop := walkBadUptoRow.holds Try.pinned (OpenSpec.upto walkBadSpec)

/-- 'tappetlaw17.WalkWalks', WHERE WHAT IT READS IS OF BULK AT MOST 1048576: true; the input reads as it did. -/
def walkWalksUptoRow : OpenClaim := { program := "ythjhcdkbajbpdaa", sum := "6d94703f3b78c21c7c71adb132dc184583fa1ff6cffdb0a1b285b81eafe1b94e", func := "tappet/tappetlaw17.WalkWalks", spec := "walkWalks", unfollowed := true, recurses := true, apart := false, narrowed := true }
def WalkWalksUptoSaid : Prop := walkWalksUptoRow.holds Try.pinned (OpenSpec.upto walkWalksSpec)

/-- 'tappetlaw17.WalkRights', WHERE WHAT IT READS IS OF BULK AT MOST 1048576: true; the input reads as it did. -/
def walkRightsUptoRow : OpenClaim := { program := "ythjhcdkbajbpdaa", sum := "6d94703f3b78c21c7c71adb132dc184583fa1ff6cffdb0a1b285b81eafe1b94e", func := "tappet/tappetlaw17.WalkRights", spec := "walkRights", unfollowed := true, recurses := true, apart := false, narrowed := true }
def WalkRightsUptoSaid : Prop := walkRightsUptoRow.holds Try.pinned (OpenSpec.upto walkRightsSpec)

/-- 'tappetlaw17.WalkMarked', WHERE WHAT IT READS IS OF BULK AT MOST 1048576: true; the input reads as it did. -/
def walkMarkedUptoRow : OpenClaim := { program := "ythjhcdkbajbpdaa", sum := "6d94703f3b78c21c7c71adb132dc184583fa1ff6cffdb0a1b285b81eafe1b94e", func := "tappet/tappetlaw17.WalkMarked", spec := "walkMarked", unfollowed := true, recurses := true, apart := false, narrowed := true }
def WalkMarkedUptoSaid : Prop := walkMarkedUptoRow.holds Try.pinned (OpenSpec.upto walkMarkedSpec)

/-- 'tappetlaw17.WalkChecks', WHERE WHAT IT READS IS OF BULK AT MOST 1048576: true; the input reads as it did. -/
def walkChecksUptoRow : OpenClaim := { program := "ythjhcdkbajbpdaa", sum := "6d94703f3b78c21c7c71adb132dc184583fa1ff6cffdb0a1b285b81eafe1b94e", func := "tappet/tappetlaw17.WalkChecks", spec := "walkChecks", unfollowed := true, recurses := true, apart := false, narrowed := true }
def WalkChecksUptoSaid : Prop := walkChecksUptoRow.holds Try.pinned (OpenSpec.upto walkChecksSpec)

/-- 'tappetlaw16.TlbRecent', WHERE WHAT IT READS IS OF BULK AT MOST 1048576: true; the input reads as it did. -/
def tlbRecentUptoRow : OpenClaim := { program := "ythjhcdkbajbpdaa", sum := "6d94703f3b78c21c7c71adb132dc184583fa1ff6cffdb0a1b285b81eafe1b94e", func := "tappet/tappetlaw16.TlbRecent", spec := "tlbRecent", apart := false, narrowed := true }
def TlbRecentUptoSaid : Prop := tlbRecentUptoRow.holds Try.pinned (OpenSpec.upto tlbRecentSpec)

/-- 'tappetlaw16.TlbStays', WHERE WHAT IT READS IS OF BULK AT MOST 1048576: true; the input reads as it did. -/
def tlbStaysUptoRow : OpenClaim := { program := "ythjhcdkbajbpdaa", sum := "6d94703f3b78c21c7c71adb132dc184583fa1ff6cffdb0a1b285b81eafe1b94e", func := "tappet/tappetlaw16.TlbStays", spec := "tlbStays", apart := false, narrowed := true }
def TlbStaysUptoSaid : Prop := tlbStaysUptoRow.holds Try.pinned (OpenSpec.upto tlbStaysSpec)

/-- 'tappetlaw16.TlbFinds', WHERE WHAT IT READS IS OF BULK AT MOST 1048576: true; the input reads as it did. -/
def tlbFindsUptoRow : OpenClaim := { program := "ythjhcdkbajbpdaa", sum := "6d94703f3b78c21c7c71adb132dc184583fa1ff6cffdb0a1b285b81eafe1b94e", func := "tappet/tappetlaw16.TlbFinds", spec := "tlbFinds", apart := false, narrowed := true }
def TlbFindsUptoSaid : Prop := tlbFindsUptoRow.holds Try.pinned (OpenSpec.upto tlbFindsSpec)

/-- 'tappetlaw16.TlbPlays', WHERE WHAT IT READS IS OF BULK AT MOST 1048576: true; the input reads as it did. -/
def tlbPlaysUptoRow : OpenClaim := { program := "ythjhcdkbajbpdaa", sum := "6d94703f3b78c21c7c71adb132dc184583fa1ff6cffdb0a1b285b81eafe1b94e", func := "tappet/tappetlaw16.TlbPlays", spec := "tlbPlays", unfollowed := true, recurses := true, apart := false, narrowed := true }
def TlbPlaysUptoSaid : Prop := tlbPlaysUptoRow.holds Try.pinned (OpenSpec.upto tlbPlaysSpec)

/-- 'tappetlaw16.TlbNil', WHERE WHAT IT READS IS OF BULK AT MOST 1048576: true; the input reads as it did. -/
def tlbNilUptoRow : OpenClaim := { program := "ythjhcdkbajbpdaa", sum := "6d94703f3b78c21c7c71adb132dc184583fa1ff6cffdb0a1b285b81eafe1b94e", func := "tappet/tappetlaw16.TlbNil", spec := "tlbNil", apart := false, narrowed := true }
def TlbNilUptoSaid : Prop := tlbNilUptoRow.holds Try.pinned (OpenSpec.upto tlbNilSpec)

end Rows
end Go.Proofs.Ythjhcdkbajbpdaa
