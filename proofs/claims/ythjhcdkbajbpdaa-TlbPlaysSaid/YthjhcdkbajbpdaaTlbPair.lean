/- The law TlbPlays: both TLBs under way; one call of each. -/
import Derived.Test.YthjhcdkbajbpdaaEntPlain
import Derived.Test.YthjhcdkbajbpdaaRtlbPuts
import Derived.Test.YthjhcdkbajbpdaaRtlbForget
import Derived.Test.YthjhcdkbajbpdaaRtlbAll
import Derived.Test.YthjhcdkbajbpdaaRtlbNew
namespace Go.Proofs.Ythjhcdkbajbpdaa
open Go.RowKit Wd Pl
set_option linter.unusedVariables false
set_option linter.unusedSimpArgs false
/-- Both TLBs under way: the program's at p, q, the document's at p2, q2; nothing older than they are is touched. -/
structure Pair (w0 w : World) (p q : Nat) (ws : List Wy) (st : Int) (p2 q2 : Nat) (ws2 : List Wy) (st2 : Int) : Prop where
  t : Tb w 94 99 p q ws st
  r : Tb w 103 111 p2 q2 ws2 st2
  b : Below w0.heap.size w0 w
  ne : p ≠ p2 ∧ p ≠ q2 ∧ q ≠ p2 ∧ q ≠ q2
  lo : w0.heap.size ≤ p ∧ w0.heap.size ≤ q ∧ w0.heap.size ≤ p2 ∧ w0.heap.size ≤ q2
theorem Pair.make {w0 w w' : World} {p q p2 q2 : Nat} {ws ws2 : List Wy} {st st2 : Int} (h : Pair w0 w p q ws st p2 q2 ws2 st2) (hb : Below w.heap.size w w') : Pair w0 w' p q ws st p2 q2 ws2 st2 :=
  ⟨h.t.below hb, h.r.below hb, h.b.trans (hb.mono h.b.size), h.ne, h.lo⟩
theorem Pair.quiet {w0 w w' : World} {p q p2 q2 : Nat} {ws ws2 : List Wy} {st st2 : Int} (h : Pair w0 w p q ws st p2 q2 ws2 st2) (hq : Quiet w w') : Pair w0 w' p q ws st p2 q2 ws2 st2 := h.make (hq.below _)
theorem Pair.prog {w0 w w' : World} {p q p2 q2 q3 : Nat} {ws ws2 ws3 : List Wy} {st st2 st3 : Int} (h : Pair w0 w p q ws st p2 q2 ws2 st2) (ht : Tb w' 94 99 p q3 ws3 st3) (ho : Only [p, q] w w') (hq : q3 = q ∨ w.heap.size ≤ q3) :
    Pair w0 w' p q3 ws3 st3 p2 q2 ws2 st2 := by
  obtain ⟨n1, n2, n3, n4⟩ := h.ne
  obtain ⟨l1, l2, l3, l4⟩ := h.lo
  have e1 := h.r.pl
  have e2 := h.r.ql
  have e3 := h.b.size
  refine ⟨ht, h.r.only ho (by simp; omega) (by simp; omega), h.b.trans (ho.below (fun x hx => by simp at hx; omega) h.b.size), ?_, ?_⟩
  · rcases hq with rfl | hq <;> omega
  · rcases hq with rfl | hq <;> omega
theorem Pair.doc {w0 w w' : World} {p q p2 q2 q3 : Nat} {ws ws2 ws3 : List Wy} {st st2 st3 : Int} (h : Pair w0 w p q ws st p2 q2 ws2 st2) (ht : Tb w' 103 111 p2 q3 ws3 st3) (ho : Only [p2, q2] w w') (hq : q3 = q2 ∨ w.heap.size ≤ q3) :
    Pair w0 w' p q ws st p2 q3 ws3 st3 := by
  obtain ⟨n1, n2, n3, n4⟩ := h.ne
  obtain ⟨l1, l2, l3, l4⟩ := h.lo
  have e1 := h.t.pl
  have e2 := h.t.ql
  have e3 := h.b.size
  refine ⟨h.t.only ho (by simp; omega) (by simp; omega), ht, h.b.trans (ho.below (fun x hx => by simp at hx; omega) h.b.size), ?_, ?_⟩
  · rcases hq with rfl | hq <;> omega
  · rcases hq with rfl | hq <;> omega
/-- The operation's block, while both calls are made. -/
theorem Pair.fresh {w0 w : World} {p q p2 q2 : Nat} {ws ws2 : List Wy} {st st2 : Int} (h : Pair w0 w p q ws st p2 q2 ws2 st2) : w.heap.size ∉ [p, q] ∧ w.heap.size ∉ [p2, q2] := by
  have e1 := h.t.pl
  have e2 := h.t.ql
  have e3 := h.r.pl
  have e4 := h.r.ql
  constructor
  · simp; omega
  · simp; omega
/-- Both at the same place in the script. -/
def Even (w0 w : World) (p p2 : Nat) : Prop := ∃ q q2 ws st, Pair w0 w p q ws st p2 q2 ws st
end Go.Proofs.Ythjhcdkbajbpdaa
