/- A function that hands back an instruction, and whether it is one. -/
import Derived.Test.YtnhbekgmameeaaaIns2
namespace Go.Proofs.Ytnhbekgmameeaaa
open Go.RowKit Wd
theorem results_insb {fn : Func} {p q : Tmp} (h : fn.results = #[.cell p 44, .tmp q]) (tmps : Array Value) (w : World) (b : Nat) (cs : Array Value)
    (hp : tmps.getD p undef = .pointer (some ⟨b, 0, none⟩)) (hg : rowI w b = some cs) (hs : cs.size = 11) (v : Value) (hq : tmps.getD q undef = v) :
    (results fn tmps).run Try.prog w = .ok (.tuple #[.agg cs, v]) w := by
  have hp' : tmps[p]?.getD undef = .pointer (some ⟨b, 0, none⟩) := by simpa using hp
  have hq' : tmps[q]?.getD undef = v := by simpa using hq
  have hi : (Try.prog.info? 44).map (·.size) = some cs.size := by rw [hs]; exact sizeI noI
  simp [results, h, hp', hq', asAddr, run_loadVar_row w b 44 44 cs (0, 0) _ (rowI_heap hg) Try.underlying44 rfl hi]
/-- The way out of such a function. -/
theorem ret_insb {fn : Func} {Q : Ending → World → Prop} {a : Act} {w : World} {p q : Tmp} {b : Nat} {cs : Array Value} {v : Value} (hf : fn.results = #[.cell p 44, .tmp q]) (hp : a.tmps.getD p undef = .pointer (some ⟨b, 0, none⟩)) (hv : a.tmps.getD q undef = v)
    (hr : rowI w b = some cs) (hs : cs.size = 11) (hd : a.defers = []) (hR : Q (.returned (.tuple #[.agg cs, v])) w) : bodyPost Try.prog fn Q .ret a w :=
  bodyPost_ret (results_insb hf a.tmps w b cs hp hr hs v hv) hd hR
/-- An instruction, and whether it is one: where it is, this one; else none. -/
def InsB (T : Ins) (w : World) (e : Ending) (w' : World) : Prop := ∃ (i : Ins) (b : Bool), e = .returned (.tuple #[.agg (insC i), .bool b]) ∧ (if b = true then i else noI) = T ∧ Below w.heap.size w w'
theorem insB_yes {T : Ins} {w w' : World} {e : Ending} (he : e = .returned (.tuple #[.agg (insC T), .bool true])) (hb : Below w.heap.size w w') : InsB T w e w' := ⟨T, true, he, rfl, hb⟩
theorem insB_no {w w' : World} {e : Ending} (i : Ins) (he : e = .returned (.tuple #[.agg (insC i), .bool false])) (hb : Below w.heap.size w w') : InsB noI w e w' := ⟨i, false, he, rfl, hb⟩
theorem insB_eq {T T' : Ins} {w w' : World} {e : Ending} (h : InsB T w e w') (ht : T = T') : InsB T' w e w' := ht ▸ h
theorem storeF_int (w : World) (b o : Nat) (k : IntKind) (n : Int) (y0 y1 y2 y3 y4 y5 y6 y7 y8 y9 y10 : Value) (h : o < 11) : storeF w b o (.int k n) (some #[y0, y1, y2, y3, y4, y5, y6, y7, y8, y9, y10]) = .ok () (w.setCell ⟨b, o, none⟩ (.int k n)) := storeF_lit w b o _ y0 y1 y2 y3 y4 y5 y6 y7 y8 y9 y10 h (by simp [Value.oneCell'])
end Go.Proofs.Ytnhbekgmameeaaa
