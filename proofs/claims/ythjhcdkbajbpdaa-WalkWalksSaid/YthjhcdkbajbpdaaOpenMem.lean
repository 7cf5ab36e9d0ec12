/- An argument of type Memory, opened: the words and the flag. -/
import Derived.Test.YthjhcdkbajbpdaaOpen
import Derived.Test.YthjhcdkbajbpdaaWalkBad
namespace Go.Proofs.Ythjhcdkbajbpdaa
open Go.RowKit Go.ChangeShapes Go.WideShapes
theorem mem_of {W : World} {A : Option Addr} {len : Nat} (h : RowsIn [.int .u64, .int .u64] W A len) : ∃ l : List (BitVec 64 × BitVec 64), l.length = len ∧ MemIn W W.heap.size A l ∧ l.length ≤ 9223372036854775807 := by
  rcases Nat.eq_zero_or_pos len with h0 | h0
  · subst h0
    exact ⟨[], rfl, fun h => by simp at h, by simp⟩
  · obtain ⟨b, off, rfl, hb, hc⟩ := h.2 h0
    obtain ⟨l, hl, hp⟩ := list_of ((0#64, 0#64) : BitVec 64 × BitVec 64) (fun i x => W.cell? ⟨b, off + i * 2, none⟩ = some (.int .u64 (x.1.toNat : Int)) ∧ W.cell? ⟨b, off + i * 2 + 1, none⟩ = some (.int .u64 (x.2.toNat : Int))) len (fun i hi => by
      obtain ⟨cs, ha, hj⟩ := hc i hi
      have e0 := hj 0 (by simp)
      have e1 := hj 1 (by simp)
      obtain ⟨v0, g0, z0, rfl, w0⟩ := ha.get 0 (.int .u64) rfl
      obtain ⟨v1, g1, z1, rfl, w1⟩ := ha.get 1 (.int .u64) rfl
      obtain ⟨x0, rfl⟩ := u64_bv w0
      obtain ⟨x1, rfl⟩ := u64_bv w1
      rw [g0] at e0
      rw [g1] at e1
      exact ⟨(x0, x1), e0, e1⟩)
    exact ⟨l, hl, fun _ => ⟨b, off, rfl, hb, fun i hi => hp i (by omega)⟩, by rw [hl]; exact h.1⟩
set_option maxRecDepth 20000 in
theorem open_mem {H : Type} {enc : TypeId × Value → H} {W : World} {base : Nat} {sp : Nat → Bool} {hd : Bool} {r : Reach} {b0 : Nat} {v : Value} {d : DataW H} {ps : List MemPlace}
    (hval : Value.okWide Try.prog W r b0 25 v) (h : DataW.Trod enc Try.prog W base sp hd 25 v d ps) :
    ∃ A c hole l, v = .agg #[.slice A (l : List (BitVec 64 × BitVec 64)).length c, .bool hole] ∧ MemIn W W.heap.size A l ∧ l.length ≤ 9223372036854775807 := by
  obtain ⟨cs, rfl, hsz⟩ := okWide_struct Try.underlying25 hval
  have hC : Try.prog.cellsOf 25 = 2 := by kernel_rfl
  rw [hC] at hsz
  obtain ⟨fuel, hf⟩ := h
  obtain ⟨y0, y1, n, _, _, hy0, hy1⟩ := trod_struct2 Try.underlying25 hf
  obtain ⟨l⟩ := cs
  match l, hsz with
  | [c0, c1], _ =>
    have k0 : DataW.trod enc Try.prog W base sp hd n 23 [c0] = some y0 := hy0
    have k1 : DataW.trod enc Try.prog W base sp hd n 4 [c1] = some y1 := hy1
    obtain ⟨hole, hb, _⟩ := DataW.trod_bool Try.underlying4 k1
    have hb' : c1 = .bool hole := by simpa using hb
    subst hb'
    have hs : ∃ A len cap, c0 = .slice A len cap := by
      rcases Go.Deep.open_slice Try.underlying23 k0 with ⟨hcs, _⟩ | ⟨a, len, cap, _, _, _, _, hcs, _⟩
      · exact ⟨none, 0, 0, by simpa using hcs⟩
      · exact ⟨some a, len, cap, by simpa using hcs⟩
    obtain ⟨A, len, cap, rfl⟩ := hs
    have hr := rows_in (P := Try.prog) 8 Try.underlying23 (e := 81) (ls := [.int .u64, .int .u64]) (by kernel_rfl) (by kernel_rfl) (by simp) k0
    obtain ⟨l, rfl, hm, hx⟩ := mem_of hr
    exact ⟨A, cap, hole, l, rfl, hm, hx⟩
theorem walkBad_cells (satp : Int) (w0 : (Lit.int .u64 satp).wf = true) (va : Int) (w1 : (Lit.int .u64 va).wf = true) (A : Option Addr) (c : Nat) (hole : Bool) (l : List (BitVec 64 × BitVec 64)) (w : World) (hc : MemIn w w.heap.size A l) (hmax : l.length ≤ 9223372036854775807) (entry : Int) (w3 : (Lit.int .u64 entry).wf = true) :
    Calls Try.prog 5 #[.int .u64 satp, .int .u64 va, .agg #[.slice A l.length c, .bool hole], .int .u64 entry] w fun e w' => e = .returned (.bool true) ∧ Below w.heap.size w w' := by
  obtain ⟨satp, rfl⟩ := u64_bv w0
  obtain ⟨va, rfl⟩ := u64_bv w1
  obtain ⟨entry, rfl⟩ := u64_bv w3
  exact walkBad_walk satp va A c hole l entry w hmax hc
end Go.Proofs.Ythjhcdkbajbpdaa
