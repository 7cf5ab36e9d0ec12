/- The laws on package tlb: their scripts; which number of ways. -/
import Derived.Test.YthjhcdkbajbpdaaTlbAwake
import Derived.Test.YthjhcdkbajbpdaaTlbForget
import Derived.Test.YthjhcdkbajbpdaaTlbFork
import Derived.Test.YthjhcdkbajbpdaaOpen
namespace Go.Proofs.Ythjhcdkbajbpdaa
open Go.RowKit Wd Pl
set_option linter.unusedVariables false
set_option linter.unusedSimpArgs false
namespace Wd
/-- A call of a script. -/
structure Sop where
  kind : Int
  va : BitVec 64
  f : Lf
def noSop : Sop := ⟨0, 0#64, ⟨0, 0, 0, 0, 0⟩⟩
def sopAt (l : List Sop) (i : Nat) : Sop := l.getD i noSop
end Wd
/-- The script that came in, below block n. -/
def OpsIn (w : World) (n : Nat) (A : Option Addr) (l : List Sop) : Prop :=
  0 < l.length → ∃ b off, A = some ⟨b, off, none⟩ ∧ b < n ∧ ∀ i, i < l.length → w.cell? ⟨b, off + i * 7, none⟩ = some (.int .i64 (sopAt l i).kind) ∧ w.cell? ⟨b, off + i * 7 + 1, none⟩ = some (.int .u64 ((sopAt l i).va.toNat : Int)) ∧
    w.cell? ⟨b, off + i * 7 + 2, none⟩ = some (.int .i64 (sopAt l i).f.lv) ∧ w.cell? ⟨b, off + i * 7 + 3, none⟩ = some (.int .u64 (sopAt l i).f.p0) ∧ w.cell? ⟨b, off + i * 7 + 4, none⟩ = some (.int .u64 (sopAt l i).f.p1) ∧ w.cell? ⟨b, off + i * 7 + 5, none⟩ = some (.int .u64 (sopAt l i).f.p2) ∧ w.cell? ⟨b, off + i * 7 + 6, none⟩ = some (.int .u64 (sopAt l i).f.en)
theorem OpsIn.below {w w' : World} {n : Nat} {A : Option Addr} {l : List Sop} (h : OpsIn w n A l) (hb : Below n w w') : OpsIn w' n A l := fun h0 => by
  obtain ⟨b, off, e, hl, hc⟩ := h h0
  refine ⟨b, off, e, hl, fun i hi => ?_⟩
  obtain ⟨c0, c1, c2, c3, c4, c5, c6⟩ := hc i hi
  have g : ∀ o v, w.cell? ⟨b, o, none⟩ = some v → w'.cell? ⟨b, o, none⟩ = some v := fun o v h => (hb.cell (p := ⟨b, o, none⟩) hl).trans h
  exact ⟨g _ _ c0, g _ _ c1, g _ _ c2, g _ _ c3, g _ _ c4, g _ _ c5, g _ _ c6⟩
def leafOp : List Flat.Leaf := [.int .i64, .int .u64, .int .i64, .int .u64, .int .u64, .int .u64, .int .u64]
theorem ops_of {W : World} {A : Option Addr} {len : Nat} (h : RowsIn leafOp W A len) : ∃ l : List Sop, l.length = len ∧ OpsIn W W.heap.size A l ∧ l.length ≤ 9223372036854775807 := by
  rcases Nat.eq_zero_or_pos len with h0 | h0
  · subst h0
    exact ⟨[], rfl, fun h => by simp at h, by simp⟩
  · obtain ⟨b, off, rfl, hb, hc⟩ := h.2 h0
    obtain ⟨l, hl, hp⟩ := list_of noSop (fun i x => W.cell? ⟨b, off + i * 7, none⟩ = some (.int .i64 x.kind) ∧ W.cell? ⟨b, off + i * 7 + 1, none⟩ = some (.int .u64 (x.va.toNat : Int)) ∧
        W.cell? ⟨b, off + i * 7 + 2, none⟩ = some (.int .i64 x.f.lv) ∧ W.cell? ⟨b, off + i * 7 + 3, none⟩ = some (.int .u64 x.f.p0) ∧ W.cell? ⟨b, off + i * 7 + 4, none⟩ = some (.int .u64 x.f.p1) ∧ W.cell? ⟨b, off + i * 7 + 5, none⟩ = some (.int .u64 x.f.p2) ∧ W.cell? ⟨b, off + i * 7 + 6, none⟩ = some (.int .u64 x.f.en)) len (fun i hi => by
      obtain ⟨cs, ha, hj⟩ := hc i hi
      have hj' : ∀ j, j < 7 → W.cell? ⟨b, off + (i * 7 + j), none⟩ = cs[j]? := hj
      obtain ⟨v0, g0, z0, rfl, _⟩ := ha.get 0 _ rfl
      obtain ⟨v1, g1, z1, rfl, u1⟩ := ha.get 1 _ rfl
      obtain ⟨v2, g2, z2, rfl, _⟩ := ha.get 2 _ rfl
      obtain ⟨v3, g3, z3, rfl, _⟩ := ha.get 3 _ rfl
      obtain ⟨v4, g4, z4, rfl, _⟩ := ha.get 4 _ rfl
      obtain ⟨v5, g5, z5, rfl, _⟩ := ha.get 5 _ rfl
      obtain ⟨v6, g6, z6, rfl, _⟩ := ha.get 6 _ rfl
      obtain ⟨x1, rfl⟩ := u64_bv u1
      exact ⟨⟨z0, x1, ⟨z2, z3, z4, z5, z6⟩⟩, (hj' 0 (by omega)).trans g0, (hj' 1 (by omega)).trans g1, (hj' 2 (by omega)).trans g2, (hj' 3 (by omega)).trans g3, (hj' 4 (by omega)).trans g4, (hj' 5 (by omega)).trans g5, (hj' 6 (by omega)).trans g6⟩)
    exact ⟨l, hl, fun _ => ⟨b, off, rfl, hb, fun i hi => hp i (by omega)⟩, by rw [hl]; exact h.1⟩
theorem rem_3 (n : Int) : (IntKind.u64.wrap n).tmod 3 = 0 ∨ (IntKind.u64.wrap n).tmod 3 = 1 ∨ (IntKind.u64.wrap n).tmod 3 = 2 := by
  rw [w64, Int.tmod_eq_emod_of_nonneg (by omega)]
  omega
theorem new_at (n : Nat) (h : n = 2 ∨ n = 4 ∨ n = 8) (w : World) (k : Nat) (hk : w.heap.size = k) : Calls Try.prog 33 #[.int .i64 (n : Int)] w fun e w' =>
    e = .returned (.tuple #[.pointer (some ⟨k + 1, 0, none⟩), .int .i64 0]) ∧ Tb w' 94 99 (k + 1) k (mkW n) 0 ∧ Below w.heap.size w w' := by
  subst hk
  exact new_ok n h w
theorem put_some (p q : Nat) (ws : List Wy) (st : Int) (va : BitVec 64) (f : Lf) (w : World) (h : Tb w 94 99 p q ws st) : Calls Try.prog 36 #[.pointer (some ⟨p, 0, none⟩), .int .u64 (va.toNat : Int), .agg #[.int .i64 f.lv, .int .u64 f.p0, .int .u64 f.p1, .int .u64 f.p2, .int .u64 f.en]] w fun e w' =>
    ∃ r : Int, e = .returned (.int .i64 r) ∧ Tb w' 94 99 p q (putWs ws st va f) (putSt ws st va f) ∧ Only [p, q] w w' :=
  (put_any p q ws st va f w h).mono fun e w' k => ⟨_, k.1, k.2⟩
/-- A TLB under way in a law. -/
structure Law (w0 w : World) (p q : Nat) (ws : List Wy) (st : Int) : Prop where
  t : Tb w 94 99 p q ws st
  b : Below w0.heap.size w0 w
  pn : w0.heap.size ≤ p
  qn : w0.heap.size ≤ q
theorem Law.step {w0 w w' : World} {p q p2 q2 : Nat} {ws ws2 : List Wy} {st st2 : Int} (h : Law w0 w p q ws st) (ht : Tb w' 94 99 p2 q2 ws2 st2) (ho : Only [p, q] w w') (h1 : w0.heap.size ≤ p2) (h2 : w0.heap.size ≤ q2) : Law w0 w' p2 q2 ws2 st2 :=
  ⟨ht, h.b.trans (ho.below (fun x hx => by
    have := h.pn
    have := h.qn
    simp at hx
    omega) h.b.size), h1, h2⟩
theorem Law.put {w0 w w1 w' : World} {p q : Nat} {ws ws2 : List Wy} {st st2 : Int} (h : Law w0 w p q ws st) (hq : Quiet w w1) (ht : Tb w' 94 99 p q ws2 st2) (ho : Only [p, q] w1 w') : Law w0 w' p q ws2 st2 :=
  h.step ht ((Only.refl [p, q] w).quiet hq |>.also ho) h.pn h.qn
theorem Law.make {w0 w w' : World} {p q : Nat} {ws : List Wy} {st : Int} (h : Law w0 w p q ws st) (hb : Below w.heap.size w w') : Law w0 w' p q ws st :=
  ⟨h.t.below hb, h.b.trans (hb.mono h.b.size), h.pn, h.qn⟩
theorem only_p {p q : Nat} {w w' : World} (h : Only [p] w w') : Only [p, q] w w' := h.mono fun x hx => .inl (by simp at hx; simp [hx])
theorem only_q {p q : Nat} {w w' : World} (h : Only [q] w w') : Only [p, q] w w' := h.mono fun x hx => .inl (by simp at hx; simp [hx])
end Go.Proofs.Ythjhcdkbajbpdaa
