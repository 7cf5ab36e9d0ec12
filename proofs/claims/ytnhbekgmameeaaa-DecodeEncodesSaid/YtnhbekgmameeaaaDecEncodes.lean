/- The law DecodeEncodes, walked: each call answers true. -/
import Derived.Test.YtnhbekgmameeaaaEncodeP
import Derived.Test.YtnhbekgmameeaaaEncodeR
import Derived.Test.YtnhbekgmameeaaaDecAwake
import Derived.Test.YtnhbekgmameeaaaFlat
namespace Go.Proofs.Ytnhbekgmameeaaa
open Go.RowKit Wd
set_option linter.unusedVariables false
set_option linter.unusedSimpArgs false
attribute [local go_sem] loadI_ins rowI_alloc rowI_drew
attribute [local go_sem ↓] loadI_run
set_option maxRecDepth 20000
set_option maxHeartbeats 4000000 in
theorem encodes_at (i : Ins) (v : BitVec 32) (e : Int) (cP : Hid (Mk Try.prog 43 #[.agg (insC i)] (.tuple #[.int .u32 (v.toNat : Int), .int .i64 e]))) (cR : Hid (Mk Try.prog 44 #[.agg (insC i)] (.tuple #[.int .u32 (v.toNat : Int), .int .i64 e]))) (w : World) :
    Calls Try.prog 8 #[.agg (insC i)] w fun e w' => e = .returned (.bool true) ∧ Below w.heap.size w w' := by
  have r0 : rowI (w.alloc (.cells (insC i) 44)) w.heap.size = some (insC i) := by rw [rowI_alloc, if_pos rfl, if_pos rfl]
  go_enter Try.func8, Try.ntmps8
  go_wp2_with fail
  refine (cP.out _).mono ?_
  rintro en w1 ⟨rfl, hb1⟩
  have r1 := rowI_below r0 hb1
  replace hb1 := Lib.hid hb1
  clear r0
  go_wp2_with fail
  refine (cR.out _).mono ?_
  rintro en w2 ⟨rfl, hb2⟩
  have hb := hb1.out.trans (hb2.mono hb1.out.size)
  clear r1 hb2 hb1
  go_wp2_with (go_at_call 39; refine ((awake_any).at hb).mono ?_; clear hb; rintro en w3 ⟨rfl, hb⟩)
  go_ret
  exact ⟨rfl, below_alloc hb⟩
namespace Wd
def leafI : List Flat.Leaf := [.int .i64, .int .i64, .int .i64, .int .i64, .int .i64, .int .u64, .int .i64, .bool, .bool, .bool, .int .i64]
def witI : List Value := [.int .i64 0, .int .i64 0, .int .i64 0, .int .i64 0, .int .i64 0, .int .u64 0, .int .i64 0, .bool false, .bool false, .bool false, .int .i64 0]
end Wd
theorem all2_cons {a : Flat.Leaf} {ls : List Flat.Leaf} {l : List Value} (h : Flat.All2 (a :: ls) l) : ∃ v vs, l = v :: vs ∧ a.ok v ∧ Flat.All2 ls vs := by
  cases l with
  | nil => exact False.elim h
  | cons v vs => exact ⟨v, vs, rfl, h.1, h.2⟩
theorem all2_nil {l : List Value} (h : Flat.All2 [] l) : l = [] := by
  cases l with
  | nil => rfl
  | cons v vs => exact False.elim h
theorem ins_of {cs : Array Value} (h : Flat.All2 leafI cs.toList) : ∃ i : Ins, cs = insC i := by
  obtain ⟨l⟩ := cs
  unfold leafI at h
  obtain ⟨_, l0, e0, ⟨a0, rfl, _⟩, h⟩ := all2_cons h
  obtain ⟨_, l1, e1, ⟨a1, rfl, _⟩, h⟩ := all2_cons h
  obtain ⟨_, l2, e2, ⟨a2, rfl, _⟩, h⟩ := all2_cons h
  obtain ⟨_, l3, e3, ⟨a3, rfl, _⟩, h⟩ := all2_cons h
  obtain ⟨_, l4, e4, ⟨a4, rfl, _⟩, h⟩ := all2_cons h
  obtain ⟨_, l5, e5, ⟨a5, rfl, w5⟩, h⟩ := all2_cons h
  obtain ⟨_, l6, e6, ⟨a6, rfl, _⟩, h⟩ := all2_cons h
  obtain ⟨_, l7, e7, ⟨a7, rfl⟩, h⟩ := all2_cons h
  obtain ⟨_, l8, e8, ⟨a8, rfl⟩, h⟩ := all2_cons h
  obtain ⟨_, l9, e9, ⟨a9, rfl⟩, h⟩ := all2_cons h
  obtain ⟨_, l10, e10, ⟨a10, rfl, _⟩, h⟩ := all2_cons h
  obtain rfl := all2_nil h
  obtain ⟨im, rfl⟩ := u64_bv w5
  refine ⟨⟨a0, a1, a2, a3, a4, im, a6, a7, a8, a9, a10⟩, ?_⟩
  simp only at e0
  rw [e0, e1, e2, e3, e4, e5, e6, e7, e8, e9, e10]
  rfl
theorem decodeEncodes_cells (cs : Array Value) (h : Flat.All2 leafI cs.toList) (w : World) :
    Calls Try.prog 8 #[.agg cs] w fun e w' => e = .returned (.bool true) ∧ Below w.heap.size w w' := by
  obtain ⟨i, rfl⟩ := ins_of h
  have hP := pEncode_any i
  have hR := rEncode_any i
  rw [← enc_same] at hR
  exact encodes_at i _ _ (Lib.hid hP) (Lib.hid hR) w
end Go.Proofs.Ytnhbekgmameeaaa
