/- awake of the laws on package walk. -/
import Derived.Test.YthjhcdkbajbpdaaWalkAwake
namespace Go.Proofs.Ythjhcdkbajbpdaa
open Go.RowKit Wd
set_option linter.unusedVariables false
set_option linter.unusedSimpArgs false
set_option maxRecDepth 8000
namespace Wd
def memA : List (BitVec 64 × BitVec 64) := [(4096#64, 536871119#64)]
theorem walkA : walkR 9223372036854775809#64 4660#64 (lookM memA false) = (some (2, 536871119#64), 0, [4096#64]) := by decide +kernel
theorem addrA : ((addrW 536871119#64 4660#64 (12 + 9 * lvN 2)).toNat : Int) = 2147488308 := by decide +kernel
end Wd
theorem walkCall (K : FuncId) (c1 c2 : Value) (ba : Option Nat) (n0 : Nat) (R : World → Option Nat → List (BitVec 64) → Prop) (hR : ReaderOk K c1 c2 (lookM memA false) ba n0 R)
    (w : World) (h0 : R w none []) (hn : n0 ≤ w.heap.size) :
    Calls Try.prog 15 #[.int .u64 9223372036854775809, .int .u64 4660, .func (.func K) #[] #[c1, c2]] w fun e w' =>
      e = .returned (.tuple #[.agg #[.int .i64 2, .int .u64 4096, .int .u64 0, .int .u64 0, .int .u64 536871119], .int .i64 0]) ∧ Apart ba none w w' := by
  refine (walk_any 9223372036854775809#64 4660#64 K c1 c2 _ ba n0 R hR w none h0 hn (by simp)).mono ?_
  rintro e w' ⟨he, g', _, _, ha⟩
  rw [walkA] at he
  exact ⟨he, ha⟩
theorem addrCall : Mk Try.prog 19 #[.agg #[.int .i64 2, .int .u64 4096, .int .u64 0, .int .u64 0, .int .u64 536871119], .int .u64 4660] (.int .u64 2147488308) := by
  have h := addr_any ⟨2, 4096#64, 0#64, 0#64, 536871119#64⟩ 4660#64
  rw [addrA] at h
  exact h
theorem below_alloc {w w' : World} {o : Obj} (hb : Below (w.alloc o).heap.size (w.alloc o) w') : Below w.heap.size w w' :=
  ((Below.refl w.heap.size w).alloc (Nat.le_refl _) o).trans (hb.mono (by simp))
set_option maxHeartbeats 4000000 in
theorem awake_any : Mk Try.prog 17 #[] (.bool true) := by
  intro w
  go_enter Try.func17, Try.ntmps17
  go_wp2_with fail
  obtain ⟨W3, hW⟩ : ∃ W, W = ((w.alloc (.cells #[.slice none 0 0] 26)).alloc (.cells #[.int .u64 4096, .int .u64 536871119] 81)).alloc (.cells #[.slice (some ⟨w.heap.size + 1, 0, none⟩) 1 1, .bool false] 25) := ⟨_, rfl⟩
  rw [← hW]
  have hb3 : Below w.heap.size w W3 := by
    rw [hW]
    exact (((Below.refl _ _).alloc (Nat.le_refl _) _).alloc (by simp) _).alloc (by simp; omega) _
  have h1 : W3.heap[w.heap.size]? = some (.cells #[.slice none 0 0] 26 (0, 0)) := by
    rw [hW, heap_alloc_old _ _ (by simp; omega), heap_alloc_old _ _ (by simp)]
    exact heap_alloc_new _ _
  have h2 : W3.heap[w.heap.size + 1]? = some (.cells #[.int .u64 4096, .int .u64 536871119] 81 (0, 0)) := by
    rw [hW, heap_alloc_old _ _ (by simp)]
    have := heap_alloc_new (w.alloc (.cells #[.slice none 0 0] 26)) (.cells #[.int .u64 4096, .int .u64 536871119] 81)
    simpa using this
  have hs3 : W3.heap.size = w.heap.size + 3 := by rw [hW]; simp
  have hr := rdm_start (w := W3) (A := some ⟨w.heap.size + 1, 0, none⟩) (c := 1) (ba := w.heap.size) (hole := false) (l := memA) (by decide) h1 (fun _ => ⟨w.heap.size + 1, 0, rfl, ⟨by omega, by omega⟩, fun i hi => by
    have : i = 0 := by simp [memA] at hi; exact hi
    subst this
    exact ⟨cell_of_row W3 _ 0 _ _ (0, 0) h2, cell_of_row W3 _ 1 _ _ (0, 0) h2⟩⟩)
  have hk := reader_ok (W3.heap.size + 2) (W3.heap.size + 1) w.heap.size W3.heap.size memA false (by omega)
  rw [hs3] at hr hk
  have HR := Lib.hid hr
  have HK := Lib.hid hk
  clear hW hr hk h1 h2
  refine (mkreader _ _ _ _ _ _).mono ?_
  rintro e w1 ⟨rfl, rfl⟩
  go_wp2_with fail
  refine (walkCall _ _ _ _ _ _ HK.out _ HR.out (by simp; omega)).mono ?_
  rintro e w2 ⟨rfl, ha⟩
  have hE : Below w.heap.size w w2 := by
    have b5 := (hb3.alloc hb3.size (.cells #[.slice (some ⟨w.heap.size + 1, 0, none⟩) 1 1, .bool false] 25)).alloc (by have := hb3.size; simp; omega) (.cells #[.pointer (some ⟨w.heap.size, 0, none⟩)] 35)
    refine ⟨ha.os.trans b5.os, ha.tape.trans b5.tape, ha.output.trans b5.output, Nat.le_trans b5.size ha.size, fun k hk => ?_⟩
    exact (ha.block k (Nat.lt_of_lt_of_le hk b5.size) (by simp; omega) (by simp)).trans (b5.block k hk)
  have HE := Lib.hid hE
  clear ha hb3 hE hs3
  go_wp2_with fail
  refine (addrCall _).mono ?_
  rintro e w3 ⟨rfl, hb4⟩
  go_wp2_with fail
  go_ret
  exact ⟨rfl, HE.out.trans ((below_alloc hb4).mono HE.out.size)⟩
end Go.Proofs.Ythjhcdkbajbpdaa
