/- The law WalkPage, walked: each call answers true. -/
import Derived.Test.YthjhcdkbajbpdaaWalkPagePlain
import Derived.Test.YthjhcdkbajbpdaaWalkBad
import Derived.Test.YthjhcdkbajbpdaaWdsPlain
import Derived.Test.YthjhcdkbajbpdaaPteEq
import Derived.Test.YthjhcdkbajbpdaaWalkLaws
namespace Go.Proofs.Ythjhcdkbajbpdaa
open Go.RowKit Wd
set_option linter.unusedVariables false
set_option linter.unusedSimpArgs false
set_option maxRecDepth 8000
attribute [local go_sem] and_L or_L clr_L sub_L
attribute [local go_sem ↓] eq_pte_same
namespace Wd
theorem pr_0 : IntKind.i64.wrap (9 * 0) = 0 := by decide
theorem ps_0 : IntKind.i64.wrap (3 - 0) = 3 := by decide
theorem ps_1 : IntKind.i64.wrap (3 - 1) = 2 := by decide
theorem ps_2 : IntKind.i64.wrap (3 - 2) = 1 := by decide
theorem pt_3 : IntKind.i64.wrap 3 = 3 := by decide
theorem pt_2 : IntKind.i64.wrap 2 = 2 := by decide
theorem pt_1 : IntKind.i64.wrap 1 = 1 := by decide
theorem pr_9 : IntKind.i64.wrap 9 = 9 := by decide
theorem pr_18 : IntKind.i64.wrap 18 = 18 := by decide
theorem pr_12 : IntKind.i64.wrap 12 = 12 := by decide
theorem pr_a12 : IntKind.i64.wrap (12 + 0) = 12 := by decide
theorem pr_a21 : IntKind.i64.wrap (12 + 9) = 21 := by decide
theorem pr_a30 : IntKind.i64.wrap (12 + 18) = 30 := by decide
theorem pr_21 : IntKind.i64.wrap 21 = 21 := by decide
theorem pr_30 : IntKind.i64.wrap 30 = 30 := by decide
theorem pu_12 : IntKind.u64.wrap 12 = 12 := by decide
theorem pu_21 : IntKind.u64.wrap 21 = 21 := by decide
theorem pu_30 : IntKind.u64.wrap 30 = 30 := by decide
theorem pp_12 : IntKind.u64.wrap (2 ^ min (12 : Int).toNat 64) = 4096 := by decide
theorem pp_21 : IntKind.u64.wrap (2 ^ min (21 : Int).toNat 64) = 2097152 := by decide
theorem pp_30 : IntKind.u64.wrap (2 ^ min (30 : Int).toNat 64) = 1073741824 := by decide
theorem pq_12 : IntKind.u64.wrap (4096 - 1) = 4095 := by decide
theorem pq_21 : IntKind.u64.wrap (2097152 - 1) = 2097151 := by decide
theorem pq_30 : IntKind.u64.wrap (1073741824 - 1) = 1073741823 := by decide
theorem px_12 : IntKind.u64.wrap 4095 = 4095 := by decide
theorem px_21 : IntKind.u64.wrap 2097151 = 2097151 := by decide
theorem px_30 : IntKind.u64.wrap 1073741823 = 1073741823 := by decide
theorem py_12 : IntKind.u64.wrap 4096 = 4096 := by decide
theorem py_21 : IntKind.u64.wrap 2097152 = 2097152 := by decide
theorem py_30 : IntKind.u64.wrap 1073741824 = 1073741824 := by decide
end Wd
attribute [local go_sem] ps_0 ps_1 ps_2 pt_3 pt_2 pt_1 pr_0 pr_9 pr_18 pr_12 pr_a12 pr_a21 pr_a30 pr_21 pr_30 pu_12 pu_21 pu_30 pp_12 pp_21 pp_30 pq_12 pq_21 pq_30 px_12 px_21 px_30 py_12 py_21 py_30
/-- The other list's variable is as it was. -/
theorem Kp.other {w0 w w' : World} {A : Option Addr} {c : Nat} {hole : Bool} {l : List (BitVec 64 × BitVec 64)} {n rl r2 : Nat} (h : Kp w0 w A c hole l n r2) (ha : Apart (some rl) none w w') (h1 : w0.heap.size < rl) (h2 : rl ≠ r2) : Kp w0 w' A c hole l n r2 := by
  have hh : ∀ k, k < w.heap.size → k ≠ rl → w'.heap[k]? = w.heap[k]? := fun k hk hne => ha.block k hk (by simp; exact hne) (by simp)
  have hz := h.z
  have hr := h.r
  have hp := h.p
  exact ⟨(hh _ (by omega) (by omega)).trans h.m, (hh _ (by omega) (by omega)).trans h.ll, h.i.keep fun k hk => hh k (by omega) (by omega), h.b.trans (ha.from (fun b e => by simp at e; omega) (fun b e => by simp at e) (by omega)), Nat.le_trans hz ha.size, hr, hp⟩
theorem kp_two (w : World) (A : Option Addr) (c : Nat) (hole : Bool) (l : List (BitVec 64 × BitVec 64)) (hc : MemIn w w.heap.size A l) :
    Kp w (((w.alloc (.cells #[.slice A l.length c, .bool hole] 25)).alloc (.cells #[.slice none 0 0] 26)).alloc (.cells #[.slice none 0 0] 26)) A c hole l 3 (w.heap.size + 1) ∧
    Kp w (((w.alloc (.cells #[.slice A l.length c, .bool hole] 25)).alloc (.cells #[.slice none 0 0] 26)).alloc (.cells #[.slice none 0 0] 26)) A c hole l 3 (w.heap.size + 2) := by
  have hb : Below w.heap.size w (((w.alloc (.cells #[.slice A l.length c, .bool hole] 25)).alloc (.cells #[.slice none 0 0] 26)).alloc (.cells #[.slice none 0 0] 26)) := (((Below.refl _ _).alloc (Nat.le_refl _) _).alloc (by simp) _).alloc (by simp; omega) _
  have h0 : (((w.alloc (.cells #[.slice A l.length c, .bool hole] 25)).alloc (.cells #[.slice none 0 0] 26)).alloc (.cells #[.slice none 0 0] 26)).heap[w.heap.size]? = some (.cells #[.slice A l.length c, .bool hole] 25 (0, 0)) := by
    rw [heap_alloc_old _ _ (by simp; omega), heap_alloc_old _ _ (by simp)]
    exact heap_alloc_new _ _
  refine ⟨⟨h0, ?_, hc.keep fun k hk => hb.block k hk, hb, by simp, by omega, by omega⟩, ⟨h0, ?_, hc.keep fun k hk => hb.block k hk, hb, by simp, by omega, by omega⟩⟩
  · rw [heap_alloc_old _ _ (by simp)]
    have := heap_alloc_new (w.alloc (.cells #[.slice A l.length c, .bool hole] 25)) (.cells #[.slice none 0 0] 26)
    simpa using this
  · have := heap_alloc_new ((w.alloc (.cells #[.slice A l.length c, .bool hole] 25)).alloc (.cells #[.slice none 0 0] 26)) (.cells #[.slice none 0 0] 26)
    simpa using this
/-- What is kept of the first walk: its leaf in a block, its list. -/
structure Pg (w : World) (xs : List (BitVec 64)) (bp r1 r2 : Nat) (A : Option Addr) (c : Nat) (cs : Array Value) : Prop where
  p : w.heap[bp]? = some (.cells cs 29 (0, 0))
  l : w.heap[r1]? = some (.cells #[.slice A xs.length c] 26 (0, 0))
  wa : Wds w A xs.length xs
  f : ∀ b, A = some ⟨b, 0, none⟩ → r2 < b
  g : r2 < bp
  h : r1 < r2
theorem block_lt {w : World} {b : Nat} {o : Obj} (h : w.heap[b]? = some o) : b < w.heap.size := by
  by_cases g : b < w.heap.size
  · exact g
  · rw [Array.getElem?_eq_none (by omega)] at h
    simp at h
theorem Pg.lt {w : World} {xs : List (BitVec 64)} {bp r1 r2 : Nat} {A : Option Addr} {c : Nat} {cs : Array Value} (h : Pg w xs bp r1 r2 A c cs) : bp < w.heap.size := block_lt h.p
theorem Pg.l1 {w : World} {xs : List (BitVec 64)} {bp r1 r2 : Nat} {A : Option Addr} {c : Nat} {cs : Array Value} (h : Pg w xs bp r1 r2 A c cs) : r1 < w.heap.size := block_lt h.l
theorem Wds.lo {w : World} {A : Option Addr} {n : Nat} {xs : List (BitVec 64)} (h : Wds w A n xs) (h0 : 0 < n) : ∀ b, A = some ⟨b, 0, none⟩ → b < w.heap.size := fun b e => by
  obtain ⟨b', e', hlt, _⟩ := h.2 h0
  rw [e'] at e
  simp at e
  omega
theorem Wds.keep' {w w' : World} {A : Option Addr} {n : Nat} {xs : List (BitVec 64)} (h : Wds w A n xs) (hs : w.heap.size ≤ w'.heap.size) (hh : ∀ b, A = some ⟨b, 0, none⟩ → b < w.heap.size → w'.heap[b]? = w.heap[b]?) : Wds w' A n xs :=
  ⟨h.1, fun hn => by
    obtain ⟨b, e, hlt, hc⟩ := h.2 hn
    exact ⟨b, e, by omega, fun i hi => (World.cell?_of_block (hh b e hlt)).trans (hc i hi)⟩⟩
theorem Pg.keep {w w' : World} {xs : List (BitVec 64)} {bp r1 r2 : Nat} {A : Option Addr} {c : Nat} {cs : Array Value} (h : Pg w xs bp r1 r2 A c cs) (hs : w.heap.size ≤ w'.heap.size) (hh : ∀ k, k < w.heap.size → k ≠ r2 → w'.heap[k]? = w.heap[k]?) : Pg w' xs bp r1 r2 A c cs :=
  ⟨(hh _ h.lt (by have := h.g; omega)).trans h.p, (hh _ h.l1 (by have := h.h; omega)).trans h.l, h.wa.keep' hs fun b e hb => hh b hb (by have := h.f b e; omega), h.f, h.g, h.h⟩
theorem Pg.below {w w' : World} {xs : List (BitVec 64)} {bp r1 r2 : Nat} {A : Option Addr} {c : Nat} {cs : Array Value} (h : Pg w xs bp r1 r2 A c cs) (hb : Below w.heap.size w w') : Pg w' xs bp r1 r2 A c cs := h.keep hb.size fun k hk _ => hb.block k hk
/-- What is kept of both walks. -/
structure Pt (w : World) (xs : List (BitVec 64)) (n bp bq r1 r2 : Nat) (A B : Option Addr) (c d : Nat) (cs : Array Value) : Prop where
  p : w.heap[bp]? = some (.cells cs 29 (0, 0))
  q : w.heap[bq]? = some (.cells cs 29 (0, 0))
  l : w.heap[r1]? = some (.cells #[.slice A n c] 26 (0, 0))
  m : w.heap[r2]? = some (.cells #[.slice B n d] 26 (0, 0))
  wa : Wds w A n xs
  wb : Wds w B n xs
theorem Pt.below {w w' : World} {xs : List (BitVec 64)} {n bp bq r1 r2 : Nat} {A B : Option Addr} {c d : Nat} {cs : Array Value} (h : Pt w xs n bp bq r1 r2 A B c d cs) (hb : Below w.heap.size w w') : Pt w' xs n bp bq r1 r2 A B c d cs :=
  ⟨(hb.block _ (block_lt h.p)).trans h.p, (hb.block _ (block_lt h.q)).trans h.q, (hb.block _ (block_lt h.l)).trans h.l, (hb.block _ (block_lt h.m)).trans h.m, h.wa.below hb, h.wb.below hb⟩
def PtS (w : World) (bp bq r1 r2 : Nat) (A B : Option Addr) (n c d : Nat) (k p0 p1 p2 en : Int) : Prop :=
  (w.cell? ⟨bp, 0, none⟩ = some (.int .i64 k) ∧ w.cell? ⟨bp, 1, none⟩ = some (.int .u64 p0) ∧ w.cell? ⟨bp, 2, none⟩ = some (.int .u64 p1) ∧ w.cell? ⟨bp, 3, none⟩ = some (.int .u64 p2) ∧ w.cell? ⟨bp, 4, none⟩ = some (.int .u64 en)) ∧
  (w.cell? ⟨bq, 0, none⟩ = some (.int .i64 k) ∧ w.cell? ⟨bq, 1, none⟩ = some (.int .u64 p0) ∧ w.cell? ⟨bq, 2, none⟩ = some (.int .u64 p1) ∧ w.cell? ⟨bq, 3, none⟩ = some (.int .u64 p2) ∧ w.cell? ⟨bq, 4, none⟩ = some (.int .u64 en)) ∧
  w.cell? ⟨r1, 0, none⟩ = some (.slice A n c) ∧ w.cell? ⟨r2, 0, none⟩ = some (.slice B n d)
theorem Pt.cells {w : World} {xs : List (BitVec 64)} {n bp bq r1 r2 : Nat} {A B : Option Addr} {c d : Nat} {k p0 p1 p2 en : Int} (h : Pt w xs n bp bq r1 r2 A B c d #[.int .i64 k, .int .u64 p0, .int .u64 p1, .int .u64 p2, .int .u64 en]) : PtS w bp bq r1 r2 A B n c d k p0 p1 p2 en :=
  ⟨⟨cell_of_row w _ 0 _ _ (0, 0) h.p, cell_of_row w _ 1 _ _ (0, 0) h.p, cell_of_row w _ 2 _ _ (0, 0) h.p, cell_of_row w _ 3 _ _ (0, 0) h.p, cell_of_row w _ 4 _ _ (0, 0) h.p⟩,
    ⟨cell_of_row w _ 0 _ _ (0, 0) h.q, cell_of_row w _ 1 _ _ (0, 0) h.q, cell_of_row w _ 2 _ _ (0, 0) h.q, cell_of_row w _ 3 _ _ (0, 0) h.q, cell_of_row w _ 4 _ _ (0, 0) h.q⟩,
    cell_of_row w _ 0 _ _ (0, 0) h.l, cell_of_row w _ 0 _ _ (0, 0) h.m⟩
set_option maxHeartbeats 8000000 in
theorem page_no (satp va other : BitVec 64) (A : Option Addr) (c : Nat) (hole : Bool) (l : List (BitVec 64 × BitVec 64)) (w : World) (hmax : l.length ≤ 9223372036854775807) (hc : MemIn w w.heap.size A l) (cc : Int) (xs : List (BitVec 64)) (hw : walkR satp va (lookM l hole) = (none, cc, xs)) (hcc : cc = 6 ∨ cc = 7) (hxl : xs.length ≤ 3) :
    Calls Try.prog 3 #[.int .u64 (satp.toNat : Int), .int .u64 (va.toNat : Int), .agg #[.slice A l.length c, .bool hole], .int .u64 (other.toNat : Int)] w fun e w' => e = .returned (.bool true) ∧ Below w.heap.size w w' := by
  obtain ⟨hk, _⟩ := kp_two w A c hole l hc
  have HK := Lib.hid hk
  have HW := Lib.hid hw
  have HX := Lib.hid hxl
  have hc0 : (cc != 0) = true := by rcases hcc with rfl | rfl <;> rfl
  clear hk hc hw hxl hcc
  go_enter Try.func3, Try.ntmps3
  go_wp2_with fail
  generalize ((w.alloc (.cells #[.slice A l.length c, .bool hole] 25)).alloc (.cells #[.slice none 0 0] 26)).alloc (.cells #[.slice none 0 0] 26) = W1 at HK ⊢
  refine (mkreader _ _ _ _ _ _).mono ?_
  rintro e w5 ⟨rfl, rfl⟩
  have cM := walk_mem satp va hmax HK.out
  rw [HW.out, show pteC (pteOf (none, cc, xs)) = #[.int .i64 0, .int .u64 0, .int .u64 0, .int .u64 0, .int .u64 0] from rfl] at cM
  replace cM := Lib.hid cM
  go_wp2_with fail
  refine cM.out.mono ?_
  rintro e w6 ⟨rfl, v, g, hv, hown, hg, ha⟩
  have B6 := Lib.hid (HK.out.b.trans (ha.from (B := w.heap.size) (fun b e => by simp at e; omega) (fun b e => by simp at e) (by have := HK.out.z; omega)))
  obtain ⟨A', c', rfl⟩ := owns_slice hown
  have hz6 : w.heap.size + 3 ≤ w6.heap.size := Nat.le_trans HK.out.z ha.size
  have hz7 : w.heap.size + 1 < w6.heap.size := by omega
  have cl : w6.cell? ⟨w.heap.size + 1, 0, none⟩ = some (.slice A' xs.length c') := cell_of_row w6 _ 0 _ _ (0, 0) hv
  have hx3 : (xs.length : Int) ≤ 3 := by have := HX.out; omega
  clear hv hown hg ha cM HK
  go_wp2_with fail
  refine (awake_any _).mono ?_
  rintro e w7 ⟨rfl, hb7⟩
  have r7 : rowC (w6.alloc (.cells #[.int .i64 0, .int .u64 0, .int .u64 0, .int .u64 0, .int .u64 0] 29)) w6.heap.size = some #[.int .i64 0, .int .u64 0, .int .u64 0, .int .u64 0, .int .u64 0] := by rw [rowC_alloc, if_pos rfl]
  replace r7 := Lib.hid (rowC_below r7 hb7)
  have cl7 := Lib.hid ((World.cell?_of_block ((below_alloc hb7).block (w.heap.size + 1) hz7)).trans cl)
  have hz8 : w.heap.size + 1 < w7.heap.size := by have := hb7.size; simp at this; omega
  replace B6 := Lib.hid (B6.out.trans ((below_alloc hb7).mono (by omega)))
  clear hb7 cl hz7 hz6
  go_wp2_with fail
  refine (awake_any _).mono ?_
  rintro e w8 ⟨rfl, hb8⟩
  obtain ⟨_, c0, c1, c2, c3, c4⟩ := pte_in r7.out hb8
  have cl8 := (World.cell?_of_block (hb8.block (w.heap.size + 1) hz8)).trans cl7.out
  replace B6 := Lib.hid (B6.out.trans (hb8.mono (by omega)))
  clear hb8 r7 cl7
  go_wp2_with fail
  go_ret
  exact ⟨rfl, B6.out⟩
set_option maxHeartbeats 8000000 in
theorem page_ok0 (satp va other : BitVec 64) (A : Option Addr) (c : Nat) (hole : Bool) (l : List (BitVec 64 × BitVec 64)) (w : World) (hmax : l.length ≤ 9223372036854775807) (hc : MemIn w w.heap.size A l) (en : BitVec 64) (xs : List (BitVec 64)) (hw : walkR satp va (lookM l hole) = (some (0, en), 0, xs)) (hxl : xs.length = 3) :
    Calls Try.prog 3 #[.int .u64 (satp.toNat : Int), .int .u64 (va.toNat : Int), .agg #[.slice A l.length c, .bool hole], .int .u64 (other.toNat : Int)] w fun e w' => e = .returned (.bool true) ∧ Below w.heap.size w w' := by
  obtain ⟨hk1, hk2⟩ := kp_two w A c hole l hc
  have HK := Lib.hid hk1
  have HK2 := Lib.hid hk2
  have HW := Lib.hid hw
  have HW2 := Lib.hid (walk_near satp va other (lookM l hole) 0 en xs (by omega) 4095 (by decide) hw)
  have HX := Lib.hid hxl
  have HD := Lib.hid (addr_apart en va other 12 4095 (by decide) (by omega))
  have A1 := addr_any ⟨0, xs.getD 0 0#64, xs.getD 1 0#64, xs.getD 2 0#64, en⟩ (nearW va other 4095)
  have A2 := addr_any ⟨0, xs.getD 0 0#64, xs.getD 1 0#64, xs.getD 2 0#64, en⟩ va
  rw [show (⟨0, xs.getD 0 0#64, xs.getD 1 0#64, xs.getD 2 0#64, en⟩ : Pte).entry = en from rfl, show 12 + 9 * lvN (⟨0, xs.getD 0 0#64, xs.getD 1 0#64, xs.getD 2 0#64, en⟩ : Pte).level = 12 from rfl, show pteC ⟨0, xs.getD 0 0#64, xs.getD 1 0#64, xs.getD 2 0#64, en⟩ = #[.int .i64 0, .int .u64 ((xs.getD 0 0#64).toNat : Int), .int .u64 ((xs.getD 1 0#64).toNat : Int), .int .u64 ((xs.getD 2 0#64).toNat : Int), .int .u64 (en.toNat : Int)] from rfl] at A1 A2
  have hP : pteC (pteOf (some (0, en), 0, xs)) = #[.int .i64 0, .int .u64 ((xs.getD 0 0#64).toNat : Int), .int .u64 ((xs.getD 1 0#64).toNat : Int), .int .u64 ((xs.getD 2 0#64).toNat : Int), .int .u64 (en.toNat : Int)] := rfl
  generalize ((xs.getD 0 0#64).toNat : Int) = p0 at A1 A2 hP
  generalize ((xs.getD 1 0#64).toNat : Int) = p1 at A1 A2 hP
  generalize ((xs.getD 2 0#64).toNat : Int) = p2 at A1 A2 hP
  have HP := Lib.hid hP
  replace A1 := Lib.hid A1
  replace A2 := Lib.hid A2
  clear hk1 hk2 hc hw hxl hP
  go_enter Try.func3, Try.ntmps3
  go_wp2_with fail
  generalize ((w.alloc (.cells #[.slice A l.length c, .bool hole] 25)).alloc (.cells #[.slice none 0 0] 26)).alloc (.cells #[.slice none 0 0] 26) = W1 at HK HK2 ⊢
  refine (mkreader _ _ _ _ _ _).mono ?_
  rintro e w5 ⟨rfl, rfl⟩
  have cM := walk_mem satp va hmax HK.out
  rw [HW.out, HP.out] at cM
  replace cM := Lib.hid cM
  go_wp2_with fail
  refine cM.out.mono ?_
  rintro e w6 ⟨rfl, v, g, hv, hown, hg, ha⟩
  have hz1 := HK.out.z
  obtain ⟨A', c', rfl, hwd, hbk⟩ := wds_of_own hown
  have pg := Lib.hid (Pg.mk (w := w6.alloc (.cells #[.int .i64 0, .int .u64 p0, .int .u64 p1, .int .u64 p2, .int .u64 (en.toNat : Int)] 29)) (xs := xs) (bp := w6.heap.size) (r1 := w.heap.size + 1) (r2 := w.heap.size + 2) (cs := #[.int .i64 0, .int .u64 p0, .int .u64 p1, .int .u64 p2, .int .u64 (en.toNat : Int)]) (heap_alloc_new _ _) ((heap_alloc_old _ _ (by have := ha.size; omega)).trans hv)
    (hwd.keep (by simp) (fun b e => heap_alloc_old _ _ (by
      have := hown.lt b (hbk b 0 none e)
      omega))) (fun b e => by
      have := hown.lt b (hbk b 0 none e)
      omega) (by have := ha.size; omega) (by omega))
  have hz6 : w.heap.size < w6.heap.size := by have := ha.size; omega
  have hz7 : w.heap.size + 3 ≤ w6.heap.size := by have := ha.size; omega
  have K6 := Lib.hid (HK2.out.other ha (by omega) (by omega))
  clear hv hown hg ha cM HK HK2 hwd hbk hz1
  go_wp2_with fail
  refine (awake_any _).mono ?_
  rintro e w7 ⟨rfl, hb7⟩
  replace pg := Lib.hid (pg.out.below hb7)
  replace K6 := Lib.hid (K6.out.step ((below_alloc hb7).mono hz7))
  clear hb7 hz6 hz7
  have hz := K6.out.z
  have hz0 : w.heap.size < w7.heap.size := by omega
  have cm0 : w7.cell? ⟨w.heap.size, 0, none⟩ = some (.slice A l.length c) := cell_of_row w7 _ 0 _ _ (0, 0) K6.out.m
  have cm1 : w7.cell? ⟨w.heap.size, 1, none⟩ = some (.bool hole) := cell_of_row w7 _ 1 _ _ (0, 0) K6.out.m
  have cp0 : w7.cell? ⟨w6.heap.size, 0, none⟩ = some (.int .i64 0) := cell_of_row w7 _ 0 _ _ (0, 0) pg.out.p
  go_wp2_with fail
  refine (mkreader _ _ _ _ _ _).mono ?_
  rintro e w8 ⟨rfl, rfl⟩
  have cM := walk_mem satp (nearW va other 4095) hmax K6.out
  rw [HW2.out, HP.out] at cM
  unfold nearW at cM
  replace cM := Lib.hid cM
  clear cm0 cm1 cp0
  go_wp2_with fail
  refine cM.out.mono ?_
  rintro e w9 ⟨rfl, v2, g2, hv2, hown2, hg2, ha2⟩
  obtain ⟨A2', c2', rfl, hwd2, hbk2⟩ := wds_of_own hown2
  have pg9 := pg.out.keep ha2.size (fun k hk hne => ha2.block k hk (by simp; exact hne) (by simp))
  have W9 := Lib.hid (Pt.mk (w := w9.alloc (.cells #[.int .i64 0, .int .u64 p0, .int .u64 p1, .int .u64 p2, .int .u64 (en.toNat : Int)] 29)) (xs := xs) (n := 3) (bp := w6.heap.size) (bq := w9.heap.size) (r1 := w.heap.size + 1) (r2 := w.heap.size + 1 + 1) (A := A') (B := A2') (c := c') (d := c2') (cs := #[.int .i64 0, .int .u64 p0, .int .u64 p1, .int .u64 p2, .int .u64 (en.toNat : Int)])
    ((heap_alloc_old _ _ pg9.lt).trans pg9.p) (heap_alloc_new _ _) ((heap_alloc_old _ _ pg9.l1).trans (by have h := pg9.l; rw [HX.out] at h; exact h)) ((heap_alloc_old _ _ (by have := ha2.size; omega)).trans (by have h := hv2; rw [HX.out] at h; exact h)) (by have h := pg9.wa.keep' (w' := w9.alloc (.cells #[.int .i64 0, .int .u64 p0, .int .u64 p1, .int .u64 p2, .int .u64 (en.toNat : Int)] 29)) (by simp) (fun b e hb => heap_alloc_old _ _ hb); rw [HX.out] at h; exact h) (by have h := hwd2.keep' (w' := w9.alloc (.cells #[.int .i64 0, .int .u64 p0, .int .u64 p1, .int .u64 p2, .int .u64 (en.toNat : Int)] 29)) (by simp) (fun b e hb => heap_alloc_old _ _ hb); rw [HX.out] at h; exact h))
  have HB := Lib.hid (K6.out.b.trans (ha2.from (B := w.heap.size) (fun b e => by simp at e; omega) (fun b e => by simp at e) (by omega)))
  have hz9 : w.heap.size ≤ w9.heap.size := by have := ha2.size; omega
  clear hv2 hown2 hg2 ha2 cM K6 hwd2 hbk2 pg pg9 hz hz0
  have hd : (((subW (addrW en (nearW va other 4095) 12) (addrW en va 12)).toNat : Int) == ((subW (nearW va other 4095) va).toNat : Int)) = true := by rw [HD.out]; simp
  unfold nearW at hd A1
  generalize addrW en (orL (clrL va 4095) ((andL other 4095).toNat : Int)) 12 = a1 at A1 hd
  generalize addrW en va 12 = a2 at A2 hd
  replace A1 := Lib.hid A1.out
  replace HB := Lib.hid (HB.out.alloc hz9 (.cells #[.int .i64 0, .int .u64 p0, .int .u64 p1, .int .u64 p2, .int .u64 (en.toNat : Int)] 29))
  have cP : Hid (∀ w', Below (w9.alloc (.cells #[.int .i64 0, .int .u64 p0, .int .u64 p1, .int .u64 p2, .int .u64 (en.toNat : Int)] 29)).heap.size (w9.alloc (.cells #[.int .i64 0, .int .u64 p0, .int .u64 p1, .int .u64 p2, .int .u64 (en.toNat : Int)] 29)) w' → Calls Try.prog 18 #[.slice A' 3 c', .slice A2' 3 c2'] w' fun e w'' => e = .returned (.bool true) ∧ Below (w9.alloc (.cells #[.int .i64 0, .int .u64 p0, .int .u64 p1, .int .u64 p2, .int .u64 (en.toNat : Int)] 29)).heap.size (w9.alloc (.cells #[.int .i64 0, .int .u64 p0, .int .u64 p1, .int .u64 p2, .int .u64 (en.toNat : Int)] 29)) w'') := fun w' hb =>
    (wplain_true A' A2' 3 c' c2' xs (by omega) w' (W9.out.below hb).wa (W9.out.below hb).wb).mono fun e w'' k => ⟨k.1, hb.trans (k.2.below _)⟩
  go_wp2_with fail
  generalize w9.alloc (.cells #[.int .i64 0, .int .u64 p0, .int .u64 p1, .int .u64 p2, .int .u64 (en.toNat : Int)] 29) = W at W9 HB cP ⊢
  go_region_held3 (fun w' => Below W.heap.size W w' ∧ (w'.cell? ⟨w6.heap.size, 0, none⟩ = some (.int .i64 0) ∧ w'.cell? ⟨w6.heap.size, 1, none⟩ = some (.int .u64 p0) ∧ w'.cell? ⟨w6.heap.size, 2, none⟩ = some (.int .u64 p1) ∧ w'.cell? ⟨w6.heap.size, 3, none⟩ = some (.int .u64 p2) ∧ w'.cell? ⟨w6.heap.size, 4, none⟩ = some (.int .u64 (en.toNat : Int))) ∧
      (w'.cell? ⟨w9.heap.size, 0, none⟩ = some (.int .i64 0) ∧ w'.cell? ⟨w9.heap.size, 1, none⟩ = some (.int .u64 p0) ∧ w'.cell? ⟨w9.heap.size, 2, none⟩ = some (.int .u64 p1) ∧ w'.cell? ⟨w9.heap.size, 3, none⟩ = some (.int .u64 p2) ∧ w'.cell? ⟨w9.heap.size, 4, none⟩ = some (.int .u64 (en.toNat : Int))) ∧
      w'.cell? ⟨w.heap.size + 1, 0, none⟩ = some (.slice A' 3 c') ∧ w'.cell? ⟨w.heap.size + 1 + 1, 0, none⟩ = some (.slice A2' 3 c2')) (first | exact ⟨hb3, (W9.out.below hb3).cells⟩ | exact ⟨(Below.refl _ _).drew, (W9.out.below (Below.refl _ _).drew).cells⟩ | exact ⟨Below.refl _ _, W9.out.cells⟩)
    (first
      | (go_at_call 18; refine (cP.out _ (‹_ ∧ _›.1)).mono ?_; rintro e w3 ⟨rfl, hb3⟩)
      | (go_at_call_of 19 (andL other 4095); refine ((A1.out).at (‹_ ∧ _›.1)).mono ?_; rintro e w3 ⟨rfl, hb3⟩)
      | (go_at_call 19; refine ((A2.out).at (‹_ ∧ _›.1)).mono ?_; rintro e w3 ⟨rfl, hb3⟩))
  all_goals
    go_wp2_with fail
    go_ret
    exact ⟨rfl, HB.out.trans (hb3.mono (by have := HB.out.size; omega))⟩
set_option maxHeartbeats 8000000 in
theorem page_ok1 (satp va other : BitVec 64) (A : Option Addr) (c : Nat) (hole : Bool) (l : List (BitVec 64 × BitVec 64)) (w : World) (hmax : l.length ≤ 9223372036854775807) (hc : MemIn w w.heap.size A l) (en : BitVec 64) (xs : List (BitVec 64)) (hw : walkR satp va (lookM l hole) = (some (1, en), 0, xs)) (hxl : xs.length = 2) :
    Calls Try.prog 3 #[.int .u64 (satp.toNat : Int), .int .u64 (va.toNat : Int), .agg #[.slice A l.length c, .bool hole], .int .u64 (other.toNat : Int)] w fun e w' => e = .returned (.bool true) ∧ Below w.heap.size w w' := by
  obtain ⟨hk1, hk2⟩ := kp_two w A c hole l hc
  have HK := Lib.hid hk1
  have HK2 := Lib.hid hk2
  have HW := Lib.hid hw
  have HW2 := Lib.hid (walk_near satp va other (lookM l hole) 1 en xs (by omega) 2097151 (by decide) hw)
  have HX := Lib.hid hxl
  have HD := Lib.hid (addr_apart en va other 21 2097151 (by decide) (by omega))
  have A1 := addr_any ⟨1, xs.getD 0 0#64, xs.getD 1 0#64, xs.getD 2 0#64, en⟩ (nearW va other 2097151)
  have A2 := addr_any ⟨1, xs.getD 0 0#64, xs.getD 1 0#64, xs.getD 2 0#64, en⟩ va
  rw [show (⟨1, xs.getD 0 0#64, xs.getD 1 0#64, xs.getD 2 0#64, en⟩ : Pte).entry = en from rfl, show 12 + 9 * lvN (⟨1, xs.getD 0 0#64, xs.getD 1 0#64, xs.getD 2 0#64, en⟩ : Pte).level = 21 from rfl, show pteC ⟨1, xs.getD 0 0#64, xs.getD 1 0#64, xs.getD 2 0#64, en⟩ = #[.int .i64 1, .int .u64 ((xs.getD 0 0#64).toNat : Int), .int .u64 ((xs.getD 1 0#64).toNat : Int), .int .u64 ((xs.getD 2 0#64).toNat : Int), .int .u64 (en.toNat : Int)] from rfl] at A1 A2
  have hP : pteC (pteOf (some (1, en), 0, xs)) = #[.int .i64 1, .int .u64 ((xs.getD 0 0#64).toNat : Int), .int .u64 ((xs.getD 1 0#64).toNat : Int), .int .u64 ((xs.getD 2 0#64).toNat : Int), .int .u64 (en.toNat : Int)] := rfl
  generalize ((xs.getD 0 0#64).toNat : Int) = p0 at A1 A2 hP
  generalize ((xs.getD 1 0#64).toNat : Int) = p1 at A1 A2 hP
  generalize ((xs.getD 2 0#64).toNat : Int) = p2 at A1 A2 hP
  have HP := Lib.hid hP
  replace A1 := Lib.hid A1
  replace A2 := Lib.hid A2
  clear hk1 hk2 hc hw hxl hP
  go_enter Try.func3, Try.ntmps3
  go_wp2_with fail
  generalize ((w.alloc (.cells #[.slice A l.length c, .bool hole] 25)).alloc (.cells #[.slice none 0 0] 26)).alloc (.cells #[.slice none 0 0] 26) = W1 at HK HK2 ⊢
  refine (mkreader _ _ _ _ _ _).mono ?_
  rintro e w5 ⟨rfl, rfl⟩
  have cM := walk_mem satp va hmax HK.out
  rw [HW.out, HP.out] at cM
  replace cM := Lib.hid cM
  go_wp2_with fail
  refine cM.out.mono ?_
  rintro e w6 ⟨rfl, v, g, hv, hown, hg, ha⟩
  have hz1 := HK.out.z
  obtain ⟨A', c', rfl, hwd, hbk⟩ := wds_of_own hown
  have pg := Lib.hid (Pg.mk (w := w6.alloc (.cells #[.int .i64 1, .int .u64 p0, .int .u64 p1, .int .u64 p2, .int .u64 (en.toNat : Int)] 29)) (xs := xs) (bp := w6.heap.size) (r1 := w.heap.size + 1) (r2 := w.heap.size + 2) (cs := #[.int .i64 1, .int .u64 p0, .int .u64 p1, .int .u64 p2, .int .u64 (en.toNat : Int)]) (heap_alloc_new _ _) ((heap_alloc_old _ _ (by have := ha.size; omega)).trans hv)
    (hwd.keep (by simp) (fun b e => heap_alloc_old _ _ (by
      have := hown.lt b (hbk b 0 none e)
      omega))) (fun b e => by
      have := hown.lt b (hbk b 0 none e)
      omega) (by have := ha.size; omega) (by omega))
  have hz6 : w.heap.size < w6.heap.size := by have := ha.size; omega
  have hz7 : w.heap.size + 3 ≤ w6.heap.size := by have := ha.size; omega
  have K6 := Lib.hid (HK2.out.other ha (by omega) (by omega))
  clear hv hown hg ha cM HK HK2 hwd hbk hz1
  go_wp2_with fail
  refine (awake_any _).mono ?_
  rintro e w7 ⟨rfl, hb7⟩
  replace pg := Lib.hid (pg.out.below hb7)
  replace K6 := Lib.hid (K6.out.step ((below_alloc hb7).mono hz7))
  clear hb7 hz6 hz7
  have hz := K6.out.z
  have hz0 : w.heap.size < w7.heap.size := by omega
  have cm0 : w7.cell? ⟨w.heap.size, 0, none⟩ = some (.slice A l.length c) := cell_of_row w7 _ 0 _ _ (0, 0) K6.out.m
  have cm1 : w7.cell? ⟨w.heap.size, 1, none⟩ = some (.bool hole) := cell_of_row w7 _ 1 _ _ (0, 0) K6.out.m
  have cp0 : w7.cell? ⟨w6.heap.size, 0, none⟩ = some (.int .i64 1) := cell_of_row w7 _ 0 _ _ (0, 0) pg.out.p
  go_wp2_with fail
  refine (mkreader _ _ _ _ _ _).mono ?_
  rintro e w8 ⟨rfl, rfl⟩
  have cM := walk_mem satp (nearW va other 2097151) hmax K6.out
  rw [HW2.out, HP.out] at cM
  unfold nearW at cM
  replace cM := Lib.hid cM
  clear cm0 cm1 cp0
  go_wp2_with fail
  refine cM.out.mono ?_
  rintro e w9 ⟨rfl, v2, g2, hv2, hown2, hg2, ha2⟩
  obtain ⟨A2', c2', rfl, hwd2, hbk2⟩ := wds_of_own hown2
  have pg9 := pg.out.keep ha2.size (fun k hk hne => ha2.block k hk (by simp; exact hne) (by simp))
  have W9 := Lib.hid (Pt.mk (w := w9.alloc (.cells #[.int .i64 1, .int .u64 p0, .int .u64 p1, .int .u64 p2, .int .u64 (en.toNat : Int)] 29)) (xs := xs) (n := 2) (bp := w6.heap.size) (bq := w9.heap.size) (r1 := w.heap.size + 1) (r2 := w.heap.size + 1 + 1) (A := A') (B := A2') (c := c') (d := c2') (cs := #[.int .i64 1, .int .u64 p0, .int .u64 p1, .int .u64 p2, .int .u64 (en.toNat : Int)])
    ((heap_alloc_old _ _ pg9.lt).trans pg9.p) (heap_alloc_new _ _) ((heap_alloc_old _ _ pg9.l1).trans (by have h := pg9.l; rw [HX.out] at h; exact h)) ((heap_alloc_old _ _ (by have := ha2.size; omega)).trans (by have h := hv2; rw [HX.out] at h; exact h)) (by have h := pg9.wa.keep' (w' := w9.alloc (.cells #[.int .i64 1, .int .u64 p0, .int .u64 p1, .int .u64 p2, .int .u64 (en.toNat : Int)] 29)) (by simp) (fun b e hb => heap_alloc_old _ _ hb); rw [HX.out] at h; exact h) (by have h := hwd2.keep' (w' := w9.alloc (.cells #[.int .i64 1, .int .u64 p0, .int .u64 p1, .int .u64 p2, .int .u64 (en.toNat : Int)] 29)) (by simp) (fun b e hb => heap_alloc_old _ _ hb); rw [HX.out] at h; exact h))
  have HB := Lib.hid (K6.out.b.trans (ha2.from (B := w.heap.size) (fun b e => by simp at e; omega) (fun b e => by simp at e) (by omega)))
  have hz9 : w.heap.size ≤ w9.heap.size := by have := ha2.size; omega
  clear hv2 hown2 hg2 ha2 cM K6 hwd2 hbk2 pg pg9 hz hz0
  have hd : (((subW (addrW en (nearW va other 2097151) 21) (addrW en va 21)).toNat : Int) == ((subW (nearW va other 2097151) va).toNat : Int)) = true := by rw [HD.out]; simp
  unfold nearW at hd A1
  generalize addrW en (orL (clrL va 2097151) ((andL other 2097151).toNat : Int)) 21 = a1 at A1 hd
  generalize addrW en va 21 = a2 at A2 hd
  replace A1 := Lib.hid A1.out
  replace HB := Lib.hid (HB.out.alloc hz9 (.cells #[.int .i64 1, .int .u64 p0, .int .u64 p1, .int .u64 p2, .int .u64 (en.toNat : Int)] 29))
  have cP : Hid (∀ w', Below (w9.alloc (.cells #[.int .i64 1, .int .u64 p0, .int .u64 p1, .int .u64 p2, .int .u64 (en.toNat : Int)] 29)).heap.size (w9.alloc (.cells #[.int .i64 1, .int .u64 p0, .int .u64 p1, .int .u64 p2, .int .u64 (en.toNat : Int)] 29)) w' → Calls Try.prog 18 #[.slice A' 2 c', .slice A2' 2 c2'] w' fun e w'' => e = .returned (.bool true) ∧ Below (w9.alloc (.cells #[.int .i64 1, .int .u64 p0, .int .u64 p1, .int .u64 p2, .int .u64 (en.toNat : Int)] 29)).heap.size (w9.alloc (.cells #[.int .i64 1, .int .u64 p0, .int .u64 p1, .int .u64 p2, .int .u64 (en.toNat : Int)] 29)) w'') := fun w' hb =>
    (wplain_true A' A2' 2 c' c2' xs (by omega) w' (W9.out.below hb).wa (W9.out.below hb).wb).mono fun e w'' k => ⟨k.1, hb.trans (k.2.below _)⟩
  go_wp2_with fail
  generalize w9.alloc (.cells #[.int .i64 1, .int .u64 p0, .int .u64 p1, .int .u64 p2, .int .u64 (en.toNat : Int)] 29) = W at W9 HB cP ⊢
  go_region_held3 (fun w' => Below W.heap.size W w' ∧ (w'.cell? ⟨w6.heap.size, 0, none⟩ = some (.int .i64 1) ∧ w'.cell? ⟨w6.heap.size, 1, none⟩ = some (.int .u64 p0) ∧ w'.cell? ⟨w6.heap.size, 2, none⟩ = some (.int .u64 p1) ∧ w'.cell? ⟨w6.heap.size, 3, none⟩ = some (.int .u64 p2) ∧ w'.cell? ⟨w6.heap.size, 4, none⟩ = some (.int .u64 (en.toNat : Int))) ∧
      (w'.cell? ⟨w9.heap.size, 0, none⟩ = some (.int .i64 1) ∧ w'.cell? ⟨w9.heap.size, 1, none⟩ = some (.int .u64 p0) ∧ w'.cell? ⟨w9.heap.size, 2, none⟩ = some (.int .u64 p1) ∧ w'.cell? ⟨w9.heap.size, 3, none⟩ = some (.int .u64 p2) ∧ w'.cell? ⟨w9.heap.size, 4, none⟩ = some (.int .u64 (en.toNat : Int))) ∧
      w'.cell? ⟨w.heap.size + 1, 0, none⟩ = some (.slice A' 2 c') ∧ w'.cell? ⟨w.heap.size + 1 + 1, 0, none⟩ = some (.slice A2' 2 c2')) (first | exact ⟨hb3, (W9.out.below hb3).cells⟩ | exact ⟨(Below.refl _ _).drew, (W9.out.below (Below.refl _ _).drew).cells⟩ | exact ⟨Below.refl _ _, W9.out.cells⟩)
    (first
      | (go_at_call 18; refine (cP.out _ (‹_ ∧ _›.1)).mono ?_; rintro e w3 ⟨rfl, hb3⟩)
      | (go_at_call_of 19 (andL other 2097151); refine ((A1.out).at (‹_ ∧ _›.1)).mono ?_; rintro e w3 ⟨rfl, hb3⟩)
      | (go_at_call 19; refine ((A2.out).at (‹_ ∧ _›.1)).mono ?_; rintro e w3 ⟨rfl, hb3⟩))
  all_goals
    go_wp2_with fail
    go_ret
    exact ⟨rfl, HB.out.trans (hb3.mono (by have := HB.out.size; omega))⟩
set_option maxHeartbeats 8000000 in
theorem page_ok2 (satp va other : BitVec 64) (A : Option Addr) (c : Nat) (hole : Bool) (l : List (BitVec 64 × BitVec 64)) (w : World) (hmax : l.length ≤ 9223372036854775807) (hc : MemIn w w.heap.size A l) (en : BitVec 64) (xs : List (BitVec 64)) (hw : walkR satp va (lookM l hole) = (some (2, en), 0, xs)) (hxl : xs.length = 1) :
    Calls Try.prog 3 #[.int .u64 (satp.toNat : Int), .int .u64 (va.toNat : Int), .agg #[.slice A l.length c, .bool hole], .int .u64 (other.toNat : Int)] w fun e w' => e = .returned (.bool true) ∧ Below w.heap.size w w' := by
  obtain ⟨hk1, hk2⟩ := kp_two w A c hole l hc
  have HK := Lib.hid hk1
  have HK2 := Lib.hid hk2
  have HW := Lib.hid hw
  have HW2 := Lib.hid (walk_near satp va other (lookM l hole) 2 en xs (by omega) 1073741823 (by decide) hw)
  have HX := Lib.hid hxl
  have HD := Lib.hid (addr_apart en va other 30 1073741823 (by decide) (by omega))
  have A1 := addr_any ⟨2, xs.getD 0 0#64, xs.getD 1 0#64, xs.getD 2 0#64, en⟩ (nearW va other 1073741823)
  have A2 := addr_any ⟨2, xs.getD 0 0#64, xs.getD 1 0#64, xs.getD 2 0#64, en⟩ va
  rw [show (⟨2, xs.getD 0 0#64, xs.getD 1 0#64, xs.getD 2 0#64, en⟩ : Pte).entry = en from rfl, show 12 + 9 * lvN (⟨2, xs.getD 0 0#64, xs.getD 1 0#64, xs.getD 2 0#64, en⟩ : Pte).level = 30 from rfl, show pteC ⟨2, xs.getD 0 0#64, xs.getD 1 0#64, xs.getD 2 0#64, en⟩ = #[.int .i64 2, .int .u64 ((xs.getD 0 0#64).toNat : Int), .int .u64 ((xs.getD 1 0#64).toNat : Int), .int .u64 ((xs.getD 2 0#64).toNat : Int), .int .u64 (en.toNat : Int)] from rfl] at A1 A2
  have hP : pteC (pteOf (some (2, en), 0, xs)) = #[.int .i64 2, .int .u64 ((xs.getD 0 0#64).toNat : Int), .int .u64 ((xs.getD 1 0#64).toNat : Int), .int .u64 ((xs.getD 2 0#64).toNat : Int), .int .u64 (en.toNat : Int)] := rfl
  generalize ((xs.getD 0 0#64).toNat : Int) = p0 at A1 A2 hP
  generalize ((xs.getD 1 0#64).toNat : Int) = p1 at A1 A2 hP
  generalize ((xs.getD 2 0#64).toNat : Int) = p2 at A1 A2 hP
  have HP := Lib.hid hP
  replace A1 := Lib.hid A1
  replace A2 := Lib.hid A2
  clear hk1 hk2 hc hw hxl hP
  go_enter Try.func3, Try.ntmps3
  go_wp2_with fail
  generalize ((w.alloc (.cells #[.slice A l.length c, .bool hole] 25)).alloc (.cells #[.slice none 0 0] 26)).alloc (.cells #[.slice none 0 0] 26) = W1 at HK HK2 ⊢
  refine (mkreader _ _ _ _ _ _).mono ?_
  rintro e w5 ⟨rfl, rfl⟩
  have cM := walk_mem satp va hmax HK.out
  rw [HW.out, HP.out] at cM
  replace cM := Lib.hid cM
  go_wp2_with fail
  refine cM.out.mono ?_
  rintro e w6 ⟨rfl, v, g, hv, hown, hg, ha⟩
  have hz1 := HK.out.z
  obtain ⟨A', c', rfl, hwd, hbk⟩ := wds_of_own hown
  have pg := Lib.hid (Pg.mk (w := w6.alloc (.cells #[.int .i64 2, .int .u64 p0, .int .u64 p1, .int .u64 p2, .int .u64 (en.toNat : Int)] 29)) (xs := xs) (bp := w6.heap.size) (r1 := w.heap.size + 1) (r2 := w.heap.size + 2) (cs := #[.int .i64 2, .int .u64 p0, .int .u64 p1, .int .u64 p2, .int .u64 (en.toNat : Int)]) (heap_alloc_new _ _) ((heap_alloc_old _ _ (by have := ha.size; omega)).trans hv)
    (hwd.keep (by simp) (fun b e => heap_alloc_old _ _ (by
      have := hown.lt b (hbk b 0 none e)
      omega))) (fun b e => by
      have := hown.lt b (hbk b 0 none e)
      omega) (by have := ha.size; omega) (by omega))
  have hz6 : w.heap.size < w6.heap.size := by have := ha.size; omega
  have hz7 : w.heap.size + 3 ≤ w6.heap.size := by have := ha.size; omega
  have K6 := Lib.hid (HK2.out.other ha (by omega) (by omega))
  clear hv hown hg ha cM HK HK2 hwd hbk hz1
  go_wp2_with fail
  refine (awake_any _).mono ?_
  rintro e w7 ⟨rfl, hb7⟩
  replace pg := Lib.hid (pg.out.below hb7)
  replace K6 := Lib.hid (K6.out.step ((below_alloc hb7).mono hz7))
  clear hb7 hz6 hz7
  have hz := K6.out.z
  have hz0 : w.heap.size < w7.heap.size := by omega
  have cm0 : w7.cell? ⟨w.heap.size, 0, none⟩ = some (.slice A l.length c) := cell_of_row w7 _ 0 _ _ (0, 0) K6.out.m
  have cm1 : w7.cell? ⟨w.heap.size, 1, none⟩ = some (.bool hole) := cell_of_row w7 _ 1 _ _ (0, 0) K6.out.m
  have cp0 : w7.cell? ⟨w6.heap.size, 0, none⟩ = some (.int .i64 2) := cell_of_row w7 _ 0 _ _ (0, 0) pg.out.p
  go_wp2_with fail
  refine (mkreader _ _ _ _ _ _).mono ?_
  rintro e w8 ⟨rfl, rfl⟩
  have cM := walk_mem satp (nearW va other 1073741823) hmax K6.out
  rw [HW2.out, HP.out] at cM
  unfold nearW at cM
  replace cM := Lib.hid cM
  clear cm0 cm1 cp0
  go_wp2_with fail
  refine cM.out.mono ?_
  rintro e w9 ⟨rfl, v2, g2, hv2, hown2, hg2, ha2⟩
  obtain ⟨A2', c2', rfl, hwd2, hbk2⟩ := wds_of_own hown2
  have pg9 := pg.out.keep ha2.size (fun k hk hne => ha2.block k hk (by simp; exact hne) (by simp))
  have W9 := Lib.hid (Pt.mk (w := w9.alloc (.cells #[.int .i64 2, .int .u64 p0, .int .u64 p1, .int .u64 p2, .int .u64 (en.toNat : Int)] 29)) (xs := xs) (n := 1) (bp := w6.heap.size) (bq := w9.heap.size) (r1 := w.heap.size + 1) (r2 := w.heap.size + 1 + 1) (A := A') (B := A2') (c := c') (d := c2') (cs := #[.int .i64 2, .int .u64 p0, .int .u64 p1, .int .u64 p2, .int .u64 (en.toNat : Int)])
    ((heap_alloc_old _ _ pg9.lt).trans pg9.p) (heap_alloc_new _ _) ((heap_alloc_old _ _ pg9.l1).trans (by have h := pg9.l; rw [HX.out] at h; exact h)) ((heap_alloc_old _ _ (by have := ha2.size; omega)).trans (by have h := hv2; rw [HX.out] at h; exact h)) (by have h := pg9.wa.keep' (w' := w9.alloc (.cells #[.int .i64 2, .int .u64 p0, .int .u64 p1, .int .u64 p2, .int .u64 (en.toNat : Int)] 29)) (by simp) (fun b e hb => heap_alloc_old _ _ hb); rw [HX.out] at h; exact h) (by have h := hwd2.keep' (w' := w9.alloc (.cells #[.int .i64 2, .int .u64 p0, .int .u64 p1, .int .u64 p2, .int .u64 (en.toNat : Int)] 29)) (by simp) (fun b e hb => heap_alloc_old _ _ hb); rw [HX.out] at h; exact h))
  have HB := Lib.hid (K6.out.b.trans (ha2.from (B := w.heap.size) (fun b e => by simp at e; omega) (fun b e => by simp at e) (by omega)))
  have hz9 : w.heap.size ≤ w9.heap.size := by have := ha2.size; omega
  clear hv2 hown2 hg2 ha2 cM K6 hwd2 hbk2 pg pg9 hz hz0
  have hd : (((subW (addrW en (nearW va other 1073741823) 30) (addrW en va 30)).toNat : Int) == ((subW (nearW va other 1073741823) va).toNat : Int)) = true := by rw [HD.out]; simp
  unfold nearW at hd A1
  generalize addrW en (orL (clrL va 1073741823) ((andL other 1073741823).toNat : Int)) 30 = a1 at A1 hd
  generalize addrW en va 30 = a2 at A2 hd
  replace A1 := Lib.hid A1.out
  replace HB := Lib.hid (HB.out.alloc hz9 (.cells #[.int .i64 2, .int .u64 p0, .int .u64 p1, .int .u64 p2, .int .u64 (en.toNat : Int)] 29))
  have cP : Hid (∀ w', Below (w9.alloc (.cells #[.int .i64 2, .int .u64 p0, .int .u64 p1, .int .u64 p2, .int .u64 (en.toNat : Int)] 29)).heap.size (w9.alloc (.cells #[.int .i64 2, .int .u64 p0, .int .u64 p1, .int .u64 p2, .int .u64 (en.toNat : Int)] 29)) w' → Calls Try.prog 18 #[.slice A' 1 c', .slice A2' 1 c2'] w' fun e w'' => e = .returned (.bool true) ∧ Below (w9.alloc (.cells #[.int .i64 2, .int .u64 p0, .int .u64 p1, .int .u64 p2, .int .u64 (en.toNat : Int)] 29)).heap.size (w9.alloc (.cells #[.int .i64 2, .int .u64 p0, .int .u64 p1, .int .u64 p2, .int .u64 (en.toNat : Int)] 29)) w'') := fun w' hb =>
    (wplain_true A' A2' 1 c' c2' xs (by omega) w' (W9.out.below hb).wa (W9.out.below hb).wb).mono fun e w'' k => ⟨k.1, hb.trans (k.2.below _)⟩
  go_wp2_with fail
  generalize w9.alloc (.cells #[.int .i64 2, .int .u64 p0, .int .u64 p1, .int .u64 p2, .int .u64 (en.toNat : Int)] 29) = W at W9 HB cP ⊢
  go_region_held3 (fun w' => Below W.heap.size W w' ∧ (w'.cell? ⟨w6.heap.size, 0, none⟩ = some (.int .i64 2) ∧ w'.cell? ⟨w6.heap.size, 1, none⟩ = some (.int .u64 p0) ∧ w'.cell? ⟨w6.heap.size, 2, none⟩ = some (.int .u64 p1) ∧ w'.cell? ⟨w6.heap.size, 3, none⟩ = some (.int .u64 p2) ∧ w'.cell? ⟨w6.heap.size, 4, none⟩ = some (.int .u64 (en.toNat : Int))) ∧
      (w'.cell? ⟨w9.heap.size, 0, none⟩ = some (.int .i64 2) ∧ w'.cell? ⟨w9.heap.size, 1, none⟩ = some (.int .u64 p0) ∧ w'.cell? ⟨w9.heap.size, 2, none⟩ = some (.int .u64 p1) ∧ w'.cell? ⟨w9.heap.size, 3, none⟩ = some (.int .u64 p2) ∧ w'.cell? ⟨w9.heap.size, 4, none⟩ = some (.int .u64 (en.toNat : Int))) ∧
      w'.cell? ⟨w.heap.size + 1, 0, none⟩ = some (.slice A' 1 c') ∧ w'.cell? ⟨w.heap.size + 1 + 1, 0, none⟩ = some (.slice A2' 1 c2')) (first | exact ⟨hb3, (W9.out.below hb3).cells⟩ | exact ⟨(Below.refl _ _).drew, (W9.out.below (Below.refl _ _).drew).cells⟩ | exact ⟨Below.refl _ _, W9.out.cells⟩)
    (first
      | (go_at_call 18; refine (cP.out _ (‹_ ∧ _›.1)).mono ?_; rintro e w3 ⟨rfl, hb3⟩)
      | (go_at_call_of 19 (andL other 1073741823); refine ((A1.out).at (‹_ ∧ _›.1)).mono ?_; rintro e w3 ⟨rfl, hb3⟩)
      | (go_at_call 19; refine ((A2.out).at (‹_ ∧ _›.1)).mono ?_; rintro e w3 ⟨rfl, hb3⟩))
  all_goals
    go_wp2_with fail
    go_ret
    exact ⟨rfl, HB.out.trans (hb3.mono (by have := HB.out.size; omega))⟩

theorem walkPage_cells (satp : Int) (w0 : (Lit.int .u64 satp).wf = true) (va : Int) (w1 : (Lit.int .u64 va).wf = true) (A : Option Addr) (c : Nat) (hole : Bool) (l : List (BitVec 64 × BitVec 64)) (w : World) (hc : MemIn w w.heap.size A l) (hmax : l.length ≤ 9223372036854775807) (other : Int) (w3 : (Lit.int .u64 other).wf = true) :
    Calls Try.prog 3 #[.int .u64 satp, .int .u64 va, .agg #[.slice A l.length c, .bool hole], .int .u64 other] w fun e w' => e = .returned (.bool true) ∧ Below w.heap.size w w' := by
  obtain ⟨satp, rfl⟩ := u64_bv w0
  obtain ⟨va, rfl⟩ := u64_bv w1
  obtain ⟨other, rfl⟩ := u64_bv w3
  rcases walk_ends satp va (lookM l hole) with ⟨lv, en, xs, hw, hl2, _, _, hxl⟩ | ⟨cc, xs, hw, hcc, hxl⟩
  · have h3 : lv = 0 ∨ lv = 1 ∨ lv = 2 := by omega
    rcases h3 with rfl | rfl | rfl
    · exact page_ok0 satp va other A c hole l w hmax hc en xs hw (by omega)
    · exact page_ok1 satp va other A c hole l w hmax hc en xs hw (by omega)
    · exact page_ok2 satp va other A c hole l w hmax hc en xs hw (by omega)
  · exact page_no satp va other A c hole l w hmax hc cc xs hw hcc hxl
end Go.Proofs.Ythjhcdkbajbpdaa
