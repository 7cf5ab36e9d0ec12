/- The law WalkBad, walked: each call answers true. -/
import Derived.Test.YthjhcdkbajbpdaaWalkEnds
import Derived.Test.YthjhcdkbajbpdaaWalkAw
import Derived.Test.YthjhcdkbajbpdaaTlbSmall
namespace Go.Proofs.Ythjhcdkbajbpdaa
open Go.RowKit Wd
set_option linter.unusedVariables false
set_option linter.unusedSimpArgs false
set_option maxRecDepth 8000
attribute [local go_sem] and_L or_L clr_L
theorem bad_any (e : BitVec 64) : Pu Try.prog 21 #[.int .u64 (e.toNat : Int)] (.bool (badB e)) := by
  intro w
  go_enter Try.func21, Try.ntmps21
  go_wp2_with fail
  all_goals (go_ret; exact ⟨ret_bool (by unfold badB; simp_all), rfl⟩)
/-- What is kept of the law's reader of one entry: the count, the entry. -/
def RdB (n0 bn be : Nat) (entry : BitVec 64) (w : World) (g : Option Nat) (xs : List (BitVec 64)) : Prop :=
  bn < n0 ∧ be < n0 ∧ be ≠ bn ∧ n0 ≤ w.heap.size ∧ w.heap[bn]? = some (.cells #[.int .i64 (xs.length : Int)] 3 (0, 0)) ∧ w.heap[be]? = some (.cells #[.int .u64 (entry.toNat : Int)] 22 (0, 0))
theorem readerB_call (bn be : Nat) (n : Nat) (entry pa : BitVec 64) (w : World) (hn : n < 3) (h1 : w.heap[bn]? = some (.cells #[.int .i64 (n : Int)] 3 (0, 0))) (h2 : w.heap[be]? = some (.cells #[.int .u64 (entry.toNat : Int)] 22 (0, 0))) (hne : be ≠ bn) :
    Calls Try.prog 22 #[.int .u64 (pa.toNat : Int), .pointer (some ⟨bn, 0, none⟩), .pointer (some ⟨be, 0, none⟩)] w fun e w' =>
      e = .returned (.tuple #[.int .u64 (entry.toNat : Int), .bool true]) ∧ w' = w.setCell ⟨bn, 0, none⟩ (.int .i64 ((n : Int) + 1)) := by
  have c1 : w.cell? ⟨bn, 0, none⟩ = some (.int .i64 (n : Int)) := cell_of_row w _ 0 _ _ (0, 0) h1
  have f1 : w.frozen? ⟨bn, 0, none⟩ = false := frozen_of_row w _ 0 _ _ h1
  have c2 : (w.setCell ⟨bn, 0, none⟩ (.int .i64 ((n : Int) + 1))).cell? ⟨be, 0, none⟩ = some (.int .u64 (entry.toNat : Int)) := cell_of_row _ _ 0 _ _ (0, 0) ((heap_setCell_other _ _ _ _ hne).trans h2)
  clear h1 h2
  go_enter Try.func22, Try.ntmps22
  go_wp2_with fail
  go_ret2
  exact ⟨rfl, rfl⟩
theorem readerB_ok (n0 bn be : Nat) (entry : BitVec 64) (hb : bn < n0) : ReaderOk 22 (.pointer (some ⟨bn, 0, none⟩)) (.pointer (some ⟨be, 0, none⟩)) (fun _ => (entry, true)) (some bn) n0 (RdB n0 bn be entry) where
  call w g xs pa h hx _ := by
    obtain ⟨h1, h2, h3, h4, h5, h6⟩ := h
    refine (readerB_call bn be xs.length entry pa w hx h5 h6 h3).mono ?_
    rintro e w' ⟨he, rfl⟩
    refine ⟨he, g, ⟨h1, h2, h3, by simpa using h4, ?_, (heap_setCell_other _ _ _ _ h3).trans h6⟩, Newer.refl _ _, ⟨rfl, rfl, rfl, by simp, fun k _ hk _ => heap_setCell_other _ _ _ _ (fun e => hk (by rw [e]))⟩⟩
    have := heap_setCell_same w bn 0 _ _ (.int .i64 ((xs.length : Int) + 1)) h5
    simpa using this
  keep w w' g xs h _ _ _ hs hh := by
    obtain ⟨h1, h2, h3, h4, h5, h6⟩ := h
    exact ⟨h1, h2, h3, by omega, by rw [hh _ (.inl h1)]; exact h5, by rw [hh _ (.inl h2)]; exact h6⟩
  old b e := by
    simp at e
    omega
  ent a b c w := by kernel_rfl
/-- The words that came in. -/
def MemIn (w : World) (n : Nat) (A : Option Addr) (l : List (BitVec 64 × BitVec 64)) : Prop :=
  0 < l.length → ∃ bl off, A = some ⟨bl, off, none⟩ ∧ bl < n ∧ ∀ i, i < l.length → w.cell? ⟨bl, off + i * 2, none⟩ = some (.int .u64 ((l.getD i (0#64, 0#64)).1.toNat : Int)) ∧ w.cell? ⟨bl, off + i * 2 + 1, none⟩ = some (.int .u64 ((l.getD i (0#64, 0#64)).2.toNat : Int))
theorem MemIn.keep {w w' : World} {n : Nat} {A : Option Addr} {l : List (BitVec 64 × BitVec 64)} (h : MemIn w n A l) (hh : ∀ k, k < n → w'.heap[k]? = w.heap[k]?) : MemIn w' n A l := fun h0 => by
  obtain ⟨bl, off, e, hl, hc⟩ := h h0
  refine ⟨bl, off, e, hl, fun i hi => ?_⟩
  rw [World.cell?_of_block (hh _ hl), World.cell?_of_block (hh _ hl)]
  exact hc i hi
/-- What stays on the way through a law with a memory: its box at r, the list's variable at rl. -/
structure Kp (w0 w : World) (A : Option Addr) (c : Nat) (hole : Bool) (l : List (BitVec 64 × BitVec 64)) (n rl : Nat) : Prop where
  m : w.heap[w0.heap.size]? = some (.cells #[.slice A l.length c, .bool hole] 25 (0, 0))
  ll : w.heap[rl]? = some (.cells #[.slice none 0 0] 26 (0, 0))
  i : MemIn w w0.heap.size A l
  b : Below w0.heap.size w0 w
  z : w0.heap.size + n ≤ w.heap.size
  r : w0.heap.size ≤ rl ∧ rl < w0.heap.size + n
  p : 0 < n
theorem Kp.step {w0 w w' : World} {A : Option Addr} {c : Nat} {hole : Bool} {l : List (BitVec 64 × BitVec 64)} {n rl : Nat} (h : Kp w0 w A c hole l n rl) (hb : Below (w0.heap.size + n) w w') : Kp w0 w' A c hole l n rl :=
  ⟨by rw [hb.block _ (by have := h.p; omega)]; exact h.m, by rw [hb.block _ h.r.2]; exact h.ll, h.i.keep fun k hk => hb.block k (by omega), h.b.trans (hb.mono (by omega)), Nat.le_trans h.z hb.size, h.r, h.p⟩
theorem Apart.from {ba g : Option Nat} {w w' : World} {B : Nat} (h : Apart ba g w w') (h1 : ∀ b, ba = some b → B ≤ b) (h2 : ∀ b, g = some b → B ≤ b) (hB : B ≤ w.heap.size) : Below B w w' :=
  ⟨h.os, h.tape, h.output, h.size, fun k hk => h.block k (by omega) (fun e => by have := h1 k e.symm; omega) (fun e => by have := h2 k e.symm; omega)⟩
/-- The reader of a memory made, and Walk over it. -/
theorem walk_mem (satp va : BitVec 64) {w0 w : World} {A : Option Addr} {c : Nat} {hole : Bool} {l : List (BitVec 64 × BitVec 64)} {n rl : Nat} (hmax : l.length ≤ 9223372036854775807) (h : Kp w0 w A c hole l n rl) :
    Calls Try.prog 15 #[.int .u64 (satp.toNat : Int), .int .u64 (va.toNat : Int), .func (.func 50) #[] #[.pointer (some ⟨w.heap.size + 1, 0, none⟩), .pointer (some ⟨w.heap.size, 0, none⟩)]]
      ((w.alloc (.cells #[.slice A l.length c, .bool hole] 25)).alloc (.cells #[.pointer (some ⟨rl, 0, none⟩)] 35)) fun e w' =>
      e = .returned (.tuple #[.agg (pteC (pteOf (walkR satp va (lookM l hole)))), .int .i64 (walkR satp va (lookM l hole)).2.1]) ∧
        ∃ v g, w'.heap[rl]? = some (.cells #[v] 26 (0, 0)) ∧ w'.ownsRow (w.heap.size + 2) 22 1 v (walkR satp va (lookM l hole)).2.2.length (wordsV (walkR satp va (lookM l hole)).2.2) ∧ v.ownBlock = g ∧ Apart (some rl) none w w' := by
  have hr := rdm_start (w := w) (A := A) (c := c) (ba := rl) (hole := hole) (l := l) hmax h.ll (fun h0 => by
    obtain ⟨bl, off, e, hl, hc⟩ := h.i h0
    exact ⟨bl, off, e, ⟨by have := h.z; omega, by have := h.r; omega⟩, hc⟩)
  have hk := reader_ok (w.heap.size + 2) (w.heap.size + 1) rl w.heap.size l hole (by have := h.z; have := h.r; omega)
  refine (walk_any satp va _ _ _ _ _ _ _ hk _ none hr (by simp) (by simp)).mono ?_
  rintro e w' ⟨he, g', ⟨_, _, _, _, _, v, hv, hown, hg⟩, _, ha⟩
  have hb : Below w.heap.size w ((w.alloc (.cells #[.slice A l.length c, .bool hole] 25)).alloc (.cells #[.pointer (some ⟨rl, 0, none⟩)] 35)) := ((Below.refl _ _).alloc (Nat.le_refl _) _).alloc (by simp) _
  exact ⟨he, v, g', hv, hown, hg, ⟨ha.os.trans hb.os, ha.tape.trans hb.tape, ha.output.trans hb.output, Nat.le_trans hb.size ha.size, fun k hk h1 h2 => (ha.block k (Nat.lt_of_lt_of_le hk hb.size) h1 h2).trans (hb.block k hk)⟩⟩
theorem owns_slice {w : World} {base : Nat} {e : TypeId} {v : Value} {n : Nat} {xs : List Value} (h : w.ownsRow base e 1 v n xs) : ∃ A c, v = .slice A n c := by
  rcases Nat.eq_zero_or_pos n with h0 | h0
  · subst h0
    rcases h.2 with ⟨rfl, _⟩ | ⟨g, cap, cur, rfl, _⟩
    · exact ⟨none, 0, rfl⟩
    · exact ⟨_, cap, rfl⟩
  · obtain ⟨g, cap, rfl, _, _⟩ := h.form h0
    exact ⟨_, cap, rfl⟩
theorem kp_start (w : World) (A : Option Addr) (c : Nat) (hole : Bool) (l : List (BitVec 64 × BitVec 64)) (entry : BitVec 64) (hc : MemIn w w.heap.size A l) :
    Kp w (((w.alloc (.cells #[.slice A l.length c, .bool hole] 25)).alloc (.cells #[.int .u64 (entry.toNat : Int)] 22)).alloc (.cells #[.slice none 0 0] 26)) A c hole l 3 (w.heap.size + 2) ∧
    (((w.alloc (.cells #[.slice A l.length c, .bool hole] 25)).alloc (.cells #[.int .u64 (entry.toNat : Int)] 22)).alloc (.cells #[.slice none 0 0] 26)).heap[w.heap.size + 1]? = some (.cells #[.int .u64 (entry.toNat : Int)] 22 (0, 0)) := by
  have hb : Below w.heap.size w (((w.alloc (.cells #[.slice A l.length c, .bool hole] 25)).alloc (.cells #[.int .u64 (entry.toNat : Int)] 22)).alloc (.cells #[.slice none 0 0] 26)) := (((Below.refl _ _).alloc (Nat.le_refl _) _).alloc (by simp) _).alloc (by simp; omega) _
  refine ⟨⟨?_, ?_, hc.keep fun k hk => hb.block k hk, hb, by simp, by omega, by omega⟩, ?_⟩
  · rw [heap_alloc_old _ _ (by simp; omega), heap_alloc_old _ _ (by simp)]
    exact heap_alloc_new _ _
  · have := heap_alloc_new ((w.alloc (.cells #[.slice A l.length c, .bool hole] 25)).alloc (.cells #[.int .u64 (entry.toNat : Int)] 22)) (.cells #[.slice none 0 0] 26)
    simpa using this
  · rw [heap_alloc_old _ _ (by simp)]
    have := heap_alloc_new (w.alloc (.cells #[.slice A l.length c, .bool hole] 25)) (.cells #[.int .u64 (entry.toNat : Int)] 22)
    simpa using this
theorem top_bits (va : BitVec 64) : (sext va 39 = va) ↔ ((va.toNat : Int) / 274877906944 = 0 ∨ (va.toNat : Int) / 274877906944 = 67108863) := by
  have h := proper_iff va
  unfold properB at h
  constructor
  · intro e
    rw [e] at h
    simpa using h.symm
  · intro e
    have : (sext va 39 == va) = true := by rw [h]; simpa using e
    simpa using this
set_option maxHeartbeats 8000000 in
theorem walkBad_walk (satp va : BitVec 64) (A : Option Addr) (c : Nat) (hole : Bool) (l : List (BitVec 64 × BitVec 64)) (entry : BitVec 64) (w : World) (hmax : l.length ≤ 9223372036854775807) (hc : MemIn w w.heap.size A l) :
    Calls Try.prog 5 #[.int .u64 (satp.toNat : Int), .int .u64 (va.toNat : Int), .agg #[.slice A l.length c, .bool hole], .int .u64 (entry.toNat : Int)] w fun e w' => e = .returned (.bool true) ∧ Below w.heap.size w w' := by
  obtain ⟨hk, he⟩ := kp_start w A c hole l entry hc
  have HK := Lib.hid hk
  have HE := Lib.hid he
  clear hk he hc
  have HT := Lib.hid (top_bits va)
  have HO := Lib.hid (walk_off satp va (lookM l hole))
  have HN := Lib.hid (walk_ends satp va (lookM l hole))
  go_enter Try.func5, Try.ntmps5
  go_wp2_with fail
  refine (awake_any _).mono ?_
  rintro e w1 ⟨rfl, hb1⟩
  replace HE := Lib.hid ((hb1.block _ (by simp)).trans HE.out)
  replace HK := Lib.hid (HK.out.step (hb1.mono (by simp)))
  clear hb1
  have ce : w1.cell? ⟨w.heap.size + 1, 0, none⟩ = some (.int .u64 (entry.toNat : Int)) := cell_of_row w1 _ 0 _ _ (0, 0) HE.out
  go_wp2_with fail
  refine (bad_any entry _).mono ?_
  rintro e w2 ⟨rfl, rfl⟩
  have hz := HK.out.z
  cases hbad : badB entry with
  | true =>
    obtain ⟨xs, hw, hxs⟩ := walk_bad satp va entry hbad
    have HX := Lib.hid hxs
    have hr : RdB (w2.heap.size + 1) w2.heap.size (w.heap.size + 1) entry (w2.alloc (.cells #[.int .i64 0] 3)) none [] :=
      ⟨by omega, by omega, by omega, by simp, heap_alloc_new _ _, (heap_alloc_old _ _ (by omega)).trans HE.out⟩
    have cW := walk_any satp va _ _ _ _ _ _ _ (readerB_ok (w2.heap.size + 1) w2.heap.size (w.heap.size + 1) entry (by omega)) _ none hr (by simp) (by simp)
    rw [hw, show pteC (pteOf (none, 7, xs)) = #[.int .i64 0, .int .u64 0, .int .u64 0, .int .u64 0, .int .u64 0] from rfl] at cW
    replace cW := Lib.hid cW
    clear hbad hw hr hxs
    go_wp2_with fail
    refine cW.out.mono ?_
    rintro e w3 ⟨rfl, g', hR, _, ha⟩
    obtain ⟨_, _, _, _, h5, _⟩ := hR
    have B3 := (ha.from (B := w.heap.size + 3) (fun b e => by simp at e; omega) (fun b e => by simp at e) (by simp; omega))
    replace HK := Lib.hid (HK.out.step (((Below.refl _ w2).alloc hz _).trans B3))
    have cn : w3.cell? ⟨w2.heap.size, 0, none⟩ = some (.int .i64 (xs.length : Int)) := cell_of_row w3 _ 0 _ _ (0, 0) h5
    have hx1 : ¬ (1 : Int) < (xs.length : Int) := by have := HX.out; omega
    have hz5 : w2.heap.size < w3.heap.size := by have := ha.size; simp at this; omega
    clear cW ha B3 h5 HE ce
    have hz3 := HK.out.z
    have hz4 : w.heap.size < w3.heap.size := by omega
    have cm0 : w3.cell? ⟨w.heap.size, 0, none⟩ = some (.slice A l.length c) := cell_of_row w3 _ 0 _ _ (0, 0) HK.out.m
    have cm1 : w3.cell? ⟨w.heap.size, 1, none⟩ = some (.bool hole) := cell_of_row w3 _ 1 _ _ (0, 0) HK.out.m
    go_wp2_with fail
    replace HK := Lib.hid (HK.out.step ((Below.refl _ _).alloc hz3 (.cells #[.int .i64 0, .int .u64 0, .int .u64 0, .int .u64 0, .int .u64 0] 29)))
    generalize w3.alloc (.cells #[.int .i64 0, .int .u64 0, .int .u64 0, .int .u64 0, .int .u64 0] 29) = W4 at HK ⊢
    refine (mkreader _ _ _ _ _ _).mono ?_
    rintro e w5 ⟨rfl, rfl⟩
    go_wp2_with fail
    refine (walk_mem satp va hmax HK.out).mono ?_
    rintro e w6 ⟨rfl, v, g, hv, hown, hg, ha⟩
    have B6 := Lib.hid (HK.out.b.trans (ha.from (B := w.heap.size) (fun b e => by simp at e; omega) (fun b e => by simp at e) (by have := HK.out.z; omega)))
    have cl : w6.cell? ⟨w.heap.size + 2, 0, none⟩ = some v := cell_of_row w6 _ 0 _ _ (0, 0) hv
    have hz6 : w.heap.size + 3 ≤ w6.heap.size := Nat.le_trans HK.out.z ha.size
    obtain ⟨A', c', rfl⟩ := owns_slice hown
    clear hv hown hg ha cm0 cm1
    by_cases hs : sext va 39 = va
    · rcases HT.out.1 hs with ht | ht <;> rcases HN.out with ⟨lv, en, xs, hw, hl2, hbE, hlf, hxl⟩ | ⟨cc, xs, hw, hcc, hxl⟩
      all_goals
        rw [hw]
        rw [hw] at cl
        clear hs hw hxl
      · have hgb : badB en = false := good_B en lv hbE
        have hlf' : (((andL en 10).toNat : Int) != 0) = true := hlf
        clear hbE hlf hl2
        simp only [pteOf, pteC]
        go_wp2_with fail
        refine (bad_any en _).mono ?_
        rintro e w7 ⟨rfl, rfl⟩
        rw [hgb]
        go_wp2_with fail
        go_ret
        exact ⟨rfl, B6.out.alloc (by omega) _⟩
      · simp only [pteOf, pteC]
        rcases hcc with rfl | rfl
        · go_wp2_with fail
          go_ret
          exact ⟨rfl, B6.out.alloc (by omega) _⟩
        · go_wp2_with fail
          go_ret
          exact ⟨rfl, B6.out.alloc (by omega) _⟩
      · have hgb : badB en = false := good_B en lv hbE
        have hlf' : (((andL en 10).toNat : Int) != 0) = true := hlf
        clear hbE hlf hl2
        simp only [pteOf, pteC]
        go_wp2_with fail
        refine (bad_any en _).mono ?_
        rintro e w7 ⟨rfl, rfl⟩
        rw [hgb]
        go_wp2_with fail
        go_ret
        exact ⟨rfl, B6.out.alloc (by omega) _⟩
      · simp only [pteOf, pteC]
        rcases hcc with rfl | rfl
        · go_wp2_with fail
          go_ret
          exact ⟨rfl, B6.out.alloc (by omega) _⟩
        · go_wp2_with fail
          go_ret
          exact ⟨rfl, B6.out.alloc (by omega) _⟩
    · have hv1 : ((va.toNat : Int) / 274877906944 != 0) = true := bne_iff_ne.2 fun e => hs (HT.out.2 (.inl e))
      have hv2 : ((va.toNat : Int) / 274877906944 != 67108863) = true := bne_iff_ne.2 fun e => hs (HT.out.2 (.inr e))
      rw [HO.out hs] at cl ⊢
      have cl' : w6.cell? ⟨w.heap.size + 1 + 1, 0, none⟩ = some (.slice A' 0 c') := cl
      have hz7 : w.heap.size + 1 + 1 < w6.heap.size := by omega
      clear cl hs
      simp only [pteOf, pteC]
      go_wp2_with fail
      go_ret
      exact ⟨rfl, B6.out.alloc (by omega) _⟩
  | false =>
    have cm0 : w2.cell? ⟨w.heap.size, 0, none⟩ = some (.slice A l.length c) := cell_of_row w2 _ 0 _ _ (0, 0) HK.out.m
    have cm1 : w2.cell? ⟨w.heap.size, 1, none⟩ = some (.bool hole) := cell_of_row w2 _ 1 _ _ (0, 0) HK.out.m
    clear HE ce
    go_wp2_with fail
    refine (mkreader _ _ _ _ _ _).mono ?_
    rintro e w5 ⟨rfl, rfl⟩
    go_wp2_with fail
    refine (walk_mem satp va hmax HK.out).mono ?_
    rintro e w6 ⟨rfl, v, g, hv, hown, hg, ha⟩
    have B6 := Lib.hid (HK.out.b.trans (ha.from (B := w.heap.size) (fun b e => by simp at e; omega) (fun b e => by simp at e) (by have := HK.out.z; omega)))
    have cl : w6.cell? ⟨w.heap.size + 2, 0, none⟩ = some v := cell_of_row w6 _ 0 _ _ (0, 0) hv
    have hz6 : w.heap.size + 3 ≤ w6.heap.size := Nat.le_trans HK.out.z ha.size
    obtain ⟨A', c', rfl⟩ := owns_slice hown
    clear hv hown hg ha cm0 cm1
    by_cases hs : sext va 39 = va
    · rcases HT.out.1 hs with ht | ht <;> rcases HN.out with ⟨lv, en, xs, hw, hl2, hbE, hlf, hxl⟩ | ⟨cc, xs, hw, hcc, hxl⟩
      all_goals
        rw [hw]
        rw [hw] at cl
        clear hs hw hxl
      · have hgb : badB en = false := good_B en lv hbE
        have hlf' : (((andL en 10).toNat : Int) != 0) = true := hlf
        clear hbE hlf hl2
        simp only [pteOf, pteC]
        go_wp2_with fail
        refine (bad_any en _).mono ?_
        rintro e w7 ⟨rfl, rfl⟩
        rw [hgb]
        go_wp2_with fail
        go_ret
        exact ⟨rfl, B6.out.alloc (by omega) _⟩
      · simp only [pteOf, pteC]
        rcases hcc with rfl | rfl
        · go_wp2_with fail
          go_ret
          exact ⟨rfl, B6.out.alloc (by omega) _⟩
        · go_wp2_with fail
          go_ret
          exact ⟨rfl, B6.out.alloc (by omega) _⟩
      · have hgb : badB en = false := good_B en lv hbE
        have hlf' : (((andL en 10).toNat : Int) != 0) = true := hlf
        clear hbE hlf hl2
        simp only [pteOf, pteC]
        go_wp2_with fail
        refine (bad_any en _).mono ?_
        rintro e w7 ⟨rfl, rfl⟩
        rw [hgb]
        go_wp2_with fail
        go_ret
        exact ⟨rfl, B6.out.alloc (by omega) _⟩
      · simp only [pteOf, pteC]
        rcases hcc with rfl | rfl
        · go_wp2_with fail
          go_ret
          exact ⟨rfl, B6.out.alloc (by omega) _⟩
        · go_wp2_with fail
          go_ret
          exact ⟨rfl, B6.out.alloc (by omega) _⟩
    · have hv1 : ((va.toNat : Int) / 274877906944 != 0) = true := bne_iff_ne.2 fun e => hs (HT.out.2 (.inl e))
      have hv2 : ((va.toNat : Int) / 274877906944 != 67108863) = true := bne_iff_ne.2 fun e => hs (HT.out.2 (.inr e))
      rw [HO.out hs] at cl ⊢
      have cl' : w6.cell? ⟨w.heap.size + 1 + 1, 0, none⟩ = some (.slice A' 0 c') := cl
      have hz7 : w.heap.size + 1 + 1 < w6.heap.size := by omega
      clear cl hs
      simp only [pteOf, pteC]
      go_wp2_with fail
      go_ret
      exact ⟨rfl, B6.out.alloc (by omega) _⟩
end Go.Proofs.Ythjhcdkbajbpdaa
