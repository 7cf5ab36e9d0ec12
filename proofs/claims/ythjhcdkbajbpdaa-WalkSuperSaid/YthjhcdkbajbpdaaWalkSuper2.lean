/- The law WalkSuper, walked: each call answers true. -/
import Derived.Test.YthjhcdkbajbpdaaWalkSuper
namespace Go.Proofs.Ythjhcdkbajbpdaa
open Go.RowKit Wd
set_option linter.unusedVariables false
set_option linter.unusedSimpArgs false
set_option maxRecDepth 8000
attribute [local go_sem] and_L or_L clr_L shl_10 shl_12 sub_L
namespace Wd
theorem zext_and (q : BitVec 64) (n : Nat) (N : Int) (hN : N = ((2 ^ n - 1 : Nat) : Int)) : zext q (n : Int) = andL q N := by
  unfold zext zextN andL
  rw [of_ones n N hN, show ((n : Int)).toNat = n from by omega]
end Wd
namespace Wd
theorem wr_9 : IntKind.i64.wrap 9 = 9 := by decide
theorem wr_18 : IntKind.i64.wrap 18 = 18 := by decide
theorem wr_a21 : IntKind.i64.wrap (12 + 9) = 21 := by decide
theorem wr_a30 : IntKind.i64.wrap (12 + 18) = 30 := by decide
theorem wr_21 : IntKind.i64.wrap 21 = 21 := by decide
theorem wr_30 : IntKind.i64.wrap 30 = 30 := by decide
theorem wu_21 : IntKind.u64.wrap 21 = 21 := by decide
theorem wu_30 : IntKind.u64.wrap 30 = 30 := by decide
theorem wp_21 : IntKind.u64.wrap (2 ^ min (21 : Int).toNat 64) = 2097152 := by decide
theorem wp_30 : IntKind.u64.wrap (2 ^ min (30 : Int).toNat 64) = 1073741824 := by decide
theorem wq_21 : IntKind.u64.wrap (2097152 - 1) = 2097151 := by decide
theorem wq_30 : IntKind.u64.wrap (1073741824 - 1) = 1073741823 := by decide
theorem wx_21 : IntKind.u64.wrap 2097151 = 2097151 := by decide
theorem wx_30 : IntKind.u64.wrap 1073741823 = 1073741823 := by decide
theorem wy_21 : IntKind.u64.wrap 2097152 = 2097152 := by decide
theorem wy_30 : IntKind.u64.wrap 1073741824 = 1073741824 := by decide
end Wd
attribute [local go_sem] wr_9 wr_18 wr_a21 wr_a30 wr_21 wr_30 wu_21 wu_30 wp_21 wp_30 wq_21 wq_30 wx_21 wx_30 wy_21 wy_30
theorem superCall (va q : BitVec 64) (k : Int) (bk bl n0 : Nat) (w : World) (hk : k = 1 ∨ k = 2) (h0 : RdS n0 bk bl k q w none []) (R : Option (Nat × BitVec 64) × Int × List (BitVec 64)) (hR : walkR 9223372036854775809#64 va (lookS k q) = R) :
    Calls Try.prog 15 #[.int .u64 9223372036854775809, .int .u64 (va.toNat : Int), .func (.func 20) #[] #[.pointer (some ⟨bk, 0, none⟩), .pointer (some ⟨bl, 0, none⟩)]] w fun e w' =>
      e = .returned (.tuple #[.agg (pteC (pteOf R)), .int .i64 R.2.1]) ∧ Below w.heap.size w w' := by
  refine (walk_any 9223372036854775809#64 va _ _ _ _ none n0 _ (readerS_ok n0 bk bl k q hk) w none h0 h0.2.2.1 (by simp)).mono ?_
  rintro e w' ⟨he, g', _, hn, ha⟩
  rw [hR] at he
  exact ⟨he, ha.below⟩
theorem super_start (w : World) (k l : Int) (q : BitVec 64) (hl : l = ((leafS q).toNat : Int)) : RdS (w.heap.size + 2) w.heap.size (w.heap.size + 1) k q ((w.alloc (.cells #[.int .i64 k] 3)).alloc (.cells #[.int .u64 l] 22)) none [] := by
  refine ⟨by omega, by omega, by simp, ?_, ?_⟩
  · rw [heap_alloc_old _ _ (by simp)]
    exact heap_alloc_new _ _
  · rw [← hl]
    have := heap_alloc_new (w.alloc (.cells #[.int .i64 k] 3)) (.cells #[.int .u64 l] 22)
    simpa using this

set_option maxHeartbeats 8000000 in
theorem super_no1 (level : Int) (ppn va other : BitVec 64) (w : World) (hk : (IntKind.u64.wrap level).tmod 2 = 0) (hz : (((andL (andL ppn 17592186044415) 511).toNat : Int) == 0) = false) :
    Calls Try.prog 4 #[.int .i64 level, .int .u64 (ppn.toNat : Int), .int .u64 (va.toNat : Int), .int .u64 (other.toNat : Int)] w fun e w' => e = .returned (.bool true) ∧ Below w.heap.size w w' := by
  have hq := short_and ppn 44 17592186044415 (by decide)
  have hs := sext_low va
  obtain ⟨path, hw⟩ := walk_1 (andL va 274877906943) (andL ppn 17592186044415) hq hs
  rw [if_pos (by rw [show (9 : Int) = ((9 : Nat) : Int) from rfl, zext_and _ 9 511 (by decide), bne, hz]; rfl)] at hw
  have h0 := Lib.hid (super_start w 1 _ (andL ppn 17592186044415) rfl)
  have HW := Lib.hid hw
  clear hw hs
  go_enter Try.func4, Try.ntmps4
  go_wp2_with fail
  refine (superCall (andL va 274877906943) (andL ppn 17592186044415) 1 _ _ _ _ (by omega) h0.out _ HW.out).mono ?_
  rintro e w1 ⟨rfl, hb1⟩
  have ck : w1.cell? ⟨w.heap.size, 0, none⟩ = some (.int .i64 1) := (World.cell?_of_block (hb1.block w.heap.size (by simp; omega))).trans (cell_of_row _ _ 0 _ _ (0, 0) h0.out.2.2.2.1)
  have hz1 : w.heap.size < w1.heap.size := by have := hb1.size; simp at this; omega
  have HB := Lib.hid ((((Below.refl w.heap.size w).alloc (Nat.le_refl _) _).alloc (by simp) _).trans (hb1.mono (by simp; omega)))
  clear hb1 h0
  rw [show pteC (pteOf (none, 7, path)) = #[.int .i64 0, .int .u64 0, .int .u64 0, .int .u64 0, .int .u64 0] from rfl, show ((none, 7, path) : Option (Nat × BitVec 64) × Int × List (BitVec 64)).2.1 = 7 from rfl]
  go_wp2_with fail
  refine (awake_any _).mono ?_
  rintro e w2 ⟨rfl, hb2⟩
  have HB2 := Lib.hid (HB.out.trans ((below_alloc hb2).mono HB.out.size))
  clear hb2
  go_wp2_with fail
  go_quiet (fail)
  go_wp2_with fail
  go_ret
  exact ⟨rfl, below_drewN HB2.out _⟩

set_option maxHeartbeats 8000000 in
theorem super_yes1 (level : Int) (ppn va other : BitVec 64) (w : World) (hk : (IntKind.u64.wrap level).tmod 2 = 0) (hz : ((andL (andL ppn 17592186044415) 511).toNat : Int) = 0) :
    Calls Try.prog 4 #[.int .i64 level, .int .u64 (ppn.toNat : Int), .int .u64 (va.toNat : Int), .int .u64 (other.toNat : Int)] w fun e w' => e = .returned (.bool true) ∧ Below w.heap.size w w' := by
  have hq := short_and ppn 44 17592186044415 (by decide)
  have hs := sext_low va
  obtain ⟨path, hw⟩ := walk_1 (andL va 274877906943) (andL ppn 17592186044415) hq hs
  have hzb : (((zext (andL ppn 17592186044415) 9).toNat : Int) != 0) = false := by rw [show (9 : Int) = ((9 : Nat) : Int) from rfl, zext_and _ 9 511 (by decide), hz]; rfl
  rw [if_neg (by rw [hzb]; simp)] at hw
  have hlow := zext_zero (andL ppn 17592186044415) 9 (by omega) hzb
  have A1 : Mk Try.prog 19 #[.agg #[.int .i64 1, .int .u64 ((path.getD 0 0#64).toNat : Int), .int .u64 ((path.getD 1 0#64).toNat : Int), .int .u64 ((path.getD 2 0#64).toNat : Int), .int .u64 ((leafS (andL ppn 17592186044415)).toNat : Int)], .int .u64 ((andL va 274877906943).toNat : Int)] (.int .u64 ((orL (shlW (andL ppn 17592186044415) 12) ((andL (andL va 274877906943) 2097151).toNat : Int)).toNat : Int)) := by
    have := addr_any ⟨1, path.getD 0 0#64, path.getD 1 0#64, path.getD 2 0#64, leafS (andL ppn 17592186044415)⟩ (andL va 274877906943)
    rw [show (⟨1, path.getD 0 0#64, path.getD 1 0#64, path.getD 2 0#64, leafS (andL ppn 17592186044415)⟩ : Pte).entry = leafS (andL ppn 17592186044415) from rfl, show 12 + 9 * lvN (⟨1, path.getD 0 0#64, path.getD 1 0#64, path.getD 2 0#64, leafS (andL ppn 17592186044415)⟩ : Pte).level = 12 + 9 from rfl, addr_leaf _ _ hq 9 (by omega) hlow 2097151 (by decide)] at this
    exact this
  have A2 : Mk Try.prog 19 #[.agg #[.int .i64 1, .int .u64 ((path.getD 0 0#64).toNat : Int), .int .u64 ((path.getD 1 0#64).toNat : Int), .int .u64 ((path.getD 2 0#64).toNat : Int), .int .u64 ((leafS (andL ppn 17592186044415)).toNat : Int)], .int .u64 ((orL (clrL (andL va 274877906943) 2097151) ((andL other 2097151).toNat : Int)).toNat : Int)] (.int .u64 ((orL (shlW (andL ppn 17592186044415) 12) ((andL (orL (clrL (andL va 274877906943) 2097151) ((andL other 2097151).toNat : Int)) 2097151).toNat : Int)).toNat : Int)) := by
    have := addr_any ⟨1, path.getD 0 0#64, path.getD 1 0#64, path.getD 2 0#64, leafS (andL ppn 17592186044415)⟩ (orL (clrL (andL va 274877906943) 2097151) ((andL other 2097151).toNat : Int))
    rw [show (⟨1, path.getD 0 0#64, path.getD 1 0#64, path.getD 2 0#64, leafS (andL ppn 17592186044415)⟩ : Pte).entry = leafS (andL ppn 17592186044415) from rfl, show 12 + 9 * lvN (⟨1, path.getD 0 0#64, path.getD 1 0#64, path.getD 2 0#64, leafS (andL ppn 17592186044415)⟩ : Pte).level = 12 + 9 from rfl, addr_leaf _ _ hq 9 (by omega) hlow 2097151 (by decide)] at this
    exact this
  have hd : subW (orL (shlW (andL ppn 17592186044415) 12) ((andL (orL (clrL (andL va 274877906943) 2097151) ((andL other 2097151).toNat : Int)) 2097151).toNat : Int)) (orL (shlW (andL ppn 17592186044415) 12) ((andL (andL va 274877906943) 2097151).toNat : Int)) = subW (orL (clrL (andL va 274877906943) 2097151) ((andL other 2097151).toNat : Int)) (andL va 274877906943) := apart_same (andL ppn 17592186044415) (andL va 274877906943) other 9 hlow 2097151 (by decide)
  generalize (orL (shlW (andL ppn 17592186044415) 12) ((andL (orL (clrL (andL va 274877906943) 2097151) ((andL other 2097151).toNat : Int)) 2097151).toNat : Int)) = a2 at A2 hd
  replace hd : (((subW a2 (orL (shlW (andL ppn 17592186044415) 12) ((andL (andL va 274877906943) 2097151).toNat : Int))).toNat : Int) == ((subW (orL (clrL (andL va 274877906943) 2097151) ((andL other 2097151).toNat : Int)) (andL va 274877906943)).toNat : Int)) = true := by rw [hd]; simp
  have h0 := Lib.hid (super_start w 1 _ (andL ppn 17592186044415) rfl)
  have HW := Lib.hid hw
  clear hw hs
  go_enter Try.func4, Try.ntmps4
  go_wp2_with fail
  refine (superCall (andL va 274877906943) (andL ppn 17592186044415) 1 _ _ _ _ (by omega) h0.out _ HW.out).mono ?_
  rintro e w1 ⟨rfl, hb1⟩
  have ck : w1.cell? ⟨w.heap.size, 0, none⟩ = some (.int .i64 1) := (World.cell?_of_block (hb1.block w.heap.size (by simp; omega))).trans (cell_of_row _ _ 0 _ _ (0, 0) h0.out.2.2.2.1)
  have hz1 : w.heap.size < w1.heap.size := by have := hb1.size; simp at this; omega
  have HB := Lib.hid ((((Below.refl w.heap.size w).alloc (Nat.le_refl _) _).alloc (by simp) _).trans (hb1.mono (by simp; omega)))
  clear hb1 h0
  rw [show pteC (pteOf (some (1, leafS (andL ppn 17592186044415)), 0, path)) = #[.int .i64 1, .int .u64 ((path.getD 0 0#64).toNat : Int), .int .u64 ((path.getD 1 0#64).toNat : Int), .int .u64 ((path.getD 2 0#64).toNat : Int), .int .u64 ((leafS (andL ppn 17592186044415)).toNat : Int)] from rfl, show ((some (1, leafS (andL ppn 17592186044415)), 0, path) : Option (Nat × BitVec 64) × Int × List (BitVec 64)).2.1 = 0 from rfl]
  generalize ((path.getD 0 0#64).toNat : Int) = p0 at A1 A2 ⊢
  generalize ((path.getD 1 0#64).toNat : Int) = p1 at A1 A2 ⊢
  generalize ((path.getD 2 0#64).toNat : Int) = p2 at A1 A2 ⊢
  generalize ((leafS (andL ppn 17592186044415)).toNat : Int) = pe at A1 A2 ⊢
  replace A1 := Lib.hid A1
  replace A2 := Lib.hid A2
  go_wp2_with fail
  refine (awake_any _).mono ?_
  rintro e w2 ⟨rfl, hb2⟩
  have HB2 := Lib.hid (HB.out.trans ((below_alloc hb2).mono HB.out.size))
  have rp : rowC (w1.alloc (.cells #[.int .i64 1, .int .u64 p0, .int .u64 p1, .int .u64 p2, .int .u64 pe] 29)) w1.heap.size = some #[.int .i64 1, .int .u64 p0, .int .u64 p1, .int .u64 p2, .int .u64 pe] := by rw [rowC_alloc, if_pos rfl]
  have r2 := Lib.hid (rowC_below rp hb2)
  have ck2 : w2.cell? ⟨w.heap.size, 0, none⟩ = some (.int .i64 1) := (World.cell?_of_block ((below_alloc hb2).block w.heap.size hz1)).trans ck
  have hz2 : w.heap.size < w2.heap.size := by have := hb2.size; simp at this; omega
  clear hb2 rp ck
  have CK := Lib.hid ck2
  clear ck2
  go_wp2_with fail
  go_region_held3 (fun w' => Below w2.heap.size w2 w' ∧ w'.cell? ⟨w.heap.size, 0, none⟩ = some (.int .i64 1) ∧ w'.cell? ⟨w1.heap.size, 0, none⟩ = some (.int .i64 1) ∧ w'.cell? ⟨w1.heap.size, 1, none⟩ = some (.int .u64 p0) ∧ w'.cell? ⟨w1.heap.size, 2, none⟩ = some (.int .u64 p1) ∧ w'.cell? ⟨w1.heap.size, 3, none⟩ = some (.int .u64 p2) ∧ w'.cell? ⟨w1.heap.size, 4, none⟩ = some (.int .u64 pe)) (first | exact ⟨hb3, (World.cell?_of_block (hb3.block w.heap.size hz2)).trans CK.out, (one_in r2.out hb3).2⟩ | exact ⟨(Below.refl _ _).drew, CK.out, (one_in r2.out (Below.refl _ _).drew).2⟩ | exact ⟨Below.refl _ _, CK.out, (one_in r2.out (Below.refl _ _)).2⟩)
    (first
      | (go_at_call_of 19 (andL other 2097151); refine ((A2.out).at (‹_ ∧ _›.1)).mono ?_; rintro e w3 ⟨rfl, hb3⟩)
      | (go_at_call 19; refine ((A1.out).at (‹_ ∧ _›.1)).mono ?_; rintro e w3 ⟨rfl, hb3⟩))
  all_goals
    go_wp2_with fail
    go_ret
    exact ⟨rfl, HB2.out.trans (hb3.mono HB2.out.size)⟩

set_option maxHeartbeats 8000000 in
theorem super_no2 (level : Int) (ppn va other : BitVec 64) (w : World) (hk : (IntKind.u64.wrap level).tmod 2 = 1) (hz : (((andL (andL ppn 17592186044415) 262143).toNat : Int) == 0) = false) :
    Calls Try.prog 4 #[.int .i64 level, .int .u64 (ppn.toNat : Int), .int .u64 (va.toNat : Int), .int .u64 (other.toNat : Int)] w fun e w' => e = .returned (.bool true) ∧ Below w.heap.size w w' := by
  have hq := short_and ppn 44 17592186044415 (by decide)
  have hs := sext_low va
  obtain ⟨path, hw⟩ := walk_2 (andL va 274877906943) (andL ppn 17592186044415) hq hs
  rw [if_pos (by rw [show (18 : Int) = ((18 : Nat) : Int) from rfl, zext_and _ 18 262143 (by decide), bne, hz]; rfl)] at hw
  have h0 := Lib.hid (super_start w 2 _ (andL ppn 17592186044415) rfl)
  have HW := Lib.hid hw
  clear hw hs
  go_enter Try.func4, Try.ntmps4
  go_wp2_with fail
  refine (superCall (andL va 274877906943) (andL ppn 17592186044415) 2 _ _ _ _ (by omega) h0.out _ HW.out).mono ?_
  rintro e w1 ⟨rfl, hb1⟩
  have ck : w1.cell? ⟨w.heap.size, 0, none⟩ = some (.int .i64 2) := (World.cell?_of_block (hb1.block w.heap.size (by simp; omega))).trans (cell_of_row _ _ 0 _ _ (0, 0) h0.out.2.2.2.1)
  have hz1 : w.heap.size < w1.heap.size := by have := hb1.size; simp at this; omega
  have HB := Lib.hid ((((Below.refl w.heap.size w).alloc (Nat.le_refl _) _).alloc (by simp) _).trans (hb1.mono (by simp; omega)))
  clear hb1 h0
  rw [show pteC (pteOf (none, 7, path)) = #[.int .i64 0, .int .u64 0, .int .u64 0, .int .u64 0, .int .u64 0] from rfl, show ((none, 7, path) : Option (Nat × BitVec 64) × Int × List (BitVec 64)).2.1 = 7 from rfl]
  go_wp2_with fail
  refine (awake_any _).mono ?_
  rintro e w2 ⟨rfl, hb2⟩
  have HB2 := Lib.hid (HB.out.trans ((below_alloc hb2).mono HB.out.size))
  clear hb2
  go_wp2_with fail
  go_quiet (fail)
  go_wp2_with fail
  go_ret
  exact ⟨rfl, below_drewN HB2.out _⟩

set_option maxHeartbeats 8000000 in
theorem super_yes2 (level : Int) (ppn va other : BitVec 64) (w : World) (hk : (IntKind.u64.wrap level).tmod 2 = 1) (hz : ((andL (andL ppn 17592186044415) 262143).toNat : Int) = 0) :
    Calls Try.prog 4 #[.int .i64 level, .int .u64 (ppn.toNat : Int), .int .u64 (va.toNat : Int), .int .u64 (other.toNat : Int)] w fun e w' => e = .returned (.bool true) ∧ Below w.heap.size w w' := by
  have hq := short_and ppn 44 17592186044415 (by decide)
  have hs := sext_low va
  obtain ⟨path, hw⟩ := walk_2 (andL va 274877906943) (andL ppn 17592186044415) hq hs
  have hzb : (((zext (andL ppn 17592186044415) 18).toNat : Int) != 0) = false := by rw [show (18 : Int) = ((18 : Nat) : Int) from rfl, zext_and _ 18 262143 (by decide), hz]; rfl
  rw [if_neg (by rw [hzb]; simp)] at hw
  have hlow := zext_zero (andL ppn 17592186044415) 18 (by omega) hzb
  have A1 : Mk Try.prog 19 #[.agg #[.int .i64 2, .int .u64 ((path.getD 0 0#64).toNat : Int), .int .u64 ((path.getD 1 0#64).toNat : Int), .int .u64 ((path.getD 2 0#64).toNat : Int), .int .u64 ((leafS (andL ppn 17592186044415)).toNat : Int)], .int .u64 ((andL va 274877906943).toNat : Int)] (.int .u64 ((orL (shlW (andL ppn 17592186044415) 12) ((andL (andL va 274877906943) 1073741823).toNat : Int)).toNat : Int)) := by
    have := addr_any ⟨2, path.getD 0 0#64, path.getD 1 0#64, path.getD 2 0#64, leafS (andL ppn 17592186044415)⟩ (andL va 274877906943)
    rw [show (⟨2, path.getD 0 0#64, path.getD 1 0#64, path.getD 2 0#64, leafS (andL ppn 17592186044415)⟩ : Pte).entry = leafS (andL ppn 17592186044415) from rfl, show 12 + 9 * lvN (⟨2, path.getD 0 0#64, path.getD 1 0#64, path.getD 2 0#64, leafS (andL ppn 17592186044415)⟩ : Pte).level = 12 + 18 from rfl, addr_leaf _ _ hq 18 (by omega) hlow 1073741823 (by decide)] at this
    exact this
  have A2 : Mk Try.prog 19 #[.agg #[.int .i64 2, .int .u64 ((path.getD 0 0#64).toNat : Int), .int .u64 ((path.getD 1 0#64).toNat : Int), .int .u64 ((path.getD 2 0#64).toNat : Int), .int .u64 ((leafS (andL ppn 17592186044415)).toNat : Int)], .int .u64 ((orL (clrL (andL va 274877906943) 1073741823) ((andL other 1073741823).toNat : Int)).toNat : Int)] (.int .u64 ((orL (shlW (andL ppn 17592186044415) 12) ((andL (orL (clrL (andL va 274877906943) 1073741823) ((andL other 1073741823).toNat : Int)) 1073741823).toNat : Int)).toNat : Int)) := by
    have := addr_any ⟨2, path.getD 0 0#64, path.getD 1 0#64, path.getD 2 0#64, leafS (andL ppn 17592186044415)⟩ (orL (clrL (andL va 274877906943) 1073741823) ((andL other 1073741823).toNat : Int))
    rw [show (⟨2, path.getD 0 0#64, path.getD 1 0#64, path.getD 2 0#64, leafS (andL ppn 17592186044415)⟩ : Pte).entry = leafS (andL ppn 17592186044415) from rfl, show 12 + 9 * lvN (⟨2, path.getD 0 0#64, path.getD 1 0#64, path.getD 2 0#64, leafS (andL ppn 17592186044415)⟩ : Pte).level = 12 + 18 from rfl, addr_leaf _ _ hq 18 (by omega) hlow 1073741823 (by decide)] at this
    exact this
  have hd : subW (orL (shlW (andL ppn 17592186044415) 12) ((andL (orL (clrL (andL va 274877906943) 1073741823) ((andL other 1073741823).toNat : Int)) 1073741823).toNat : Int)) (orL (shlW (andL ppn 17592186044415) 12) ((andL (andL va 274877906943) 1073741823).toNat : Int)) = subW (orL (clrL (andL va 274877906943) 1073741823) ((andL other 1073741823).toNat : Int)) (andL va 274877906943) := apart_same (andL ppn 17592186044415) (andL va 274877906943) other 18 hlow 1073741823 (by decide)
  generalize (orL (shlW (andL ppn 17592186044415) 12) ((andL (orL (clrL (andL va 274877906943) 1073741823) ((andL other 1073741823).toNat : Int)) 1073741823).toNat : Int)) = a2 at A2 hd
  replace hd : (((subW a2 (orL (shlW (andL ppn 17592186044415) 12) ((andL (andL va 274877906943) 1073741823).toNat : Int))).toNat : Int) == ((subW (orL (clrL (andL va 274877906943) 1073741823) ((andL other 1073741823).toNat : Int)) (andL va 274877906943)).toNat : Int)) = true := by rw [hd]; simp
  have h0 := Lib.hid (super_start w 2 _ (andL ppn 17592186044415) rfl)
  have HW := Lib.hid hw
  clear hw hs
  go_enter Try.func4, Try.ntmps4
  go_wp2_with fail
  refine (superCall (andL va 274877906943) (andL ppn 17592186044415) 2 _ _ _ _ (by omega) h0.out _ HW.out).mono ?_
  rintro e w1 ⟨rfl, hb1⟩
  have ck : w1.cell? ⟨w.heap.size, 0, none⟩ = some (.int .i64 2) := (World.cell?_of_block (hb1.block w.heap.size (by simp; omega))).trans (cell_of_row _ _ 0 _ _ (0, 0) h0.out.2.2.2.1)
  have hz1 : w.heap.size < w1.heap.size := by have := hb1.size; simp at this; omega
  have HB := Lib.hid ((((Below.refl w.heap.size w).alloc (Nat.le_refl _) _).alloc (by simp) _).trans (hb1.mono (by simp; omega)))
  clear hb1 h0
  rw [show pteC (pteOf (some (2, leafS (andL ppn 17592186044415)), 0, path)) = #[.int .i64 2, .int .u64 ((path.getD 0 0#64).toNat : Int), .int .u64 ((path.getD 1 0#64).toNat : Int), .int .u64 ((path.getD 2 0#64).toNat : Int), .int .u64 ((leafS (andL ppn 17592186044415)).toNat : Int)] from rfl, show ((some (2, leafS (andL ppn 17592186044415)), 0, path) : Option (Nat × BitVec 64) × Int × List (BitVec 64)).2.1 = 0 from rfl]
  generalize ((path.getD 0 0#64).toNat : Int) = p0 at A1 A2 ⊢
  generalize ((path.getD 1 0#64).toNat : Int) = p1 at A1 A2 ⊢
  generalize ((path.getD 2 0#64).toNat : Int) = p2 at A1 A2 ⊢
  generalize ((leafS (andL ppn 17592186044415)).toNat : Int) = pe at A1 A2 ⊢
  replace A1 := Lib.hid A1
  replace A2 := Lib.hid A2
  go_wp2_with fail
  refine (awake_any _).mono ?_
  rintro e w2 ⟨rfl, hb2⟩
  have HB2 := Lib.hid (HB.out.trans ((below_alloc hb2).mono HB.out.size))
  have rp : rowC (w1.alloc (.cells #[.int .i64 2, .int .u64 p0, .int .u64 p1, .int .u64 p2, .int .u64 pe] 29)) w1.heap.size = some #[.int .i64 2, .int .u64 p0, .int .u64 p1, .int .u64 p2, .int .u64 pe] := by rw [rowC_alloc, if_pos rfl]
  have r2 := Lib.hid (rowC_below rp hb2)
  have ck2 : w2.cell? ⟨w.heap.size, 0, none⟩ = some (.int .i64 2) := (World.cell?_of_block ((below_alloc hb2).block w.heap.size hz1)).trans ck
  have hz2 : w.heap.size < w2.heap.size := by have := hb2.size; simp at this; omega
  clear hb2 rp ck
  have CK := Lib.hid ck2
  clear ck2
  go_wp2_with fail
  go_region_held3 (fun w' => Below w2.heap.size w2 w' ∧ w'.cell? ⟨w.heap.size, 0, none⟩ = some (.int .i64 2) ∧ w'.cell? ⟨w1.heap.size, 0, none⟩ = some (.int .i64 2) ∧ w'.cell? ⟨w1.heap.size, 1, none⟩ = some (.int .u64 p0) ∧ w'.cell? ⟨w1.heap.size, 2, none⟩ = some (.int .u64 p1) ∧ w'.cell? ⟨w1.heap.size, 3, none⟩ = some (.int .u64 p2) ∧ w'.cell? ⟨w1.heap.size, 4, none⟩ = some (.int .u64 pe)) (first | exact ⟨hb3, (World.cell?_of_block (hb3.block w.heap.size hz2)).trans CK.out, (one_in r2.out hb3).2⟩ | exact ⟨(Below.refl _ _).drew, CK.out, (one_in r2.out (Below.refl _ _).drew).2⟩ | exact ⟨Below.refl _ _, CK.out, (one_in r2.out (Below.refl _ _)).2⟩)
    (first
      | (go_at_call_of 19 (andL other 1073741823); refine ((A2.out).at (‹_ ∧ _›.1)).mono ?_; rintro e w3 ⟨rfl, hb3⟩)
      | (go_at_call 19; refine ((A1.out).at (‹_ ∧ _›.1)).mono ?_; rintro e w3 ⟨rfl, hb3⟩))
  all_goals
    go_wp2_with fail
    go_ret
    exact ⟨rfl, HB2.out.trans (hb3.mono HB2.out.size)⟩

theorem walkSuper_cells (level : Int) (wl : (Lit.int .i64 level).wf = true) (ppn : Int) (wp : (Lit.int .u64 ppn).wf = true) (va : Int) (wv : (Lit.int .u64 va).wf = true) (other : Int) (wo : (Lit.int .u64 other).wf = true) (w : World) :
    Calls Try.prog 4 #[.int .i64 level, .int .u64 ppn, .int .u64 va, .int .u64 other] w fun e w' => e = .returned (.bool true) ∧ Below w.heap.size w w' := by
  obtain ⟨ppn, rfl⟩ := u64_bv wp
  obtain ⟨va, rfl⟩ := u64_bv wv
  obtain ⟨other, rfl⟩ := u64_bv wo
  have hm : (IntKind.u64.wrap level).tmod 2 = 0 ∨ (IntKind.u64.wrap level).tmod 2 = 1 := by
    rw [w64, Int.tmod_eq_emod_of_nonneg (by omega)]
    omega
  rcases hm with hm | hm
  · by_cases hz : ((andL (andL ppn 17592186044415) 511).toNat : Int) = 0
    · exact super_yes1 level ppn va other w hm hz
    · exact super_no1 level ppn va other w hm (beq_eq_false_iff_ne.2 hz)
  · by_cases hz : ((andL (andL ppn 17592186044415) 262143).toNat : Int) = 0
    · exact super_yes2 level ppn va other w hm hz
    · exact super_no2 level ppn va other w hm (beq_eq_false_iff_ne.2 hz)
end Go.Proofs.Ythjhcdkbajbpdaa
