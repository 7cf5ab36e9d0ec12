/- Contract: tappetref03's Reads. -/
import Derived.Test.YtnhbekgmameeaaaRds
import Derived.Test.YtnhbekgmameeaaaIns2
import Derived.Test.YtnhbekgmameeaaaLate
import Derived.Deep.RegionWith
import Derived.Deep.CutBlock
namespace Go.Proofs.Ytnhbekgmameeaaa
open Go.RowKit Wd
set_option linter.unusedVariables false
set_option linter.unusedSimpArgs false
attribute [local go_sem] loadI_lit loadI_ins rowI_setCell rowI_alloc rowI_drew rowI_drewN
attribute [local go_sem ↓] loadI_run
set_option maxRecDepth 20000
set_option maxHeartbeats 20000000 in
theorem rreads_err (op fn rd rs1 rs2 : Int) (im : BitVec 64) (size : Int) (sgn word useImm : Bool) (csr : Int) (v : BitVec 32) (e : Int) (cE : Hid (Mk Try.prog 44 #[.agg #[.int .i64 op, .int .i64 fn, .int .i64 rd, .int .i64 rs1, .int .i64 rs2, .int .u64 (im.toNat : Int), .int .i64 size, .bool sgn, .bool word, .bool useImm, .int .i64 csr]] (.tuple #[.int .u32 (v.toNat : Int), .int .i64 e]))) (h1 : (e != 0) = true) (w : World) :
    Calls Try.prog 47 #[.agg #[.int .i64 op, .int .i64 fn, .int .i64 rd, .int .i64 rs1, .int .i64 rs2, .int .u64 (im.toNat : Int), .int .i64 size, .bool sgn, .bool word, .bool useImm, .int .i64 csr]] w fun e w' => e = .returned (.agg #[.int .i64 0, .int .i64 0, .int .i64 0, .int .i64 0]) ∧ Below w.heap.size w w' := by
  go_enter Try.func47, Try.ntmps47
  go_wp2_with fail
  refine (cE.out _).mono ?_
  rintro en w1 ⟨rfl, hb⟩
  have hB : Below w.heap.size w w1 := (((Below.refl w.heap.size w).alloc (Nat.le_refl _) (.cells #[.int .i64 op, .int .i64 fn, .int .i64 rd, .int .i64 rs1, .int .i64 rs2, .int .u64 (im.toNat : Int), .int .i64 size, .bool sgn, .bool word, .bool useImm, .int .i64 csr] 44)).alloc (by simp) (.cells #[.int .i64 0, .int .i64 0, .int .i64 0, .int .i64 0] 51)).trans (hb.mono (by simp; omega))
  have q0 : Box ((w.alloc (.cells #[.int .i64 op, .int .i64 fn, .int .i64 rd, .int .i64 rs1, .int .i64 rs2, .int .u64 (im.toNat : Int), .int .i64 size, .bool sgn, .bool word, .bool useImm, .int .i64 csr] 44)).alloc (.cells #[.int .i64 0, .int .i64 0, .int .i64 0, .int .i64 0] 51)) w.heap.size [.int .i64 op, .int .i64 fn, .int .i64 rd, .int .i64 rs1, .int .i64 rs2, .int .u64 (im.toNat : Int), .int .i64 size, .bool sgn, .bool word, .bool useImm, .int .i64 csr] := (Box.new w [.int .i64 op, .int .i64 fn, .int .i64 rd, .int .i64 rs1, .int .i64 rs2, .int .u64 (im.toNat : Int), .int .i64 size, .bool sgn, .bool word, .bool useImm, .int .i64 csr] 44).below ((Below.refl _ _).alloc (Nat.le_refl _) _)
  obtain ⟨c0, c1, c2, c3, c4, c5, c6, c7, c8, c9, c10⟩ := (q0.below hb).eleven
  have z0 : rowR ((w.alloc (.cells #[.int .i64 op, .int .i64 fn, .int .i64 rd, .int .i64 rs1, .int .i64 rs2, .int .u64 (im.toNat : Int), .int .i64 size, .bool sgn, .bool word, .bool useImm, .int .i64 csr] 44)).alloc (.cells #[.int .i64 0, .int .i64 0, .int .i64 0, .int .i64 0] 51)) (w.heap.size + 1) = some #[.int .i64 0, .int .i64 0, .int .i64 0, .int .i64 0] := by rw [rowR_alloc, if_pos (by simp), if_pos rfl]
  have z1 := rowR_below z0 hb
  have cc : ∀ o, w1.cell? ⟨w.heap.size + 1, o, none⟩ = (#[.int .i64 0, .int .i64 0, .int .i64 0, .int .i64 0] : Array Value)[o]? := fun o => cell_of_row _ _ o _ _ (0, 0) (rowR_heap z1)
  have cf : ∀ o, w1.frozen? ⟨w.heap.size + 1, o, none⟩ = false := fun o => frozen_of_row _ _ o _ _ (rowR_heap z1)
  have n1 : w.heap.size + 1 < w1.heap.size := rowR_lt z1
  have n0 : w.heap.size < w1.heap.size := by omega
  have n2 : ¬ w.heap.size + 1 = w1.heap.size := by omega
  have n3 : ¬ w1.heap.size = w.heap.size + 1 := by omega
  replace hB := Lib.hid hB
  clear hb q0 z0 cE
  go_wp2_with fail
  refine ret_rds (b := w.heap.size + 1) (cs := #[.int .i64 0, .int .i64 0, .int .i64 0, .int .i64 0]) rfl rfl (by simp [rowR_alloc, rowR_setCell, rowR_drew, z1, n2, n3]) rfl rfl ⟨rfl, ?_⟩
  repeat (first | exact hB.out | refine below_setCell ?_ _ _ _ (by first | (simp; done) | omega) | refine Below.drew ?_ | refine Below.alloc ?_ (by first | (simp; done) | (simp; omega) | omega) _)
set_option maxHeartbeats 20000000 in
theorem rreads_5 (fn rd rs1 rs2 : Int) (im : BitVec 64) (size : Int) (sgn word useImm : Bool) (csr : Int) (v : BitVec 32) (cE : Hid (Mk Try.prog 44 #[.agg #[.int .i64 5, .int .i64 fn, .int .i64 rd, .int .i64 rs1, .int .i64 rs2, .int .u64 (im.toNat : Int), .int .i64 size, .bool sgn, .bool word, .bool useImm, .int .i64 csr]] (.tuple #[.int .u32 (v.toNat : Int), .int .i64 0]))) (w : World) :
    Calls Try.prog 47 #[.agg #[.int .i64 5, .int .i64 fn, .int .i64 rd, .int .i64 rs1, .int .i64 rs2, .int .u64 (im.toNat : Int), .int .i64 size, .bool sgn, .bool word, .bool useImm, .int .i64 csr]] w fun e w' => e = .returned (.agg #[.int .i64 rs1, .int .i64 rs2, .int .i64 rd, .int .i64 (if rd = 0 then 0 else 1)]) ∧ Below w.heap.size w w' := by
  go_enter Try.func47, Try.ntmps47
  go_wp2_with fail
  refine (cE.out _).mono ?_
  rintro en w1 ⟨rfl, hb⟩
  have hB : Below w.heap.size w w1 := (((Below.refl w.heap.size w).alloc (Nat.le_refl _) (.cells #[.int .i64 5, .int .i64 fn, .int .i64 rd, .int .i64 rs1, .int .i64 rs2, .int .u64 (im.toNat : Int), .int .i64 size, .bool sgn, .bool word, .bool useImm, .int .i64 csr] 44)).alloc (by simp) (.cells #[.int .i64 0, .int .i64 0, .int .i64 0, .int .i64 0] 51)).trans (hb.mono (by simp; omega))
  have q0 : Box ((w.alloc (.cells #[.int .i64 5, .int .i64 fn, .int .i64 rd, .int .i64 rs1, .int .i64 rs2, .int .u64 (im.toNat : Int), .int .i64 size, .bool sgn, .bool word, .bool useImm, .int .i64 csr] 44)).alloc (.cells #[.int .i64 0, .int .i64 0, .int .i64 0, .int .i64 0] 51)) w.heap.size [.int .i64 5, .int .i64 fn, .int .i64 rd, .int .i64 rs1, .int .i64 rs2, .int .u64 (im.toNat : Int), .int .i64 size, .bool sgn, .bool word, .bool useImm, .int .i64 csr] := (Box.new w [.int .i64 5, .int .i64 fn, .int .i64 rd, .int .i64 rs1, .int .i64 rs2, .int .u64 (im.toNat : Int), .int .i64 size, .bool sgn, .bool word, .bool useImm, .int .i64 csr] 44).below ((Below.refl _ _).alloc (Nat.le_refl _) _)
  obtain ⟨c0, c1, c2, c3, c4, c5, c6, c7, c8, c9, c10⟩ := (q0.below hb).eleven
  have z0 : rowR ((w.alloc (.cells #[.int .i64 5, .int .i64 fn, .int .i64 rd, .int .i64 rs1, .int .i64 rs2, .int .u64 (im.toNat : Int), .int .i64 size, .bool sgn, .bool word, .bool useImm, .int .i64 csr] 44)).alloc (.cells #[.int .i64 0, .int .i64 0, .int .i64 0, .int .i64 0] 51)) (w.heap.size + 1) = some #[.int .i64 0, .int .i64 0, .int .i64 0, .int .i64 0] := by rw [rowR_alloc, if_pos (by simp), if_pos rfl]
  have z1 := rowR_below z0 hb
  have cc : ∀ o, w1.cell? ⟨w.heap.size + 1, o, none⟩ = (#[.int .i64 0, .int .i64 0, .int .i64 0, .int .i64 0] : Array Value)[o]? := fun o => cell_of_row _ _ o _ _ (0, 0) (rowR_heap z1)
  have cf : ∀ o, w1.frozen? ⟨w.heap.size + 1, o, none⟩ = false := fun o => frozen_of_row _ _ o _ _ (rowR_heap z1)
  have n1 : w.heap.size + 1 < w1.heap.size := rowR_lt z1
  have n0 : w.heap.size < w1.heap.size := by omega
  have n2 : ¬ w.heap.size + 1 = w1.heap.size := by omega
  have n3 : ¬ w1.heap.size = w.heap.size + 1 := by omega
  replace hB := Lib.hid hB
  clear hb q0 z0 cE
  have k0 : ∀ k : Nat, w1.cell? ⟨w.heap.size, k, none⟩ = w1.cell? ⟨w.heap.size, k, none⟩ := fun _ => rfl
  clear k0
  have o0 := Lib.hid c0
  have zz := Lib.hid z1
  go_upto_block 0 with fail
  go_cut [] from 19 (fun wx => rowR wx w1.heap.size = some #[.int .i64 rs1, .int .i64 rs2, .int .i64 rd, .int .i64 0] ∧ rowR wx (w.heap.size + 1) = some #[.int .i64 0, .int .i64 0, .int .i64 0, .int .i64 0] ∧ wx.cell? ⟨w.heap.size, 0, none⟩ = some (.int .i64 5) ∧ Below w.heap.size w wx)
  case first =>
    go_wp2_with fail
    go_region_with (fail)
    all_goals
      go_wp2_with fail
      go_meet
      case rel =>
        refine ⟨by simp [rowR_setCell, rowR_alloc, rowR_drew], by simp [rowR_setCell, rowR_alloc, rowR_drew, zz.out, n2, n3], ?_, ?_⟩
        · refine Eq.trans ?_ o0.out
          have e : ∀ x : World, x.heap[w.heap.size]? = w1.heap[w.heap.size]? → x.cell? ⟨w.heap.size, 0, none⟩ = w1.cell? ⟨w.heap.size, 0, none⟩ := fun x hx => World.cell?_of_block hx
          apply e
          exact heap_alloc_old _ _ (by omega)
        · repeat (first | exact hB.out | refine below_setCell ?_ _ _ _ (by first | (simp; done) | omega) | refine Below.drew ?_ | refine Below.alloc ?_ (by first | (simp; done) | (simp; omega) | omega) _)
  case rest =>
    obtain ⟨s1, s2, s3, s4⟩ := hcut
    have hB2 := Lib.hid s4
    have t1 : ∀ o, wc.cell? ⟨w1.heap.size, o, none⟩ = (#[.int .i64 rs1, .int .i64 rs2, .int .i64 rd, .int .i64 0] : Array Value)[o]? := fun o => cell_of_row _ _ o _ _ (0, 0) (rowR_heap s1)
    have t2 : ∀ o, wc.frozen? ⟨w1.heap.size, o, none⟩ = false := fun o => frozen_of_row _ _ o _ _ (rowR_heap s1)
    have t3 : ∀ o, wc.cell? ⟨w.heap.size + 1, o, none⟩ = (#[.int .i64 0, .int .i64 0, .int .i64 0, .int .i64 0] : Array Value)[o]? := fun o => cell_of_row _ _ o _ _ (0, 0) (rowR_heap s2)
    have t4 : ∀ o, wc.frozen? ⟨w.heap.size + 1, o, none⟩ = false := fun o => frozen_of_row _ _ o _ _ (rowR_heap s2)
    clear s4 c0 c1 c2 c3 c4 c5 c6 c7 c8 c9 c10 z1 cc cf zz o0 hB
    by_cases hz : rd = 0
    · subst hz
      go_wp2_with fail
      refine ret_rds (b := w.heap.size + 1) (cs := #[.int .i64 rs1, .int .i64 rs2, .int .i64 0, .int .i64 0]) rfl rfl (by simp [rowR_alloc, rowR_setCell, rowR_drew, s2, n2, n3]) rfl rfl ⟨rfl, ?_⟩
      repeat (first | exact hB2.out | refine below_setCell ?_ _ _ _ (by first | (simp; done) | omega))
    · have z1 : (rd == 0) = false := by simpa using hz
      have z2 : (rd != 0) = true := by simpa using hz
      replace hz := Lib.hid hz
      go_wp2_with fail
      refine ret_rds (b := w.heap.size + 1) (cs := #[.int .i64 rs1, .int .i64 rs2, .int .i64 rd, .int .i64 1]) rfl rfl (by simp [rowR_alloc, rowR_setCell, rowR_drew, s2, n2, n3]) rfl rfl ⟨by first | rfl | rw [if_neg hz.out], ?_⟩
      repeat (first | exact hB2.out | refine below_setCell ?_ _ _ _ (by first | (simp; done) | omega))
set_option maxHeartbeats 20000000 in
theorem rreads_7 (fn rd rs1 rs2 : Int) (im : BitVec 64) (size : Int) (sgn word useImm : Bool) (csr : Int) (v : BitVec 32) (cE : Hid (Mk Try.prog 44 #[.agg #[.int .i64 7, .int .i64 fn, .int .i64 rd, .int .i64 rs1, .int .i64 rs2, .int .u64 (im.toNat : Int), .int .i64 size, .bool sgn, .bool word, .bool useImm, .int .i64 csr]] (.tuple #[.int .u32 (v.toNat : Int), .int .i64 0]))) (w : World) :
    Calls Try.prog 47 #[.agg #[.int .i64 7, .int .i64 fn, .int .i64 rd, .int .i64 rs1, .int .i64 rs2, .int .u64 (im.toNat : Int), .int .i64 size, .bool sgn, .bool word, .bool useImm, .int .i64 csr]] w fun e w' => e = .returned (.agg #[.int .i64 rs1, .int .i64 rs2, .int .i64 rd, .int .i64 (if rd = 0 then 0 else 1)]) ∧ Below w.heap.size w w' := by
  go_enter Try.func47, Try.ntmps47
  go_wp2_with fail
  refine (cE.out _).mono ?_
  rintro en w1 ⟨rfl, hb⟩
  have hB : Below w.heap.size w w1 := (((Below.refl w.heap.size w).alloc (Nat.le_refl _) (.cells #[.int .i64 7, .int .i64 fn, .int .i64 rd, .int .i64 rs1, .int .i64 rs2, .int .u64 (im.toNat : Int), .int .i64 size, .bool sgn, .bool word, .bool useImm, .int .i64 csr] 44)).alloc (by simp) (.cells #[.int .i64 0, .int .i64 0, .int .i64 0, .int .i64 0] 51)).trans (hb.mono (by simp; omega))
  have q0 : Box ((w.alloc (.cells #[.int .i64 7, .int .i64 fn, .int .i64 rd, .int .i64 rs1, .int .i64 rs2, .int .u64 (im.toNat : Int), .int .i64 size, .bool sgn, .bool word, .bool useImm, .int .i64 csr] 44)).alloc (.cells #[.int .i64 0, .int .i64 0, .int .i64 0, .int .i64 0] 51)) w.heap.size [.int .i64 7, .int .i64 fn, .int .i64 rd, .int .i64 rs1, .int .i64 rs2, .int .u64 (im.toNat : Int), .int .i64 size, .bool sgn, .bool word, .bool useImm, .int .i64 csr] := (Box.new w [.int .i64 7, .int .i64 fn, .int .i64 rd, .int .i64 rs1, .int .i64 rs2, .int .u64 (im.toNat : Int), .int .i64 size, .bool sgn, .bool word, .bool useImm, .int .i64 csr] 44).below ((Below.refl _ _).alloc (Nat.le_refl _) _)
  obtain ⟨c0, c1, c2, c3, c4, c5, c6, c7, c8, c9, c10⟩ := (q0.below hb).eleven
  have z0 : rowR ((w.alloc (.cells #[.int .i64 7, .int .i64 fn, .int .i64 rd, .int .i64 rs1, .int .i64 rs2, .int .u64 (im.toNat : Int), .int .i64 size, .bool sgn, .bool word, .bool useImm, .int .i64 csr] 44)).alloc (.cells #[.int .i64 0, .int .i64 0, .int .i64 0, .int .i64 0] 51)) (w.heap.size + 1) = some #[.int .i64 0, .int .i64 0, .int .i64 0, .int .i64 0] := by rw [rowR_alloc, if_pos (by simp), if_pos rfl]
  have z1 := rowR_below z0 hb
  have cc : ∀ o, w1.cell? ⟨w.heap.size + 1, o, none⟩ = (#[.int .i64 0, .int .i64 0, .int .i64 0, .int .i64 0] : Array Value)[o]? := fun o => cell_of_row _ _ o _ _ (0, 0) (rowR_heap z1)
  have cf : ∀ o, w1.frozen? ⟨w.heap.size + 1, o, none⟩ = false := fun o => frozen_of_row _ _ o _ _ (rowR_heap z1)
  have n1 : w.heap.size + 1 < w1.heap.size := rowR_lt z1
  have n0 : w.heap.size < w1.heap.size := by omega
  have n2 : ¬ w.heap.size + 1 = w1.heap.size := by omega
  have n3 : ¬ w1.heap.size = w.heap.size + 1 := by omega
  replace hB := Lib.hid hB
  clear hb q0 z0 cE
  have k0 : ∀ k : Nat, w1.cell? ⟨w.heap.size, k, none⟩ = w1.cell? ⟨w.heap.size, k, none⟩ := fun _ => rfl
  clear k0
  have o0 := Lib.hid c0
  have zz := Lib.hid z1
  go_upto_block 0 with fail
  go_cut [] from 19 (fun wx => rowR wx w1.heap.size = some #[.int .i64 rs1, .int .i64 rs2, .int .i64 rd, .int .i64 0] ∧ rowR wx (w.heap.size + 1) = some #[.int .i64 0, .int .i64 0, .int .i64 0, .int .i64 0] ∧ wx.cell? ⟨w.heap.size, 0, none⟩ = some (.int .i64 7) ∧ Below w.heap.size w wx)
  case first =>
    go_wp2_with fail
    go_region_with (fail)
    all_goals
      go_wp2_with fail
      go_meet
      case rel =>
        refine ⟨by simp [rowR_setCell, rowR_alloc, rowR_drew], by simp [rowR_setCell, rowR_alloc, rowR_drew, zz.out, n2, n3], ?_, ?_⟩
        · refine Eq.trans ?_ o0.out
          have e : ∀ x : World, x.heap[w.heap.size]? = w1.heap[w.heap.size]? → x.cell? ⟨w.heap.size, 0, none⟩ = w1.cell? ⟨w.heap.size, 0, none⟩ := fun x hx => World.cell?_of_block hx
          apply e
          exact heap_alloc_old _ _ (by omega)
        · repeat (first | exact hB.out | refine below_setCell ?_ _ _ _ (by first | (simp; done) | omega) | refine Below.drew ?_ | refine Below.alloc ?_ (by first | (simp; done) | (simp; omega) | omega) _)
  case rest =>
    obtain ⟨s1, s2, s3, s4⟩ := hcut
    have hB2 := Lib.hid s4
    have t1 : ∀ o, wc.cell? ⟨w1.heap.size, o, none⟩ = (#[.int .i64 rs1, .int .i64 rs2, .int .i64 rd, .int .i64 0] : Array Value)[o]? := fun o => cell_of_row _ _ o _ _ (0, 0) (rowR_heap s1)
    have t2 : ∀ o, wc.frozen? ⟨w1.heap.size, o, none⟩ = false := fun o => frozen_of_row _ _ o _ _ (rowR_heap s1)
    have t3 : ∀ o, wc.cell? ⟨w.heap.size + 1, o, none⟩ = (#[.int .i64 0, .int .i64 0, .int .i64 0, .int .i64 0] : Array Value)[o]? := fun o => cell_of_row _ _ o _ _ (0, 0) (rowR_heap s2)
    have t4 : ∀ o, wc.frozen? ⟨w.heap.size + 1, o, none⟩ = false := fun o => frozen_of_row _ _ o _ _ (rowR_heap s2)
    clear s4 c0 c1 c2 c3 c4 c5 c6 c7 c8 c9 c10 z1 cc cf zz o0 hB
    by_cases hz : rd = 0
    · subst hz
      go_wp2_with fail
      refine ret_rds (b := w.heap.size + 1) (cs := #[.int .i64 rs1, .int .i64 rs2, .int .i64 0, .int .i64 0]) rfl rfl (by simp [rowR_alloc, rowR_setCell, rowR_drew, s2, n2, n3]) rfl rfl ⟨rfl, ?_⟩
      repeat (first | exact hB2.out | refine below_setCell ?_ _ _ _ (by first | (simp; done) | omega))
    · have z1 : (rd == 0) = false := by simpa using hz
      have z2 : (rd != 0) = true := by simpa using hz
      replace hz := Lib.hid hz
      go_wp2_with fail
      refine ret_rds (b := w.heap.size + 1) (cs := #[.int .i64 rs1, .int .i64 rs2, .int .i64 rd, .int .i64 1]) rfl rfl (by simp [rowR_alloc, rowR_setCell, rowR_drew, s2, n2, n3]) rfl rfl ⟨by first | rfl | rw [if_neg hz.out], ?_⟩
      repeat (first | exact hB2.out | refine below_setCell ?_ _ _ _ (by first | (simp; done) | omega))
set_option maxHeartbeats 20000000 in
theorem rreads_9 (fn rd rs1 rs2 : Int) (im : BitVec 64) (size : Int) (sgn word useImm : Bool) (csr : Int) (v : BitVec 32) (cE : Hid (Mk Try.prog 44 #[.agg #[.int .i64 9, .int .i64 fn, .int .i64 rd, .int .i64 rs1, .int .i64 rs2, .int .u64 (im.toNat : Int), .int .i64 size, .bool sgn, .bool word, .bool useImm, .int .i64 csr]] (.tuple #[.int .u32 (v.toNat : Int), .int .i64 0]))) (w : World) :
    Calls Try.prog 47 #[.agg #[.int .i64 9, .int .i64 fn, .int .i64 rd, .int .i64 rs1, .int .i64 rs2, .int .u64 (im.toNat : Int), .int .i64 size, .bool sgn, .bool word, .bool useImm, .int .i64 csr]] w fun e w' => e = .returned (.agg #[.int .i64 rs1, .int .i64 rs2, .int .i64 rd, .int .i64 (if rd = 0 then 0 else 1)]) ∧ Below w.heap.size w w' := by
  go_enter Try.func47, Try.ntmps47
  go_wp2_with fail
  refine (cE.out _).mono ?_
  rintro en w1 ⟨rfl, hb⟩
  have hB : Below w.heap.size w w1 := (((Below.refl w.heap.size w).alloc (Nat.le_refl _) (.cells #[.int .i64 9, .int .i64 fn, .int .i64 rd, .int .i64 rs1, .int .i64 rs2, .int .u64 (im.toNat : Int), .int .i64 size, .bool sgn, .bool word, .bool useImm, .int .i64 csr] 44)).alloc (by simp) (.cells #[.int .i64 0, .int .i64 0, .int .i64 0, .int .i64 0] 51)).trans (hb.mono (by simp; omega))
  have q0 : Box ((w.alloc (.cells #[.int .i64 9, .int .i64 fn, .int .i64 rd, .int .i64 rs1, .int .i64 rs2, .int .u64 (im.toNat : Int), .int .i64 size, .bool sgn, .bool word, .bool useImm, .int .i64 csr] 44)).alloc (.cells #[.int .i64 0, .int .i64 0, .int .i64 0, .int .i64 0] 51)) w.heap.size [.int .i64 9, .int .i64 fn, .int .i64 rd, .int .i64 rs1, .int .i64 rs2, .int .u64 (im.toNat : Int), .int .i64 size, .bool sgn, .bool word, .bool useImm, .int .i64 csr] := (Box.new w [.int .i64 9, .int .i64 fn, .int .i64 rd, .int .i64 rs1, .int .i64 rs2, .int .u64 (im.toNat : Int), .int .i64 size, .bool sgn, .bool word, .bool useImm, .int .i64 csr] 44).below ((Below.refl _ _).alloc (Nat.le_refl _) _)
  obtain ⟨c0, c1, c2, c3, c4, c5, c6, c7, c8, c9, c10⟩ := (q0.below hb).eleven
  have z0 : rowR ((w.alloc (.cells #[.int .i64 9, .int .i64 fn, .int .i64 rd, .int .i64 rs1, .int .i64 rs2, .int .u64 (im.toNat : Int), .int .i64 size, .bool sgn, .bool word, .bool useImm, .int .i64 csr] 44)).alloc (.cells #[.int .i64 0, .int .i64 0, .int .i64 0, .int .i64 0] 51)) (w.heap.size + 1) = some #[.int .i64 0, .int .i64 0, .int .i64 0, .int .i64 0] := by rw [rowR_alloc, if_pos (by simp), if_pos rfl]
  have z1 := rowR_below z0 hb
  have cc : ∀ o, w1.cell? ⟨w.heap.size + 1, o, none⟩ = (#[.int .i64 0, .int .i64 0, .int .i64 0, .int .i64 0] : Array Value)[o]? := fun o => cell_of_row _ _ o _ _ (0, 0) (rowR_heap z1)
  have cf : ∀ o, w1.frozen? ⟨w.heap.size + 1, o, none⟩ = false := fun o => frozen_of_row _ _ o _ _ (rowR_heap z1)
  have n1 : w.heap.size + 1 < w1.heap.size := rowR_lt z1
  have n0 : w.heap.size < w1.heap.size := by omega
  have n2 : ¬ w.heap.size + 1 = w1.heap.size := by omega
  have n3 : ¬ w1.heap.size = w.heap.size + 1 := by omega
  replace hB := Lib.hid hB
  clear hb q0 z0 cE
  have k0 : ∀ k : Nat, w1.cell? ⟨w.heap.size, k, none⟩ = w1.cell? ⟨w.heap.size, k, none⟩ := fun _ => rfl
  clear k0
  have o0 := Lib.hid c0
  have zz := Lib.hid z1
  go_upto_block 0 with fail
  go_cut [] from 19 (fun wx => rowR wx w1.heap.size = some #[.int .i64 rs1, .int .i64 rs2, .int .i64 rd, .int .i64 0] ∧ rowR wx (w.heap.size + 1) = some #[.int .i64 0, .int .i64 0, .int .i64 0, .int .i64 0] ∧ wx.cell? ⟨w.heap.size, 0, none⟩ = some (.int .i64 9) ∧ Below w.heap.size w wx)
  case first =>
    go_wp2_with fail
    go_region_with (fail)
    all_goals
      go_wp2_with fail
      go_meet
      case rel =>
        refine ⟨by simp [rowR_setCell, rowR_alloc, rowR_drew], by simp [rowR_setCell, rowR_alloc, rowR_drew, zz.out, n2, n3], ?_, ?_⟩
        · refine Eq.trans ?_ o0.out
          have e : ∀ x : World, x.heap[w.heap.size]? = w1.heap[w.heap.size]? → x.cell? ⟨w.heap.size, 0, none⟩ = w1.cell? ⟨w.heap.size, 0, none⟩ := fun x hx => World.cell?_of_block hx
          apply e
          exact heap_alloc_old _ _ (by omega)
        · repeat (first | exact hB.out | refine below_setCell ?_ _ _ _ (by first | (simp; done) | omega) | refine Below.drew ?_ | refine Below.alloc ?_ (by first | (simp; done) | (simp; omega) | omega) _)
  case rest =>
    obtain ⟨s1, s2, s3, s4⟩ := hcut
    have hB2 := Lib.hid s4
    have t1 : ∀ o, wc.cell? ⟨w1.heap.size, o, none⟩ = (#[.int .i64 rs1, .int .i64 rs2, .int .i64 rd, .int .i64 0] : Array Value)[o]? := fun o => cell_of_row _ _ o _ _ (0, 0) (rowR_heap s1)
    have t2 : ∀ o, wc.frozen? ⟨w1.heap.size, o, none⟩ = false := fun o => frozen_of_row _ _ o _ _ (rowR_heap s1)
    have t3 : ∀ o, wc.cell? ⟨w.heap.size + 1, o, none⟩ = (#[.int .i64 0, .int .i64 0, .int .i64 0, .int .i64 0] : Array Value)[o]? := fun o => cell_of_row _ _ o _ _ (0, 0) (rowR_heap s2)
    have t4 : ∀ o, wc.frozen? ⟨w.heap.size + 1, o, none⟩ = false := fun o => frozen_of_row _ _ o _ _ (rowR_heap s2)
    clear s4 c0 c1 c2 c3 c4 c5 c6 c7 c8 c9 c10 z1 cc cf zz o0 hB
    by_cases hz : rd = 0
    · subst hz
      go_wp2_with fail
      refine ret_rds (b := w.heap.size + 1) (cs := #[.int .i64 rs1, .int .i64 rs2, .int .i64 0, .int .i64 0]) rfl rfl (by simp [rowR_alloc, rowR_setCell, rowR_drew, s2, n2, n3]) rfl rfl ⟨rfl, ?_⟩
      repeat (first | exact hB2.out | refine below_setCell ?_ _ _ _ (by first | (simp; done) | omega))
    · have z1 : (rd == 0) = false := by simpa using hz
      have z2 : (rd != 0) = true := by simpa using hz
      replace hz := Lib.hid hz
      go_wp2_with fail
      refine ret_rds (b := w.heap.size + 1) (cs := #[.int .i64 rs1, .int .i64 rs2, .int .i64 rd, .int .i64 1]) rfl rfl (by simp [rowR_alloc, rowR_setCell, rowR_drew, s2, n2, n3]) rfl rfl ⟨by first | rfl | rw [if_neg hz.out], ?_⟩
      repeat (first | exact hB2.out | refine below_setCell ?_ _ _ _ (by first | (simp; done) | omega))
set_option maxHeartbeats 20000000 in
theorem rreads_10 (fn rd rs1 rs2 : Int) (im : BitVec 64) (size : Int) (sgn word useImm : Bool) (csr : Int) (v : BitVec 32) (cE : Hid (Mk Try.prog 44 #[.agg #[.int .i64 10, .int .i64 fn, .int .i64 rd, .int .i64 rs1, .int .i64 rs2, .int .u64 (im.toNat : Int), .int .i64 size, .bool sgn, .bool word, .bool useImm, .int .i64 csr]] (.tuple #[.int .u32 (v.toNat : Int), .int .i64 0]))) (w : World) :
    Calls Try.prog 47 #[.agg #[.int .i64 10, .int .i64 fn, .int .i64 rd, .int .i64 rs1, .int .i64 rs2, .int .u64 (im.toNat : Int), .int .i64 size, .bool sgn, .bool word, .bool useImm, .int .i64 csr]] w fun e w' => e = .returned (.agg #[.int .i64 rs1, .int .i64 rs2, .int .i64 rd, .int .i64 (if rd = 0 then 0 else 1)]) ∧ Below w.heap.size w w' := by
  go_enter Try.func47, Try.ntmps47
  go_wp2_with fail
  refine (cE.out _).mono ?_
  rintro en w1 ⟨rfl, hb⟩
  have hB : Below w.heap.size w w1 := (((Below.refl w.heap.size w).alloc (Nat.le_refl _) (.cells #[.int .i64 10, .int .i64 fn, .int .i64 rd, .int .i64 rs1, .int .i64 rs2, .int .u64 (im.toNat : Int), .int .i64 size, .bool sgn, .bool word, .bool useImm, .int .i64 csr] 44)).alloc (by simp) (.cells #[.int .i64 0, .int .i64 0, .int .i64 0, .int .i64 0] 51)).trans (hb.mono (by simp; omega))
  have q0 : Box ((w.alloc (.cells #[.int .i64 10, .int .i64 fn, .int .i64 rd, .int .i64 rs1, .int .i64 rs2, .int .u64 (im.toNat : Int), .int .i64 size, .bool sgn, .bool word, .bool useImm, .int .i64 csr] 44)).alloc (.cells #[.int .i64 0, .int .i64 0, .int .i64 0, .int .i64 0] 51)) w.heap.size [.int .i64 10, .int .i64 fn, .int .i64 rd, .int .i64 rs1, .int .i64 rs2, .int .u64 (im.toNat : Int), .int .i64 size, .bool sgn, .bool word, .bool useImm, .int .i64 csr] := (Box.new w [.int .i64 10, .int .i64 fn, .int .i64 rd, .int .i64 rs1, .int .i64 rs2, .int .u64 (im.toNat : Int), .int .i64 size, .bool sgn, .bool word, .bool useImm, .int .i64 csr] 44).below ((Below.refl _ _).alloc (Nat.le_refl _) _)
  obtain ⟨c0, c1, c2, c3, c4, c5, c6, c7, c8, c9, c10⟩ := (q0.below hb).eleven
  have z0 : rowR ((w.alloc (.cells #[.int .i64 10, .int .i64 fn, .int .i64 rd, .int .i64 rs1, .int .i64 rs2, .int .u64 (im.toNat : Int), .int .i64 size, .bool sgn, .bool word, .bool useImm, .int .i64 csr] 44)).alloc (.cells #[.int .i64 0, .int .i64 0, .int .i64 0, .int .i64 0] 51)) (w.heap.size + 1) = some #[.int .i64 0, .int .i64 0, .int .i64 0, .int .i64 0] := by rw [rowR_alloc, if_pos (by simp), if_pos rfl]
  have z1 := rowR_below z0 hb
  have cc : ∀ o, w1.cell? ⟨w.heap.size + 1, o, none⟩ = (#[.int .i64 0, .int .i64 0, .int .i64 0, .int .i64 0] : Array Value)[o]? := fun o => cell_of_row _ _ o _ _ (0, 0) (rowR_heap z1)
  have cf : ∀ o, w1.frozen? ⟨w.heap.size + 1, o, none⟩ = false := fun o => frozen_of_row _ _ o _ _ (rowR_heap z1)
  have n1 : w.heap.size + 1 < w1.heap.size := rowR_lt z1
  have n0 : w.heap.size < w1.heap.size := by omega
  have n2 : ¬ w.heap.size + 1 = w1.heap.size := by omega
  have n3 : ¬ w1.heap.size = w.heap.size + 1 := by omega
  replace hB := Lib.hid hB
  clear hb q0 z0 cE
  have k0 : ∀ k : Nat, w1.cell? ⟨w.heap.size, k, none⟩ = w1.cell? ⟨w.heap.size, k, none⟩ := fun _ => rfl
  clear k0
  have o0 := Lib.hid c0
  have zz := Lib.hid z1
  go_upto_block 0 with fail
  go_cut [] from 19 (fun wx => rowR wx w1.heap.size = some #[.int .i64 rs1, .int .i64 rs2, .int .i64 rd, .int .i64 0] ∧ rowR wx (w.heap.size + 1) = some #[.int .i64 0, .int .i64 0, .int .i64 0, .int .i64 0] ∧ wx.cell? ⟨w.heap.size, 0, none⟩ = some (.int .i64 10) ∧ Below w.heap.size w wx)
  case first =>
    go_wp2_with fail
    go_region_with (fail)
    all_goals
      go_wp2_with fail
      go_meet
      case rel =>
        refine ⟨by simp [rowR_setCell, rowR_alloc, rowR_drew], by simp [rowR_setCell, rowR_alloc, rowR_drew, zz.out, n2, n3], ?_, ?_⟩
        · refine Eq.trans ?_ o0.out
          have e : ∀ x : World, x.heap[w.heap.size]? = w1.heap[w.heap.size]? → x.cell? ⟨w.heap.size, 0, none⟩ = w1.cell? ⟨w.heap.size, 0, none⟩ := fun x hx => World.cell?_of_block hx
          apply e
          exact heap_alloc_old _ _ (by omega)
        · repeat (first | exact hB.out | refine below_setCell ?_ _ _ _ (by first | (simp; done) | omega) | refine Below.drew ?_ | refine Below.alloc ?_ (by first | (simp; done) | (simp; omega) | omega) _)
  case rest =>
    obtain ⟨s1, s2, s3, s4⟩ := hcut
    have hB2 := Lib.hid s4
    have t1 : ∀ o, wc.cell? ⟨w1.heap.size, o, none⟩ = (#[.int .i64 rs1, .int .i64 rs2, .int .i64 rd, .int .i64 0] : Array Value)[o]? := fun o => cell_of_row _ _ o _ _ (0, 0) (rowR_heap s1)
    have t2 : ∀ o, wc.frozen? ⟨w1.heap.size, o, none⟩ = false := fun o => frozen_of_row _ _ o _ _ (rowR_heap s1)
    have t3 : ∀ o, wc.cell? ⟨w.heap.size + 1, o, none⟩ = (#[.int .i64 0, .int .i64 0, .int .i64 0, .int .i64 0] : Array Value)[o]? := fun o => cell_of_row _ _ o _ _ (0, 0) (rowR_heap s2)
    have t4 : ∀ o, wc.frozen? ⟨w.heap.size + 1, o, none⟩ = false := fun o => frozen_of_row _ _ o _ _ (rowR_heap s2)
    clear s4 c0 c1 c2 c3 c4 c5 c6 c7 c8 c9 c10 z1 cc cf zz o0 hB
    by_cases hz : rd = 0
    · subst hz
      go_wp2_with fail
      refine ret_rds (b := w.heap.size + 1) (cs := #[.int .i64 rs1, .int .i64 rs2, .int .i64 0, .int .i64 0]) rfl rfl (by simp [rowR_alloc, rowR_setCell, rowR_drew, s2, n2, n3]) rfl rfl ⟨rfl, ?_⟩
      repeat (first | exact hB2.out | refine below_setCell ?_ _ _ _ (by first | (simp; done) | omega))
    · have z1 : (rd == 0) = false := by simpa using hz
      have z2 : (rd != 0) = true := by simpa using hz
      replace hz := Lib.hid hz
      go_wp2_with fail
      refine ret_rds (b := w.heap.size + 1) (cs := #[.int .i64 rs1, .int .i64 rs2, .int .i64 rd, .int .i64 1]) rfl rfl (by simp [rowR_alloc, rowR_setCell, rowR_drew, s2, n2, n3]) rfl rfl ⟨by first | rfl | rw [if_neg hz.out], ?_⟩
      repeat (first | exact hB2.out | refine below_setCell ?_ _ _ _ (by first | (simp; done) | omega))
set_option maxHeartbeats 20000000 in
theorem rreads_18 (fn rd rs1 rs2 : Int) (im : BitVec 64) (size : Int) (sgn word useImm : Bool) (csr : Int) (v : BitVec 32) (cE : Hid (Mk Try.prog 44 #[.agg #[.int .i64 18, .int .i64 fn, .int .i64 rd, .int .i64 rs1, .int .i64 rs2, .int .u64 (im.toNat : Int), .int .i64 size, .bool sgn, .bool word, .bool useImm, .int .i64 csr]] (.tuple #[.int .u32 (v.toNat : Int), .int .i64 0]))) (w : World) :
    Calls Try.prog 47 #[.agg #[.int .i64 18, .int .i64 fn, .int .i64 rd, .int .i64 rs1, .int .i64 rs2, .int .u64 (im.toNat : Int), .int .i64 size, .bool sgn, .bool word, .bool useImm, .int .i64 csr]] w fun e w' => e = .returned (.agg #[.int .i64 rs1, .int .i64 rs2, .int .i64 rd, .int .i64 (if rd = 0 then 0 else 1)]) ∧ Below w.heap.size w w' := by
  go_enter Try.func47, Try.ntmps47
  go_wp2_with fail
  refine (cE.out _).mono ?_
  rintro en w1 ⟨rfl, hb⟩
  have hB : Below w.heap.size w w1 := (((Below.refl w.heap.size w).alloc (Nat.le_refl _) (.cells #[.int .i64 18, .int .i64 fn, .int .i64 rd, .int .i64 rs1, .int .i64 rs2, .int .u64 (im.toNat : Int), .int .i64 size, .bool sgn, .bool word, .bool useImm, .int .i64 csr] 44)).alloc (by simp) (.cells #[.int .i64 0, .int .i64 0, .int .i64 0, .int .i64 0] 51)).trans (hb.mono (by simp; omega))
  have q0 : Box ((w.alloc (.cells #[.int .i64 18, .int .i64 fn, .int .i64 rd, .int .i64 rs1, .int .i64 rs2, .int .u64 (im.toNat : Int), .int .i64 size, .bool sgn, .bool word, .bool useImm, .int .i64 csr] 44)).alloc (.cells #[.int .i64 0, .int .i64 0, .int .i64 0, .int .i64 0] 51)) w.heap.size [.int .i64 18, .int .i64 fn, .int .i64 rd, .int .i64 rs1, .int .i64 rs2, .int .u64 (im.toNat : Int), .int .i64 size, .bool sgn, .bool word, .bool useImm, .int .i64 csr] := (Box.new w [.int .i64 18, .int .i64 fn, .int .i64 rd, .int .i64 rs1, .int .i64 rs2, .int .u64 (im.toNat : Int), .int .i64 size, .bool sgn, .bool word, .bool useImm, .int .i64 csr] 44).below ((Below.refl _ _).alloc (Nat.le_refl _) _)
  obtain ⟨c0, c1, c2, c3, c4, c5, c6, c7, c8, c9, c10⟩ := (q0.below hb).eleven
  have z0 : rowR ((w.alloc (.cells #[.int .i64 18, .int .i64 fn, .int .i64 rd, .int .i64 rs1, .int .i64 rs2, .int .u64 (im.toNat : Int), .int .i64 size, .bool sgn, .bool word, .bool useImm, .int .i64 csr] 44)).alloc (.cells #[.int .i64 0, .int .i64 0, .int .i64 0, .int .i64 0] 51)) (w.heap.size + 1) = some #[.int .i64 0, .int .i64 0, .int .i64 0, .int .i64 0] := by rw [rowR_alloc, if_pos (by simp), if_pos rfl]
  have z1 := rowR_below z0 hb
  have cc : ∀ o, w1.cell? ⟨w.heap.size + 1, o, none⟩ = (#[.int .i64 0, .int .i64 0, .int .i64 0, .int .i64 0] : Array Value)[o]? := fun o => cell_of_row _ _ o _ _ (0, 0) (rowR_heap z1)
  have cf : ∀ o, w1.frozen? ⟨w.heap.size + 1, o, none⟩ = false := fun o => frozen_of_row _ _ o _ _ (rowR_heap z1)
  have n1 : w.heap.size + 1 < w1.heap.size := rowR_lt z1
  have n0 : w.heap.size < w1.heap.size := by omega
  have n2 : ¬ w.heap.size + 1 = w1.heap.size := by omega
  have n3 : ¬ w1.heap.size = w.heap.size + 1 := by omega
  replace hB := Lib.hid hB
  clear hb q0 z0 cE
  have k0 : ∀ k : Nat, w1.cell? ⟨w.heap.size, k, none⟩ = w1.cell? ⟨w.heap.size, k, none⟩ := fun _ => rfl
  clear k0
  have o0 := Lib.hid c0
  have zz := Lib.hid z1
  go_upto_block 0 with fail
  go_cut [] from 19 (fun wx => rowR wx w1.heap.size = some #[.int .i64 rs1, .int .i64 rs2, .int .i64 rd, .int .i64 0] ∧ rowR wx (w.heap.size + 1) = some #[.int .i64 0, .int .i64 0, .int .i64 0, .int .i64 0] ∧ wx.cell? ⟨w.heap.size, 0, none⟩ = some (.int .i64 18) ∧ Below w.heap.size w wx)
  case first =>
    go_wp2_with fail
    go_region_with (fail)
    all_goals
      go_wp2_with fail
      go_meet
      case rel =>
        refine ⟨by simp [rowR_setCell, rowR_alloc, rowR_drew], by simp [rowR_setCell, rowR_alloc, rowR_drew, zz.out, n2, n3], ?_, ?_⟩
        · refine Eq.trans ?_ o0.out
          have e : ∀ x : World, x.heap[w.heap.size]? = w1.heap[w.heap.size]? → x.cell? ⟨w.heap.size, 0, none⟩ = w1.cell? ⟨w.heap.size, 0, none⟩ := fun x hx => World.cell?_of_block hx
          apply e
          exact heap_alloc_old _ _ (by omega)
        · repeat (first | exact hB.out | refine below_setCell ?_ _ _ _ (by first | (simp; done) | omega) | refine Below.drew ?_ | refine Below.alloc ?_ (by first | (simp; done) | (simp; omega) | omega) _)
  case rest =>
    obtain ⟨s1, s2, s3, s4⟩ := hcut
    have hB2 := Lib.hid s4
    have t1 : ∀ o, wc.cell? ⟨w1.heap.size, o, none⟩ = (#[.int .i64 rs1, .int .i64 rs2, .int .i64 rd, .int .i64 0] : Array Value)[o]? := fun o => cell_of_row _ _ o _ _ (0, 0) (rowR_heap s1)
    have t2 : ∀ o, wc.frozen? ⟨w1.heap.size, o, none⟩ = false := fun o => frozen_of_row _ _ o _ _ (rowR_heap s1)
    have t3 : ∀ o, wc.cell? ⟨w.heap.size + 1, o, none⟩ = (#[.int .i64 0, .int .i64 0, .int .i64 0, .int .i64 0] : Array Value)[o]? := fun o => cell_of_row _ _ o _ _ (0, 0) (rowR_heap s2)
    have t4 : ∀ o, wc.frozen? ⟨w.heap.size + 1, o, none⟩ = false := fun o => frozen_of_row _ _ o _ _ (rowR_heap s2)
    clear s4 c0 c1 c2 c3 c4 c5 c6 c7 c8 c9 c10 z1 cc cf zz o0 hB
    by_cases hz : rd = 0
    · subst hz
      go_wp2_with fail
      refine ret_rds (b := w.heap.size + 1) (cs := #[.int .i64 rs1, .int .i64 rs2, .int .i64 0, .int .i64 0]) rfl rfl (by simp [rowR_alloc, rowR_setCell, rowR_drew, s2, n2, n3]) rfl rfl ⟨rfl, ?_⟩
      repeat (first | exact hB2.out | refine below_setCell ?_ _ _ _ (by first | (simp; done) | omega))
    · have z1 : (rd == 0) = false := by simpa using hz
      have z2 : (rd != 0) = true := by simpa using hz
      replace hz := Lib.hid hz
      go_wp2_with fail
      refine ret_rds (b := w.heap.size + 1) (cs := #[.int .i64 rs1, .int .i64 rs2, .int .i64 rd, .int .i64 1]) rfl rfl (by simp [rowR_alloc, rowR_setCell, rowR_drew, s2, n2, n3]) rfl rfl ⟨by first | rfl | rw [if_neg hz.out], ?_⟩
      repeat (first | exact hB2.out | refine below_setCell ?_ _ _ _ (by first | (simp; done) | omega))
set_option maxHeartbeats 20000000 in
theorem rreads_21 (fn rd rs1 rs2 : Int) (im : BitVec 64) (size : Int) (sgn word useImm : Bool) (csr : Int) (v : BitVec 32) (cE : Hid (Mk Try.prog 44 #[.agg #[.int .i64 21, .int .i64 fn, .int .i64 rd, .int .i64 rs1, .int .i64 rs2, .int .u64 (im.toNat : Int), .int .i64 size, .bool sgn, .bool word, .bool useImm, .int .i64 csr]] (.tuple #[.int .u32 (v.toNat : Int), .int .i64 0]))) (w : World) :
    Calls Try.prog 47 #[.agg #[.int .i64 21, .int .i64 fn, .int .i64 rd, .int .i64 rs1, .int .i64 rs2, .int .u64 (im.toNat : Int), .int .i64 size, .bool sgn, .bool word, .bool useImm, .int .i64 csr]] w fun e w' => e = .returned (.agg #[.int .i64 rs1, .int .i64 rs2, .int .i64 rd, .int .i64 (if rd = 0 then 0 else 2)]) ∧ Below w.heap.size w w' := by
  go_enter Try.func47, Try.ntmps47
  go_wp2_with fail
  refine (cE.out _).mono ?_
  rintro en w1 ⟨rfl, hb⟩
  have hB : Below w.heap.size w w1 := (((Below.refl w.heap.size w).alloc (Nat.le_refl _) (.cells #[.int .i64 21, .int .i64 fn, .int .i64 rd, .int .i64 rs1, .int .i64 rs2, .int .u64 (im.toNat : Int), .int .i64 size, .bool sgn, .bool word, .bool useImm, .int .i64 csr] 44)).alloc (by simp) (.cells #[.int .i64 0, .int .i64 0, .int .i64 0, .int .i64 0] 51)).trans (hb.mono (by simp; omega))
  have q0 : Box ((w.alloc (.cells #[.int .i64 21, .int .i64 fn, .int .i64 rd, .int .i64 rs1, .int .i64 rs2, .int .u64 (im.toNat : Int), .int .i64 size, .bool sgn, .bool word, .bool useImm, .int .i64 csr] 44)).alloc (.cells #[.int .i64 0, .int .i64 0, .int .i64 0, .int .i64 0] 51)) w.heap.size [.int .i64 21, .int .i64 fn, .int .i64 rd, .int .i64 rs1, .int .i64 rs2, .int .u64 (im.toNat : Int), .int .i64 size, .bool sgn, .bool word, .bool useImm, .int .i64 csr] := (Box.new w [.int .i64 21, .int .i64 fn, .int .i64 rd, .int .i64 rs1, .int .i64 rs2, .int .u64 (im.toNat : Int), .int .i64 size, .bool sgn, .bool word, .bool useImm, .int .i64 csr] 44).below ((Below.refl _ _).alloc (Nat.le_refl _) _)
  obtain ⟨c0, c1, c2, c3, c4, c5, c6, c7, c8, c9, c10⟩ := (q0.below hb).eleven
  have z0 : rowR ((w.alloc (.cells #[.int .i64 21, .int .i64 fn, .int .i64 rd, .int .i64 rs1, .int .i64 rs2, .int .u64 (im.toNat : Int), .int .i64 size, .bool sgn, .bool word, .bool useImm, .int .i64 csr] 44)).alloc (.cells #[.int .i64 0, .int .i64 0, .int .i64 0, .int .i64 0] 51)) (w.heap.size + 1) = some #[.int .i64 0, .int .i64 0, .int .i64 0, .int .i64 0] := by rw [rowR_alloc, if_pos (by simp), if_pos rfl]
  have z1 := rowR_below z0 hb
  have cc : ∀ o, w1.cell? ⟨w.heap.size + 1, o, none⟩ = (#[.int .i64 0, .int .i64 0, .int .i64 0, .int .i64 0] : Array Value)[o]? := fun o => cell_of_row _ _ o _ _ (0, 0) (rowR_heap z1)
  have cf : ∀ o, w1.frozen? ⟨w.heap.size + 1, o, none⟩ = false := fun o => frozen_of_row _ _ o _ _ (rowR_heap z1)
  have n1 : w.heap.size + 1 < w1.heap.size := rowR_lt z1
  have n0 : w.heap.size < w1.heap.size := by omega
  have n2 : ¬ w.heap.size + 1 = w1.heap.size := by omega
  have n3 : ¬ w1.heap.size = w.heap.size + 1 := by omega
  replace hB := Lib.hid hB
  clear hb q0 z0 cE
  have k0 : ∀ k : Nat, w1.cell? ⟨w.heap.size, k, none⟩ = w1.cell? ⟨w.heap.size, k, none⟩ := fun _ => rfl
  clear k0
  have o0 := Lib.hid c0
  have zz := Lib.hid z1
  go_upto_block 0 with fail
  go_cut [] from 19 (fun wx => rowR wx w1.heap.size = some #[.int .i64 rs1, .int .i64 rs2, .int .i64 rd, .int .i64 0] ∧ rowR wx (w.heap.size + 1) = some #[.int .i64 0, .int .i64 0, .int .i64 0, .int .i64 0] ∧ wx.cell? ⟨w.heap.size, 0, none⟩ = some (.int .i64 21) ∧ Below w.heap.size w wx)
  case first =>
    go_wp2_with fail
    go_region_with (fail)
    all_goals
      go_wp2_with fail
      go_meet
      case rel =>
        refine ⟨by simp [rowR_setCell, rowR_alloc, rowR_drew], by simp [rowR_setCell, rowR_alloc, rowR_drew, zz.out, n2, n3], ?_, ?_⟩
        · refine Eq.trans ?_ o0.out
          have e : ∀ x : World, x.heap[w.heap.size]? = w1.heap[w.heap.size]? → x.cell? ⟨w.heap.size, 0, none⟩ = w1.cell? ⟨w.heap.size, 0, none⟩ := fun x hx => World.cell?_of_block hx
          apply e
          exact heap_alloc_old _ _ (by omega)
        · repeat (first | exact hB.out | refine below_setCell ?_ _ _ _ (by first | (simp; done) | omega) | refine Below.drew ?_ | refine Below.alloc ?_ (by first | (simp; done) | (simp; omega) | omega) _)
  case rest =>
    obtain ⟨s1, s2, s3, s4⟩ := hcut
    have hB2 := Lib.hid s4
    have t1 : ∀ o, wc.cell? ⟨w1.heap.size, o, none⟩ = (#[.int .i64 rs1, .int .i64 rs2, .int .i64 rd, .int .i64 0] : Array Value)[o]? := fun o => cell_of_row _ _ o _ _ (0, 0) (rowR_heap s1)
    have t2 : ∀ o, wc.frozen? ⟨w1.heap.size, o, none⟩ = false := fun o => frozen_of_row _ _ o _ _ (rowR_heap s1)
    have t3 : ∀ o, wc.cell? ⟨w.heap.size + 1, o, none⟩ = (#[.int .i64 0, .int .i64 0, .int .i64 0, .int .i64 0] : Array Value)[o]? := fun o => cell_of_row _ _ o _ _ (0, 0) (rowR_heap s2)
    have t4 : ∀ o, wc.frozen? ⟨w.heap.size + 1, o, none⟩ = false := fun o => frozen_of_row _ _ o _ _ (rowR_heap s2)
    clear s4 c0 c1 c2 c3 c4 c5 c6 c7 c8 c9 c10 z1 cc cf zz o0 hB
    by_cases hz : rd = 0
    · subst hz
      go_wp2_with fail
      refine ret_rds (b := w.heap.size + 1) (cs := #[.int .i64 rs1, .int .i64 rs2, .int .i64 0, .int .i64 0]) rfl rfl (by simp [rowR_alloc, rowR_setCell, rowR_drew, s2, n2, n3]) rfl rfl ⟨rfl, ?_⟩
      repeat (first | exact hB2.out | refine below_setCell ?_ _ _ _ (by first | (simp; done) | omega))
    · have z1 : (rd == 0) = false := by simpa using hz
      have z2 : (rd != 0) = true := by simpa using hz
      replace hz := Lib.hid hz
      go_wp2_with fail
      refine ret_rds (b := w.heap.size + 1) (cs := #[.int .i64 rs1, .int .i64 rs2, .int .i64 rd, .int .i64 2]) rfl rfl (by simp [rowR_alloc, rowR_setCell, rowR_drew, s2, n2, n3]) rfl rfl ⟨by first | rfl | rw [if_neg hz.out], ?_⟩
      repeat (first | exact hB2.out | refine below_setCell ?_ _ _ _ (by first | (simp; done) | omega))
set_option maxHeartbeats 20000000 in
theorem rreads_22 (fn rd rs1 rs2 : Int) (im : BitVec 64) (size : Int) (sgn word useImm : Bool) (csr : Int) (v : BitVec 32) (cE : Hid (Mk Try.prog 44 #[.agg #[.int .i64 22, .int .i64 fn, .int .i64 rd, .int .i64 rs1, .int .i64 rs2, .int .u64 (im.toNat : Int), .int .i64 size, .bool sgn, .bool word, .bool useImm, .int .i64 csr]] (.tuple #[.int .u32 (v.toNat : Int), .int .i64 0]))) (w : World) :
    Calls Try.prog 47 #[.agg #[.int .i64 22, .int .i64 fn, .int .i64 rd, .int .i64 rs1, .int .i64 rs2, .int .u64 (im.toNat : Int), .int .i64 size, .bool sgn, .bool word, .bool useImm, .int .i64 csr]] w fun e w' => e = .returned (.agg #[.int .i64 rs1, .int .i64 rs2, .int .i64 rd, .int .i64 (if rd = 0 then 0 else 2)]) ∧ Below w.heap.size w w' := by
  go_enter Try.func47, Try.ntmps47
  go_wp2_with fail
  refine (cE.out _).mono ?_
  rintro en w1 ⟨rfl, hb⟩
  have hB : Below w.heap.size w w1 := (((Below.refl w.heap.size w).alloc (Nat.le_refl _) (.cells #[.int .i64 22, .int .i64 fn, .int .i64 rd, .int .i64 rs1, .int .i64 rs2, .int .u64 (im.toNat : Int), .int .i64 size, .bool sgn, .bool word, .bool useImm, .int .i64 csr] 44)).alloc (by simp) (.cells #[.int .i64 0, .int .i64 0, .int .i64 0, .int .i64 0] 51)).trans (hb.mono (by simp; omega))
  have q0 : Box ((w.alloc (.cells #[.int .i64 22, .int .i64 fn, .int .i64 rd, .int .i64 rs1, .int .i64 rs2, .int .u64 (im.toNat : Int), .int .i64 size, .bool sgn, .bool word, .bool useImm, .int .i64 csr] 44)).alloc (.cells #[.int .i64 0, .int .i64 0, .int .i64 0, .int .i64 0] 51)) w.heap.size [.int .i64 22, .int .i64 fn, .int .i64 rd, .int .i64 rs1, .int .i64 rs2, .int .u64 (im.toNat : Int), .int .i64 size, .bool sgn, .bool word, .bool useImm, .int .i64 csr] := (Box.new w [.int .i64 22, .int .i64 fn, .int .i64 rd, .int .i64 rs1, .int .i64 rs2, .int .u64 (im.toNat : Int), .int .i64 size, .bool sgn, .bool word, .bool useImm, .int .i64 csr] 44).below ((Below.refl _ _).alloc (Nat.le_refl _) _)
  obtain ⟨c0, c1, c2, c3, c4, c5, c6, c7, c8, c9, c10⟩ := (q0.below hb).eleven
  have z0 : rowR ((w.alloc (.cells #[.int .i64 22, .int .i64 fn, .int .i64 rd, .int .i64 rs1, .int .i64 rs2, .int .u64 (im.toNat : Int), .int .i64 size, .bool sgn, .bool word, .bool useImm, .int .i64 csr] 44)).alloc (.cells #[.int .i64 0, .int .i64 0, .int .i64 0, .int .i64 0] 51)) (w.heap.size + 1) = some #[.int .i64 0, .int .i64 0, .int .i64 0, .int .i64 0] := by rw [rowR_alloc, if_pos (by simp), if_pos rfl]
  have z1 := rowR_below z0 hb
  have cc : ∀ o, w1.cell? ⟨w.heap.size + 1, o, none⟩ = (#[.int .i64 0, .int .i64 0, .int .i64 0, .int .i64 0] : Array Value)[o]? := fun o => cell_of_row _ _ o _ _ (0, 0) (rowR_heap z1)
  have cf : ∀ o, w1.frozen? ⟨w.heap.size + 1, o, none⟩ = false := fun o => frozen_of_row _ _ o _ _ (rowR_heap z1)
  have n1 : w.heap.size + 1 < w1.heap.size := rowR_lt z1
  have n0 : w.heap.size < w1.heap.size := by omega
  have n2 : ¬ w.heap.size + 1 = w1.heap.size := by omega
  have n3 : ¬ w1.heap.size = w.heap.size + 1 := by omega
  replace hB := Lib.hid hB
  clear hb q0 z0 cE
  have k0 : ∀ k : Nat, w1.cell? ⟨w.heap.size, k, none⟩ = w1.cell? ⟨w.heap.size, k, none⟩ := fun _ => rfl
  clear k0
  have o0 := Lib.hid c0
  have zz := Lib.hid z1
  go_upto_block 0 with fail
  go_cut [] from 19 (fun wx => rowR wx w1.heap.size = some #[.int .i64 rs1, .int .i64 rs2, .int .i64 rd, .int .i64 0] ∧ rowR wx (w.heap.size + 1) = some #[.int .i64 0, .int .i64 0, .int .i64 0, .int .i64 0] ∧ wx.cell? ⟨w.heap.size, 0, none⟩ = some (.int .i64 22) ∧ Below w.heap.size w wx)
  case first =>
    go_wp2_with fail
    go_region_with (fail)
    all_goals
      go_wp2_with fail
      go_meet
      case rel =>
        refine ⟨by simp [rowR_setCell, rowR_alloc, rowR_drew], by simp [rowR_setCell, rowR_alloc, rowR_drew, zz.out, n2, n3], ?_, ?_⟩
        · refine Eq.trans ?_ o0.out
          have e : ∀ x : World, x.heap[w.heap.size]? = w1.heap[w.heap.size]? → x.cell? ⟨w.heap.size, 0, none⟩ = w1.cell? ⟨w.heap.size, 0, none⟩ := fun x hx => World.cell?_of_block hx
          apply e
          exact heap_alloc_old _ _ (by omega)
        · repeat (first | exact hB.out | refine below_setCell ?_ _ _ _ (by first | (simp; done) | omega) | refine Below.drew ?_ | refine Below.alloc ?_ (by first | (simp; done) | (simp; omega) | omega) _)
  case rest =>
    obtain ⟨s1, s2, s3, s4⟩ := hcut
    have hB2 := Lib.hid s4
    have t1 : ∀ o, wc.cell? ⟨w1.heap.size, o, none⟩ = (#[.int .i64 rs1, .int .i64 rs2, .int .i64 rd, .int .i64 0] : Array Value)[o]? := fun o => cell_of_row _ _ o _ _ (0, 0) (rowR_heap s1)
    have t2 : ∀ o, wc.frozen? ⟨w1.heap.size, o, none⟩ = false := fun o => frozen_of_row _ _ o _ _ (rowR_heap s1)
    have t3 : ∀ o, wc.cell? ⟨w.heap.size + 1, o, none⟩ = (#[.int .i64 0, .int .i64 0, .int .i64 0, .int .i64 0] : Array Value)[o]? := fun o => cell_of_row _ _ o _ _ (0, 0) (rowR_heap s2)
    have t4 : ∀ o, wc.frozen? ⟨w.heap.size + 1, o, none⟩ = false := fun o => frozen_of_row _ _ o _ _ (rowR_heap s2)
    clear s4 c0 c1 c2 c3 c4 c5 c6 c7 c8 c9 c10 z1 cc cf zz o0 hB
    by_cases hz : rd = 0
    · subst hz
      go_wp2_with fail
      refine ret_rds (b := w.heap.size + 1) (cs := #[.int .i64 rs1, .int .i64 rs2, .int .i64 0, .int .i64 0]) rfl rfl (by simp [rowR_alloc, rowR_setCell, rowR_drew, s2, n2, n3]) rfl rfl ⟨rfl, ?_⟩
      repeat (first | exact hB2.out | refine below_setCell ?_ _ _ _ (by first | (simp; done) | omega))
    · have z1 : (rd == 0) = false := by simpa using hz
      have z2 : (rd != 0) = true := by simpa using hz
      replace hz := Lib.hid hz
      go_wp2_with fail
      refine ret_rds (b := w.heap.size + 1) (cs := #[.int .i64 rs1, .int .i64 rs2, .int .i64 rd, .int .i64 2]) rfl rfl (by simp [rowR_alloc, rowR_setCell, rowR_drew, s2, n2, n3]) rfl rfl ⟨by first | rfl | rw [if_neg hz.out], ?_⟩
      repeat (first | exact hB2.out | refine below_setCell ?_ _ _ _ (by first | (simp; done) | omega))
set_option maxHeartbeats 20000000 in
theorem rreads_4_z (fn rs1 rs2 : Int) (im : BitVec 64) (size : Int) (sgn word useImm : Bool) (csr : Int) (v : BitVec 32) (cE : Hid (Mk Try.prog 44 #[.agg #[.int .i64 4, .int .i64 fn, .int .i64 0, .int .i64 rs1, .int .i64 rs2, .int .u64 (im.toNat : Int), .int .i64 size, .bool sgn, .bool word, .bool useImm, .int .i64 csr]] (.tuple #[.int .u32 (v.toNat : Int), .int .i64 0]))) (w : World) :
    Calls Try.prog 47 #[.agg #[.int .i64 4, .int .i64 fn, .int .i64 0, .int .i64 rs1, .int .i64 rs2, .int .u64 (im.toNat : Int), .int .i64 size, .bool sgn, .bool word, .bool useImm, .int .i64 csr]] w fun e w' => e = .returned (.agg #[.int .i64 rs1, .int .i64 0, .int .i64 0, .int .i64 0]) ∧ Below w.heap.size w w' := by
  go_enter Try.func47, Try.ntmps47
  go_wp2_with fail
  refine (cE.out _).mono ?_
  rintro en w1 ⟨rfl, hb⟩
  have hB : Below w.heap.size w w1 := (((Below.refl w.heap.size w).alloc (Nat.le_refl _) (.cells #[.int .i64 4, .int .i64 fn, .int .i64 0, .int .i64 rs1, .int .i64 rs2, .int .u64 (im.toNat : Int), .int .i64 size, .bool sgn, .bool word, .bool useImm, .int .i64 csr] 44)).alloc (by simp) (.cells #[.int .i64 0, .int .i64 0, .int .i64 0, .int .i64 0] 51)).trans (hb.mono (by simp; omega))
  have q0 : Box ((w.alloc (.cells #[.int .i64 4, .int .i64 fn, .int .i64 0, .int .i64 rs1, .int .i64 rs2, .int .u64 (im.toNat : Int), .int .i64 size, .bool sgn, .bool word, .bool useImm, .int .i64 csr] 44)).alloc (.cells #[.int .i64 0, .int .i64 0, .int .i64 0, .int .i64 0] 51)) w.heap.size [.int .i64 4, .int .i64 fn, .int .i64 0, .int .i64 rs1, .int .i64 rs2, .int .u64 (im.toNat : Int), .int .i64 size, .bool sgn, .bool word, .bool useImm, .int .i64 csr] := (Box.new w [.int .i64 4, .int .i64 fn, .int .i64 0, .int .i64 rs1, .int .i64 rs2, .int .u64 (im.toNat : Int), .int .i64 size, .bool sgn, .bool word, .bool useImm, .int .i64 csr] 44).below ((Below.refl _ _).alloc (Nat.le_refl _) _)
  obtain ⟨c0, c1, c2, c3, c4, c5, c6, c7, c8, c9, c10⟩ := (q0.below hb).eleven
  have z0 : rowR ((w.alloc (.cells #[.int .i64 4, .int .i64 fn, .int .i64 0, .int .i64 rs1, .int .i64 rs2, .int .u64 (im.toNat : Int), .int .i64 size, .bool sgn, .bool word, .bool useImm, .int .i64 csr] 44)).alloc (.cells #[.int .i64 0, .int .i64 0, .int .i64 0, .int .i64 0] 51)) (w.heap.size + 1) = some #[.int .i64 0, .int .i64 0, .int .i64 0, .int .i64 0] := by rw [rowR_alloc, if_pos (by simp), if_pos rfl]
  have z1 := rowR_below z0 hb
  have cc : ∀ o, w1.cell? ⟨w.heap.size + 1, o, none⟩ = (#[.int .i64 0, .int .i64 0, .int .i64 0, .int .i64 0] : Array Value)[o]? := fun o => cell_of_row _ _ o _ _ (0, 0) (rowR_heap z1)
  have cf : ∀ o, w1.frozen? ⟨w.heap.size + 1, o, none⟩ = false := fun o => frozen_of_row _ _ o _ _ (rowR_heap z1)
  have n1 : w.heap.size + 1 < w1.heap.size := rowR_lt z1
  have n0 : w.heap.size < w1.heap.size := by omega
  have n2 : ¬ w.heap.size + 1 = w1.heap.size := by omega
  have n3 : ¬ w1.heap.size = w.heap.size + 1 := by omega
  replace hB := Lib.hid hB
  clear hb q0 z0 cE
  go_wp2_with fail
  refine ret_rds (b := w.heap.size + 1) (cs := #[.int .i64 rs1, .int .i64 0, .int .i64 0, .int .i64 0]) rfl rfl (by simp [rowR_alloc, rowR_setCell, rowR_drew, z1, n2, n3]) rfl rfl ⟨rfl, ?_⟩
  repeat (first | exact hB.out | refine below_setCell ?_ _ _ _ (by first | (simp; done) | omega) | refine Below.drew ?_ | refine Below.alloc ?_ (by first | (simp; done) | (simp; omega) | omega) _)
set_option maxHeartbeats 20000000 in
theorem rreads_4 (fn rd rs1 rs2 : Int) (im : BitVec 64) (size : Int) (sgn word useImm : Bool) (csr : Int) (v : BitVec 32) (cE : Hid (Mk Try.prog 44 #[.agg #[.int .i64 4, .int .i64 fn, .int .i64 rd, .int .i64 rs1, .int .i64 rs2, .int .u64 (im.toNat : Int), .int .i64 size, .bool sgn, .bool word, .bool useImm, .int .i64 csr]] (.tuple #[.int .u32 (v.toNat : Int), .int .i64 0]))) (hz : (rd == 0) = false) (hz2 : (rd != 0) = true) (w : World) :
    Calls Try.prog 47 #[.agg #[.int .i64 4, .int .i64 fn, .int .i64 rd, .int .i64 rs1, .int .i64 rs2, .int .u64 (im.toNat : Int), .int .i64 size, .bool sgn, .bool word, .bool useImm, .int .i64 csr]] w fun e w' => e = .returned (.agg #[.int .i64 rs1, .int .i64 0, .int .i64 rd, .int .i64 1]) ∧ Below w.heap.size w w' := by
  go_enter Try.func47, Try.ntmps47
  go_wp2_with fail
  refine (cE.out _).mono ?_
  rintro en w1 ⟨rfl, hb⟩
  have hB : Below w.heap.size w w1 := (((Below.refl w.heap.size w).alloc (Nat.le_refl _) (.cells #[.int .i64 4, .int .i64 fn, .int .i64 rd, .int .i64 rs1, .int .i64 rs2, .int .u64 (im.toNat : Int), .int .i64 size, .bool sgn, .bool word, .bool useImm, .int .i64 csr] 44)).alloc (by simp) (.cells #[.int .i64 0, .int .i64 0, .int .i64 0, .int .i64 0] 51)).trans (hb.mono (by simp; omega))
  have q0 : Box ((w.alloc (.cells #[.int .i64 4, .int .i64 fn, .int .i64 rd, .int .i64 rs1, .int .i64 rs2, .int .u64 (im.toNat : Int), .int .i64 size, .bool sgn, .bool word, .bool useImm, .int .i64 csr] 44)).alloc (.cells #[.int .i64 0, .int .i64 0, .int .i64 0, .int .i64 0] 51)) w.heap.size [.int .i64 4, .int .i64 fn, .int .i64 rd, .int .i64 rs1, .int .i64 rs2, .int .u64 (im.toNat : Int), .int .i64 size, .bool sgn, .bool word, .bool useImm, .int .i64 csr] := (Box.new w [.int .i64 4, .int .i64 fn, .int .i64 rd, .int .i64 rs1, .int .i64 rs2, .int .u64 (im.toNat : Int), .int .i64 size, .bool sgn, .bool word, .bool useImm, .int .i64 csr] 44).below ((Below.refl _ _).alloc (Nat.le_refl _) _)
  obtain ⟨c0, c1, c2, c3, c4, c5, c6, c7, c8, c9, c10⟩ := (q0.below hb).eleven
  have z0 : rowR ((w.alloc (.cells #[.int .i64 4, .int .i64 fn, .int .i64 rd, .int .i64 rs1, .int .i64 rs2, .int .u64 (im.toNat : Int), .int .i64 size, .bool sgn, .bool word, .bool useImm, .int .i64 csr] 44)).alloc (.cells #[.int .i64 0, .int .i64 0, .int .i64 0, .int .i64 0] 51)) (w.heap.size + 1) = some #[.int .i64 0, .int .i64 0, .int .i64 0, .int .i64 0] := by rw [rowR_alloc, if_pos (by simp), if_pos rfl]
  have z1 := rowR_below z0 hb
  have cc : ∀ o, w1.cell? ⟨w.heap.size + 1, o, none⟩ = (#[.int .i64 0, .int .i64 0, .int .i64 0, .int .i64 0] : Array Value)[o]? := fun o => cell_of_row _ _ o _ _ (0, 0) (rowR_heap z1)
  have cf : ∀ o, w1.frozen? ⟨w.heap.size + 1, o, none⟩ = false := fun o => frozen_of_row _ _ o _ _ (rowR_heap z1)
  have n1 : w.heap.size + 1 < w1.heap.size := rowR_lt z1
  have n0 : w.heap.size < w1.heap.size := by omega
  have n2 : ¬ w.heap.size + 1 = w1.heap.size := by omega
  have n3 : ¬ w1.heap.size = w.heap.size + 1 := by omega
  replace hB := Lib.hid hB
  clear hb q0 z0 cE
  go_wp2_with fail
  refine ret_rds (b := w.heap.size + 1) (cs := #[.int .i64 rs1, .int .i64 0, .int .i64 rd, .int .i64 1]) rfl rfl (by simp [rowR_alloc, rowR_setCell, rowR_drew, z1, n2, n3]) rfl rfl ⟨rfl, ?_⟩
  repeat (first | exact hB.out | refine below_setCell ?_ _ _ _ (by first | (simp; done) | omega) | refine Below.drew ?_ | refine Below.alloc ?_ (by first | (simp; done) | (simp; omega) | omega) _)
set_option maxHeartbeats 20000000 in
theorem rreads_6_z (fn rs1 rs2 : Int) (im : BitVec 64) (size : Int) (sgn word useImm : Bool) (csr : Int) (v : BitVec 32) (cE : Hid (Mk Try.prog 44 #[.agg #[.int .i64 6, .int .i64 fn, .int .i64 0, .int .i64 rs1, .int .i64 rs2, .int .u64 (im.toNat : Int), .int .i64 size, .bool sgn, .bool word, .bool useImm, .int .i64 csr]] (.tuple #[.int .u32 (v.toNat : Int), .int .i64 0]))) (w : World) :
    Calls Try.prog 47 #[.agg #[.int .i64 6, .int .i64 fn, .int .i64 0, .int .i64 rs1, .int .i64 rs2, .int .u64 (im.toNat : Int), .int .i64 size, .bool sgn, .bool word, .bool useImm, .int .i64 csr]] w fun e w' => e = .returned (.agg #[.int .i64 rs1, .int .i64 0, .int .i64 0, .int .i64 0]) ∧ Below w.heap.size w w' := by
  go_enter Try.func47, Try.ntmps47
  go_wp2_with fail
  refine (cE.out _).mono ?_
  rintro en w1 ⟨rfl, hb⟩
  have hB : Below w.heap.size w w1 := (((Below.refl w.heap.size w).alloc (Nat.le_refl _) (.cells #[.int .i64 6, .int .i64 fn, .int .i64 0, .int .i64 rs1, .int .i64 rs2, .int .u64 (im.toNat : Int), .int .i64 size, .bool sgn, .bool word, .bool useImm, .int .i64 csr] 44)).alloc (by simp) (.cells #[.int .i64 0, .int .i64 0, .int .i64 0, .int .i64 0] 51)).trans (hb.mono (by simp; omega))
  have q0 : Box ((w.alloc (.cells #[.int .i64 6, .int .i64 fn, .int .i64 0, .int .i64 rs1, .int .i64 rs2, .int .u64 (im.toNat : Int), .int .i64 size, .bool sgn, .bool word, .bool useImm, .int .i64 csr] 44)).alloc (.cells #[.int .i64 0, .int .i64 0, .int .i64 0, .int .i64 0] 51)) w.heap.size [.int .i64 6, .int .i64 fn, .int .i64 0, .int .i64 rs1, .int .i64 rs2, .int .u64 (im.toNat : Int), .int .i64 size, .bool sgn, .bool word, .bool useImm, .int .i64 csr] := (Box.new w [.int .i64 6, .int .i64 fn, .int .i64 0, .int .i64 rs1, .int .i64 rs2, .int .u64 (im.toNat : Int), .int .i64 size, .bool sgn, .bool word, .bool useImm, .int .i64 csr] 44).below ((Below.refl _ _).alloc (Nat.le_refl _) _)
  obtain ⟨c0, c1, c2, c3, c4, c5, c6, c7, c8, c9, c10⟩ := (q0.below hb).eleven
  have z0 : rowR ((w.alloc (.cells #[.int .i64 6, .int .i64 fn, .int .i64 0, .int .i64 rs1, .int .i64 rs2, .int .u64 (im.toNat : Int), .int .i64 size, .bool sgn, .bool word, .bool useImm, .int .i64 csr] 44)).alloc (.cells #[.int .i64 0, .int .i64 0, .int .i64 0, .int .i64 0] 51)) (w.heap.size + 1) = some #[.int .i64 0, .int .i64 0, .int .i64 0, .int .i64 0] := by rw [rowR_alloc, if_pos (by simp), if_pos rfl]
  have z1 := rowR_below z0 hb
  have cc : ∀ o, w1.cell? ⟨w.heap.size + 1, o, none⟩ = (#[.int .i64 0, .int .i64 0, .int .i64 0, .int .i64 0] : Array Value)[o]? := fun o => cell_of_row _ _ o _ _ (0, 0) (rowR_heap z1)
  have cf : ∀ o, w1.frozen? ⟨w.heap.size + 1, o, none⟩ = false := fun o => frozen_of_row _ _ o _ _ (rowR_heap z1)
  have n1 : w.heap.size + 1 < w1.heap.size := rowR_lt z1
  have n0 : w.heap.size < w1.heap.size := by omega
  have n2 : ¬ w.heap.size + 1 = w1.heap.size := by omega
  have n3 : ¬ w1.heap.size = w.heap.size + 1 := by omega
  replace hB := Lib.hid hB
  clear hb q0 z0 cE
  go_wp2_with fail
  refine ret_rds (b := w.heap.size + 1) (cs := #[.int .i64 rs1, .int .i64 0, .int .i64 0, .int .i64 0]) rfl rfl (by simp [rowR_alloc, rowR_setCell, rowR_drew, z1, n2, n3]) rfl rfl ⟨rfl, ?_⟩
  repeat (first | exact hB.out | refine below_setCell ?_ _ _ _ (by first | (simp; done) | omega) | refine Below.drew ?_ | refine Below.alloc ?_ (by first | (simp; done) | (simp; omega) | omega) _)
set_option maxHeartbeats 20000000 in
theorem rreads_6 (fn rd rs1 rs2 : Int) (im : BitVec 64) (size : Int) (sgn word useImm : Bool) (csr : Int) (v : BitVec 32) (cE : Hid (Mk Try.prog 44 #[.agg #[.int .i64 6, .int .i64 fn, .int .i64 rd, .int .i64 rs1, .int .i64 rs2, .int .u64 (im.toNat : Int), .int .i64 size, .bool sgn, .bool word, .bool useImm, .int .i64 csr]] (.tuple #[.int .u32 (v.toNat : Int), .int .i64 0]))) (hz : (rd == 0) = false) (hz2 : (rd != 0) = true) (w : World) :
    Calls Try.prog 47 #[.agg #[.int .i64 6, .int .i64 fn, .int .i64 rd, .int .i64 rs1, .int .i64 rs2, .int .u64 (im.toNat : Int), .int .i64 size, .bool sgn, .bool word, .bool useImm, .int .i64 csr]] w fun e w' => e = .returned (.agg #[.int .i64 rs1, .int .i64 0, .int .i64 rd, .int .i64 2]) ∧ Below w.heap.size w w' := by
  go_enter Try.func47, Try.ntmps47
  go_wp2_with fail
  refine (cE.out _).mono ?_
  rintro en w1 ⟨rfl, hb⟩
  have hB : Below w.heap.size w w1 := (((Below.refl w.heap.size w).alloc (Nat.le_refl _) (.cells #[.int .i64 6, .int .i64 fn, .int .i64 rd, .int .i64 rs1, .int .i64 rs2, .int .u64 (im.toNat : Int), .int .i64 size, .bool sgn, .bool word, .bool useImm, .int .i64 csr] 44)).alloc (by simp) (.cells #[.int .i64 0, .int .i64 0, .int .i64 0, .int .i64 0] 51)).trans (hb.mono (by simp; omega))
  have q0 : Box ((w.alloc (.cells #[.int .i64 6, .int .i64 fn, .int .i64 rd, .int .i64 rs1, .int .i64 rs2, .int .u64 (im.toNat : Int), .int .i64 size, .bool sgn, .bool word, .bool useImm, .int .i64 csr] 44)).alloc (.cells #[.int .i64 0, .int .i64 0, .int .i64 0, .int .i64 0] 51)) w.heap.size [.int .i64 6, .int .i64 fn, .int .i64 rd, .int .i64 rs1, .int .i64 rs2, .int .u64 (im.toNat : Int), .int .i64 size, .bool sgn, .bool word, .bool useImm, .int .i64 csr] := (Box.new w [.int .i64 6, .int .i64 fn, .int .i64 rd, .int .i64 rs1, .int .i64 rs2, .int .u64 (im.toNat : Int), .int .i64 size, .bool sgn, .bool word, .bool useImm, .int .i64 csr] 44).below ((Below.refl _ _).alloc (Nat.le_refl _) _)
  obtain ⟨c0, c1, c2, c3, c4, c5, c6, c7, c8, c9, c10⟩ := (q0.below hb).eleven
  have z0 : rowR ((w.alloc (.cells #[.int .i64 6, .int .i64 fn, .int .i64 rd, .int .i64 rs1, .int .i64 rs2, .int .u64 (im.toNat : Int), .int .i64 size, .bool sgn, .bool word, .bool useImm, .int .i64 csr] 44)).alloc (.cells #[.int .i64 0, .int .i64 0, .int .i64 0, .int .i64 0] 51)) (w.heap.size + 1) = some #[.int .i64 0, .int .i64 0, .int .i64 0, .int .i64 0] := by rw [rowR_alloc, if_pos (by simp), if_pos rfl]
  have z1 := rowR_below z0 hb
  have cc : ∀ o, w1.cell? ⟨w.heap.size + 1, o, none⟩ = (#[.int .i64 0, .int .i64 0, .int .i64 0, .int .i64 0] : Array Value)[o]? := fun o => cell_of_row _ _ o _ _ (0, 0) (rowR_heap z1)
  have cf : ∀ o, w1.frozen? ⟨w.heap.size + 1, o, none⟩ = false := fun o => frozen_of_row _ _ o _ _ (rowR_heap z1)
  have n1 : w.heap.size + 1 < w1.heap.size := rowR_lt z1
  have n0 : w.heap.size < w1.heap.size := by omega
  have n2 : ¬ w.heap.size + 1 = w1.heap.size := by omega
  have n3 : ¬ w1.heap.size = w.heap.size + 1 := by omega
  replace hB := Lib.hid hB
  clear hb q0 z0 cE
  go_wp2_with fail
  refine ret_rds (b := w.heap.size + 1) (cs := #[.int .i64 rs1, .int .i64 0, .int .i64 rd, .int .i64 2]) rfl rfl (by simp [rowR_alloc, rowR_setCell, rowR_drew, z1, n2, n3]) rfl rfl ⟨rfl, ?_⟩
  repeat (first | exact hB.out | refine below_setCell ?_ _ _ _ (by first | (simp; done) | omega) | refine Below.drew ?_ | refine Below.alloc ?_ (by first | (simp; done) | (simp; omega) | omega) _)
set_option maxHeartbeats 20000000 in
theorem rreads_8_z (fn rs1 rs2 : Int) (im : BitVec 64) (size : Int) (sgn word useImm : Bool) (csr : Int) (v : BitVec 32) (cE : Hid (Mk Try.prog 44 #[.agg #[.int .i64 8, .int .i64 fn, .int .i64 0, .int .i64 rs1, .int .i64 rs2, .int .u64 (im.toNat : Int), .int .i64 size, .bool sgn, .bool word, .bool useImm, .int .i64 csr]] (.tuple #[.int .u32 (v.toNat : Int), .int .i64 0]))) (w : World) :
    Calls Try.prog 47 #[.agg #[.int .i64 8, .int .i64 fn, .int .i64 0, .int .i64 rs1, .int .i64 rs2, .int .u64 (im.toNat : Int), .int .i64 size, .bool sgn, .bool word, .bool useImm, .int .i64 csr]] w fun e w' => e = .returned (.agg #[.int .i64 rs1, .int .i64 0, .int .i64 0, .int .i64 0]) ∧ Below w.heap.size w w' := by
  go_enter Try.func47, Try.ntmps47
  go_wp2_with fail
  refine (cE.out _).mono ?_
  rintro en w1 ⟨rfl, hb⟩
  have hB : Below w.heap.size w w1 := (((Below.refl w.heap.size w).alloc (Nat.le_refl _) (.cells #[.int .i64 8, .int .i64 fn, .int .i64 0, .int .i64 rs1, .int .i64 rs2, .int .u64 (im.toNat : Int), .int .i64 size, .bool sgn, .bool word, .bool useImm, .int .i64 csr] 44)).alloc (by simp) (.cells #[.int .i64 0, .int .i64 0, .int .i64 0, .int .i64 0] 51)).trans (hb.mono (by simp; omega))
  have q0 : Box ((w.alloc (.cells #[.int .i64 8, .int .i64 fn, .int .i64 0, .int .i64 rs1, .int .i64 rs2, .int .u64 (im.toNat : Int), .int .i64 size, .bool sgn, .bool word, .bool useImm, .int .i64 csr] 44)).alloc (.cells #[.int .i64 0, .int .i64 0, .int .i64 0, .int .i64 0] 51)) w.heap.size [.int .i64 8, .int .i64 fn, .int .i64 0, .int .i64 rs1, .int .i64 rs2, .int .u64 (im.toNat : Int), .int .i64 size, .bool sgn, .bool word, .bool useImm, .int .i64 csr] := (Box.new w [.int .i64 8, .int .i64 fn, .int .i64 0, .int .i64 rs1, .int .i64 rs2, .int .u64 (im.toNat : Int), .int .i64 size, .bool sgn, .bool word, .bool useImm, .int .i64 csr] 44).below ((Below.refl _ _).alloc (Nat.le_refl _) _)
  obtain ⟨c0, c1, c2, c3, c4, c5, c6, c7, c8, c9, c10⟩ := (q0.below hb).eleven
  have z0 : rowR ((w.alloc (.cells #[.int .i64 8, .int .i64 fn, .int .i64 0, .int .i64 rs1, .int .i64 rs2, .int .u64 (im.toNat : Int), .int .i64 size, .bool sgn, .bool word, .bool useImm, .int .i64 csr] 44)).alloc (.cells #[.int .i64 0, .int .i64 0, .int .i64 0, .int .i64 0] 51)) (w.heap.size + 1) = some #[.int .i64 0, .int .i64 0, .int .i64 0, .int .i64 0] := by rw [rowR_alloc, if_pos (by simp), if_pos rfl]
  have z1 := rowR_below z0 hb
  have cc : ∀ o, w1.cell? ⟨w.heap.size + 1, o, none⟩ = (#[.int .i64 0, .int .i64 0, .int .i64 0, .int .i64 0] : Array Value)[o]? := fun o => cell_of_row _ _ o _ _ (0, 0) (rowR_heap z1)
  have cf : ∀ o, w1.frozen? ⟨w.heap.size + 1, o, none⟩ = false := fun o => frozen_of_row _ _ o _ _ (rowR_heap z1)
  have n1 : w.heap.size + 1 < w1.heap.size := rowR_lt z1
  have n0 : w.heap.size < w1.heap.size := by omega
  have n2 : ¬ w.heap.size + 1 = w1.heap.size := by omega
  have n3 : ¬ w1.heap.size = w.heap.size + 1 := by omega
  replace hB := Lib.hid hB
  clear hb q0 z0 cE
  go_wp2_with fail
  refine ret_rds (b := w.heap.size + 1) (cs := #[.int .i64 rs1, .int .i64 0, .int .i64 0, .int .i64 0]) rfl rfl (by simp [rowR_alloc, rowR_setCell, rowR_drew, z1, n2, n3]) rfl rfl ⟨rfl, ?_⟩
  repeat (first | exact hB.out | refine below_setCell ?_ _ _ _ (by first | (simp; done) | omega) | refine Below.drew ?_ | refine Below.alloc ?_ (by first | (simp; done) | (simp; omega) | omega) _)
set_option maxHeartbeats 20000000 in
theorem rreads_8 (fn rd rs1 rs2 : Int) (im : BitVec 64) (size : Int) (sgn word useImm : Bool) (csr : Int) (v : BitVec 32) (cE : Hid (Mk Try.prog 44 #[.agg #[.int .i64 8, .int .i64 fn, .int .i64 rd, .int .i64 rs1, .int .i64 rs2, .int .u64 (im.toNat : Int), .int .i64 size, .bool sgn, .bool word, .bool useImm, .int .i64 csr]] (.tuple #[.int .u32 (v.toNat : Int), .int .i64 0]))) (hz : (rd == 0) = false) (hz2 : (rd != 0) = true) (w : World) :
    Calls Try.prog 47 #[.agg #[.int .i64 8, .int .i64 fn, .int .i64 rd, .int .i64 rs1, .int .i64 rs2, .int .u64 (im.toNat : Int), .int .i64 size, .bool sgn, .bool word, .bool useImm, .int .i64 csr]] w fun e w' => e = .returned (.agg #[.int .i64 rs1, .int .i64 0, .int .i64 rd, .int .i64 1]) ∧ Below w.heap.size w w' := by
  go_enter Try.func47, Try.ntmps47
  go_wp2_with fail
  refine (cE.out _).mono ?_
  rintro en w1 ⟨rfl, hb⟩
  have hB : Below w.heap.size w w1 := (((Below.refl w.heap.size w).alloc (Nat.le_refl _) (.cells #[.int .i64 8, .int .i64 fn, .int .i64 rd, .int .i64 rs1, .int .i64 rs2, .int .u64 (im.toNat : Int), .int .i64 size, .bool sgn, .bool word, .bool useImm, .int .i64 csr] 44)).alloc (by simp) (.cells #[.int .i64 0, .int .i64 0, .int .i64 0, .int .i64 0] 51)).trans (hb.mono (by simp; omega))
  have q0 : Box ((w.alloc (.cells #[.int .i64 8, .int .i64 fn, .int .i64 rd, .int .i64 rs1, .int .i64 rs2, .int .u64 (im.toNat : Int), .int .i64 size, .bool sgn, .bool word, .bool useImm, .int .i64 csr] 44)).alloc (.cells #[.int .i64 0, .int .i64 0, .int .i64 0, .int .i64 0] 51)) w.heap.size [.int .i64 8, .int .i64 fn, .int .i64 rd, .int .i64 rs1, .int .i64 rs2, .int .u64 (im.toNat : Int), .int .i64 size, .bool sgn, .bool word, .bool useImm, .int .i64 csr] := (Box.new w [.int .i64 8, .int .i64 fn, .int .i64 rd, .int .i64 rs1, .int .i64 rs2, .int .u64 (im.toNat : Int), .int .i64 size, .bool sgn, .bool word, .bool useImm, .int .i64 csr] 44).below ((Below.refl _ _).alloc (Nat.le_refl _) _)
  obtain ⟨c0, c1, c2, c3, c4, c5, c6, c7, c8, c9, c10⟩ := (q0.below hb).eleven
  have z0 : rowR ((w.alloc (.cells #[.int .i64 8, .int .i64 fn, .int .i64 rd, .int .i64 rs1, .int .i64 rs2, .int .u64 (im.toNat : Int), .int .i64 size, .bool sgn, .bool word, .bool useImm, .int .i64 csr] 44)).alloc (.cells #[.int .i64 0, .int .i64 0, .int .i64 0, .int .i64 0] 51)) (w.heap.size + 1) = some #[.int .i64 0, .int .i64 0, .int .i64 0, .int .i64 0] := by rw [rowR_alloc, if_pos (by simp), if_pos rfl]
  have z1 := rowR_below z0 hb
  have cc : ∀ o, w1.cell? ⟨w.heap.size + 1, o, none⟩ = (#[.int .i64 0, .int .i64 0, .int .i64 0, .int .i64 0] : Array Value)[o]? := fun o => cell_of_row _ _ o _ _ (0, 0) (rowR_heap z1)
  have cf : ∀ o, w1.frozen? ⟨w.heap.size + 1, o, none⟩ = false := fun o => frozen_of_row _ _ o _ _ (rowR_heap z1)
  have n1 : w.heap.size + 1 < w1.heap.size := rowR_lt z1
  have n0 : w.heap.size < w1.heap.size := by omega
  have n2 : ¬ w.heap.size + 1 = w1.heap.size := by omega
  have n3 : ¬ w1.heap.size = w.heap.size + 1 := by omega
  replace hB := Lib.hid hB
  clear hb q0 z0 cE
  go_wp2_with fail
  refine ret_rds (b := w.heap.size + 1) (cs := #[.int .i64 rs1, .int .i64 0, .int .i64 rd, .int .i64 1]) rfl rfl (by simp [rowR_alloc, rowR_setCell, rowR_drew, z1, n2, n3]) rfl rfl ⟨rfl, ?_⟩
  repeat (first | exact hB.out | refine below_setCell ?_ _ _ _ (by first | (simp; done) | omega) | refine Below.drew ?_ | refine Below.alloc ?_ (by first | (simp; done) | (simp; omega) | omega) _)
set_option maxHeartbeats 20000000 in
theorem rreads_20_z (fn rs1 rs2 : Int) (im : BitVec 64) (size : Int) (sgn word useImm : Bool) (csr : Int) (v : BitVec 32) (cE : Hid (Mk Try.prog 44 #[.agg #[.int .i64 20, .int .i64 fn, .int .i64 0, .int .i64 rs1, .int .i64 rs2, .int .u64 (im.toNat : Int), .int .i64 size, .bool sgn, .bool word, .bool useImm, .int .i64 csr]] (.tuple #[.int .u32 (v.toNat : Int), .int .i64 0]))) (w : World) :
    Calls Try.prog 47 #[.agg #[.int .i64 20, .int .i64 fn, .int .i64 0, .int .i64 rs1, .int .i64 rs2, .int .u64 (im.toNat : Int), .int .i64 size, .bool sgn, .bool word, .bool useImm, .int .i64 csr]] w fun e w' => e = .returned (.agg #[.int .i64 rs1, .int .i64 0, .int .i64 0, .int .i64 0]) ∧ Below w.heap.size w w' := by
  go_enter Try.func47, Try.ntmps47
  go_wp2_with fail
  refine (cE.out _).mono ?_
  rintro en w1 ⟨rfl, hb⟩
  have hB : Below w.heap.size w w1 := (((Below.refl w.heap.size w).alloc (Nat.le_refl _) (.cells #[.int .i64 20, .int .i64 fn, .int .i64 0, .int .i64 rs1, .int .i64 rs2, .int .u64 (im.toNat : Int), .int .i64 size, .bool sgn, .bool word, .bool useImm, .int .i64 csr] 44)).alloc (by simp) (.cells #[.int .i64 0, .int .i64 0, .int .i64 0, .int .i64 0] 51)).trans (hb.mono (by simp; omega))
  have q0 : Box ((w.alloc (.cells #[.int .i64 20, .int .i64 fn, .int .i64 0, .int .i64 rs1, .int .i64 rs2, .int .u64 (im.toNat : Int), .int .i64 size, .bool sgn, .bool word, .bool useImm, .int .i64 csr] 44)).alloc (.cells #[.int .i64 0, .int .i64 0, .int .i64 0, .int .i64 0] 51)) w.heap.size [.int .i64 20, .int .i64 fn, .int .i64 0, .int .i64 rs1, .int .i64 rs2, .int .u64 (im.toNat : Int), .int .i64 size, .bool sgn, .bool word, .bool useImm, .int .i64 csr] := (Box.new w [.int .i64 20, .int .i64 fn, .int .i64 0, .int .i64 rs1, .int .i64 rs2, .int .u64 (im.toNat : Int), .int .i64 size, .bool sgn, .bool word, .bool useImm, .int .i64 csr] 44).below ((Below.refl _ _).alloc (Nat.le_refl _) _)
  obtain ⟨c0, c1, c2, c3, c4, c5, c6, c7, c8, c9, c10⟩ := (q0.below hb).eleven
  have z0 : rowR ((w.alloc (.cells #[.int .i64 20, .int .i64 fn, .int .i64 0, .int .i64 rs1, .int .i64 rs2, .int .u64 (im.toNat : Int), .int .i64 size, .bool sgn, .bool word, .bool useImm, .int .i64 csr] 44)).alloc (.cells #[.int .i64 0, .int .i64 0, .int .i64 0, .int .i64 0] 51)) (w.heap.size + 1) = some #[.int .i64 0, .int .i64 0, .int .i64 0, .int .i64 0] := by rw [rowR_alloc, if_pos (by simp), if_pos rfl]
  have z1 := rowR_below z0 hb
  have cc : ∀ o, w1.cell? ⟨w.heap.size + 1, o, none⟩ = (#[.int .i64 0, .int .i64 0, .int .i64 0, .int .i64 0] : Array Value)[o]? := fun o => cell_of_row _ _ o _ _ (0, 0) (rowR_heap z1)
  have cf : ∀ o, w1.frozen? ⟨w.heap.size + 1, o, none⟩ = false := fun o => frozen_of_row _ _ o _ _ (rowR_heap z1)
  have n1 : w.heap.size + 1 < w1.heap.size := rowR_lt z1
  have n0 : w.heap.size < w1.heap.size := by omega
  have n2 : ¬ w.heap.size + 1 = w1.heap.size := by omega
  have n3 : ¬ w1.heap.size = w.heap.size + 1 := by omega
  replace hB := Lib.hid hB
  clear hb q0 z0 cE
  go_wp2_with fail
  refine ret_rds (b := w.heap.size + 1) (cs := #[.int .i64 rs1, .int .i64 0, .int .i64 0, .int .i64 0]) rfl rfl (by simp [rowR_alloc, rowR_setCell, rowR_drew, z1, n2, n3]) rfl rfl ⟨rfl, ?_⟩
  repeat (first | exact hB.out | refine below_setCell ?_ _ _ _ (by first | (simp; done) | omega) | refine Below.drew ?_ | refine Below.alloc ?_ (by first | (simp; done) | (simp; omega) | omega) _)
set_option maxHeartbeats 20000000 in
theorem rreads_20 (fn rd rs1 rs2 : Int) (im : BitVec 64) (size : Int) (sgn word useImm : Bool) (csr : Int) (v : BitVec 32) (cE : Hid (Mk Try.prog 44 #[.agg #[.int .i64 20, .int .i64 fn, .int .i64 rd, .int .i64 rs1, .int .i64 rs2, .int .u64 (im.toNat : Int), .int .i64 size, .bool sgn, .bool word, .bool useImm, .int .i64 csr]] (.tuple #[.int .u32 (v.toNat : Int), .int .i64 0]))) (hz : (rd == 0) = false) (hz2 : (rd != 0) = true) (w : World) :
    Calls Try.prog 47 #[.agg #[.int .i64 20, .int .i64 fn, .int .i64 rd, .int .i64 rs1, .int .i64 rs2, .int .u64 (im.toNat : Int), .int .i64 size, .bool sgn, .bool word, .bool useImm, .int .i64 csr]] w fun e w' => e = .returned (.agg #[.int .i64 rs1, .int .i64 0, .int .i64 rd, .int .i64 2]) ∧ Below w.heap.size w w' := by
  go_enter Try.func47, Try.ntmps47
  go_wp2_with fail
  refine (cE.out _).mono ?_
  rintro en w1 ⟨rfl, hb⟩
  have hB : Below w.heap.size w w1 := (((Below.refl w.heap.size w).alloc (Nat.le_refl _) (.cells #[.int .i64 20, .int .i64 fn, .int .i64 rd, .int .i64 rs1, .int .i64 rs2, .int .u64 (im.toNat : Int), .int .i64 size, .bool sgn, .bool word, .bool useImm, .int .i64 csr] 44)).alloc (by simp) (.cells #[.int .i64 0, .int .i64 0, .int .i64 0, .int .i64 0] 51)).trans (hb.mono (by simp; omega))
  have q0 : Box ((w.alloc (.cells #[.int .i64 20, .int .i64 fn, .int .i64 rd, .int .i64 rs1, .int .i64 rs2, .int .u64 (im.toNat : Int), .int .i64 size, .bool sgn, .bool word, .bool useImm, .int .i64 csr] 44)).alloc (.cells #[.int .i64 0, .int .i64 0, .int .i64 0, .int .i64 0] 51)) w.heap.size [.int .i64 20, .int .i64 fn, .int .i64 rd, .int .i64 rs1, .int .i64 rs2, .int .u64 (im.toNat : Int), .int .i64 size, .bool sgn, .bool word, .bool useImm, .int .i64 csr] := (Box.new w [.int .i64 20, .int .i64 fn, .int .i64 rd, .int .i64 rs1, .int .i64 rs2, .int .u64 (im.toNat : Int), .int .i64 size, .bool sgn, .bool word, .bool useImm, .int .i64 csr] 44).below ((Below.refl _ _).alloc (Nat.le_refl _) _)
  obtain ⟨c0, c1, c2, c3, c4, c5, c6, c7, c8, c9, c10⟩ := (q0.below hb).eleven
  have z0 : rowR ((w.alloc (.cells #[.int .i64 20, .int .i64 fn, .int .i64 rd, .int .i64 rs1, .int .i64 rs2, .int .u64 (im.toNat : Int), .int .i64 size, .bool sgn, .bool word, .bool useImm, .int .i64 csr] 44)).alloc (.cells #[.int .i64 0, .int .i64 0, .int .i64 0, .int .i64 0] 51)) (w.heap.size + 1) = some #[.int .i64 0, .int .i64 0, .int .i64 0, .int .i64 0] := by rw [rowR_alloc, if_pos (by simp), if_pos rfl]
  have z1 := rowR_below z0 hb
  have cc : ∀ o, w1.cell? ⟨w.heap.size + 1, o, none⟩ = (#[.int .i64 0, .int .i64 0, .int .i64 0, .int .i64 0] : Array Value)[o]? := fun o => cell_of_row _ _ o _ _ (0, 0) (rowR_heap z1)
  have cf : ∀ o, w1.frozen? ⟨w.heap.size + 1, o, none⟩ = false := fun o => frozen_of_row _ _ o _ _ (rowR_heap z1)
  have n1 : w.heap.size + 1 < w1.heap.size := rowR_lt z1
  have n0 : w.heap.size < w1.heap.size := by omega
  have n2 : ¬ w.heap.size + 1 = w1.heap.size := by omega
  have n3 : ¬ w1.heap.size = w.heap.size + 1 := by omega
  replace hB := Lib.hid hB
  clear hb q0 z0 cE
  go_wp2_with fail
  refine ret_rds (b := w.heap.size + 1) (cs := #[.int .i64 rs1, .int .i64 0, .int .i64 rd, .int .i64 2]) rfl rfl (by simp [rowR_alloc, rowR_setCell, rowR_drew, z1, n2, n3]) rfl rfl ⟨rfl, ?_⟩
  repeat (first | exact hB.out | refine below_setCell ?_ _ _ _ (by first | (simp; done) | omega) | refine Below.drew ?_ | refine Below.alloc ?_ (by first | (simp; done) | (simp; omega) | omega) _)
set_option maxHeartbeats 20000000 in
theorem rreads_19_true_z (fn rs1 rs2 : Int) (im : BitVec 64) (size : Int) (sgn word : Bool) (csr : Int) (v : BitVec 32) (cE : Hid (Mk Try.prog 44 #[.agg #[.int .i64 19, .int .i64 fn, .int .i64 0, .int .i64 rs1, .int .i64 rs2, .int .u64 (im.toNat : Int), .int .i64 size, .bool sgn, .bool word, .bool true, .int .i64 csr]] (.tuple #[.int .u32 (v.toNat : Int), .int .i64 0]))) (w : World) :
    Calls Try.prog 47 #[.agg #[.int .i64 19, .int .i64 fn, .int .i64 0, .int .i64 rs1, .int .i64 rs2, .int .u64 (im.toNat : Int), .int .i64 size, .bool sgn, .bool word, .bool true, .int .i64 csr]] w fun e w' => e = .returned (.agg #[.int .i64 0, .int .i64 0, .int .i64 0, .int .i64 0]) ∧ Below w.heap.size w w' := by
  go_enter Try.func47, Try.ntmps47
  go_wp2_with fail
  refine (cE.out _).mono ?_
  rintro en w1 ⟨rfl, hb⟩
  have hB : Below w.heap.size w w1 := (((Below.refl w.heap.size w).alloc (Nat.le_refl _) (.cells #[.int .i64 19, .int .i64 fn, .int .i64 0, .int .i64 rs1, .int .i64 rs2, .int .u64 (im.toNat : Int), .int .i64 size, .bool sgn, .bool word, .bool true, .int .i64 csr] 44)).alloc (by simp) (.cells #[.int .i64 0, .int .i64 0, .int .i64 0, .int .i64 0] 51)).trans (hb.mono (by simp; omega))
  have q0 : Box ((w.alloc (.cells #[.int .i64 19, .int .i64 fn, .int .i64 0, .int .i64 rs1, .int .i64 rs2, .int .u64 (im.toNat : Int), .int .i64 size, .bool sgn, .bool word, .bool true, .int .i64 csr] 44)).alloc (.cells #[.int .i64 0, .int .i64 0, .int .i64 0, .int .i64 0] 51)) w.heap.size [.int .i64 19, .int .i64 fn, .int .i64 0, .int .i64 rs1, .int .i64 rs2, .int .u64 (im.toNat : Int), .int .i64 size, .bool sgn, .bool word, .bool true, .int .i64 csr] := (Box.new w [.int .i64 19, .int .i64 fn, .int .i64 0, .int .i64 rs1, .int .i64 rs2, .int .u64 (im.toNat : Int), .int .i64 size, .bool sgn, .bool word, .bool true, .int .i64 csr] 44).below ((Below.refl _ _).alloc (Nat.le_refl _) _)
  obtain ⟨c0, c1, c2, c3, c4, c5, c6, c7, c8, c9, c10⟩ := (q0.below hb).eleven
  have z0 : rowR ((w.alloc (.cells #[.int .i64 19, .int .i64 fn, .int .i64 0, .int .i64 rs1, .int .i64 rs2, .int .u64 (im.toNat : Int), .int .i64 size, .bool sgn, .bool word, .bool true, .int .i64 csr] 44)).alloc (.cells #[.int .i64 0, .int .i64 0, .int .i64 0, .int .i64 0] 51)) (w.heap.size + 1) = some #[.int .i64 0, .int .i64 0, .int .i64 0, .int .i64 0] := by rw [rowR_alloc, if_pos (by simp), if_pos rfl]
  have z1 := rowR_below z0 hb
  have cc : ∀ o, w1.cell? ⟨w.heap.size + 1, o, none⟩ = (#[.int .i64 0, .int .i64 0, .int .i64 0, .int .i64 0] : Array Value)[o]? := fun o => cell_of_row _ _ o _ _ (0, 0) (rowR_heap z1)
  have cf : ∀ o, w1.frozen? ⟨w.heap.size + 1, o, none⟩ = false := fun o => frozen_of_row _ _ o _ _ (rowR_heap z1)
  have n1 : w.heap.size + 1 < w1.heap.size := rowR_lt z1
  have n0 : w.heap.size < w1.heap.size := by omega
  have n2 : ¬ w.heap.size + 1 = w1.heap.size := by omega
  have n3 : ¬ w1.heap.size = w.heap.size + 1 := by omega
  replace hB := Lib.hid hB
  clear hb q0 z0 cE
  go_wp2_with fail
  refine ret_rds (b := w.heap.size + 1) (cs := #[.int .i64 0, .int .i64 0, .int .i64 0, .int .i64 0]) rfl rfl (by simp [rowR_alloc, rowR_setCell, rowR_drew, z1, n2, n3]) rfl rfl ⟨rfl, ?_⟩
  repeat (first | exact hB.out | refine below_setCell ?_ _ _ _ (by first | (simp; done) | omega) | refine Below.drew ?_ | refine Below.alloc ?_ (by first | (simp; done) | (simp; omega) | omega) _)
set_option maxHeartbeats 20000000 in
theorem rreads_19_true (fn rd rs1 rs2 : Int) (im : BitVec 64) (size : Int) (sgn word : Bool) (csr : Int) (v : BitVec 32) (cE : Hid (Mk Try.prog 44 #[.agg #[.int .i64 19, .int .i64 fn, .int .i64 rd, .int .i64 rs1, .int .i64 rs2, .int .u64 (im.toNat : Int), .int .i64 size, .bool sgn, .bool word, .bool true, .int .i64 csr]] (.tuple #[.int .u32 (v.toNat : Int), .int .i64 0]))) (hz : (rd == 0) = false) (hz2 : (rd != 0) = true) (w : World) :
    Calls Try.prog 47 #[.agg #[.int .i64 19, .int .i64 fn, .int .i64 rd, .int .i64 rs1, .int .i64 rs2, .int .u64 (im.toNat : Int), .int .i64 size, .bool sgn, .bool word, .bool true, .int .i64 csr]] w fun e w' => e = .returned (.agg #[.int .i64 0, .int .i64 0, .int .i64 rd, .int .i64 2]) ∧ Below w.heap.size w w' := by
  go_enter Try.func47, Try.ntmps47
  go_wp2_with fail
  refine (cE.out _).mono ?_
  rintro en w1 ⟨rfl, hb⟩
  have hB : Below w.heap.size w w1 := (((Below.refl w.heap.size w).alloc (Nat.le_refl _) (.cells #[.int .i64 19, .int .i64 fn, .int .i64 rd, .int .i64 rs1, .int .i64 rs2, .int .u64 (im.toNat : Int), .int .i64 size, .bool sgn, .bool word, .bool true, .int .i64 csr] 44)).alloc (by simp) (.cells #[.int .i64 0, .int .i64 0, .int .i64 0, .int .i64 0] 51)).trans (hb.mono (by simp; omega))
  have q0 : Box ((w.alloc (.cells #[.int .i64 19, .int .i64 fn, .int .i64 rd, .int .i64 rs1, .int .i64 rs2, .int .u64 (im.toNat : Int), .int .i64 size, .bool sgn, .bool word, .bool true, .int .i64 csr] 44)).alloc (.cells #[.int .i64 0, .int .i64 0, .int .i64 0, .int .i64 0] 51)) w.heap.size [.int .i64 19, .int .i64 fn, .int .i64 rd, .int .i64 rs1, .int .i64 rs2, .int .u64 (im.toNat : Int), .int .i64 size, .bool sgn, .bool word, .bool true, .int .i64 csr] := (Box.new w [.int .i64 19, .int .i64 fn, .int .i64 rd, .int .i64 rs1, .int .i64 rs2, .int .u64 (im.toNat : Int), .int .i64 size, .bool sgn, .bool word, .bool true, .int .i64 csr] 44).below ((Below.refl _ _).alloc (Nat.le_refl _) _)
  obtain ⟨c0, c1, c2, c3, c4, c5, c6, c7, c8, c9, c10⟩ := (q0.below hb).eleven
  have z0 : rowR ((w.alloc (.cells #[.int .i64 19, .int .i64 fn, .int .i64 rd, .int .i64 rs1, .int .i64 rs2, .int .u64 (im.toNat : Int), .int .i64 size, .bool sgn, .bool word, .bool true, .int .i64 csr] 44)).alloc (.cells #[.int .i64 0, .int .i64 0, .int .i64 0, .int .i64 0] 51)) (w.heap.size + 1) = some #[.int .i64 0, .int .i64 0, .int .i64 0, .int .i64 0] := by rw [rowR_alloc, if_pos (by simp), if_pos rfl]
  have z1 := rowR_below z0 hb
  have cc : ∀ o, w1.cell? ⟨w.heap.size + 1, o, none⟩ = (#[.int .i64 0, .int .i64 0, .int .i64 0, .int .i64 0] : Array Value)[o]? := fun o => cell_of_row _ _ o _ _ (0, 0) (rowR_heap z1)
  have cf : ∀ o, w1.frozen? ⟨w.heap.size + 1, o, none⟩ = false := fun o => frozen_of_row _ _ o _ _ (rowR_heap z1)
  have n1 : w.heap.size + 1 < w1.heap.size := rowR_lt z1
  have n0 : w.heap.size < w1.heap.size := by omega
  have n2 : ¬ w.heap.size + 1 = w1.heap.size := by omega
  have n3 : ¬ w1.heap.size = w.heap.size + 1 := by omega
  replace hB := Lib.hid hB
  clear hb q0 z0 cE
  go_wp2_with fail
  refine ret_rds (b := w.heap.size + 1) (cs := #[.int .i64 0, .int .i64 0, .int .i64 rd, .int .i64 2]) rfl rfl (by simp [rowR_alloc, rowR_setCell, rowR_drew, z1, n2, n3]) rfl rfl ⟨rfl, ?_⟩
  repeat (first | exact hB.out | refine below_setCell ?_ _ _ _ (by first | (simp; done) | omega) | refine Below.drew ?_ | refine Below.alloc ?_ (by first | (simp; done) | (simp; omega) | omega) _)
set_option maxHeartbeats 20000000 in
theorem rreads_19_false_z (fn rs1 rs2 : Int) (im : BitVec 64) (size : Int) (sgn word : Bool) (csr : Int) (v : BitVec 32) (cE : Hid (Mk Try.prog 44 #[.agg #[.int .i64 19, .int .i64 fn, .int .i64 0, .int .i64 rs1, .int .i64 rs2, .int .u64 (im.toNat : Int), .int .i64 size, .bool sgn, .bool word, .bool false, .int .i64 csr]] (.tuple #[.int .u32 (v.toNat : Int), .int .i64 0]))) (w : World) :
    Calls Try.prog 47 #[.agg #[.int .i64 19, .int .i64 fn, .int .i64 0, .int .i64 rs1, .int .i64 rs2, .int .u64 (im.toNat : Int), .int .i64 size, .bool sgn, .bool word, .bool false, .int .i64 csr]] w fun e w' => e = .returned (.agg #[.int .i64 rs1, .int .i64 0, .int .i64 0, .int .i64 0]) ∧ Below w.heap.size w w' := by
  go_enter Try.func47, Try.ntmps47
  go_wp2_with fail
  refine (cE.out _).mono ?_
  rintro en w1 ⟨rfl, hb⟩
  have hB : Below w.heap.size w w1 := (((Below.refl w.heap.size w).alloc (Nat.le_refl _) (.cells #[.int .i64 19, .int .i64 fn, .int .i64 0, .int .i64 rs1, .int .i64 rs2, .int .u64 (im.toNat : Int), .int .i64 size, .bool sgn, .bool word, .bool false, .int .i64 csr] 44)).alloc (by simp) (.cells #[.int .i64 0, .int .i64 0, .int .i64 0, .int .i64 0] 51)).trans (hb.mono (by simp; omega))
  have q0 : Box ((w.alloc (.cells #[.int .i64 19, .int .i64 fn, .int .i64 0, .int .i64 rs1, .int .i64 rs2, .int .u64 (im.toNat : Int), .int .i64 size, .bool sgn, .bool word, .bool false, .int .i64 csr] 44)).alloc (.cells #[.int .i64 0, .int .i64 0, .int .i64 0, .int .i64 0] 51)) w.heap.size [.int .i64 19, .int .i64 fn, .int .i64 0, .int .i64 rs1, .int .i64 rs2, .int .u64 (im.toNat : Int), .int .i64 size, .bool sgn, .bool word, .bool false, .int .i64 csr] := (Box.new w [.int .i64 19, .int .i64 fn, .int .i64 0, .int .i64 rs1, .int .i64 rs2, .int .u64 (im.toNat : Int), .int .i64 size, .bool sgn, .bool word, .bool false, .int .i64 csr] 44).below ((Below.refl _ _).alloc (Nat.le_refl _) _)
  obtain ⟨c0, c1, c2, c3, c4, c5, c6, c7, c8, c9, c10⟩ := (q0.below hb).eleven
  have z0 : rowR ((w.alloc (.cells #[.int .i64 19, .int .i64 fn, .int .i64 0, .int .i64 rs1, .int .i64 rs2, .int .u64 (im.toNat : Int), .int .i64 size, .bool sgn, .bool word, .bool false, .int .i64 csr] 44)).alloc (.cells #[.int .i64 0, .int .i64 0, .int .i64 0, .int .i64 0] 51)) (w.heap.size + 1) = some #[.int .i64 0, .int .i64 0, .int .i64 0, .int .i64 0] := by rw [rowR_alloc, if_pos (by simp), if_pos rfl]
  have z1 := rowR_below z0 hb
  have cc : ∀ o, w1.cell? ⟨w.heap.size + 1, o, none⟩ = (#[.int .i64 0, .int .i64 0, .int .i64 0, .int .i64 0] : Array Value)[o]? := fun o => cell_of_row _ _ o _ _ (0, 0) (rowR_heap z1)
  have cf : ∀ o, w1.frozen? ⟨w.heap.size + 1, o, none⟩ = false := fun o => frozen_of_row _ _ o _ _ (rowR_heap z1)
  have n1 : w.heap.size + 1 < w1.heap.size := rowR_lt z1
  have n0 : w.heap.size < w1.heap.size := by omega
  have n2 : ¬ w.heap.size + 1 = w1.heap.size := by omega
  have n3 : ¬ w1.heap.size = w.heap.size + 1 := by omega
  replace hB := Lib.hid hB
  clear hb q0 z0 cE
  go_wp2_with fail
  refine ret_rds (b := w.heap.size + 1) (cs := #[.int .i64 rs1, .int .i64 0, .int .i64 0, .int .i64 0]) rfl rfl (by simp [rowR_alloc, rowR_setCell, rowR_drew, z1, n2, n3]) rfl rfl ⟨rfl, ?_⟩
  repeat (first | exact hB.out | refine below_setCell ?_ _ _ _ (by first | (simp; done) | omega) | refine Below.drew ?_ | refine Below.alloc ?_ (by first | (simp; done) | (simp; omega) | omega) _)
set_option maxHeartbeats 20000000 in
theorem rreads_19_false (fn rd rs1 rs2 : Int) (im : BitVec 64) (size : Int) (sgn word : Bool) (csr : Int) (v : BitVec 32) (cE : Hid (Mk Try.prog 44 #[.agg #[.int .i64 19, .int .i64 fn, .int .i64 rd, .int .i64 rs1, .int .i64 rs2, .int .u64 (im.toNat : Int), .int .i64 size, .bool sgn, .bool word, .bool false, .int .i64 csr]] (.tuple #[.int .u32 (v.toNat : Int), .int .i64 0]))) (hz : (rd == 0) = false) (hz2 : (rd != 0) = true) (w : World) :
    Calls Try.prog 47 #[.agg #[.int .i64 19, .int .i64 fn, .int .i64 rd, .int .i64 rs1, .int .i64 rs2, .int .u64 (im.toNat : Int), .int .i64 size, .bool sgn, .bool word, .bool false, .int .i64 csr]] w fun e w' => e = .returned (.agg #[.int .i64 rs1, .int .i64 0, .int .i64 rd, .int .i64 2]) ∧ Below w.heap.size w w' := by
  go_enter Try.func47, Try.ntmps47
  go_wp2_with fail
  refine (cE.out _).mono ?_
  rintro en w1 ⟨rfl, hb⟩
  have hB : Below w.heap.size w w1 := (((Below.refl w.heap.size w).alloc (Nat.le_refl _) (.cells #[.int .i64 19, .int .i64 fn, .int .i64 rd, .int .i64 rs1, .int .i64 rs2, .int .u64 (im.toNat : Int), .int .i64 size, .bool sgn, .bool word, .bool false, .int .i64 csr] 44)).alloc (by simp) (.cells #[.int .i64 0, .int .i64 0, .int .i64 0, .int .i64 0] 51)).trans (hb.mono (by simp; omega))
  have q0 : Box ((w.alloc (.cells #[.int .i64 19, .int .i64 fn, .int .i64 rd, .int .i64 rs1, .int .i64 rs2, .int .u64 (im.toNat : Int), .int .i64 size, .bool sgn, .bool word, .bool false, .int .i64 csr] 44)).alloc (.cells #[.int .i64 0, .int .i64 0, .int .i64 0, .int .i64 0] 51)) w.heap.size [.int .i64 19, .int .i64 fn, .int .i64 rd, .int .i64 rs1, .int .i64 rs2, .int .u64 (im.toNat : Int), .int .i64 size, .bool sgn, .bool word, .bool false, .int .i64 csr] := (Box.new w [.int .i64 19, .int .i64 fn, .int .i64 rd, .int .i64 rs1, .int .i64 rs2, .int .u64 (im.toNat : Int), .int .i64 size, .bool sgn, .bool word, .bool false, .int .i64 csr] 44).below ((Below.refl _ _).alloc (Nat.le_refl _) _)
  obtain ⟨c0, c1, c2, c3, c4, c5, c6, c7, c8, c9, c10⟩ := (q0.below hb).eleven
  have z0 : rowR ((w.alloc (.cells #[.int .i64 19, .int .i64 fn, .int .i64 rd, .int .i64 rs1, .int .i64 rs2, .int .u64 (im.toNat : Int), .int .i64 size, .bool sgn, .bool word, .bool false, .int .i64 csr] 44)).alloc (.cells #[.int .i64 0, .int .i64 0, .int .i64 0, .int .i64 0] 51)) (w.heap.size + 1) = some #[.int .i64 0, .int .i64 0, .int .i64 0, .int .i64 0] := by rw [rowR_alloc, if_pos (by simp), if_pos rfl]
  have z1 := rowR_below z0 hb
  have cc : ∀ o, w1.cell? ⟨w.heap.size + 1, o, none⟩ = (#[.int .i64 0, .int .i64 0, .int .i64 0, .int .i64 0] : Array Value)[o]? := fun o => cell_of_row _ _ o _ _ (0, 0) (rowR_heap z1)
  have cf : ∀ o, w1.frozen? ⟨w.heap.size + 1, o, none⟩ = false := fun o => frozen_of_row _ _ o _ _ (rowR_heap z1)
  have n1 : w.heap.size + 1 < w1.heap.size := rowR_lt z1
  have n0 : w.heap.size < w1.heap.size := by omega
  have n2 : ¬ w.heap.size + 1 = w1.heap.size := by omega
  have n3 : ¬ w1.heap.size = w.heap.size + 1 := by omega
  replace hB := Lib.hid hB
  clear hb q0 z0 cE
  go_wp2_with fail
  refine ret_rds (b := w.heap.size + 1) (cs := #[.int .i64 rs1, .int .i64 0, .int .i64 rd, .int .i64 2]) rfl rfl (by simp [rowR_alloc, rowR_setCell, rowR_drew, z1, n2, n3]) rfl rfl ⟨rfl, ?_⟩
  repeat (first | exact hB.out | refine below_setCell ?_ _ _ _ (by first | (simp; done) | omega) | refine Below.drew ?_ | refine Below.alloc ?_ (by first | (simp; done) | (simp; omega) | omega) _)
set_option maxHeartbeats 20000000 in
theorem rreads_no_z (op fn rs1 rs2 : Int) (im : BitVec 64) (size : Int) (sgn word useImm : Bool) (csr : Int) (v : BitVec 32) (cE : Hid (Mk Try.prog 44 #[.agg #[.int .i64 op, .int .i64 fn, .int .i64 0, .int .i64 rs1, .int .i64 rs2, .int .u64 (im.toNat : Int), .int .i64 size, .bool sgn, .bool word, .bool useImm, .int .i64 csr]] (.tuple #[.int .u32 (v.toNat : Int), .int .i64 0]))) (f4 : (op == 4) = false) (f6 : (op == 6) = false) (f8 : (op == 8) = false) (f20 : (op == 20) = false) (f19 : (op == 19) = false) (f5 : (op == 5) = false) (f7 : (op == 7) = false) (f9 : (op == 9) = false) (f10 : (op == 10) = false) (f18 : (op == 18) = false) (f21 : (op == 21) = false) (f22 : (op == 22) = false) (w : World) :
    Calls Try.prog 47 #[.agg #[.int .i64 op, .int .i64 fn, .int .i64 0, .int .i64 rs1, .int .i64 rs2, .int .u64 (im.toNat : Int), .int .i64 size, .bool sgn, .bool word, .bool useImm, .int .i64 csr]] w fun e w' => e = .returned (.agg #[.int .i64 0, .int .i64 0, .int .i64 0, .int .i64 0]) ∧ Below w.heap.size w w' := by
  go_enter Try.func47, Try.ntmps47
  go_wp2_with fail
  refine (cE.out _).mono ?_
  rintro en w1 ⟨rfl, hb⟩
  have hB : Below w.heap.size w w1 := (((Below.refl w.heap.size w).alloc (Nat.le_refl _) (.cells #[.int .i64 op, .int .i64 fn, .int .i64 0, .int .i64 rs1, .int .i64 rs2, .int .u64 (im.toNat : Int), .int .i64 size, .bool sgn, .bool word, .bool useImm, .int .i64 csr] 44)).alloc (by simp) (.cells #[.int .i64 0, .int .i64 0, .int .i64 0, .int .i64 0] 51)).trans (hb.mono (by simp; omega))
  have q0 : Box ((w.alloc (.cells #[.int .i64 op, .int .i64 fn, .int .i64 0, .int .i64 rs1, .int .i64 rs2, .int .u64 (im.toNat : Int), .int .i64 size, .bool sgn, .bool word, .bool useImm, .int .i64 csr] 44)).alloc (.cells #[.int .i64 0, .int .i64 0, .int .i64 0, .int .i64 0] 51)) w.heap.size [.int .i64 op, .int .i64 fn, .int .i64 0, .int .i64 rs1, .int .i64 rs2, .int .u64 (im.toNat : Int), .int .i64 size, .bool sgn, .bool word, .bool useImm, .int .i64 csr] := (Box.new w [.int .i64 op, .int .i64 fn, .int .i64 0, .int .i64 rs1, .int .i64 rs2, .int .u64 (im.toNat : Int), .int .i64 size, .bool sgn, .bool word, .bool useImm, .int .i64 csr] 44).below ((Below.refl _ _).alloc (Nat.le_refl _) _)
  obtain ⟨c0, c1, c2, c3, c4, c5, c6, c7, c8, c9, c10⟩ := (q0.below hb).eleven
  have z0 : rowR ((w.alloc (.cells #[.int .i64 op, .int .i64 fn, .int .i64 0, .int .i64 rs1, .int .i64 rs2, .int .u64 (im.toNat : Int), .int .i64 size, .bool sgn, .bool word, .bool useImm, .int .i64 csr] 44)).alloc (.cells #[.int .i64 0, .int .i64 0, .int .i64 0, .int .i64 0] 51)) (w.heap.size + 1) = some #[.int .i64 0, .int .i64 0, .int .i64 0, .int .i64 0] := by rw [rowR_alloc, if_pos (by simp), if_pos rfl]
  have z1 := rowR_below z0 hb
  have cc : ∀ o, w1.cell? ⟨w.heap.size + 1, o, none⟩ = (#[.int .i64 0, .int .i64 0, .int .i64 0, .int .i64 0] : Array Value)[o]? := fun o => cell_of_row _ _ o _ _ (0, 0) (rowR_heap z1)
  have cf : ∀ o, w1.frozen? ⟨w.heap.size + 1, o, none⟩ = false := fun o => frozen_of_row _ _ o _ _ (rowR_heap z1)
  have n1 : w.heap.size + 1 < w1.heap.size := rowR_lt z1
  have n0 : w.heap.size < w1.heap.size := by omega
  have n2 : ¬ w.heap.size + 1 = w1.heap.size := by omega
  have n3 : ¬ w1.heap.size = w.heap.size + 1 := by omega
  replace hB := Lib.hid hB
  clear hb q0 z0 cE
  go_wp2_with fail
  refine ret_rds (b := w.heap.size + 1) (cs := #[.int .i64 0, .int .i64 0, .int .i64 0, .int .i64 0]) rfl rfl (by simp [rowR_alloc, rowR_setCell, rowR_drew, z1, n2, n3]) rfl rfl ⟨rfl, ?_⟩
  repeat (first | exact hB.out | refine below_setCell ?_ _ _ _ (by first | (simp; done) | omega) | refine Below.drew ?_ | refine Below.alloc ?_ (by first | (simp; done) | (simp; omega) | omega) _)
set_option maxHeartbeats 20000000 in
theorem rreads_no (op fn rd rs1 rs2 : Int) (im : BitVec 64) (size : Int) (sgn word useImm : Bool) (csr : Int) (v : BitVec 32) (cE : Hid (Mk Try.prog 44 #[.agg #[.int .i64 op, .int .i64 fn, .int .i64 rd, .int .i64 rs1, .int .i64 rs2, .int .u64 (im.toNat : Int), .int .i64 size, .bool sgn, .bool word, .bool useImm, .int .i64 csr]] (.tuple #[.int .u32 (v.toNat : Int), .int .i64 0]))) (f4 : (op == 4) = false) (f6 : (op == 6) = false) (f8 : (op == 8) = false) (f20 : (op == 20) = false) (f19 : (op == 19) = false) (f5 : (op == 5) = false) (f7 : (op == 7) = false) (f9 : (op == 9) = false) (f10 : (op == 10) = false) (f18 : (op == 18) = false) (f21 : (op == 21) = false) (f22 : (op == 22) = false) (hz : (rd == 0) = false) (hz2 : (rd != 0) = true) (w : World) :
    Calls Try.prog 47 #[.agg #[.int .i64 op, .int .i64 fn, .int .i64 rd, .int .i64 rs1, .int .i64 rs2, .int .u64 (im.toNat : Int), .int .i64 size, .bool sgn, .bool word, .bool useImm, .int .i64 csr]] w fun e w' => e = .returned (.agg #[.int .i64 0, .int .i64 0, .int .i64 rd, .int .i64 1]) ∧ Below w.heap.size w w' := by
  go_enter Try.func47, Try.ntmps47
  go_wp2_with fail
  refine (cE.out _).mono ?_
  rintro en w1 ⟨rfl, hb⟩
  have hB : Below w.heap.size w w1 := (((Below.refl w.heap.size w).alloc (Nat.le_refl _) (.cells #[.int .i64 op, .int .i64 fn, .int .i64 rd, .int .i64 rs1, .int .i64 rs2, .int .u64 (im.toNat : Int), .int .i64 size, .bool sgn, .bool word, .bool useImm, .int .i64 csr] 44)).alloc (by simp) (.cells #[.int .i64 0, .int .i64 0, .int .i64 0, .int .i64 0] 51)).trans (hb.mono (by simp; omega))
  have q0 : Box ((w.alloc (.cells #[.int .i64 op, .int .i64 fn, .int .i64 rd, .int .i64 rs1, .int .i64 rs2, .int .u64 (im.toNat : Int), .int .i64 size, .bool sgn, .bool word, .bool useImm, .int .i64 csr] 44)).alloc (.cells #[.int .i64 0, .int .i64 0, .int .i64 0, .int .i64 0] 51)) w.heap.size [.int .i64 op, .int .i64 fn, .int .i64 rd, .int .i64 rs1, .int .i64 rs2, .int .u64 (im.toNat : Int), .int .i64 size, .bool sgn, .bool word, .bool useImm, .int .i64 csr] := (Box.new w [.int .i64 op, .int .i64 fn, .int .i64 rd, .int .i64 rs1, .int .i64 rs2, .int .u64 (im.toNat : Int), .int .i64 size, .bool sgn, .bool word, .bool useImm, .int .i64 csr] 44).below ((Below.refl _ _).alloc (Nat.le_refl _) _)
  obtain ⟨c0, c1, c2, c3, c4, c5, c6, c7, c8, c9, c10⟩ := (q0.below hb).eleven
  have z0 : rowR ((w.alloc (.cells #[.int .i64 op, .int .i64 fn, .int .i64 rd, .int .i64 rs1, .int .i64 rs2, .int .u64 (im.toNat : Int), .int .i64 size, .bool sgn, .bool word, .bool useImm, .int .i64 csr] 44)).alloc (.cells #[.int .i64 0, .int .i64 0, .int .i64 0, .int .i64 0] 51)) (w.heap.size + 1) = some #[.int .i64 0, .int .i64 0, .int .i64 0, .int .i64 0] := by rw [rowR_alloc, if_pos (by simp), if_pos rfl]
  have z1 := rowR_below z0 hb
  have cc : ∀ o, w1.cell? ⟨w.heap.size + 1, o, none⟩ = (#[.int .i64 0, .int .i64 0, .int .i64 0, .int .i64 0] : Array Value)[o]? := fun o => cell_of_row _ _ o _ _ (0, 0) (rowR_heap z1)
  have cf : ∀ o, w1.frozen? ⟨w.heap.size + 1, o, none⟩ = false := fun o => frozen_of_row _ _ o _ _ (rowR_heap z1)
  have n1 : w.heap.size + 1 < w1.heap.size := rowR_lt z1
  have n0 : w.heap.size < w1.heap.size := by omega
  have n2 : ¬ w.heap.size + 1 = w1.heap.size := by omega
  have n3 : ¬ w1.heap.size = w.heap.size + 1 := by omega
  replace hB := Lib.hid hB
  clear hb q0 z0 cE
  go_wp2_with fail
  refine ret_rds (b := w.heap.size + 1) (cs := #[.int .i64 0, .int .i64 0, .int .i64 rd, .int .i64 1]) rfl rfl (by simp [rowR_alloc, rowR_setCell, rowR_drew, z1, n2, n3]) rfl rfl ⟨rfl, ?_⟩
  repeat (first | exact hB.out | refine below_setCell ?_ _ _ _ (by first | (simp; done) | omega) | refine Below.drew ?_ | refine Below.alloc ?_ (by first | (simp; done) | (simp; omega) | omega) _)
end Go.Proofs.Ytnhbekgmameeaaa
