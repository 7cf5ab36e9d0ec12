/- Contracts, by operations: EncLay, EncLay2. -/
import Derived.Test.YtnhbekgmameeaaaEncSmall
import Derived.Test.YtnhbekgmameeaaaShapeForms
namespace Go.Proofs.Ytnhbekgmameeaaa
section
open Go.RowKit Wd
set_option linter.unusedVariables false
set_option linter.unusedSimpArgs false
attribute [local go_sem] loadI_lit loadI_ins rowI_alloc rowI_drew rowI_drewN
attribute [local go_sem ↓] loadI_run
set_option maxRecDepth 20000
set_option maxHeartbeats 20000000 in
theorem lay_1 (fn rd rs1 rs2 : Int) (im : BitVec 64) (v : Int) (hv1 : IntKind.i64.wrap (im.toNat : Int) = v) (hv2 : wrap64 (im.toNat : Int) = v) (size : Int) (sgn word useImm : Bool) (csr : Int) (r : BitVec 32 × Int) (cX : Hid (Mk Try.prog 32 #[.int .i64 55, .int .i64 rd, .int .i64 v] (.tuple #[.int .u32 (r.1.toNat : Int), .int .i64 r.2]))) (w : World) :
    Calls Try.prog 72 #[.agg #[.int .i64 1, .int .i64 fn, .int .i64 rd, .int .i64 rs1, .int .i64 rs2, .int .u64 (im.toNat : Int), .int .i64 size, .bool sgn, .bool word, .bool useImm, .int .i64 csr]] w fun e w' => e = .returned (.tuple #[.int .u32 (r.1.toNat : Int), .int .i64 r.2]) ∧ Below w.heap.size w w' := by
  have hb := Below.refl (w.alloc (.cells #[.int .i64 1, .int .i64 fn, .int .i64 rd, .int .i64 rs1, .int .i64 rs2, .int .u64 (im.toNat : Int), .int .i64 size, .bool sgn, .bool word, .bool useImm, .int .i64 csr] 44)).heap.size (w.alloc (.cells #[.int .i64 1, .int .i64 fn, .int .i64 rd, .int .i64 rs1, .int .i64 rs2, .int .u64 (im.toNat : Int), .int .i64 size, .bool sgn, .bool word, .bool useImm, .int .i64 csr] 44))
  have B := Lib.hid (Box.new w [.int .i64 1, .int .i64 fn, .int .i64 rd, .int .i64 rs1, .int .i64 rs2, .int .u64 (im.toNat : Int), .int .i64 size, .bool sgn, .bool word, .bool useImm, .int .i64 csr] 44)
  obtain ⟨c0, c1, c2, c3, c4, c5, c6, c7, c8, c9, c10⟩ := B.out.eleven
  go_enter Try.func72, Try.ntmps72
  go_wp2_with (go_at_call 32; refine ((cX.out).at hb).mono ?_; clear hb c0 c1 c2 c3 c4 c5 c6 c7 c8 c9 c10; rintro e w1 ⟨rfl, hb⟩; obtain ⟨c0, c1, c2, c3, c4, c5, c6, c7, c8, c9, c10⟩ := (B.out.below hb).eleven)
  go_ret2
  exact ⟨rfl, below_alloc hb⟩
set_option maxHeartbeats 20000000 in
theorem lay_2 (fn rd rs1 rs2 : Int) (im : BitVec 64) (v : Int) (hv1 : IntKind.i64.wrap (im.toNat : Int) = v) (hv2 : wrap64 (im.toNat : Int) = v) (size : Int) (sgn word useImm : Bool) (csr : Int) (r : BitVec 32 × Int) (cX : Hid (Mk Try.prog 32 #[.int .i64 23, .int .i64 rd, .int .i64 v] (.tuple #[.int .u32 (r.1.toNat : Int), .int .i64 r.2]))) (w : World) :
    Calls Try.prog 72 #[.agg #[.int .i64 2, .int .i64 fn, .int .i64 rd, .int .i64 rs1, .int .i64 rs2, .int .u64 (im.toNat : Int), .int .i64 size, .bool sgn, .bool word, .bool useImm, .int .i64 csr]] w fun e w' => e = .returned (.tuple #[.int .u32 (r.1.toNat : Int), .int .i64 r.2]) ∧ Below w.heap.size w w' := by
  have hb := Below.refl (w.alloc (.cells #[.int .i64 2, .int .i64 fn, .int .i64 rd, .int .i64 rs1, .int .i64 rs2, .int .u64 (im.toNat : Int), .int .i64 size, .bool sgn, .bool word, .bool useImm, .int .i64 csr] 44)).heap.size (w.alloc (.cells #[.int .i64 2, .int .i64 fn, .int .i64 rd, .int .i64 rs1, .int .i64 rs2, .int .u64 (im.toNat : Int), .int .i64 size, .bool sgn, .bool word, .bool useImm, .int .i64 csr] 44))
  have B := Lib.hid (Box.new w [.int .i64 2, .int .i64 fn, .int .i64 rd, .int .i64 rs1, .int .i64 rs2, .int .u64 (im.toNat : Int), .int .i64 size, .bool sgn, .bool word, .bool useImm, .int .i64 csr] 44)
  obtain ⟨c0, c1, c2, c3, c4, c5, c6, c7, c8, c9, c10⟩ := B.out.eleven
  go_enter Try.func72, Try.ntmps72
  go_wp2_with (go_at_call 32; refine ((cX.out).at hb).mono ?_; clear hb c0 c1 c2 c3 c4 c5 c6 c7 c8 c9 c10; rintro e w1 ⟨rfl, hb⟩; obtain ⟨c0, c1, c2, c3, c4, c5, c6, c7, c8, c9, c10⟩ := (B.out.below hb).eleven)
  go_ret2
  exact ⟨rfl, below_alloc hb⟩
set_option maxHeartbeats 20000000 in
theorem lay_3 (fn rd rs1 rs2 : Int) (im : BitVec 64) (v : Int) (hv1 : IntKind.i64.wrap (im.toNat : Int) = v) (hv2 : wrap64 (im.toNat : Int) = v) (size : Int) (sgn word useImm : Bool) (csr : Int) (r : BitVec 32 × Int) (cX : Hid (Mk Try.prog 33 #[.int .i64 111, .int .i64 rd, .int .i64 v] (.tuple #[.int .u32 (r.1.toNat : Int), .int .i64 r.2]))) (w : World) :
    Calls Try.prog 72 #[.agg #[.int .i64 3, .int .i64 fn, .int .i64 rd, .int .i64 rs1, .int .i64 rs2, .int .u64 (im.toNat : Int), .int .i64 size, .bool sgn, .bool word, .bool useImm, .int .i64 csr]] w fun e w' => e = .returned (.tuple #[.int .u32 (r.1.toNat : Int), .int .i64 r.2]) ∧ Below w.heap.size w w' := by
  have hb := Below.refl (w.alloc (.cells #[.int .i64 3, .int .i64 fn, .int .i64 rd, .int .i64 rs1, .int .i64 rs2, .int .u64 (im.toNat : Int), .int .i64 size, .bool sgn, .bool word, .bool useImm, .int .i64 csr] 44)).heap.size (w.alloc (.cells #[.int .i64 3, .int .i64 fn, .int .i64 rd, .int .i64 rs1, .int .i64 rs2, .int .u64 (im.toNat : Int), .int .i64 size, .bool sgn, .bool word, .bool useImm, .int .i64 csr] 44))
  have B := Lib.hid (Box.new w [.int .i64 3, .int .i64 fn, .int .i64 rd, .int .i64 rs1, .int .i64 rs2, .int .u64 (im.toNat : Int), .int .i64 size, .bool sgn, .bool word, .bool useImm, .int .i64 csr] 44)
  obtain ⟨c0, c1, c2, c3, c4, c5, c6, c7, c8, c9, c10⟩ := B.out.eleven
  go_enter Try.func72, Try.ntmps72
  go_wp2_with (go_at_call 33; refine ((cX.out).at hb).mono ?_; clear hb c0 c1 c2 c3 c4 c5 c6 c7 c8 c9 c10; rintro e w1 ⟨rfl, hb⟩; obtain ⟨c0, c1, c2, c3, c4, c5, c6, c7, c8, c9, c10⟩ := (B.out.below hb).eleven)
  go_ret2
  exact ⟨rfl, below_alloc hb⟩
set_option maxHeartbeats 20000000 in
theorem lay_4 (fn rd rs1 rs2 : Int) (im : BitVec 64) (v : Int) (hv1 : IntKind.i64.wrap (im.toNat : Int) = v) (hv2 : wrap64 (im.toNat : Int) = v) (size : Int) (sgn word useImm : Bool) (csr : Int) (r : BitVec 32 × Int) (cX : Hid (Mk Try.prog 29 #[.int .i64 103, .int .i64 rd, .int .i64 0, .int .i64 rs1, .int .i64 v] (.tuple #[.int .u32 (r.1.toNat : Int), .int .i64 r.2]))) (w : World) :
    Calls Try.prog 72 #[.agg #[.int .i64 4, .int .i64 fn, .int .i64 rd, .int .i64 rs1, .int .i64 rs2, .int .u64 (im.toNat : Int), .int .i64 size, .bool sgn, .bool word, .bool useImm, .int .i64 csr]] w fun e w' => e = .returned (.tuple #[.int .u32 (r.1.toNat : Int), .int .i64 r.2]) ∧ Below w.heap.size w w' := by
  have hb := Below.refl (w.alloc (.cells #[.int .i64 4, .int .i64 fn, .int .i64 rd, .int .i64 rs1, .int .i64 rs2, .int .u64 (im.toNat : Int), .int .i64 size, .bool sgn, .bool word, .bool useImm, .int .i64 csr] 44)).heap.size (w.alloc (.cells #[.int .i64 4, .int .i64 fn, .int .i64 rd, .int .i64 rs1, .int .i64 rs2, .int .u64 (im.toNat : Int), .int .i64 size, .bool sgn, .bool word, .bool useImm, .int .i64 csr] 44))
  have B := Lib.hid (Box.new w [.int .i64 4, .int .i64 fn, .int .i64 rd, .int .i64 rs1, .int .i64 rs2, .int .u64 (im.toNat : Int), .int .i64 size, .bool sgn, .bool word, .bool useImm, .int .i64 csr] 44)
  obtain ⟨c0, c1, c2, c3, c4, c5, c6, c7, c8, c9, c10⟩ := B.out.eleven
  go_enter Try.func72, Try.ntmps72
  go_wp2_with (go_at_call 29; refine ((cX.out).at hb).mono ?_; clear hb c0 c1 c2 c3 c4 c5 c6 c7 c8 c9 c10; rintro e w1 ⟨rfl, hb⟩; obtain ⟨c0, c1, c2, c3, c4, c5, c6, c7, c8, c9, c10⟩ := (B.out.below hb).eleven)
  go_ret2
  exact ⟨rfl, below_alloc hb⟩
set_option maxHeartbeats 20000000 in
theorem lay_5 (fn rd rs1 rs2 : Int) (im : BitVec 64) (v : Int) (hv1 : IntKind.i64.wrap (im.toNat : Int) = v) (hv2 : wrap64 (im.toNat : Int) = v) (size : Int) (sgn word useImm : Bool) (csr : Int) (r : BitVec 32 × Int) (cX : Hid (Mk Try.prog 31 #[.int .i64 99, .int .i64 fn, .int .i64 rs1, .int .i64 rs2, .int .i64 v] (.tuple #[.int .u32 (r.1.toNat : Int), .int .i64 r.2]))) (w : World) :
    Calls Try.prog 72 #[.agg #[.int .i64 5, .int .i64 fn, .int .i64 rd, .int .i64 rs1, .int .i64 rs2, .int .u64 (im.toNat : Int), .int .i64 size, .bool sgn, .bool word, .bool useImm, .int .i64 csr]] w fun e w' => e = .returned (.tuple #[.int .u32 (r.1.toNat : Int), .int .i64 r.2]) ∧ Below w.heap.size w w' := by
  have hb := Below.refl (w.alloc (.cells #[.int .i64 5, .int .i64 fn, .int .i64 rd, .int .i64 rs1, .int .i64 rs2, .int .u64 (im.toNat : Int), .int .i64 size, .bool sgn, .bool word, .bool useImm, .int .i64 csr] 44)).heap.size (w.alloc (.cells #[.int .i64 5, .int .i64 fn, .int .i64 rd, .int .i64 rs1, .int .i64 rs2, .int .u64 (im.toNat : Int), .int .i64 size, .bool sgn, .bool word, .bool useImm, .int .i64 csr] 44))
  have B := Lib.hid (Box.new w [.int .i64 5, .int .i64 fn, .int .i64 rd, .int .i64 rs1, .int .i64 rs2, .int .u64 (im.toNat : Int), .int .i64 size, .bool sgn, .bool word, .bool useImm, .int .i64 csr] 44)
  obtain ⟨c0, c1, c2, c3, c4, c5, c6, c7, c8, c9, c10⟩ := B.out.eleven
  go_enter Try.func72, Try.ntmps72
  go_wp2_with (go_at_call 31; refine ((cX.out).at hb).mono ?_; clear hb c0 c1 c2 c3 c4 c5 c6 c7 c8 c9 c10; rintro e w1 ⟨rfl, hb⟩; obtain ⟨c0, c1, c2, c3, c4, c5, c6, c7, c8, c9, c10⟩ := (B.out.below hb).eleven)
  go_ret2
  exact ⟨rfl, below_alloc hb⟩
set_option maxHeartbeats 20000000 in
theorem lay_6_true (fn rd rs1 rs2 : Int) (im : BitVec 64) (v : Int) (hv1 : IntKind.i64.wrap (im.toNat : Int) = v) (hv2 : wrap64 (im.toNat : Int) = v) (size : Int) (word useImm : Bool) (csr : Int) (r : BitVec 32 × Int) (k : Int) (hk1 : -1 ≤ k) (hk2 : k ≤ 3) (cW : Hid (Qt Try.prog 92 #[.int .i64 size] (.int .i64 k))) (cX : Hid (Mk Try.prog 29 #[.int .i64 3, .int .i64 rd, .int .i64 k, .int .i64 rs1, .int .i64 v] (.tuple #[.int .u32 (r.1.toNat : Int), .int .i64 r.2]))) (w : World) :
    Calls Try.prog 72 #[.agg #[.int .i64 6, .int .i64 fn, .int .i64 rd, .int .i64 rs1, .int .i64 rs2, .int .u64 (im.toNat : Int), .int .i64 size, .bool true, .bool word, .bool useImm, .int .i64 csr]] w fun e w' => e = .returned (.tuple #[.int .u32 (r.1.toNat : Int), .int .i64 r.2]) ∧ Below w.heap.size w w' := by
  have hb := Below.refl (w.alloc (.cells #[.int .i64 6, .int .i64 fn, .int .i64 rd, .int .i64 rs1, .int .i64 rs2, .int .u64 (im.toNat : Int), .int .i64 size, .bool true, .bool word, .bool useImm, .int .i64 csr] 44)).heap.size (w.alloc (.cells #[.int .i64 6, .int .i64 fn, .int .i64 rd, .int .i64 rs1, .int .i64 rs2, .int .u64 (im.toNat : Int), .int .i64 size, .bool true, .bool word, .bool useImm, .int .i64 csr] 44))
  have B := Lib.hid (Box.new w [.int .i64 6, .int .i64 fn, .int .i64 rd, .int .i64 rs1, .int .i64 rs2, .int .u64 (im.toNat : Int), .int .i64 size, .bool true, .bool word, .bool useImm, .int .i64 csr] 44)
  obtain ⟨c0, c1, c2, c3, c4, c5, c6, c7, c8, c9, c10⟩ := B.out.eleven
  go_enter Try.func72, Try.ntmps72
  go_wp2_with (first | (go_at_call 92; refine ((cW.out.mk).at hb).mono ?_; clear hb c0 c1 c2 c3 c4 c5 c6 c7 c8 c9 c10; rintro e w1 ⟨rfl, hb⟩; obtain ⟨c0, c1, c2, c3, c4, c5, c6, c7, c8, c9, c10⟩ := (B.out.below hb).eleven) | (go_at_call 29; refine ((cX.out).at hb).mono ?_; clear hb c0 c1 c2 c3 c4 c5 c6 c7 c8 c9 c10; rintro e w1 ⟨rfl, hb⟩; obtain ⟨c0, c1, c2, c3, c4, c5, c6, c7, c8, c9, c10⟩ := (B.out.below hb).eleven))
  go_ret2
  exact ⟨rfl, below_alloc hb⟩
set_option maxHeartbeats 20000000 in
theorem lay_6_false (fn rd rs1 rs2 : Int) (im : BitVec 64) (v : Int) (hv1 : IntKind.i64.wrap (im.toNat : Int) = v) (hv2 : wrap64 (im.toNat : Int) = v) (size : Int) (word useImm : Bool) (csr : Int) (r : BitVec 32 × Int) (k : Int) (hk1 : -1 ≤ k) (hk2 : k ≤ 3) (cW : Hid (Qt Try.prog 92 #[.int .i64 size] (.int .i64 k))) (cX : Hid (Mk Try.prog 29 #[.int .i64 3, .int .i64 rd, .int .i64 (k + 4), .int .i64 rs1, .int .i64 v] (.tuple #[.int .u32 (r.1.toNat : Int), .int .i64 r.2]))) (w : World) :
    Calls Try.prog 72 #[.agg #[.int .i64 6, .int .i64 fn, .int .i64 rd, .int .i64 rs1, .int .i64 rs2, .int .u64 (im.toNat : Int), .int .i64 size, .bool false, .bool word, .bool useImm, .int .i64 csr]] w fun e w' => e = .returned (.tuple #[.int .u32 (r.1.toNat : Int), .int .i64 r.2]) ∧ Below w.heap.size w w' := by
  have hb := Below.refl (w.alloc (.cells #[.int .i64 6, .int .i64 fn, .int .i64 rd, .int .i64 rs1, .int .i64 rs2, .int .u64 (im.toNat : Int), .int .i64 size, .bool false, .bool word, .bool useImm, .int .i64 csr] 44)).heap.size (w.alloc (.cells #[.int .i64 6, .int .i64 fn, .int .i64 rd, .int .i64 rs1, .int .i64 rs2, .int .u64 (im.toNat : Int), .int .i64 size, .bool false, .bool word, .bool useImm, .int .i64 csr] 44))
  have B := Lib.hid (Box.new w [.int .i64 6, .int .i64 fn, .int .i64 rd, .int .i64 rs1, .int .i64 rs2, .int .u64 (im.toNat : Int), .int .i64 size, .bool false, .bool word, .bool useImm, .int .i64 csr] 44)
  obtain ⟨c0, c1, c2, c3, c4, c5, c6, c7, c8, c9, c10⟩ := B.out.eleven
  go_enter Try.func72, Try.ntmps72
  go_wp2_with (first | (go_at_call 92; refine ((cW.out.mk).at hb).mono ?_; clear hb c0 c1 c2 c3 c4 c5 c6 c7 c8 c9 c10; rintro e w1 ⟨rfl, hb⟩; obtain ⟨c0, c1, c2, c3, c4, c5, c6, c7, c8, c9, c10⟩ := (B.out.below hb).eleven) | (go_at_call 29; refine ((cX.out).at hb).mono ?_; clear hb c0 c1 c2 c3 c4 c5 c6 c7 c8 c9 c10; rintro e w1 ⟨rfl, hb⟩; obtain ⟨c0, c1, c2, c3, c4, c5, c6, c7, c8, c9, c10⟩ := (B.out.below hb).eleven))
  go_ret2
  exact ⟨rfl, below_alloc hb⟩
set_option maxHeartbeats 20000000 in
theorem lay_7 (fn rd rs1 rs2 : Int) (im : BitVec 64) (v : Int) (hv1 : IntKind.i64.wrap (im.toNat : Int) = v) (hv2 : wrap64 (im.toNat : Int) = v) (size : Int) (sgn word useImm : Bool) (csr : Int) (r : BitVec 32 × Int) (k : Int) (cW : Hid (Qt Try.prog 92 #[.int .i64 size] (.int .i64 k))) (cX : Hid (Mk Try.prog 30 #[.int .i64 35, .int .i64 k, .int .i64 rs1, .int .i64 rs2, .int .i64 v] (.tuple #[.int .u32 (r.1.toNat : Int), .int .i64 r.2]))) (w : World) :
    Calls Try.prog 72 #[.agg #[.int .i64 7, .int .i64 fn, .int .i64 rd, .int .i64 rs1, .int .i64 rs2, .int .u64 (im.toNat : Int), .int .i64 size, .bool sgn, .bool word, .bool useImm, .int .i64 csr]] w fun e w' => e = .returned (.tuple #[.int .u32 (r.1.toNat : Int), .int .i64 r.2]) ∧ Below w.heap.size w w' := by
  have hb := Below.refl (w.alloc (.cells #[.int .i64 7, .int .i64 fn, .int .i64 rd, .int .i64 rs1, .int .i64 rs2, .int .u64 (im.toNat : Int), .int .i64 size, .bool sgn, .bool word, .bool useImm, .int .i64 csr] 44)).heap.size (w.alloc (.cells #[.int .i64 7, .int .i64 fn, .int .i64 rd, .int .i64 rs1, .int .i64 rs2, .int .u64 (im.toNat : Int), .int .i64 size, .bool sgn, .bool word, .bool useImm, .int .i64 csr] 44))
  have B := Lib.hid (Box.new w [.int .i64 7, .int .i64 fn, .int .i64 rd, .int .i64 rs1, .int .i64 rs2, .int .u64 (im.toNat : Int), .int .i64 size, .bool sgn, .bool word, .bool useImm, .int .i64 csr] 44)
  obtain ⟨c0, c1, c2, c3, c4, c5, c6, c7, c8, c9, c10⟩ := B.out.eleven
  obtain ⟨d0, d1, d2, d3, d4, d5, d6, d7, d8, d9, d10⟩ := B.out.late
  have lr : ∀ g : Late (w.alloc (.cells #[.int .i64 7, .int .i64 fn, .int .i64 rd, .int .i64 rs1, .int .i64 rs2, .int .u64 (im.toNat : Int), .int .i64 size, .bool sgn, .bool word, .bool useImm, .int .i64 csr] 44)), rowI g.is w.heap.size = some #[.int .i64 7, .int .i64 fn, .int .i64 rd, .int .i64 rs1, .int .i64 rs2, .int .u64 (im.toNat : Int), .int .i64 size, .bool sgn, .bool word, .bool useImm, .int .i64 csr] := fun g => rowI_below (by rw [rowI_alloc, if_pos rfl, if_pos rfl]) g.below
  go_enter Try.func72, Try.ntmps72
  go_wp2_with fail
  refine wp_region_late (by kernel_rfl) (lexB_of_fast _ (by kernel_rfl)) hb ?_
  repeat (first | go_big_quiet_step (first | (go_at_call 92; exact (cW.out.mk).late) | (go_at_call 30; exact (cX.out).late)) | (refine skip_same rfl (by kernel_rfl) (by kernel_rfl) ?_))
  refine wpQuiet_nil ?_
  rintro w1 ⟨b1, rfl⟩
  clear hb
  have hb := b1.below
  go_wp2_with fail
  go_ret2
  exact ⟨rfl, below_alloc hb⟩
set_option maxHeartbeats 20000000 in
theorem lay_8 (fn rd rs1 rs2 : Int) (im : BitVec 64) (v : Int) (hv1 : IntKind.i64.wrap (im.toNat : Int) = v) (hv2 : wrap64 (im.toNat : Int) = v) (size : Int) (sgn word useImm : Bool) (csr : Int) (r : BitVec 32 × Int) (cX : Hid (Mk Try.prog 93 #[.agg #[.int .i64 8, .int .i64 fn, .int .i64 rd, .int .i64 rs1, .int .i64 rs2, .int .u64 (im.toNat : Int), .int .i64 size, .bool sgn, .bool word, .bool useImm, .int .i64 csr], .int .i64 v] (.tuple #[.int .u32 (r.1.toNat : Int), .int .i64 r.2]))) (w : World) :
    Calls Try.prog 72 #[.agg #[.int .i64 8, .int .i64 fn, .int .i64 rd, .int .i64 rs1, .int .i64 rs2, .int .u64 (im.toNat : Int), .int .i64 size, .bool sgn, .bool word, .bool useImm, .int .i64 csr]] w fun e w' => e = .returned (.tuple #[.int .u32 (r.1.toNat : Int), .int .i64 r.2]) ∧ Below w.heap.size w w' := by
  have hb := Below.refl (w.alloc (.cells #[.int .i64 8, .int .i64 fn, .int .i64 rd, .int .i64 rs1, .int .i64 rs2, .int .u64 (im.toNat : Int), .int .i64 size, .bool sgn, .bool word, .bool useImm, .int .i64 csr] 44)).heap.size (w.alloc (.cells #[.int .i64 8, .int .i64 fn, .int .i64 rd, .int .i64 rs1, .int .i64 rs2, .int .u64 (im.toNat : Int), .int .i64 size, .bool sgn, .bool word, .bool useImm, .int .i64 csr] 44))
  have B := Lib.hid (Box.new w [.int .i64 8, .int .i64 fn, .int .i64 rd, .int .i64 rs1, .int .i64 rs2, .int .u64 (im.toNat : Int), .int .i64 size, .bool sgn, .bool word, .bool useImm, .int .i64 csr] 44)
  obtain ⟨c0, c1, c2, c3, c4, c5, c6, c7, c8, c9, c10⟩ := B.out.eleven
  go_enter Try.func72, Try.ntmps72
  go_wp2_with (go_at_call 93; refine ((cX.out).at hb).mono ?_; clear hb c0 c1 c2 c3 c4 c5 c6 c7 c8 c9 c10; rintro e w1 ⟨rfl, hb⟩; obtain ⟨c0, c1, c2, c3, c4, c5, c6, c7, c8, c9, c10⟩ := (B.out.below hb).eleven)
  go_ret2
  exact ⟨rfl, below_alloc hb⟩
set_option maxHeartbeats 20000000 in
theorem lay_9 (fn rd rs1 rs2 : Int) (im : BitVec 64) (v : Int) (hv1 : IntKind.i64.wrap (im.toNat : Int) = v) (hv2 : wrap64 (im.toNat : Int) = v) (size : Int) (sgn word useImm : Bool) (csr : Int) (r : BitVec 32 × Int) (o : Int) (cO : Hid (Qt Try.prog 94 #[.bool word, .int .i64 51, .int .i64 59] (.int .i64 o))) (k3 k7 : Int) (e3 : Hid (Qt Try.prog 95 #[.int .i64 fn] (.int .i64 k3))) (e7 : Hid (Mk Try.prog 96 #[.agg #[.int .i64 9, .int .i64 fn, .int .i64 rd, .int .i64 rs1, .int .i64 rs2, .int .u64 (im.toNat : Int), .int .i64 size, .bool sgn, .bool word, .bool useImm, .int .i64 csr]] (.int .i64 k7))) (cX : Hid (Mk Try.prog 21 #[.int .i64 o, .int .i64 rd, .int .i64 k3, .int .i64 rs1, .int .i64 rs2, .int .i64 k7] (.tuple #[.int .u32 (r.1.toNat : Int), .int .i64 r.2]))) (w : World) :
    Calls Try.prog 72 #[.agg #[.int .i64 9, .int .i64 fn, .int .i64 rd, .int .i64 rs1, .int .i64 rs2, .int .u64 (im.toNat : Int), .int .i64 size, .bool sgn, .bool word, .bool useImm, .int .i64 csr]] w fun e w' => e = .returned (.tuple #[.int .u32 (r.1.toNat : Int), .int .i64 r.2]) ∧ Below w.heap.size w w' := by
  have hb := Below.refl (w.alloc (.cells #[.int .i64 9, .int .i64 fn, .int .i64 rd, .int .i64 rs1, .int .i64 rs2, .int .u64 (im.toNat : Int), .int .i64 size, .bool sgn, .bool word, .bool useImm, .int .i64 csr] 44)).heap.size (w.alloc (.cells #[.int .i64 9, .int .i64 fn, .int .i64 rd, .int .i64 rs1, .int .i64 rs2, .int .u64 (im.toNat : Int), .int .i64 size, .bool sgn, .bool word, .bool useImm, .int .i64 csr] 44))
  have B := Lib.hid (Box.new w [.int .i64 9, .int .i64 fn, .int .i64 rd, .int .i64 rs1, .int .i64 rs2, .int .u64 (im.toNat : Int), .int .i64 size, .bool sgn, .bool word, .bool useImm, .int .i64 csr] 44)
  obtain ⟨c0, c1, c2, c3, c4, c5, c6, c7, c8, c9, c10⟩ := B.out.eleven
  obtain ⟨d0, d1, d2, d3, d4, d5, d6, d7, d8, d9, d10⟩ := B.out.late
  have lr : ∀ g : Late (w.alloc (.cells #[.int .i64 9, .int .i64 fn, .int .i64 rd, .int .i64 rs1, .int .i64 rs2, .int .u64 (im.toNat : Int), .int .i64 size, .bool sgn, .bool word, .bool useImm, .int .i64 csr] 44)), rowI g.is w.heap.size = some #[.int .i64 9, .int .i64 fn, .int .i64 rd, .int .i64 rs1, .int .i64 rs2, .int .u64 (im.toNat : Int), .int .i64 size, .bool sgn, .bool word, .bool useImm, .int .i64 csr] := fun g => rowI_below (by rw [rowI_alloc, if_pos rfl, if_pos rfl]) g.below
  go_enter Try.func72, Try.ntmps72
  go_wp2_with fail
  refine wp_region_late (by kernel_rfl) (lexB_of_fast _ (by kernel_rfl)) hb ?_
  repeat (first | go_big_quiet_step (first | (go_at_call 94; exact (cO.out.mk).late) | (go_at_call 95; exact (e3.out.mk).late) | (go_at_call 96; exact (e7.out).late) | (go_at_call 21; exact (cX.out).late)) | (refine skip_same rfl (by kernel_rfl) (by kernel_rfl) ?_))
  refine wpQuiet_nil ?_
  rintro w1 ⟨b1, rfl⟩
  clear hb
  have hb := b1.below
  go_wp2_with fail
  go_ret2
  exact ⟨rfl, below_alloc hb⟩
set_option maxHeartbeats 20000000 in
theorem lay_10 (fn rd rs1 rs2 : Int) (im : BitVec 64) (v : Int) (hv1 : IntKind.i64.wrap (im.toNat : Int) = v) (hv2 : wrap64 (im.toNat : Int) = v) (size : Int) (sgn word useImm : Bool) (csr : Int) (r : BitVec 32 × Int) (o : Int) (cO : Hid (Qt Try.prog 94 #[.bool word, .int .i64 51, .int .i64 59] (.int .i64 o))) (cX : Hid (Mk Try.prog 21 #[.int .i64 o, .int .i64 rd, .int .i64 fn, .int .i64 rs1, .int .i64 rs2, .int .i64 1] (.tuple #[.int .u32 (r.1.toNat : Int), .int .i64 r.2]))) (w : World) :
    Calls Try.prog 72 #[.agg #[.int .i64 10, .int .i64 fn, .int .i64 rd, .int .i64 rs1, .int .i64 rs2, .int .u64 (im.toNat : Int), .int .i64 size, .bool sgn, .bool word, .bool useImm, .int .i64 csr]] w fun e w' => e = .returned (.tuple #[.int .u32 (r.1.toNat : Int), .int .i64 r.2]) ∧ Below w.heap.size w w' := by
  have hb := Below.refl (w.alloc (.cells #[.int .i64 10, .int .i64 fn, .int .i64 rd, .int .i64 rs1, .int .i64 rs2, .int .u64 (im.toNat : Int), .int .i64 size, .bool sgn, .bool word, .bool useImm, .int .i64 csr] 44)).heap.size (w.alloc (.cells #[.int .i64 10, .int .i64 fn, .int .i64 rd, .int .i64 rs1, .int .i64 rs2, .int .u64 (im.toNat : Int), .int .i64 size, .bool sgn, .bool word, .bool useImm, .int .i64 csr] 44))
  have B := Lib.hid (Box.new w [.int .i64 10, .int .i64 fn, .int .i64 rd, .int .i64 rs1, .int .i64 rs2, .int .u64 (im.toNat : Int), .int .i64 size, .bool sgn, .bool word, .bool useImm, .int .i64 csr] 44)
  obtain ⟨c0, c1, c2, c3, c4, c5, c6, c7, c8, c9, c10⟩ := B.out.eleven
  obtain ⟨d0, d1, d2, d3, d4, d5, d6, d7, d8, d9, d10⟩ := B.out.late
  have lr : ∀ g : Late (w.alloc (.cells #[.int .i64 10, .int .i64 fn, .int .i64 rd, .int .i64 rs1, .int .i64 rs2, .int .u64 (im.toNat : Int), .int .i64 size, .bool sgn, .bool word, .bool useImm, .int .i64 csr] 44)), rowI g.is w.heap.size = some #[.int .i64 10, .int .i64 fn, .int .i64 rd, .int .i64 rs1, .int .i64 rs2, .int .u64 (im.toNat : Int), .int .i64 size, .bool sgn, .bool word, .bool useImm, .int .i64 csr] := fun g => rowI_below (by rw [rowI_alloc, if_pos rfl, if_pos rfl]) g.below
  go_enter Try.func72, Try.ntmps72
  go_wp2_with fail
  refine wp_region_late (by kernel_rfl) (lexB_of_fast _ (by kernel_rfl)) hb ?_
  repeat (first | go_big_quiet_step (first | (go_at_call 94; exact (cO.out.mk).late) | (go_at_call 21; exact (cX.out).late)) | (refine skip_same rfl (by kernel_rfl) (by kernel_rfl) ?_))
  refine wpQuiet_nil ?_
  rintro w1 ⟨b1, rfl⟩
  clear hb
  have hb := b1.below
  go_wp2_with fail
  go_ret2
  exact ⟨rfl, below_alloc hb⟩
set_option maxHeartbeats 20000000 in
theorem lay_20 (fn rd rs1 rs2 : Int) (im : BitVec 64) (v : Int) (hv1 : IntKind.i64.wrap (im.toNat : Int) = v) (hv2 : wrap64 (im.toNat : Int) = v) (size : Int) (sgn word useImm : Bool) (csr : Int) (r : BitVec 32 × Int) (k : Int) (cW : Hid (Qt Try.prog 92 #[.int .i64 size] (.int .i64 k))) (cX : Hid (Mk Try.prog 21 #[.int .i64 47, .int .i64 rd, .int .i64 k, .int .i64 rs1, .int .i64 rs2, .int .i64 8] (.tuple #[.int .u32 (r.1.toNat : Int), .int .i64 r.2]))) (w : World) :
    Calls Try.prog 72 #[.agg #[.int .i64 20, .int .i64 fn, .int .i64 rd, .int .i64 rs1, .int .i64 rs2, .int .u64 (im.toNat : Int), .int .i64 size, .bool sgn, .bool word, .bool useImm, .int .i64 csr]] w fun e w' => e = .returned (.tuple #[.int .u32 (r.1.toNat : Int), .int .i64 r.2]) ∧ Below w.heap.size w w' := by
  have hb := Below.refl (w.alloc (.cells #[.int .i64 20, .int .i64 fn, .int .i64 rd, .int .i64 rs1, .int .i64 rs2, .int .u64 (im.toNat : Int), .int .i64 size, .bool sgn, .bool word, .bool useImm, .int .i64 csr] 44)).heap.size (w.alloc (.cells #[.int .i64 20, .int .i64 fn, .int .i64 rd, .int .i64 rs1, .int .i64 rs2, .int .u64 (im.toNat : Int), .int .i64 size, .bool sgn, .bool word, .bool useImm, .int .i64 csr] 44))
  have B := Lib.hid (Box.new w [.int .i64 20, .int .i64 fn, .int .i64 rd, .int .i64 rs1, .int .i64 rs2, .int .u64 (im.toNat : Int), .int .i64 size, .bool sgn, .bool word, .bool useImm, .int .i64 csr] 44)
  obtain ⟨c0, c1, c2, c3, c4, c5, c6, c7, c8, c9, c10⟩ := B.out.eleven
  obtain ⟨d0, d1, d2, d3, d4, d5, d6, d7, d8, d9, d10⟩ := B.out.late
  have lr : ∀ g : Late (w.alloc (.cells #[.int .i64 20, .int .i64 fn, .int .i64 rd, .int .i64 rs1, .int .i64 rs2, .int .u64 (im.toNat : Int), .int .i64 size, .bool sgn, .bool word, .bool useImm, .int .i64 csr] 44)), rowI g.is w.heap.size = some #[.int .i64 20, .int .i64 fn, .int .i64 rd, .int .i64 rs1, .int .i64 rs2, .int .u64 (im.toNat : Int), .int .i64 size, .bool sgn, .bool word, .bool useImm, .int .i64 csr] := fun g => rowI_below (by rw [rowI_alloc, if_pos rfl, if_pos rfl]) g.below
  go_enter Try.func72, Try.ntmps72
  go_wp2_with fail
  refine wp_region_late (by kernel_rfl) (lexB_of_fast _ (by kernel_rfl)) hb ?_
  repeat (first | go_big_quiet_step (first | (go_at_call 92; exact (cW.out.mk).late) | (go_at_call 21; exact (cX.out).late)) | (refine skip_same rfl (by kernel_rfl) (by kernel_rfl) ?_))
  refine wpQuiet_nil ?_
  rintro w1 ⟨b1, rfl⟩
  clear hb
  have hb := b1.below
  go_wp2_with fail
  go_ret2
  exact ⟨rfl, below_alloc hb⟩
set_option maxHeartbeats 20000000 in
theorem lay_21 (fn rd rs1 rs2 : Int) (im : BitVec 64) (v : Int) (hv1 : IntKind.i64.wrap (im.toNat : Int) = v) (hv2 : wrap64 (im.toNat : Int) = v) (size : Int) (sgn word useImm : Bool) (csr : Int) (r : BitVec 32 × Int) (k : Int) (cW : Hid (Qt Try.prog 92 #[.int .i64 size] (.int .i64 k))) (cX : Hid (Mk Try.prog 21 #[.int .i64 47, .int .i64 rd, .int .i64 k, .int .i64 rs1, .int .i64 rs2, .int .i64 12] (.tuple #[.int .u32 (r.1.toNat : Int), .int .i64 r.2]))) (w : World) :
    Calls Try.prog 72 #[.agg #[.int .i64 21, .int .i64 fn, .int .i64 rd, .int .i64 rs1, .int .i64 rs2, .int .u64 (im.toNat : Int), .int .i64 size, .bool sgn, .bool word, .bool useImm, .int .i64 csr]] w fun e w' => e = .returned (.tuple #[.int .u32 (r.1.toNat : Int), .int .i64 r.2]) ∧ Below w.heap.size w w' := by
  have hb := Below.refl (w.alloc (.cells #[.int .i64 21, .int .i64 fn, .int .i64 rd, .int .i64 rs1, .int .i64 rs2, .int .u64 (im.toNat : Int), .int .i64 size, .bool sgn, .bool word, .bool useImm, .int .i64 csr] 44)).heap.size (w.alloc (.cells #[.int .i64 21, .int .i64 fn, .int .i64 rd, .int .i64 rs1, .int .i64 rs2, .int .u64 (im.toNat : Int), .int .i64 size, .bool sgn, .bool word, .bool useImm, .int .i64 csr] 44))
  have B := Lib.hid (Box.new w [.int .i64 21, .int .i64 fn, .int .i64 rd, .int .i64 rs1, .int .i64 rs2, .int .u64 (im.toNat : Int), .int .i64 size, .bool sgn, .bool word, .bool useImm, .int .i64 csr] 44)
  obtain ⟨c0, c1, c2, c3, c4, c5, c6, c7, c8, c9, c10⟩ := B.out.eleven
  obtain ⟨d0, d1, d2, d3, d4, d5, d6, d7, d8, d9, d10⟩ := B.out.late
  have lr : ∀ g : Late (w.alloc (.cells #[.int .i64 21, .int .i64 fn, .int .i64 rd, .int .i64 rs1, .int .i64 rs2, .int .u64 (im.toNat : Int), .int .i64 size, .bool sgn, .bool word, .bool useImm, .int .i64 csr] 44)), rowI g.is w.heap.size = some #[.int .i64 21, .int .i64 fn, .int .i64 rd, .int .i64 rs1, .int .i64 rs2, .int .u64 (im.toNat : Int), .int .i64 size, .bool sgn, .bool word, .bool useImm, .int .i64 csr] := fun g => rowI_below (by rw [rowI_alloc, if_pos rfl, if_pos rfl]) g.below
  go_enter Try.func72, Try.ntmps72
  go_wp2_with fail
  refine wp_region_late (by kernel_rfl) (lexB_of_fast _ (by kernel_rfl)) hb ?_
  repeat (first | go_big_quiet_step (first | (go_at_call 92; exact (cW.out.mk).late) | (go_at_call 21; exact (cX.out).late)) | (refine skip_same rfl (by kernel_rfl) (by kernel_rfl) ?_))
  refine wpQuiet_nil ?_
  rintro w1 ⟨b1, rfl⟩
  clear hb
  have hb := b1.below
  go_wp2_with fail
  go_ret2
  exact ⟨rfl, below_alloc hb⟩
set_option maxHeartbeats 20000000 in
theorem lay_22_lo (fn rd rs1 rs2 : Int) (im : BitVec 64) (v : Int) (hv1 : IntKind.i64.wrap (im.toNat : Int) = v) (hv2 : wrap64 (im.toNat : Int) = v) (size : Int) (sgn word useImm : Bool) (csr : Int) (r : BitVec 32 × Int) (hf : fn < 0) (w : World) :
    Calls Try.prog 72 #[.agg #[.int .i64 22, .int .i64 fn, .int .i64 rd, .int .i64 rs1, .int .i64 rs2, .int .u64 (im.toNat : Int), .int .i64 size, .bool sgn, .bool word, .bool useImm, .int .i64 csr]] w fun e w' => e = .returned (.tuple #[.int .u32 0, .int .i64 7]) ∧ Below w.heap.size w w' := by
  have hb := Below.refl (w.alloc (.cells #[.int .i64 22, .int .i64 fn, .int .i64 rd, .int .i64 rs1, .int .i64 rs2, .int .u64 (im.toNat : Int), .int .i64 size, .bool sgn, .bool word, .bool useImm, .int .i64 csr] 44)).heap.size (w.alloc (.cells #[.int .i64 22, .int .i64 fn, .int .i64 rd, .int .i64 rs1, .int .i64 rs2, .int .u64 (im.toNat : Int), .int .i64 size, .bool sgn, .bool word, .bool useImm, .int .i64 csr] 44))
  have B := Lib.hid (Box.new w [.int .i64 22, .int .i64 fn, .int .i64 rd, .int .i64 rs1, .int .i64 rs2, .int .u64 (im.toNat : Int), .int .i64 size, .bool sgn, .bool word, .bool useImm, .int .i64 csr] 44)
  obtain ⟨c0, c1, c2, c3, c4, c5, c6, c7, c8, c9, c10⟩ := B.out.eleven
  go_enter Try.func72, Try.ntmps72
  go_wp2_with fail
  go_ret2
  exact ⟨rfl, below_alloc hb⟩
set_option maxHeartbeats 20000000 in
theorem lay_22_hi (fn rd rs1 rs2 : Int) (im : BitVec 64) (v : Int) (hv1 : IntKind.i64.wrap (im.toNat : Int) = v) (hv2 : wrap64 (im.toNat : Int) = v) (size : Int) (sgn word useImm : Bool) (csr : Int) (r : BitVec 32 × Int) (hf : ¬ fn < 0) (hg : 31 < fn) (w : World) :
    Calls Try.prog 72 #[.agg #[.int .i64 22, .int .i64 fn, .int .i64 rd, .int .i64 rs1, .int .i64 rs2, .int .u64 (im.toNat : Int), .int .i64 size, .bool sgn, .bool word, .bool useImm, .int .i64 csr]] w fun e w' => e = .returned (.tuple #[.int .u32 0, .int .i64 7]) ∧ Below w.heap.size w w' := by
  have hb := Below.refl (w.alloc (.cells #[.int .i64 22, .int .i64 fn, .int .i64 rd, .int .i64 rs1, .int .i64 rs2, .int .u64 (im.toNat : Int), .int .i64 size, .bool sgn, .bool word, .bool useImm, .int .i64 csr] 44)).heap.size (w.alloc (.cells #[.int .i64 22, .int .i64 fn, .int .i64 rd, .int .i64 rs1, .int .i64 rs2, .int .u64 (im.toNat : Int), .int .i64 size, .bool sgn, .bool word, .bool useImm, .int .i64 csr] 44))
  have B := Lib.hid (Box.new w [.int .i64 22, .int .i64 fn, .int .i64 rd, .int .i64 rs1, .int .i64 rs2, .int .u64 (im.toNat : Int), .int .i64 size, .bool sgn, .bool word, .bool useImm, .int .i64 csr] 44)
  obtain ⟨c0, c1, c2, c3, c4, c5, c6, c7, c8, c9, c10⟩ := B.out.eleven
  go_enter Try.func72, Try.ntmps72
  go_wp2_with fail
  go_ret2
  exact ⟨rfl, below_alloc hb⟩
set_option maxHeartbeats 20000000 in
theorem lay_22 (fn rd rs1 rs2 : Int) (im : BitVec 64) (v : Int) (hv1 : IntKind.i64.wrap (im.toNat : Int) = v) (hv2 : wrap64 (im.toNat : Int) = v) (size : Int) (sgn word useImm : Bool) (csr : Int) (r : BitVec 32 × Int) (hf : ¬ fn < 0) (hg : ¬ 31 < fn) (hs1 : IntKind.i64.wrap (fn * 4) = fn * 4) (k : Int) (cW : Hid (Qt Try.prog 92 #[.int .i64 size] (.int .i64 k))) (cX : Hid (Mk Try.prog 21 #[.int .i64 47, .int .i64 rd, .int .i64 k, .int .i64 rs1, .int .i64 rs2, .int .i64 (fn * 4)] (.tuple #[.int .u32 (r.1.toNat : Int), .int .i64 r.2]))) (w : World) :
    Calls Try.prog 72 #[.agg #[.int .i64 22, .int .i64 fn, .int .i64 rd, .int .i64 rs1, .int .i64 rs2, .int .u64 (im.toNat : Int), .int .i64 size, .bool sgn, .bool word, .bool useImm, .int .i64 csr]] w fun e w' => e = .returned (.tuple #[.int .u32 (r.1.toNat : Int), .int .i64 r.2]) ∧ Below w.heap.size w w' := by
  have hb := Below.refl (w.alloc (.cells #[.int .i64 22, .int .i64 fn, .int .i64 rd, .int .i64 rs1, .int .i64 rs2, .int .u64 (im.toNat : Int), .int .i64 size, .bool sgn, .bool word, .bool useImm, .int .i64 csr] 44)).heap.size (w.alloc (.cells #[.int .i64 22, .int .i64 fn, .int .i64 rd, .int .i64 rs1, .int .i64 rs2, .int .u64 (im.toNat : Int), .int .i64 size, .bool sgn, .bool word, .bool useImm, .int .i64 csr] 44))
  have B := Lib.hid (Box.new w [.int .i64 22, .int .i64 fn, .int .i64 rd, .int .i64 rs1, .int .i64 rs2, .int .u64 (im.toNat : Int), .int .i64 size, .bool sgn, .bool word, .bool useImm, .int .i64 csr] 44)
  obtain ⟨c0, c1, c2, c3, c4, c5, c6, c7, c8, c9, c10⟩ := B.out.eleven
  obtain ⟨d0, d1, d2, d3, d4, d5, d6, d7, d8, d9, d10⟩ := B.out.late
  have lr : ∀ g : Late (w.alloc (.cells #[.int .i64 22, .int .i64 fn, .int .i64 rd, .int .i64 rs1, .int .i64 rs2, .int .u64 (im.toNat : Int), .int .i64 size, .bool sgn, .bool word, .bool useImm, .int .i64 csr] 44)), rowI g.is w.heap.size = some #[.int .i64 22, .int .i64 fn, .int .i64 rd, .int .i64 rs1, .int .i64 rs2, .int .u64 (im.toNat : Int), .int .i64 size, .bool sgn, .bool word, .bool useImm, .int .i64 csr] := fun g => rowI_below (by rw [rowI_alloc, if_pos rfl, if_pos rfl]) g.below
  go_enter Try.func72, Try.ntmps72
  go_wp2_with fail
  refine wp_region_late (by kernel_rfl) (lexB_of_fast _ (by kernel_rfl)) hb ?_
  repeat (first | go_big_quiet_step (first | (go_at_call 92; exact (cW.out.mk).late) | (go_at_call 21; exact (cX.out).late)) | (refine skip_same rfl (by kernel_rfl) (by kernel_rfl) ?_))
  refine wpQuiet_nil ?_
  rintro w1 ⟨b1, rfl⟩
  clear hb
  have hb := b1.below
  go_wp2_with fail
  go_ret2
  exact ⟨rfl, below_alloc hb⟩
set_option maxHeartbeats 20000000 in
theorem lay_sys (op fn rd rs1 rs2 : Int) (im : BitVec 64) (v : Int) (hv1 : IntKind.i64.wrap (im.toNat : Int) = v) (hv2 : wrap64 (im.toNat : Int) = v) (size : Int) (sgn word useImm : Bool) (csr : Int) (r : BitVec 32 × Int) (f1 : (op == 1) = false) (f2 : (op == 2) = false) (f3 : (op == 3) = false) (f4 : (op == 4) = false) (f5 : (op == 5) = false) (f6 : (op == 6) = false) (f7 : (op == 7) = false) (f8 : (op == 8) = false) (f9 : (op == 9) = false) (f10 : (op == 10) = false) (f20 : (op == 20) = false) (f21 : (op == 21) = false) (f22 : (op == 22) = false) (cX : Hid (Mk Try.prog 97 #[.agg #[.int .i64 op, .int .i64 fn, .int .i64 rd, .int .i64 rs1, .int .i64 rs2, .int .u64 (im.toNat : Int), .int .i64 size, .bool sgn, .bool word, .bool useImm, .int .i64 csr]] (.tuple #[.int .u32 (r.1.toNat : Int), .int .i64 r.2]))) (w : World) :
    Calls Try.prog 72 #[.agg #[.int .i64 op, .int .i64 fn, .int .i64 rd, .int .i64 rs1, .int .i64 rs2, .int .u64 (im.toNat : Int), .int .i64 size, .bool sgn, .bool word, .bool useImm, .int .i64 csr]] w fun e w' => e = .returned (.tuple #[.int .u32 (r.1.toNat : Int), .int .i64 r.2]) ∧ Below w.heap.size w w' := by
  have hb := Below.refl (w.alloc (.cells #[.int .i64 op, .int .i64 fn, .int .i64 rd, .int .i64 rs1, .int .i64 rs2, .int .u64 (im.toNat : Int), .int .i64 size, .bool sgn, .bool word, .bool useImm, .int .i64 csr] 44)).heap.size (w.alloc (.cells #[.int .i64 op, .int .i64 fn, .int .i64 rd, .int .i64 rs1, .int .i64 rs2, .int .u64 (im.toNat : Int), .int .i64 size, .bool sgn, .bool word, .bool useImm, .int .i64 csr] 44))
  have B := Lib.hid (Box.new w [.int .i64 op, .int .i64 fn, .int .i64 rd, .int .i64 rs1, .int .i64 rs2, .int .u64 (im.toNat : Int), .int .i64 size, .bool sgn, .bool word, .bool useImm, .int .i64 csr] 44)
  obtain ⟨c0, c1, c2, c3, c4, c5, c6, c7, c8, c9, c10⟩ := B.out.eleven
  go_enter Try.func72, Try.ntmps72
  go_wp2_with (go_at_call 97; refine ((cX.out).at hb).mono ?_; clear hb c0 c1 c2 c3 c4 c5 c6 c7 c8 c9 c10; rintro e w1 ⟨rfl, hb⟩; obtain ⟨c0, c1, c2, c3, c4, c5, c6, c7, c8, c9, c10⟩ := (B.out.below hb).eleven)
  go_ret2
  exact ⟨rfl, below_alloc hb⟩
end
section
open Go.RowKit Wd
set_option linter.unusedVariables false
set_option linter.unusedSimpArgs false
attribute [local go_sem] loadI_lit loadI_ins rowI_alloc rowI_drew rowI_drewN
attribute [local go_sem ↓] loadI_run
set_option maxRecDepth 20000
set_option maxHeartbeats 20000000 in
theorem layImm_1_lo (op rd rs1 rs2 : Int) (im : BitVec 64) (v : Int) (size : Int) (sgn word useImm : Bool) (csr : Int) (r : BitVec 32 × Int) (o : Int) (cO : Hid (Qt Try.prog 94 #[.bool word, .int .i64 19, .int .i64 27] (.int .i64 o))) (h1 : v < 0) (w : World) :
    Calls Try.prog 93 #[.agg #[.int .i64 op, .int .i64 1, .int .i64 rd, .int .i64 rs1, .int .i64 rs2, .int .u64 (im.toNat : Int), .int .i64 size, .bool sgn, .bool word, .bool useImm, .int .i64 csr], .int .i64 v] w fun e w' => e = .returned (.tuple #[.int .u32 0, .int .i64 7]) ∧ Below w.heap.size w w' := by
  have hb := Below.refl (w.alloc (.cells #[.int .i64 op, .int .i64 1, .int .i64 rd, .int .i64 rs1, .int .i64 rs2, .int .u64 (im.toNat : Int), .int .i64 size, .bool sgn, .bool word, .bool useImm, .int .i64 csr] 44)).heap.size (w.alloc (.cells #[.int .i64 op, .int .i64 1, .int .i64 rd, .int .i64 rs1, .int .i64 rs2, .int .u64 (im.toNat : Int), .int .i64 size, .bool sgn, .bool word, .bool useImm, .int .i64 csr] 44))
  have B := Lib.hid (Box.new w [.int .i64 op, .int .i64 1, .int .i64 rd, .int .i64 rs1, .int .i64 rs2, .int .u64 (im.toNat : Int), .int .i64 size, .bool sgn, .bool word, .bool useImm, .int .i64 csr] 44)
  obtain ⟨c0, c1, c2, c3, c4, c5, c6, c7, c8, c9, c10⟩ := B.out.eleven
  go_enter Try.func93, Try.ntmps93
  go_wp2_with (go_at_call 94; refine ((cO.out.mk).at hb).mono ?_; clear hb c0 c1 c2 c3 c4 c5 c6 c7 c8 c9 c10; rintro e w1 ⟨rfl, hb⟩; obtain ⟨c0, c1, c2, c3, c4, c5, c6, c7, c8, c9, c10⟩ := (B.out.below hb).eleven)
  go_ret2
  exact ⟨rfl, below_alloc hb⟩
set_option maxHeartbeats 20000000 in
theorem layImm_1_hi (op rd rs1 rs2 : Int) (im : BitVec 64) (v : Int) (size : Int) (sgn word useImm : Bool) (csr : Int) (r : BitVec 32 × Int) (o : Int) (cO : Hid (Qt Try.prog 94 #[.bool word, .int .i64 19, .int .i64 27] (.int .i64 o))) (h1 : ¬ v < 0) (h2 : 63 < v) (w : World) :
    Calls Try.prog 93 #[.agg #[.int .i64 op, .int .i64 1, .int .i64 rd, .int .i64 rs1, .int .i64 rs2, .int .u64 (im.toNat : Int), .int .i64 size, .bool sgn, .bool word, .bool useImm, .int .i64 csr], .int .i64 v] w fun e w' => e = .returned (.tuple #[.int .u32 0, .int .i64 7]) ∧ Below w.heap.size w w' := by
  have hb := Below.refl (w.alloc (.cells #[.int .i64 op, .int .i64 1, .int .i64 rd, .int .i64 rs1, .int .i64 rs2, .int .u64 (im.toNat : Int), .int .i64 size, .bool sgn, .bool word, .bool useImm, .int .i64 csr] 44)).heap.size (w.alloc (.cells #[.int .i64 op, .int .i64 1, .int .i64 rd, .int .i64 rs1, .int .i64 rs2, .int .u64 (im.toNat : Int), .int .i64 size, .bool sgn, .bool word, .bool useImm, .int .i64 csr] 44))
  have B := Lib.hid (Box.new w [.int .i64 op, .int .i64 1, .int .i64 rd, .int .i64 rs1, .int .i64 rs2, .int .u64 (im.toNat : Int), .int .i64 size, .bool sgn, .bool word, .bool useImm, .int .i64 csr] 44)
  obtain ⟨c0, c1, c2, c3, c4, c5, c6, c7, c8, c9, c10⟩ := B.out.eleven
  go_enter Try.func93, Try.ntmps93
  go_wp2_with (go_at_call 94; refine ((cO.out.mk).at hb).mono ?_; clear hb c0 c1 c2 c3 c4 c5 c6 c7 c8 c9 c10; rintro e w1 ⟨rfl, hb⟩; obtain ⟨c0, c1, c2, c3, c4, c5, c6, c7, c8, c9, c10⟩ := (B.out.below hb).eleven)
  go_ret2
  exact ⟨rfl, below_alloc hb⟩
set_option maxHeartbeats 20000000 in
theorem layImm_1 (op rd rs1 rs2 : Int) (im : BitVec 64) (v : Int) (size : Int) (sgn word useImm : Bool) (csr : Int) (r : BitVec 32 × Int) (o : Int) (cO : Hid (Qt Try.prog 94 #[.bool word, .int .i64 19, .int .i64 27] (.int .i64 o))) (h1 : ¬ v < 0) (h2 : ¬ 63 < v) (u : Int) (hu : bits .or .i64 v 0 = u) (e3 : Hid (Qt Try.prog 95 #[.int .i64 1] (.int .i64 1))) (e7 : Hid (Mk Try.prog 96 #[.agg #[.int .i64 op, .int .i64 1, .int .i64 rd, .int .i64 rs1, .int .i64 rs2, .int .u64 (im.toNat : Int), .int .i64 size, .bool sgn, .bool word, .bool useImm, .int .i64 csr]] (.int .i64 0))) (cX : Hid (Mk Try.prog 29 #[.int .i64 o, .int .i64 rd, .int .i64 1, .int .i64 rs1, .int .i64 u] (.tuple #[.int .u32 (r.1.toNat : Int), .int .i64 r.2]))) (w : World) :
    Calls Try.prog 93 #[.agg #[.int .i64 op, .int .i64 1, .int .i64 rd, .int .i64 rs1, .int .i64 rs2, .int .u64 (im.toNat : Int), .int .i64 size, .bool sgn, .bool word, .bool useImm, .int .i64 csr], .int .i64 v] w fun e w' => e = .returned (.tuple #[.int .u32 (r.1.toNat : Int), .int .i64 r.2]) ∧ Below w.heap.size w w' := by
  have hb := Below.refl (w.alloc (.cells #[.int .i64 op, .int .i64 1, .int .i64 rd, .int .i64 rs1, .int .i64 rs2, .int .u64 (im.toNat : Int), .int .i64 size, .bool sgn, .bool word, .bool useImm, .int .i64 csr] 44)).heap.size (w.alloc (.cells #[.int .i64 op, .int .i64 1, .int .i64 rd, .int .i64 rs1, .int .i64 rs2, .int .u64 (im.toNat : Int), .int .i64 size, .bool sgn, .bool word, .bool useImm, .int .i64 csr] 44))
  have B := Lib.hid (Box.new w [.int .i64 op, .int .i64 1, .int .i64 rd, .int .i64 rs1, .int .i64 rs2, .int .u64 (im.toNat : Int), .int .i64 size, .bool sgn, .bool word, .bool useImm, .int .i64 csr] 44)
  obtain ⟨c0, c1, c2, c3, c4, c5, c6, c7, c8, c9, c10⟩ := B.out.eleven
  obtain ⟨d0, d1, d2, d3, d4, d5, d6, d7, d8, d9, d10⟩ := B.out.late
  have lr : ∀ g : Late (w.alloc (.cells #[.int .i64 op, .int .i64 1, .int .i64 rd, .int .i64 rs1, .int .i64 rs2, .int .u64 (im.toNat : Int), .int .i64 size, .bool sgn, .bool word, .bool useImm, .int .i64 csr] 44)), rowI g.is w.heap.size = some #[.int .i64 op, .int .i64 1, .int .i64 rd, .int .i64 rs1, .int .i64 rs2, .int .u64 (im.toNat : Int), .int .i64 size, .bool sgn, .bool word, .bool useImm, .int .i64 csr] := fun g => rowI_below (by rw [rowI_alloc, if_pos rfl, if_pos rfl]) g.below
  go_enter Try.func93, Try.ntmps93
  go_wp2_with (go_at_call 94; refine ((cO.out.mk).at hb).mono ?_; clear hb c0 c1 c2 c3 c4 c5 c6 c7 c8 c9 c10; rintro e w1 ⟨rfl, hb⟩; obtain ⟨c0, c1, c2, c3, c4, c5, c6, c7, c8, c9, c10⟩ := (B.out.below hb).eleven)
  refine wp_region_late (by kernel_rfl) (lexB_of_fast _ (by kernel_rfl)) hb ?_
  repeat (first | go_big_quiet_step (first | (go_at_call 95; exact (e3.out.mk).late) | (go_at_call 96; exact (e7.out).late) | (go_at_call 29; exact (cX.out).late)) | (refine skip_same rfl (by kernel_rfl) (by kernel_rfl) ?_))
  refine wpQuiet_nil ?_
  rintro w1 ⟨b1, rfl⟩
  clear hb
  have hb := b1.below
  go_wp2_with fail
  go_ret2
  exact ⟨rfl, below_alloc hb⟩
set_option maxHeartbeats 20000000 in
theorem layImm_5_lo (op rd rs1 rs2 : Int) (im : BitVec 64) (v : Int) (size : Int) (sgn word useImm : Bool) (csr : Int) (r : BitVec 32 × Int) (o : Int) (cO : Hid (Qt Try.prog 94 #[.bool word, .int .i64 19, .int .i64 27] (.int .i64 o))) (h1 : v < 0) (w : World) :
    Calls Try.prog 93 #[.agg #[.int .i64 op, .int .i64 5, .int .i64 rd, .int .i64 rs1, .int .i64 rs2, .int .u64 (im.toNat : Int), .int .i64 size, .bool sgn, .bool word, .bool useImm, .int .i64 csr], .int .i64 v] w fun e w' => e = .returned (.tuple #[.int .u32 0, .int .i64 7]) ∧ Below w.heap.size w w' := by
  have hb := Below.refl (w.alloc (.cells #[.int .i64 op, .int .i64 5, .int .i64 rd, .int .i64 rs1, .int .i64 rs2, .int .u64 (im.toNat : Int), .int .i64 size, .bool sgn, .bool word, .bool useImm, .int .i64 csr] 44)).heap.size (w.alloc (.cells #[.int .i64 op, .int .i64 5, .int .i64 rd, .int .i64 rs1, .int .i64 rs2, .int .u64 (im.toNat : Int), .int .i64 size, .bool sgn, .bool word, .bool useImm, .int .i64 csr] 44))
  have B := Lib.hid (Box.new w [.int .i64 op, .int .i64 5, .int .i64 rd, .int .i64 rs1, .int .i64 rs2, .int .u64 (im.toNat : Int), .int .i64 size, .bool sgn, .bool word, .bool useImm, .int .i64 csr] 44)
  obtain ⟨c0, c1, c2, c3, c4, c5, c6, c7, c8, c9, c10⟩ := B.out.eleven
  go_enter Try.func93, Try.ntmps93
  go_wp2_with (go_at_call 94; refine ((cO.out.mk).at hb).mono ?_; clear hb c0 c1 c2 c3 c4 c5 c6 c7 c8 c9 c10; rintro e w1 ⟨rfl, hb⟩; obtain ⟨c0, c1, c2, c3, c4, c5, c6, c7, c8, c9, c10⟩ := (B.out.below hb).eleven)
  go_ret2
  exact ⟨rfl, below_alloc hb⟩
set_option maxHeartbeats 20000000 in
theorem layImm_5_hi (op rd rs1 rs2 : Int) (im : BitVec 64) (v : Int) (size : Int) (sgn word useImm : Bool) (csr : Int) (r : BitVec 32 × Int) (o : Int) (cO : Hid (Qt Try.prog 94 #[.bool word, .int .i64 19, .int .i64 27] (.int .i64 o))) (h1 : ¬ v < 0) (h2 : 63 < v) (w : World) :
    Calls Try.prog 93 #[.agg #[.int .i64 op, .int .i64 5, .int .i64 rd, .int .i64 rs1, .int .i64 rs2, .int .u64 (im.toNat : Int), .int .i64 size, .bool sgn, .bool word, .bool useImm, .int .i64 csr], .int .i64 v] w fun e w' => e = .returned (.tuple #[.int .u32 0, .int .i64 7]) ∧ Below w.heap.size w w' := by
  have hb := Below.refl (w.alloc (.cells #[.int .i64 op, .int .i64 5, .int .i64 rd, .int .i64 rs1, .int .i64 rs2, .int .u64 (im.toNat : Int), .int .i64 size, .bool sgn, .bool word, .bool useImm, .int .i64 csr] 44)).heap.size (w.alloc (.cells #[.int .i64 op, .int .i64 5, .int .i64 rd, .int .i64 rs1, .int .i64 rs2, .int .u64 (im.toNat : Int), .int .i64 size, .bool sgn, .bool word, .bool useImm, .int .i64 csr] 44))
  have B := Lib.hid (Box.new w [.int .i64 op, .int .i64 5, .int .i64 rd, .int .i64 rs1, .int .i64 rs2, .int .u64 (im.toNat : Int), .int .i64 size, .bool sgn, .bool word, .bool useImm, .int .i64 csr] 44)
  obtain ⟨c0, c1, c2, c3, c4, c5, c6, c7, c8, c9, c10⟩ := B.out.eleven
  go_enter Try.func93, Try.ntmps93
  go_wp2_with (go_at_call 94; refine ((cO.out.mk).at hb).mono ?_; clear hb c0 c1 c2 c3 c4 c5 c6 c7 c8 c9 c10; rintro e w1 ⟨rfl, hb⟩; obtain ⟨c0, c1, c2, c3, c4, c5, c6, c7, c8, c9, c10⟩ := (B.out.below hb).eleven)
  go_ret2
  exact ⟨rfl, below_alloc hb⟩
set_option maxHeartbeats 20000000 in
theorem layImm_5 (op rd rs1 rs2 : Int) (im : BitVec 64) (v : Int) (size : Int) (sgn word useImm : Bool) (csr : Int) (r : BitVec 32 × Int) (o : Int) (cO : Hid (Qt Try.prog 94 #[.bool word, .int .i64 19, .int .i64 27] (.int .i64 o))) (h1 : ¬ v < 0) (h2 : ¬ 63 < v) (u : Int) (hu : bits .or .i64 v 0 = u) (e3 : Hid (Qt Try.prog 95 #[.int .i64 5] (.int .i64 5))) (e7 : Hid (Mk Try.prog 96 #[.agg #[.int .i64 op, .int .i64 5, .int .i64 rd, .int .i64 rs1, .int .i64 rs2, .int .u64 (im.toNat : Int), .int .i64 size, .bool sgn, .bool word, .bool useImm, .int .i64 csr]] (.int .i64 0))) (cX : Hid (Mk Try.prog 29 #[.int .i64 o, .int .i64 rd, .int .i64 5, .int .i64 rs1, .int .i64 u] (.tuple #[.int .u32 (r.1.toNat : Int), .int .i64 r.2]))) (w : World) :
    Calls Try.prog 93 #[.agg #[.int .i64 op, .int .i64 5, .int .i64 rd, .int .i64 rs1, .int .i64 rs2, .int .u64 (im.toNat : Int), .int .i64 size, .bool sgn, .bool word, .bool useImm, .int .i64 csr], .int .i64 v] w fun e w' => e = .returned (.tuple #[.int .u32 (r.1.toNat : Int), .int .i64 r.2]) ∧ Below w.heap.size w w' := by
  have hb := Below.refl (w.alloc (.cells #[.int .i64 op, .int .i64 5, .int .i64 rd, .int .i64 rs1, .int .i64 rs2, .int .u64 (im.toNat : Int), .int .i64 size, .bool sgn, .bool word, .bool useImm, .int .i64 csr] 44)).heap.size (w.alloc (.cells #[.int .i64 op, .int .i64 5, .int .i64 rd, .int .i64 rs1, .int .i64 rs2, .int .u64 (im.toNat : Int), .int .i64 size, .bool sgn, .bool word, .bool useImm, .int .i64 csr] 44))
  have B := Lib.hid (Box.new w [.int .i64 op, .int .i64 5, .int .i64 rd, .int .i64 rs1, .int .i64 rs2, .int .u64 (im.toNat : Int), .int .i64 size, .bool sgn, .bool word, .bool useImm, .int .i64 csr] 44)
  obtain ⟨c0, c1, c2, c3, c4, c5, c6, c7, c8, c9, c10⟩ := B.out.eleven
  obtain ⟨d0, d1, d2, d3, d4, d5, d6, d7, d8, d9, d10⟩ := B.out.late
  have lr : ∀ g : Late (w.alloc (.cells #[.int .i64 op, .int .i64 5, .int .i64 rd, .int .i64 rs1, .int .i64 rs2, .int .u64 (im.toNat : Int), .int .i64 size, .bool sgn, .bool word, .bool useImm, .int .i64 csr] 44)), rowI g.is w.heap.size = some #[.int .i64 op, .int .i64 5, .int .i64 rd, .int .i64 rs1, .int .i64 rs2, .int .u64 (im.toNat : Int), .int .i64 size, .bool sgn, .bool word, .bool useImm, .int .i64 csr] := fun g => rowI_below (by rw [rowI_alloc, if_pos rfl, if_pos rfl]) g.below
  go_enter Try.func93, Try.ntmps93
  go_wp2_with (go_at_call 94; refine ((cO.out.mk).at hb).mono ?_; clear hb c0 c1 c2 c3 c4 c5 c6 c7 c8 c9 c10; rintro e w1 ⟨rfl, hb⟩; obtain ⟨c0, c1, c2, c3, c4, c5, c6, c7, c8, c9, c10⟩ := (B.out.below hb).eleven)
  refine wp_region_late (by kernel_rfl) (lexB_of_fast _ (by kernel_rfl)) hb ?_
  repeat (first | go_big_quiet_step (first | (go_at_call 95; exact (e3.out.mk).late) | (go_at_call 96; exact (e7.out).late) | (go_at_call 29; exact (cX.out).late)) | (refine skip_same rfl (by kernel_rfl) (by kernel_rfl) ?_))
  refine wpQuiet_nil ?_
  rintro w1 ⟨b1, rfl⟩
  clear hb
  have hb := b1.below
  go_wp2_with fail
  go_ret2
  exact ⟨rfl, below_alloc hb⟩
set_option maxHeartbeats 20000000 in
theorem layImm_13_lo (op rd rs1 rs2 : Int) (im : BitVec 64) (v : Int) (size : Int) (sgn word useImm : Bool) (csr : Int) (r : BitVec 32 × Int) (o : Int) (cO : Hid (Qt Try.prog 94 #[.bool word, .int .i64 19, .int .i64 27] (.int .i64 o))) (h1 : v < 0) (w : World) :
    Calls Try.prog 93 #[.agg #[.int .i64 op, .int .i64 13, .int .i64 rd, .int .i64 rs1, .int .i64 rs2, .int .u64 (im.toNat : Int), .int .i64 size, .bool sgn, .bool word, .bool useImm, .int .i64 csr], .int .i64 v] w fun e w' => e = .returned (.tuple #[.int .u32 0, .int .i64 7]) ∧ Below w.heap.size w w' := by
  have hb := Below.refl (w.alloc (.cells #[.int .i64 op, .int .i64 13, .int .i64 rd, .int .i64 rs1, .int .i64 rs2, .int .u64 (im.toNat : Int), .int .i64 size, .bool sgn, .bool word, .bool useImm, .int .i64 csr] 44)).heap.size (w.alloc (.cells #[.int .i64 op, .int .i64 13, .int .i64 rd, .int .i64 rs1, .int .i64 rs2, .int .u64 (im.toNat : Int), .int .i64 size, .bool sgn, .bool word, .bool useImm, .int .i64 csr] 44))
  have B := Lib.hid (Box.new w [.int .i64 op, .int .i64 13, .int .i64 rd, .int .i64 rs1, .int .i64 rs2, .int .u64 (im.toNat : Int), .int .i64 size, .bool sgn, .bool word, .bool useImm, .int .i64 csr] 44)
  obtain ⟨c0, c1, c2, c3, c4, c5, c6, c7, c8, c9, c10⟩ := B.out.eleven
  go_enter Try.func93, Try.ntmps93
  go_wp2_with (go_at_call 94; refine ((cO.out.mk).at hb).mono ?_; clear hb c0 c1 c2 c3 c4 c5 c6 c7 c8 c9 c10; rintro e w1 ⟨rfl, hb⟩; obtain ⟨c0, c1, c2, c3, c4, c5, c6, c7, c8, c9, c10⟩ := (B.out.below hb).eleven)
  go_ret2
  exact ⟨rfl, below_alloc hb⟩
set_option maxHeartbeats 20000000 in
theorem layImm_13_hi (op rd rs1 rs2 : Int) (im : BitVec 64) (v : Int) (size : Int) (sgn word useImm : Bool) (csr : Int) (r : BitVec 32 × Int) (o : Int) (cO : Hid (Qt Try.prog 94 #[.bool word, .int .i64 19, .int .i64 27] (.int .i64 o))) (h1 : ¬ v < 0) (h2 : 63 < v) (w : World) :
    Calls Try.prog 93 #[.agg #[.int .i64 op, .int .i64 13, .int .i64 rd, .int .i64 rs1, .int .i64 rs2, .int .u64 (im.toNat : Int), .int .i64 size, .bool sgn, .bool word, .bool useImm, .int .i64 csr], .int .i64 v] w fun e w' => e = .returned (.tuple #[.int .u32 0, .int .i64 7]) ∧ Below w.heap.size w w' := by
  have hb := Below.refl (w.alloc (.cells #[.int .i64 op, .int .i64 13, .int .i64 rd, .int .i64 rs1, .int .i64 rs2, .int .u64 (im.toNat : Int), .int .i64 size, .bool sgn, .bool word, .bool useImm, .int .i64 csr] 44)).heap.size (w.alloc (.cells #[.int .i64 op, .int .i64 13, .int .i64 rd, .int .i64 rs1, .int .i64 rs2, .int .u64 (im.toNat : Int), .int .i64 size, .bool sgn, .bool word, .bool useImm, .int .i64 csr] 44))
  have B := Lib.hid (Box.new w [.int .i64 op, .int .i64 13, .int .i64 rd, .int .i64 rs1, .int .i64 rs2, .int .u64 (im.toNat : Int), .int .i64 size, .bool sgn, .bool word, .bool useImm, .int .i64 csr] 44)
  obtain ⟨c0, c1, c2, c3, c4, c5, c6, c7, c8, c9, c10⟩ := B.out.eleven
  go_enter Try.func93, Try.ntmps93
  go_wp2_with (go_at_call 94; refine ((cO.out.mk).at hb).mono ?_; clear hb c0 c1 c2 c3 c4 c5 c6 c7 c8 c9 c10; rintro e w1 ⟨rfl, hb⟩; obtain ⟨c0, c1, c2, c3, c4, c5, c6, c7, c8, c9, c10⟩ := (B.out.below hb).eleven)
  go_ret2
  exact ⟨rfl, below_alloc hb⟩
set_option maxHeartbeats 20000000 in
theorem layImm_13 (op rd rs1 rs2 : Int) (im : BitVec 64) (v : Int) (size : Int) (sgn word useImm : Bool) (csr : Int) (r : BitVec 32 × Int) (o : Int) (cO : Hid (Qt Try.prog 94 #[.bool word, .int .i64 19, .int .i64 27] (.int .i64 o))) (h1 : ¬ v < 0) (h2 : ¬ 63 < v) (u : Int) (hu : bits .or .i64 v 1024 = u) (e3 : Hid (Qt Try.prog 95 #[.int .i64 13] (.int .i64 5))) (e7 : Hid (Mk Try.prog 96 #[.agg #[.int .i64 op, .int .i64 13, .int .i64 rd, .int .i64 rs1, .int .i64 rs2, .int .u64 (im.toNat : Int), .int .i64 size, .bool sgn, .bool word, .bool useImm, .int .i64 csr]] (.int .i64 32))) (cX : Hid (Mk Try.prog 29 #[.int .i64 o, .int .i64 rd, .int .i64 5, .int .i64 rs1, .int .i64 u] (.tuple #[.int .u32 (r.1.toNat : Int), .int .i64 r.2]))) (w : World) :
    Calls Try.prog 93 #[.agg #[.int .i64 op, .int .i64 13, .int .i64 rd, .int .i64 rs1, .int .i64 rs2, .int .u64 (im.toNat : Int), .int .i64 size, .bool sgn, .bool word, .bool useImm, .int .i64 csr], .int .i64 v] w fun e w' => e = .returned (.tuple #[.int .u32 (r.1.toNat : Int), .int .i64 r.2]) ∧ Below w.heap.size w w' := by
  have hb := Below.refl (w.alloc (.cells #[.int .i64 op, .int .i64 13, .int .i64 rd, .int .i64 rs1, .int .i64 rs2, .int .u64 (im.toNat : Int), .int .i64 size, .bool sgn, .bool word, .bool useImm, .int .i64 csr] 44)).heap.size (w.alloc (.cells #[.int .i64 op, .int .i64 13, .int .i64 rd, .int .i64 rs1, .int .i64 rs2, .int .u64 (im.toNat : Int), .int .i64 size, .bool sgn, .bool word, .bool useImm, .int .i64 csr] 44))
  have B := Lib.hid (Box.new w [.int .i64 op, .int .i64 13, .int .i64 rd, .int .i64 rs1, .int .i64 rs2, .int .u64 (im.toNat : Int), .int .i64 size, .bool sgn, .bool word, .bool useImm, .int .i64 csr] 44)
  obtain ⟨c0, c1, c2, c3, c4, c5, c6, c7, c8, c9, c10⟩ := B.out.eleven
  obtain ⟨d0, d1, d2, d3, d4, d5, d6, d7, d8, d9, d10⟩ := B.out.late
  have lr : ∀ g : Late (w.alloc (.cells #[.int .i64 op, .int .i64 13, .int .i64 rd, .int .i64 rs1, .int .i64 rs2, .int .u64 (im.toNat : Int), .int .i64 size, .bool sgn, .bool word, .bool useImm, .int .i64 csr] 44)), rowI g.is w.heap.size = some #[.int .i64 op, .int .i64 13, .int .i64 rd, .int .i64 rs1, .int .i64 rs2, .int .u64 (im.toNat : Int), .int .i64 size, .bool sgn, .bool word, .bool useImm, .int .i64 csr] := fun g => rowI_below (by rw [rowI_alloc, if_pos rfl, if_pos rfl]) g.below
  go_enter Try.func93, Try.ntmps93
  go_wp2_with (go_at_call 94; refine ((cO.out.mk).at hb).mono ?_; clear hb c0 c1 c2 c3 c4 c5 c6 c7 c8 c9 c10; rintro e w1 ⟨rfl, hb⟩; obtain ⟨c0, c1, c2, c3, c4, c5, c6, c7, c8, c9, c10⟩ := (B.out.below hb).eleven)
  refine wp_region_late (by kernel_rfl) (lexB_of_fast _ (by kernel_rfl)) hb ?_
  repeat (first | go_big_quiet_step (first | (go_at_call 95; exact (e3.out.mk).late) | (go_at_call 96; exact (e7.out).late) | (go_at_call 29; exact (cX.out).late)) | (refine skip_same rfl (by kernel_rfl) (by kernel_rfl) ?_))
  refine wpQuiet_nil ?_
  rintro w1 ⟨b1, rfl⟩
  clear hb
  have hb := b1.below
  go_wp2_with fail
  go_ret2
  exact ⟨rfl, below_alloc hb⟩
set_option maxHeartbeats 20000000 in
theorem layImm_no (op fn rd rs1 rs2 : Int) (im : BitVec 64) (v : Int) (size : Int) (sgn word useImm : Bool) (csr : Int) (r : BitVec 32 × Int) (o : Int) (cO : Hid (Qt Try.prog 94 #[.bool word, .int .i64 19, .int .i64 27] (.int .i64 o))) (f1 : (fn == 1) = false) (f5 : (fn == 5) = false) (f13 : (fn == 13) = false) (cX : Hid (Mk Try.prog 29 #[.int .i64 o, .int .i64 rd, .int .i64 fn, .int .i64 rs1, .int .i64 v] (.tuple #[.int .u32 (r.1.toNat : Int), .int .i64 r.2]))) (w : World) :
    Calls Try.prog 93 #[.agg #[.int .i64 op, .int .i64 fn, .int .i64 rd, .int .i64 rs1, .int .i64 rs2, .int .u64 (im.toNat : Int), .int .i64 size, .bool sgn, .bool word, .bool useImm, .int .i64 csr], .int .i64 v] w fun e w' => e = .returned (.tuple #[.int .u32 (r.1.toNat : Int), .int .i64 r.2]) ∧ Below w.heap.size w w' := by
  have hb := Below.refl (w.alloc (.cells #[.int .i64 op, .int .i64 fn, .int .i64 rd, .int .i64 rs1, .int .i64 rs2, .int .u64 (im.toNat : Int), .int .i64 size, .bool sgn, .bool word, .bool useImm, .int .i64 csr] 44)).heap.size (w.alloc (.cells #[.int .i64 op, .int .i64 fn, .int .i64 rd, .int .i64 rs1, .int .i64 rs2, .int .u64 (im.toNat : Int), .int .i64 size, .bool sgn, .bool word, .bool useImm, .int .i64 csr] 44))
  have B := Lib.hid (Box.new w [.int .i64 op, .int .i64 fn, .int .i64 rd, .int .i64 rs1, .int .i64 rs2, .int .u64 (im.toNat : Int), .int .i64 size, .bool sgn, .bool word, .bool useImm, .int .i64 csr] 44)
  obtain ⟨c0, c1, c2, c3, c4, c5, c6, c7, c8, c9, c10⟩ := B.out.eleven
  go_enter Try.func93, Try.ntmps93
  go_wp2_with (first | (go_at_call 94; refine ((cO.out.mk).at hb).mono ?_; clear hb c0 c1 c2 c3 c4 c5 c6 c7 c8 c9 c10; rintro e w1 ⟨rfl, hb⟩; obtain ⟨c0, c1, c2, c3, c4, c5, c6, c7, c8, c9, c10⟩ := (B.out.below hb).eleven) | (go_at_call 29; refine ((cX.out).at hb).mono ?_; clear hb c0 c1 c2 c3 c4 c5 c6 c7 c8 c9 c10; rintro e w1 ⟨rfl, hb⟩; obtain ⟨c0, c1, c2, c3, c4, c5, c6, c7, c8, c9, c10⟩ := (B.out.below hb).eleven))
  go_ret2
  exact ⟨rfl, below_alloc hb⟩
set_option maxHeartbeats 20000000 in
theorem laySys_11 (fn rd rs1 rs2 : Int) (im : BitVec 64) (size : Int) (sgn word useImm : Bool) (csr : Int) (r : BitVec 32 × Int) (w : World) :
    Calls Try.prog 97 #[.agg #[.int .i64 11, .int .i64 fn, .int .i64 rd, .int .i64 rs1, .int .i64 rs2, .int .u64 (im.toNat : Int), .int .i64 size, .bool sgn, .bool word, .bool useImm, .int .i64 csr]] w fun e w' => e = .returned (.tuple #[.int .u32 15, .int .i64 0]) ∧ Below w.heap.size w w' := by
  have hb := Below.refl (w.alloc (.cells #[.int .i64 11, .int .i64 fn, .int .i64 rd, .int .i64 rs1, .int .i64 rs2, .int .u64 (im.toNat : Int), .int .i64 size, .bool sgn, .bool word, .bool useImm, .int .i64 csr] 44)).heap.size (w.alloc (.cells #[.int .i64 11, .int .i64 fn, .int .i64 rd, .int .i64 rs1, .int .i64 rs2, .int .u64 (im.toNat : Int), .int .i64 size, .bool sgn, .bool word, .bool useImm, .int .i64 csr] 44))
  have B := Lib.hid (Box.new w [.int .i64 11, .int .i64 fn, .int .i64 rd, .int .i64 rs1, .int .i64 rs2, .int .u64 (im.toNat : Int), .int .i64 size, .bool sgn, .bool word, .bool useImm, .int .i64 csr] 44)
  obtain ⟨c0, c1, c2, c3, c4, c5, c6, c7, c8, c9, c10⟩ := B.out.eleven
  go_enter Try.func97, Try.ntmps97
  go_wp2_with fail
  go_ret2
  exact ⟨rfl, below_alloc hb⟩
set_option maxHeartbeats 20000000 in
theorem laySys_13 (fn rd rs1 rs2 : Int) (im : BitVec 64) (size : Int) (sgn word useImm : Bool) (csr : Int) (r : BitVec 32 × Int) (w : World) :
    Calls Try.prog 97 #[.agg #[.int .i64 13, .int .i64 fn, .int .i64 rd, .int .i64 rs1, .int .i64 rs2, .int .u64 (im.toNat : Int), .int .i64 size, .bool sgn, .bool word, .bool useImm, .int .i64 csr]] w fun e w' => e = .returned (.tuple #[.int .u32 115, .int .i64 0]) ∧ Below w.heap.size w w' := by
  have hb := Below.refl (w.alloc (.cells #[.int .i64 13, .int .i64 fn, .int .i64 rd, .int .i64 rs1, .int .i64 rs2, .int .u64 (im.toNat : Int), .int .i64 size, .bool sgn, .bool word, .bool useImm, .int .i64 csr] 44)).heap.size (w.alloc (.cells #[.int .i64 13, .int .i64 fn, .int .i64 rd, .int .i64 rs1, .int .i64 rs2, .int .u64 (im.toNat : Int), .int .i64 size, .bool sgn, .bool word, .bool useImm, .int .i64 csr] 44))
  have B := Lib.hid (Box.new w [.int .i64 13, .int .i64 fn, .int .i64 rd, .int .i64 rs1, .int .i64 rs2, .int .u64 (im.toNat : Int), .int .i64 size, .bool sgn, .bool word, .bool useImm, .int .i64 csr] 44)
  obtain ⟨c0, c1, c2, c3, c4, c5, c6, c7, c8, c9, c10⟩ := B.out.eleven
  go_enter Try.func97, Try.ntmps97
  go_wp2_with fail
  go_ret2
  exact ⟨rfl, below_alloc hb⟩
set_option maxHeartbeats 20000000 in
theorem laySys_14 (fn rd rs1 rs2 : Int) (im : BitVec 64) (size : Int) (sgn word useImm : Bool) (csr : Int) (r : BitVec 32 × Int) (w : World) :
    Calls Try.prog 97 #[.agg #[.int .i64 14, .int .i64 fn, .int .i64 rd, .int .i64 rs1, .int .i64 rs2, .int .u64 (im.toNat : Int), .int .i64 size, .bool sgn, .bool word, .bool useImm, .int .i64 csr]] w fun e w' => e = .returned (.tuple #[.int .u32 1048691, .int .i64 0]) ∧ Below w.heap.size w w' := by
  have hb := Below.refl (w.alloc (.cells #[.int .i64 14, .int .i64 fn, .int .i64 rd, .int .i64 rs1, .int .i64 rs2, .int .u64 (im.toNat : Int), .int .i64 size, .bool sgn, .bool word, .bool useImm, .int .i64 csr] 44)).heap.size (w.alloc (.cells #[.int .i64 14, .int .i64 fn, .int .i64 rd, .int .i64 rs1, .int .i64 rs2, .int .u64 (im.toNat : Int), .int .i64 size, .bool sgn, .bool word, .bool useImm, .int .i64 csr] 44))
  have B := Lib.hid (Box.new w [.int .i64 14, .int .i64 fn, .int .i64 rd, .int .i64 rs1, .int .i64 rs2, .int .u64 (im.toNat : Int), .int .i64 size, .bool sgn, .bool word, .bool useImm, .int .i64 csr] 44)
  obtain ⟨c0, c1, c2, c3, c4, c5, c6, c7, c8, c9, c10⟩ := B.out.eleven
  go_enter Try.func97, Try.ntmps97
  go_wp2_with fail
  go_ret2
  exact ⟨rfl, below_alloc hb⟩
set_option maxHeartbeats 20000000 in
theorem laySys_16 (fn rd rs1 rs2 : Int) (im : BitVec 64) (size : Int) (sgn word useImm : Bool) (csr : Int) (r : BitVec 32 × Int) (w : World) :
    Calls Try.prog 97 #[.agg #[.int .i64 16, .int .i64 fn, .int .i64 rd, .int .i64 rs1, .int .i64 rs2, .int .u64 (im.toNat : Int), .int .i64 size, .bool sgn, .bool word, .bool useImm, .int .i64 csr]] w fun e w' => e = .returned (.tuple #[.int .u32 270532723, .int .i64 0]) ∧ Below w.heap.size w w' := by
  have hb := Below.refl (w.alloc (.cells #[.int .i64 16, .int .i64 fn, .int .i64 rd, .int .i64 rs1, .int .i64 rs2, .int .u64 (im.toNat : Int), .int .i64 size, .bool sgn, .bool word, .bool useImm, .int .i64 csr] 44)).heap.size (w.alloc (.cells #[.int .i64 16, .int .i64 fn, .int .i64 rd, .int .i64 rs1, .int .i64 rs2, .int .u64 (im.toNat : Int), .int .i64 size, .bool sgn, .bool word, .bool useImm, .int .i64 csr] 44))
  have B := Lib.hid (Box.new w [.int .i64 16, .int .i64 fn, .int .i64 rd, .int .i64 rs1, .int .i64 rs2, .int .u64 (im.toNat : Int), .int .i64 size, .bool sgn, .bool word, .bool useImm, .int .i64 csr] 44)
  obtain ⟨c0, c1, c2, c3, c4, c5, c6, c7, c8, c9, c10⟩ := B.out.eleven
  go_enter Try.func97, Try.ntmps97
  go_wp2_with fail
  go_ret2
  exact ⟨rfl, below_alloc hb⟩
set_option maxHeartbeats 20000000 in
theorem laySys_15 (fn rd rs1 rs2 : Int) (im : BitVec 64) (size : Int) (sgn word useImm : Bool) (csr : Int) (r : BitVec 32 × Int) (w : World) :
    Calls Try.prog 97 #[.agg #[.int .i64 15, .int .i64 fn, .int .i64 rd, .int .i64 rs1, .int .i64 rs2, .int .u64 (im.toNat : Int), .int .i64 size, .bool sgn, .bool word, .bool useImm, .int .i64 csr]] w fun e w' => e = .returned (.tuple #[.int .u32 807403635, .int .i64 0]) ∧ Below w.heap.size w w' := by
  have hb := Below.refl (w.alloc (.cells #[.int .i64 15, .int .i64 fn, .int .i64 rd, .int .i64 rs1, .int .i64 rs2, .int .u64 (im.toNat : Int), .int .i64 size, .bool sgn, .bool word, .bool useImm, .int .i64 csr] 44)).heap.size (w.alloc (.cells #[.int .i64 15, .int .i64 fn, .int .i64 rd, .int .i64 rs1, .int .i64 rs2, .int .u64 (im.toNat : Int), .int .i64 size, .bool sgn, .bool word, .bool useImm, .int .i64 csr] 44))
  have B := Lib.hid (Box.new w [.int .i64 15, .int .i64 fn, .int .i64 rd, .int .i64 rs1, .int .i64 rs2, .int .u64 (im.toNat : Int), .int .i64 size, .bool sgn, .bool word, .bool useImm, .int .i64 csr] 44)
  obtain ⟨c0, c1, c2, c3, c4, c5, c6, c7, c8, c9, c10⟩ := B.out.eleven
  go_enter Try.func97, Try.ntmps97
  go_wp2_with fail
  go_ret2
  exact ⟨rfl, below_alloc hb⟩
set_option maxHeartbeats 20000000 in
theorem laySys_17 (fn rd rs1 rs2 : Int) (im : BitVec 64) (size : Int) (sgn word useImm : Bool) (csr : Int) (r : BitVec 32 × Int) (w : World) :
    Calls Try.prog 97 #[.agg #[.int .i64 17, .int .i64 fn, .int .i64 rd, .int .i64 rs1, .int .i64 rs2, .int .u64 (im.toNat : Int), .int .i64 size, .bool sgn, .bool word, .bool useImm, .int .i64 csr]] w fun e w' => e = .returned (.tuple #[.int .u32 273678451, .int .i64 0]) ∧ Below w.heap.size w w' := by
  have hb := Below.refl (w.alloc (.cells #[.int .i64 17, .int .i64 fn, .int .i64 rd, .int .i64 rs1, .int .i64 rs2, .int .u64 (im.toNat : Int), .int .i64 size, .bool sgn, .bool word, .bool useImm, .int .i64 csr] 44)).heap.size (w.alloc (.cells #[.int .i64 17, .int .i64 fn, .int .i64 rd, .int .i64 rs1, .int .i64 rs2, .int .u64 (im.toNat : Int), .int .i64 size, .bool sgn, .bool word, .bool useImm, .int .i64 csr] 44))
  have B := Lib.hid (Box.new w [.int .i64 17, .int .i64 fn, .int .i64 rd, .int .i64 rs1, .int .i64 rs2, .int .u64 (im.toNat : Int), .int .i64 size, .bool sgn, .bool word, .bool useImm, .int .i64 csr] 44)
  obtain ⟨c0, c1, c2, c3, c4, c5, c6, c7, c8, c9, c10⟩ := B.out.eleven
  go_enter Try.func97, Try.ntmps97
  go_wp2_with fail
  go_ret2
  exact ⟨rfl, below_alloc hb⟩
set_option maxHeartbeats 20000000 in
theorem laySys_12 (fn rd rs1 rs2 : Int) (im : BitVec 64) (size : Int) (sgn word useImm : Bool) (csr : Int) (r : BitVec 32 × Int) (cX : Hid (Mk Try.prog 29 #[.int .i64 15, .int .i64 0, .int .i64 1, .int .i64 0, .int .i64 0] (.tuple #[.int .u32 (r.1.toNat : Int), .int .i64 r.2]))) (w : World) :
    Calls Try.prog 97 #[.agg #[.int .i64 12, .int .i64 fn, .int .i64 rd, .int .i64 rs1, .int .i64 rs2, .int .u64 (im.toNat : Int), .int .i64 size, .bool sgn, .bool word, .bool useImm, .int .i64 csr]] w fun e w' => e = .returned (.tuple #[.int .u32 (r.1.toNat : Int), .int .i64 r.2]) ∧ Below w.heap.size w w' := by
  have hb := Below.refl (w.alloc (.cells #[.int .i64 12, .int .i64 fn, .int .i64 rd, .int .i64 rs1, .int .i64 rs2, .int .u64 (im.toNat : Int), .int .i64 size, .bool sgn, .bool word, .bool useImm, .int .i64 csr] 44)).heap.size (w.alloc (.cells #[.int .i64 12, .int .i64 fn, .int .i64 rd, .int .i64 rs1, .int .i64 rs2, .int .u64 (im.toNat : Int), .int .i64 size, .bool sgn, .bool word, .bool useImm, .int .i64 csr] 44))
  have B := Lib.hid (Box.new w [.int .i64 12, .int .i64 fn, .int .i64 rd, .int .i64 rs1, .int .i64 rs2, .int .u64 (im.toNat : Int), .int .i64 size, .bool sgn, .bool word, .bool useImm, .int .i64 csr] 44)
  obtain ⟨c0, c1, c2, c3, c4, c5, c6, c7, c8, c9, c10⟩ := B.out.eleven
  go_enter Try.func97, Try.ntmps97
  go_wp2_with (go_at_call 29; refine ((cX.out).at hb).mono ?_; clear hb c0 c1 c2 c3 c4 c5 c6 c7 c8 c9 c10; rintro e w1 ⟨rfl, hb⟩; obtain ⟨c0, c1, c2, c3, c4, c5, c6, c7, c8, c9, c10⟩ := (B.out.below hb).eleven)
  go_ret2
  exact ⟨rfl, below_alloc hb⟩
set_option maxHeartbeats 20000000 in
theorem laySys_18 (fn rd rs1 rs2 : Int) (im : BitVec 64) (size : Int) (sgn word useImm : Bool) (csr : Int) (r : BitVec 32 × Int) (cX : Hid (Mk Try.prog 21 #[.int .i64 115, .int .i64 0, .int .i64 0, .int .i64 rs1, .int .i64 rs2, .int .i64 9] (.tuple #[.int .u32 (r.1.toNat : Int), .int .i64 r.2]))) (w : World) :
    Calls Try.prog 97 #[.agg #[.int .i64 18, .int .i64 fn, .int .i64 rd, .int .i64 rs1, .int .i64 rs2, .int .u64 (im.toNat : Int), .int .i64 size, .bool sgn, .bool word, .bool useImm, .int .i64 csr]] w fun e w' => e = .returned (.tuple #[.int .u32 (r.1.toNat : Int), .int .i64 r.2]) ∧ Below w.heap.size w w' := by
  have hb := Below.refl (w.alloc (.cells #[.int .i64 18, .int .i64 fn, .int .i64 rd, .int .i64 rs1, .int .i64 rs2, .int .u64 (im.toNat : Int), .int .i64 size, .bool sgn, .bool word, .bool useImm, .int .i64 csr] 44)).heap.size (w.alloc (.cells #[.int .i64 18, .int .i64 fn, .int .i64 rd, .int .i64 rs1, .int .i64 rs2, .int .u64 (im.toNat : Int), .int .i64 size, .bool sgn, .bool word, .bool useImm, .int .i64 csr] 44))
  have B := Lib.hid (Box.new w [.int .i64 18, .int .i64 fn, .int .i64 rd, .int .i64 rs1, .int .i64 rs2, .int .u64 (im.toNat : Int), .int .i64 size, .bool sgn, .bool word, .bool useImm, .int .i64 csr] 44)
  obtain ⟨c0, c1, c2, c3, c4, c5, c6, c7, c8, c9, c10⟩ := B.out.eleven
  go_enter Try.func97, Try.ntmps97
  go_wp2_with (go_at_call 21; refine ((cX.out).at hb).mono ?_; clear hb c0 c1 c2 c3 c4 c5 c6 c7 c8 c9 c10; rintro e w1 ⟨rfl, hb⟩; obtain ⟨c0, c1, c2, c3, c4, c5, c6, c7, c8, c9, c10⟩ := (B.out.below hb).eleven)
  go_ret2
  exact ⟨rfl, below_alloc hb⟩
set_option maxHeartbeats 20000000 in
theorem laySys_19_true_lo (fn rd rs1 rs2 : Int) (im : BitVec 64) (size : Int) (sgn word : Bool) (csr : Int) (r : BitVec 32 × Int) (g : Int) (hg : IntKind.i64.wrap (fn + 4) = g) (hg2 : wrap64 (fn + 4) = g) (h1 : csr < 0) (w : World) :
    Calls Try.prog 97 #[.agg #[.int .i64 19, .int .i64 fn, .int .i64 rd, .int .i64 rs1, .int .i64 rs2, .int .u64 (im.toNat : Int), .int .i64 size, .bool sgn, .bool word, .bool true, .int .i64 csr]] w fun e w' => e = .returned (.tuple #[.int .u32 0, .int .i64 7]) ∧ Below w.heap.size w w' := by
  have hb := Below.refl (w.alloc (.cells #[.int .i64 19, .int .i64 fn, .int .i64 rd, .int .i64 rs1, .int .i64 rs2, .int .u64 (im.toNat : Int), .int .i64 size, .bool sgn, .bool word, .bool true, .int .i64 csr] 44)).heap.size (w.alloc (.cells #[.int .i64 19, .int .i64 fn, .int .i64 rd, .int .i64 rs1, .int .i64 rs2, .int .u64 (im.toNat : Int), .int .i64 size, .bool sgn, .bool word, .bool true, .int .i64 csr] 44))
  have B := Lib.hid (Box.new w [.int .i64 19, .int .i64 fn, .int .i64 rd, .int .i64 rs1, .int .i64 rs2, .int .u64 (im.toNat : Int), .int .i64 size, .bool sgn, .bool word, .bool true, .int .i64 csr] 44)
  obtain ⟨c0, c1, c2, c3, c4, c5, c6, c7, c8, c9, c10⟩ := B.out.eleven
  go_enter Try.func97, Try.ntmps97
  go_wp2_with fail
  go_ret2
  exact ⟨rfl, below_alloc hb⟩
set_option maxHeartbeats 20000000 in
theorem laySys_19_true_hi (fn rd rs1 rs2 : Int) (im : BitVec 64) (size : Int) (sgn word : Bool) (csr : Int) (r : BitVec 32 × Int) (g : Int) (hg : IntKind.i64.wrap (fn + 4) = g) (hg2 : wrap64 (fn + 4) = g) (h1 : ¬ csr < 0) (h2 : 4095 < csr) (w : World) :
    Calls Try.prog 97 #[.agg #[.int .i64 19, .int .i64 fn, .int .i64 rd, .int .i64 rs1, .int .i64 rs2, .int .u64 (im.toNat : Int), .int .i64 size, .bool sgn, .bool word, .bool true, .int .i64 csr]] w fun e w' => e = .returned (.tuple #[.int .u32 0, .int .i64 7]) ∧ Below w.heap.size w w' := by
  have hb := Below.refl (w.alloc (.cells #[.int .i64 19, .int .i64 fn, .int .i64 rd, .int .i64 rs1, .int .i64 rs2, .int .u64 (im.toNat : Int), .int .i64 size, .bool sgn, .bool word, .bool true, .int .i64 csr] 44)).heap.size (w.alloc (.cells #[.int .i64 19, .int .i64 fn, .int .i64 rd, .int .i64 rs1, .int .i64 rs2, .int .u64 (im.toNat : Int), .int .i64 size, .bool sgn, .bool word, .bool true, .int .i64 csr] 44))
  have B := Lib.hid (Box.new w [.int .i64 19, .int .i64 fn, .int .i64 rd, .int .i64 rs1, .int .i64 rs2, .int .u64 (im.toNat : Int), .int .i64 size, .bool sgn, .bool word, .bool true, .int .i64 csr] 44)
  obtain ⟨c0, c1, c2, c3, c4, c5, c6, c7, c8, c9, c10⟩ := B.out.eleven
  go_enter Try.func97, Try.ntmps97
  go_wp2_with fail
  go_ret2
  exact ⟨rfl, below_alloc hb⟩
set_option maxHeartbeats 20000000 in
theorem laySys_19_true (fn rd rs1 rs2 : Int) (im : BitVec 64) (size : Int) (sgn word : Bool) (csr : Int) (r : BitVec 32 × Int) (g : Int) (hg : IntKind.i64.wrap (fn + 4) = g) (hg2 : wrap64 (fn + 4) = g) (h1 : ¬ csr < 0) (h2 : ¬ 4095 < csr) (b : Int) (hb31 : bits .and .i64 csr 31 = b) (cX : Hid (Mk Try.prog 21 #[.int .i64 115, .int .i64 rd, .int .i64 g, .int .i64 rs1, .int .i64 b, .int .i64 (csr / 32)] (.tuple #[.int .u32 (r.1.toNat : Int), .int .i64 r.2]))) (w : World) :
    Calls Try.prog 97 #[.agg #[.int .i64 19, .int .i64 fn, .int .i64 rd, .int .i64 rs1, .int .i64 rs2, .int .u64 (im.toNat : Int), .int .i64 size, .bool sgn, .bool word, .bool true, .int .i64 csr]] w fun e w' => e = .returned (.tuple #[.int .u32 (r.1.toNat : Int), .int .i64 r.2]) ∧ Below w.heap.size w w' := by
  have hb := Below.refl (w.alloc (.cells #[.int .i64 19, .int .i64 fn, .int .i64 rd, .int .i64 rs1, .int .i64 rs2, .int .u64 (im.toNat : Int), .int .i64 size, .bool sgn, .bool word, .bool true, .int .i64 csr] 44)).heap.size (w.alloc (.cells #[.int .i64 19, .int .i64 fn, .int .i64 rd, .int .i64 rs1, .int .i64 rs2, .int .u64 (im.toNat : Int), .int .i64 size, .bool sgn, .bool word, .bool true, .int .i64 csr] 44))
  have B := Lib.hid (Box.new w [.int .i64 19, .int .i64 fn, .int .i64 rd, .int .i64 rs1, .int .i64 rs2, .int .u64 (im.toNat : Int), .int .i64 size, .bool sgn, .bool word, .bool true, .int .i64 csr] 44)
  obtain ⟨c0, c1, c2, c3, c4, c5, c6, c7, c8, c9, c10⟩ := B.out.eleven
  go_enter Try.func97, Try.ntmps97
  go_wp2_with (go_at_call 21; refine ((cX.out).at hb).mono ?_; clear hb c0 c1 c2 c3 c4 c5 c6 c7 c8 c9 c10; rintro e w1 ⟨rfl, hb⟩; obtain ⟨c0, c1, c2, c3, c4, c5, c6, c7, c8, c9, c10⟩ := (B.out.below hb).eleven)
  go_ret2
  exact ⟨rfl, below_alloc hb⟩
set_option maxHeartbeats 20000000 in
theorem laySys_19_false_lo (fn rd rs1 rs2 : Int) (im : BitVec 64) (size : Int) (sgn word : Bool) (csr : Int) (r : BitVec 32 × Int) (h1 : csr < 0) (w : World) :
    Calls Try.prog 97 #[.agg #[.int .i64 19, .int .i64 fn, .int .i64 rd, .int .i64 rs1, .int .i64 rs2, .int .u64 (im.toNat : Int), .int .i64 size, .bool sgn, .bool word, .bool false, .int .i64 csr]] w fun e w' => e = .returned (.tuple #[.int .u32 0, .int .i64 7]) ∧ Below w.heap.size w w' := by
  have hb := Below.refl (w.alloc (.cells #[.int .i64 19, .int .i64 fn, .int .i64 rd, .int .i64 rs1, .int .i64 rs2, .int .u64 (im.toNat : Int), .int .i64 size, .bool sgn, .bool word, .bool false, .int .i64 csr] 44)).heap.size (w.alloc (.cells #[.int .i64 19, .int .i64 fn, .int .i64 rd, .int .i64 rs1, .int .i64 rs2, .int .u64 (im.toNat : Int), .int .i64 size, .bool sgn, .bool word, .bool false, .int .i64 csr] 44))
  have B := Lib.hid (Box.new w [.int .i64 19, .int .i64 fn, .int .i64 rd, .int .i64 rs1, .int .i64 rs2, .int .u64 (im.toNat : Int), .int .i64 size, .bool sgn, .bool word, .bool false, .int .i64 csr] 44)
  obtain ⟨c0, c1, c2, c3, c4, c5, c6, c7, c8, c9, c10⟩ := B.out.eleven
  go_enter Try.func97, Try.ntmps97
  go_wp2_with fail
  go_ret2
  exact ⟨rfl, below_alloc hb⟩
set_option maxHeartbeats 20000000 in
theorem laySys_19_false_hi (fn rd rs1 rs2 : Int) (im : BitVec 64) (size : Int) (sgn word : Bool) (csr : Int) (r : BitVec 32 × Int) (h1 : ¬ csr < 0) (h2 : 4095 < csr) (w : World) :
    Calls Try.prog 97 #[.agg #[.int .i64 19, .int .i64 fn, .int .i64 rd, .int .i64 rs1, .int .i64 rs2, .int .u64 (im.toNat : Int), .int .i64 size, .bool sgn, .bool word, .bool false, .int .i64 csr]] w fun e w' => e = .returned (.tuple #[.int .u32 0, .int .i64 7]) ∧ Below w.heap.size w w' := by
  have hb := Below.refl (w.alloc (.cells #[.int .i64 19, .int .i64 fn, .int .i64 rd, .int .i64 rs1, .int .i64 rs2, .int .u64 (im.toNat : Int), .int .i64 size, .bool sgn, .bool word, .bool false, .int .i64 csr] 44)).heap.size (w.alloc (.cells #[.int .i64 19, .int .i64 fn, .int .i64 rd, .int .i64 rs1, .int .i64 rs2, .int .u64 (im.toNat : Int), .int .i64 size, .bool sgn, .bool word, .bool false, .int .i64 csr] 44))
  have B := Lib.hid (Box.new w [.int .i64 19, .int .i64 fn, .int .i64 rd, .int .i64 rs1, .int .i64 rs2, .int .u64 (im.toNat : Int), .int .i64 size, .bool sgn, .bool word, .bool false, .int .i64 csr] 44)
  obtain ⟨c0, c1, c2, c3, c4, c5, c6, c7, c8, c9, c10⟩ := B.out.eleven
  go_enter Try.func97, Try.ntmps97
  go_wp2_with fail
  go_ret2
  exact ⟨rfl, below_alloc hb⟩
set_option maxHeartbeats 20000000 in
theorem laySys_19_false (fn rd rs1 rs2 : Int) (im : BitVec 64) (size : Int) (sgn word : Bool) (csr : Int) (r : BitVec 32 × Int) (h1 : ¬ csr < 0) (h2 : ¬ 4095 < csr) (b : Int) (hb31 : bits .and .i64 csr 31 = b) (cX : Hid (Mk Try.prog 21 #[.int .i64 115, .int .i64 rd, .int .i64 fn, .int .i64 rs1, .int .i64 b, .int .i64 (csr / 32)] (.tuple #[.int .u32 (r.1.toNat : Int), .int .i64 r.2]))) (w : World) :
    Calls Try.prog 97 #[.agg #[.int .i64 19, .int .i64 fn, .int .i64 rd, .int .i64 rs1, .int .i64 rs2, .int .u64 (im.toNat : Int), .int .i64 size, .bool sgn, .bool word, .bool false, .int .i64 csr]] w fun e w' => e = .returned (.tuple #[.int .u32 (r.1.toNat : Int), .int .i64 r.2]) ∧ Below w.heap.size w w' := by
  have hb := Below.refl (w.alloc (.cells #[.int .i64 19, .int .i64 fn, .int .i64 rd, .int .i64 rs1, .int .i64 rs2, .int .u64 (im.toNat : Int), .int .i64 size, .bool sgn, .bool word, .bool false, .int .i64 csr] 44)).heap.size (w.alloc (.cells #[.int .i64 19, .int .i64 fn, .int .i64 rd, .int .i64 rs1, .int .i64 rs2, .int .u64 (im.toNat : Int), .int .i64 size, .bool sgn, .bool word, .bool false, .int .i64 csr] 44))
  have B := Lib.hid (Box.new w [.int .i64 19, .int .i64 fn, .int .i64 rd, .int .i64 rs1, .int .i64 rs2, .int .u64 (im.toNat : Int), .int .i64 size, .bool sgn, .bool word, .bool false, .int .i64 csr] 44)
  obtain ⟨c0, c1, c2, c3, c4, c5, c6, c7, c8, c9, c10⟩ := B.out.eleven
  go_enter Try.func97, Try.ntmps97
  go_wp2_with (go_at_call 21; refine ((cX.out).at hb).mono ?_; clear hb c0 c1 c2 c3 c4 c5 c6 c7 c8 c9 c10; rintro e w1 ⟨rfl, hb⟩; obtain ⟨c0, c1, c2, c3, c4, c5, c6, c7, c8, c9, c10⟩ := (B.out.below hb).eleven)
  go_ret2
  exact ⟨rfl, below_alloc hb⟩
set_option maxHeartbeats 20000000 in
theorem laySys_no (op fn rd rs1 rs2 : Int) (im : BitVec 64) (size : Int) (sgn word useImm : Bool) (csr : Int) (r : BitVec 32 × Int) (f11 : (op == 11) = false) (f12 : (op == 12) = false) (f13 : (op == 13) = false) (f14 : (op == 14) = false) (f15 : (op == 15) = false) (f16 : (op == 16) = false) (f17 : (op == 17) = false) (f18 : (op == 18) = false) (f19 : (op == 19) = false) (w : World) :
    Calls Try.prog 97 #[.agg #[.int .i64 op, .int .i64 fn, .int .i64 rd, .int .i64 rs1, .int .i64 rs2, .int .u64 (im.toNat : Int), .int .i64 size, .bool sgn, .bool word, .bool useImm, .int .i64 csr]] w fun e w' => e = .returned (.tuple #[.int .u32 0, .int .i64 7]) ∧ Below w.heap.size w w' := by
  have hb := Below.refl (w.alloc (.cells #[.int .i64 op, .int .i64 fn, .int .i64 rd, .int .i64 rs1, .int .i64 rs2, .int .u64 (im.toNat : Int), .int .i64 size, .bool sgn, .bool word, .bool useImm, .int .i64 csr] 44)).heap.size (w.alloc (.cells #[.int .i64 op, .int .i64 fn, .int .i64 rd, .int .i64 rs1, .int .i64 rs2, .int .u64 (im.toNat : Int), .int .i64 size, .bool sgn, .bool word, .bool useImm, .int .i64 csr] 44))
  have B := Lib.hid (Box.new w [.int .i64 op, .int .i64 fn, .int .i64 rd, .int .i64 rs1, .int .i64 rs2, .int .u64 (im.toNat : Int), .int .i64 size, .bool sgn, .bool word, .bool useImm, .int .i64 csr] 44)
  obtain ⟨c0, c1, c2, c3, c4, c5, c6, c7, c8, c9, c10⟩ := B.out.eleven
  go_enter Try.func97, Try.ntmps97
  go_wp2_with fail
  go_ret2
  exact ⟨rfl, below_alloc hb⟩
end
end Go.Proofs.Ytnhbekgmameeaaa
