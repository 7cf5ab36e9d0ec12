/- Contract: the document's Decode. -/
import Derived.Test.YtnhbekgmameeaaaRdRA
import Derived.Test.YtnhbekgmameeaaaRdOne
import Derived.Test.YtnhbekgmameeaaaRdImm
import Derived.Test.YtnhbekgmameeaaaRdSys
namespace Go.Proofs.Ytnhbekgmameeaaa
open Go.RowKit Wd
set_option linter.unusedVariables false
set_option linter.unusedSimpArgs false
attribute [local go_sem] loadI_lit loadI_ins storeI_lit storeI_insR rowI_alloc rowI_drew rowI_drewN rowI_setRow rowI_setCell setRow_allocJ
attribute [local go_sem ↓] loadI_run storeK_eq
attribute [local go_sem] storeK_run storeK_one storeF_int storeK_storeI_insR
set_option maxRecDepth 8000
theorem quarter (v : BitVec 32) : wrap64 (((fieldI v 31 25 : Nat) : Int).tdiv 4) = ((fieldI v 31 25 / 4 : Nat) : Int) := by
  have := (small_of v).f7
  unfold wrap64
  rw [Int.tdiv_eq_ediv_of_nonneg (by omega)]
  omega
theorem one_any (v : BitVec 32) (w : World) : Calls Try.prog 71 #[.int .u32 (v.toNat : Int)] w (InsB (decW v) w) := by
  have l3 : fieldI v 14 12 < 8 := by have := (small_of v).f3; omega
  have cO := Lib.hid (rOpcode_any v).mk
  have c3 := Lib.hid (rFunct3_any v).mk
  have cd := Lib.hid (rRd_any v).mk
  have ca := Lib.hid (rRs1_any v).mk
  have cb := Lib.hid (rRs2_any v).mk
  have c7 := Lib.hid (rFunct7_any v).mk
  have iU : Mk Try.prog 87 #[.int .u32 (v.toNat : Int), .int .u8 85] (.int .u64 ((immP v psU 32).toNat : Int)) := by rw [sameU]; exact rimmU_any v
  have iJ : Mk Try.prog 87 #[.int .u32 (v.toNat : Int), .int .u8 74] (.int .u64 ((immP v psJ 21).toNat : Int)) := by rw [sameJ]; exact rimmJ_any v
  have iB : Mk Try.prog 87 #[.int .u32 (v.toNat : Int), .int .u8 66] (.int .u64 ((immP v psB 13).toNat : Int)) := by rw [sameB]; exact rimmB_any v
  have iS : Mk Try.prog 87 #[.int .u32 (v.toNat : Int), .int .u8 83] (.int .u64 ((immP v psS 12).toNat : Int)) := by rw [sameS]; exact rimmS_any v
  have iI := immR_I v
  by_cases h : fieldI v 6 0 = 55
  · exact one_55 v _ _ _ _ h (Lib.hid rfl) (Lib.hid rfl) (Lib.hid rfl) l3 cO c3 cd ca cb c7 (Lib.hid iU) w
  have n0 := h
  clear h
  by_cases h : fieldI v 6 0 = 23
  · exact one_23 v _ _ _ _ h (Lib.hid rfl) (Lib.hid rfl) (Lib.hid rfl) l3 cO c3 cd ca cb c7 (Lib.hid iU) w
  have n1 := h
  clear h
  by_cases h : fieldI v 6 0 = 111
  · exact one_111 v _ _ _ _ h (Lib.hid rfl) (Lib.hid rfl) (Lib.hid rfl) l3 cO c3 cd ca cb c7 (Lib.hid iJ) w
  have n2 := h
  clear h
  by_cases h : fieldI v 6 0 = 103
  · exact one_103 v _ _ _ _ h (Lib.hid rfl) (Lib.hid rfl) (Lib.hid rfl) l3 cO c3 cd ca cb c7 (Lib.hid iI) w
  have n3 := h
  clear h
  by_cases h : fieldI v 6 0 = 99
  · exact one_99 v _ _ _ _ h (Lib.hid rfl) (Lib.hid rfl) (Lib.hid rfl) l3 cO c3 cd ca cb c7 (Lib.hid iB) w
  have n4 := h
  clear h
  by_cases h : fieldI v 6 0 = 3
  · exact one_3 v _ _ _ _ h (Lib.hid rfl) (Lib.hid rfl) (Lib.hid rfl) l3 cO c3 cd ca cb c7 (Lib.hid iI) w
  have n5 := h
  clear h
  by_cases h : fieldI v 6 0 = 35
  · exact one_35 v _ _ _ _ h (Lib.hid rfl) (Lib.hid rfl) (Lib.hid rfl) l3 cO c3 cd ca cb c7 (Lib.hid iS) w
  have n6 := h
  clear h
  by_cases h : fieldI v 6 0 = 19
  · exact one_19 v _ _ _ _ h (Lib.hid rfl) (Lib.hid rfl) (Lib.hid rfl) l3 cO c3 cd ca cb c7 (Lib.hid fun w => (rimm_any v w).1 h) w
  have n7 := h
  clear h
  by_cases h : fieldI v 6 0 = 27
  · exact one_27 v _ _ _ _ h (Lib.hid rfl) (Lib.hid rfl) (Lib.hid rfl) l3 cO c3 cd ca cb c7 (Lib.hid fun w => (rimm_any v w).2 h) w
  have n8 := h
  clear h
  by_cases h : fieldI v 6 0 = 51
  · exact one_51 v _ _ _ _ h (Lib.hid rfl) (Lib.hid rfl) (Lib.hid rfl) l3 cO c3 cd ca cb c7 (Lib.hid fun w => by
      have := rreg_at false (fieldI v 14 12) (fieldI v 31 25) (fieldI v 11 7) (fieldI v 19 15) (fieldI v 24 20) _ _ (Lib.hid rfl) (Lib.hid rfl) l3 w
      unfold regD
      rw [h]
      exact this) w
  have n9 := h
  clear h
  by_cases h : fieldI v 6 0 = 59
  · exact one_59 v _ _ _ _ h (Lib.hid rfl) (Lib.hid rfl) (Lib.hid rfl) l3 cO c3 cd ca cb c7 (Lib.hid fun w => by
      have := rreg_at true (fieldI v 14 12) (fieldI v 31 25) (fieldI v 11 7) (fieldI v 19 15) (fieldI v 24 20) _ _ (Lib.hid rfl) (Lib.hid rfl) l3 w
      unfold regD
      rw [h]
      exact this) w
  have n10 := h
  clear h
  by_cases h : fieldI v 6 0 = 15
  · exact one_15 v _ _ _ _ h (Lib.hid rfl) (Lib.hid rfl) (Lib.hid rfl) l3 cO c3 cd ca cb c7 w
  have n11 := h
  clear h
  by_cases h : fieldI v 6 0 = 47
  · exact one_47 v _ _ _ _ h (Lib.hid rfl) (Lib.hid rfl) (Lib.hid rfl) l3 cO c3 cd ca cb c7 (Lib.hid fun w => ramo_at (fieldI v 14 12) (fieldI v 31 25 / 4) (fieldI v 11 7) (fieldI v 19 15) (fieldI v 24 20) _ _ (Lib.hid rfl) (Lib.hid (quarter v)) l3 w) w
  have n12 := h
  clear h
  by_cases h : fieldI v 6 0 = 115
  · exact one_115 v _ _ _ _ h (Lib.hid rfl) (Lib.hid rfl) (Lib.hid rfl) l3 cO c3 cd ca cb c7 (Lib.hid fun w => rsys_any v (fieldI v 11 7) (fieldI v 19 15) (fieldI v 24 20) (fieldI v 14 12) (fieldI v 31 25) l3 w) w
  have n13 := h
  clear h
  exact one_no v _ _ _ _ (by omega) (Lib.hid rfl) (Lib.hid rfl) (Lib.hid rfl) l3 cO c3 cd ca cb c7 w
theorem rdecode_any (v : BitVec 32) : Mk Try.prog 41 #[.int .u32 (v.toNat : Int)] (.agg (insC (decW v))) := by
  intro w
  go_enter Try.func41, Try.ntmps41
  go_wp2_with fail
  refine (one_any v _).mono ?_
  rintro e w1 ⟨i, b, rfl, hP, hb1⟩
  obtain ⟨r0, BB⟩ := one_block hb1
  have hlt := rowI_lt r0
  have n1 : ¬ w.heap.size = w1.heap.size := by omega
  have n2 : ¬ w1.heap.size = w.heap.size := by omega
  have n4 : w.heap.size < w1.heap.size := hlt
  replace hlt := Lib.hid (Nat.le_of_lt hlt)
  replace BB := Lib.hid BB
  clear hb1
  cases b with
  | true =>
    have hi := Lib.hid (show i = decW v from hP)
    clear hP
    go_wp2_with fail
    refine ret_ins (b := w.heap.size) (cs := insC i) rfl rfl (by simp only [rowI_setRow, if_true, rowI_alloc, setRow_size, n1, if_false, r0, Option.map_some]) rfl rfl ⟨by rw [hi.out], ?_⟩
    repeat (first | exact BB.out | exact hlt.out | refine below_row ?_ _ (Nat.le_refl _) _ | refine Below.alloc ?_ (by simp; exact hlt.out) _)
  | false =>
    have hi := Lib.hid (show noI = decW v from hP)
    clear hP
    go_wp2_with fail
    refine ret_ins (b := w.heap.size) (cs := insC noI) rfl rfl (by simp only [rowI_setRow, if_true, rowI_alloc, setRow_size, n1, if_false, r0, Option.map_some]; rfl) rfl rfl ⟨by rw [hi.out], ?_⟩
    repeat (first | exact BB.out | exact hlt.out | refine below_row ?_ _ (Nat.le_refl _) _ | refine Below.alloc ?_ (by simp; exact hlt.out) _)
end Go.Proofs.Ytnhbekgmameeaaa
