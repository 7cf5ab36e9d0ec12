/- Contract: package decode's Decode; which instruction any word is. -/
import Derived.Test.YtnhbekgmameeaaaDecX1
import Derived.Test.YtnhbekgmameeaaaDecX2
import Derived.Test.YtnhbekgmameeaaaDecX3
import Derived.Test.YtnhbekgmameeaaaDecAmo
namespace Go.Proofs.Ytnhbekgmameeaaa
open Go.RowKit Wd
theorem decode_any (v : BitVec 32) : Mk Try.prog 40 #[.int .u32 (v.toNat : Int)] (.agg (insC (decW v))) := by
  intro w
  have l3 : fieldI v 14 12 < 8 := by have := (small_of v).f3; omega
  have cO := Lib.hid (pOpcode_any v).mk
  have c3 := Lib.hid (pFunct3_any v).mk
  have cd := Lib.hid (pRd_any v).mk
  have ca := Lib.hid (pRs1_any v).mk
  have cb := Lib.hid (pRs2_any v).mk
  by_cases h : fieldI v 6 0 = 55
  · exact decode_55 v _ _ _ h (Lib.hid rfl) (Lib.hid rfl) l3 cO c3 cd ca cb (Lib.hid (immU_any v)) w
  have n1 := h
  clear h
  by_cases h : fieldI v 6 0 = 23
  · exact decode_23 v _ _ _ h (Lib.hid rfl) (Lib.hid rfl) l3 cO c3 cd ca cb (Lib.hid (immU_any v)) w
  have n2 := h
  clear h
  by_cases h : fieldI v 6 0 = 111
  · exact decode_111 v _ _ _ h (Lib.hid rfl) (Lib.hid rfl) l3 cO c3 cd ca cb (Lib.hid (immJ_any v)) w
  have n3 := h
  clear h
  by_cases h : fieldI v 6 0 = 103
  · exact decode_103 v _ _ _ h (Lib.hid rfl) (Lib.hid rfl) l3 cO c3 cd ca cb (Lib.hid (immI_any v)) w
  have n4 := h
  clear h
  by_cases h : fieldI v 6 0 = 99
  · exact decode_99 v _ _ _ h (Lib.hid rfl) (Lib.hid rfl) l3 cO c3 cd ca cb (Lib.hid (immB_any v)) w
  have n5 := h
  clear h
  by_cases h : fieldI v 6 0 = 3
  · have hf : fieldI v 14 12 = 0 ∨ fieldI v 14 12 = 1 ∨ fieldI v 14 12 = 2 ∨ fieldI v 14 12 = 3 ∨ fieldI v 14 12 = 4 ∨ fieldI v 14 12 = 5 ∨ fieldI v 14 12 = 6 ∨ fieldI v 14 12 = 7 := by omega
    rcases hf with k | k | k | k | k | k | k | k
    · exact decode_3_0 v _ _ _ h k (Lib.hid rfl) (Lib.hid rfl) l3 cO c3 cd ca cb (Lib.hid (immI_any v)) w
    · exact decode_3_1 v _ _ _ h k (Lib.hid rfl) (Lib.hid rfl) l3 cO c3 cd ca cb (Lib.hid (immI_any v)) w
    · exact decode_3_2 v _ _ _ h k (Lib.hid rfl) (Lib.hid rfl) l3 cO c3 cd ca cb (Lib.hid (immI_any v)) w
    · exact decode_3_3 v _ _ _ h k (Lib.hid rfl) (Lib.hid rfl) l3 cO c3 cd ca cb (Lib.hid (immI_any v)) w
    · exact decode_3_4 v _ _ _ h k (Lib.hid rfl) (Lib.hid rfl) l3 cO c3 cd ca cb (Lib.hid (immI_any v)) w
    · exact decode_3_5 v _ _ _ h k (Lib.hid rfl) (Lib.hid rfl) l3 cO c3 cd ca cb (Lib.hid (immI_any v)) w
    · exact decode_3_6 v _ _ _ h k (Lib.hid rfl) (Lib.hid rfl) l3 cO c3 cd ca cb (Lib.hid (immI_any v)) w
    · exact decode_3_7 v _ _ _ h k (Lib.hid rfl) (Lib.hid rfl) l3 cO c3 cd ca cb (Lib.hid (immI_any v)) w
  have n6 := h
  clear h
  by_cases h : fieldI v 6 0 = 35
  · exact decode_35 v _ _ _ h (Lib.hid rfl) (Lib.hid rfl) l3 cO c3 cd ca cb (Lib.hid (immS_any v)) w
  have n7 := h
  clear h
  by_cases h : fieldI v 6 0 = 19
  · exact decode_19 v _ _ _ h (Lib.hid rfl) (Lib.hid rfl) l3 cO c3 cd ca cb (Lib.hid (immediate_any v)) w
  have n8 := h
  clear h
  by_cases h : fieldI v 6 0 = 27
  · exact decode_27 v _ _ _ h (Lib.hid rfl) (Lib.hid rfl) l3 cO c3 cd ca cb (Lib.hid (immediate_any v)) w
  have n9 := h
  clear h
  by_cases h : fieldI v 6 0 = 51
  · exact decode_51 v _ _ _ h (Lib.hid rfl) (Lib.hid rfl) l3 cO c3 cd ca cb (Lib.hid (registers_any v)) w
  have n10 := h
  clear h
  by_cases h : fieldI v 6 0 = 59
  · exact decode_59 v _ _ _ h (Lib.hid rfl) (Lib.hid rfl) l3 cO c3 cd ca cb (Lib.hid (registers_any v)) w
  have n11 := h
  clear h
  by_cases h : fieldI v 6 0 = 15
  · exact decode_15 v _ _ _ h (Lib.hid rfl) (Lib.hid rfl) l3 cO c3 cd ca cb w
  have n12 := h
  clear h
  by_cases h : fieldI v 6 0 = 47
  · exact decode_47 v _ _ _ h (Lib.hid rfl) (Lib.hid rfl) l3 cO c3 cd ca cb (Lib.hid (atomic_any v)) w
  have n13 := h
  clear h
  by_cases h : fieldI v 6 0 = 115
  · exact decode_115 v _ _ _ h (Lib.hid rfl) (Lib.hid rfl) l3 cO c3 cd ca cb (Lib.hid (system_any v)) w
  exact decode_no v _ _ _ (by omega) (Lib.hid rfl) (Lib.hid rfl) l3 cO c3 cd ca cb w
end Go.Proofs.Ytnhbekgmameeaaa
