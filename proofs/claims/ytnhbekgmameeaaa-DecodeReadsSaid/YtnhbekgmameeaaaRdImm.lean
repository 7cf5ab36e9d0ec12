/- Contract: the document's imm. -/
import Derived.Test.YtnhbekgmameeaaaIns4
import Derived.Test.YtnhbekgmameeaaaShapeRef
import Derived.Test.YtnhbekgmameeaaaShapeSame
import Derived.Test.YtnhbekgmameeaaaDecBackPlain
import Derived.Test.YtnhbekgmameeaaaAndL
import Derived.Test.YtnhbekgmameeaaaRdSys
namespace Go.Proofs.Ytnhbekgmameeaaa
open Go.RowKit Wd
set_option linter.unusedVariables false
set_option linter.unusedSimpArgs false
attribute [local go_sem] loadI_lit loadI_ins storeI_lit rowI_alloc rowI_drew rowI_drewN rowI_setRow rowI_setCell setRow_allocJ and_L
attribute [local go_sem ↓] loadI_run storeK_eq
attribute [local go_sem] storeK_run storeK_one storeF_int
set_option maxRecDepth 8000
theorem wrap_word (v : BitVec 64) : IntKind.u64.wrap (v.toNat : Int) = (v.toNat : Int) := by
  have := v.isLt
  rw [w64, of64]
attribute [local go_sem] wrap_word
theorem and_pow_low (n k : Nat) (hn : n < 4096) (hk : k = 31 ∨ k = 63) : bits .and .i64 (n : Int) (k : Int) = ((n % (k + 1) : Nat) : Int) := by
  have h1 : BitVec.ofInt 64 (n : Int) = BitVec.ofNat 64 n := by rw [BitVec.ofInt_natCast]
  have h2 : BitVec.ofInt 64 (k : Int) = BitVec.ofNat 64 k := by rw [BitVec.ofInt_natCast]
  show IntKind.i64.wrap ((BitVec.ofInt 64 (n : Int) &&& BitVec.ofInt 64 (k : Int)).toNat : Int) = _
  rw [h1, h2, BitVec.toNat_and, BitVec.toNat_ofNat, BitVec.toNat_ofNat, Nat.mod_eq_of_lt (by omega), Nat.mod_eq_of_lt (by omega)]
  have : n &&& k = n % (k + 1) := by
    rcases hk with rfl | rfl
    · exact Nat.and_two_pow_sub_one_eq_mod n 5
    · exact Nat.and_two_pow_sub_one_eq_mod n 6
  rw [this]
  rcases hk with rfl | rfl
  · rw [IntWalk.i64_in _ (by omega)]
  · rw [IntWalk.i64_in _ (by omega)]
set_option maxHeartbeats 40000000 in
theorem rimm_false (x : Int) (f3 f7 rd rs1 s : Nat) (imm : BitVec 64) (hs : s < 4096) (hs7 : s / 32 = f7) (him : f7 < 64 → imm.toNat = s) (g3 gs : Int) (e3 : Hid (g3 = (f3 : Int))) (es : Hid (gs = (s : Int))) (h3 : f3 < 8)
    (c3 : Hid (Mk Try.prog 84 #[.int .u32 x] (.int .i64 g3))) (cd : Hid (Mk Try.prog 81 #[.int .u32 x] (.int .i64 (rd : Nat)))) (ca : Hid (Mk Try.prog 82 #[.int .u32 x] (.int .i64 (rs1 : Nat)))) (ci : Hid (Mk Try.prog 87 #[.int .u32 x, .int .u8 73] (.int .u64 (imm.toNat : Int)))) (cB : Hid (Qt Try.prog 112 #[.int .u32 x, .int .i64 31, .int .i64 20] (.int .i64 gs))) (w : World) :
    Calls Try.prog 88 #[.int .u32 x, .bool false, .int .i64 63] w (InsB (immN false f3 f7 rd rs1 imm (imm &&& 63#64)) w) := by
  replace hs7 := Lib.hid hs7
  replace him := Lib.hid him
  have b1 : 0 ≤ gs := by rw [es.out]; omega
  have b2 : gs < 4096 := by rw [es.out]; omega
  obtain ⟨u, hu⟩ : ∃ u : BitVec 64, u = BitVec.ofNat 64 (s % 64) := ⟨_, rfl⟩
  have hand : bits .and .i64 gs 63 = (u.toNat : Int) := by
    rw [hu, es.out, BitVec.toNat_ofNat, Nat.mod_eq_of_lt (by omega)]
    exact and_pow_low s 63 hs (by omega)
  replace hu := Lib.hid hu
  go_enter Try.func88, Try.ntmps88
  go_wp2_with fail
  refine (c3.out _).mono ?_
  rintro e w1 ⟨rfl, hb1⟩
  go_wp2_with fail
  refine (cd.out _).mono ?_
  rintro e w2 ⟨rfl, hb2⟩
  go_wp2_with fail
  refine (ca.out _).mono ?_
  rintro e w3 ⟨rfl, hb3⟩
  go_wp2_with fail
  refine (ci.out _).mono ?_
  rintro e w4 ⟨rfl, hb4⟩
  have B2 := hb1.trans (hb2.mono hb1.size)
  have B3 := B2.trans (hb3.mono B2.size)
  have B4 := B3.trans (hb4.mono B3.size)
  clear hb1 hb2 hb3 hb4 B2 B3 c3 cd ca ci
  have hf : f3 = 0 ∨ f3 = 1 ∨ f3 = 2 ∨ f3 = 3 ∨ f3 = 4 ∨ f3 = 5 ∨ f3 = 6 ∨ f3 = 7 := by omega
  clear h3
  rcases hf with rfl | rfl | rfl | rfl | rfl | rfl | rfl | rfl
  all_goals
    have e := e3.out
    simp at e
    subst e
    clear e3
  · have hr := Lib.hid (show ⟨8, (0 : Nat), (rd : Nat), (rs1 : Nat), 0, imm, 0, false, false, false, 0⟩ = immN false 0 f7 rd rs1 imm (imm &&& 63#64) from by unfold immN; rw [if_neg (by simp), if_neg (by simp), if_neg (by simp)]; rfl)
    obtain ⟨r0, BB⟩ := one_block B4
    have hlt := rowI_lt r0
    have n1 : ¬ w.heap.size = w4.heap.size := by omega
    have n2 : ¬ w4.heap.size = w.heap.size := by omega
    have n4 : w.heap.size < w4.heap.size := hlt
    replace hlt := Lib.hid (Nat.le_of_lt hlt)
    replace BB := Lib.hid BB
    clear B4 hand b1 b2 cB
    go_wp2_with fail
    refine ret_insb (b := w.heap.size) (cs := insC ⟨8, (0 : Nat), (rd : Nat), (rs1 : Nat), 0, imm, 0, false, false, false, 0⟩) (v := .bool true) rfl rfl rfl (by simp only [rowI_setRow, if_true, rowI_alloc, setRow_size, n1, if_false, r0, Option.map_some]; rfl) rfl rfl (insB_eq (insB_yes rfl (by repeat (first | exact BB.out | exact hlt.out | refine below_row ?_ _ (Nat.le_refl _) _ | refine Below.alloc ?_ (by simp; exact hlt.out) _))) hr.out)
  · go_wp2_with fail
    refine (cB.out _).mono ?_
    rintro e w5 ⟨rfl, hq⟩
    obtain ⟨q0, q1, cc, cf, n1, n2, n3, BB⟩ := two_blocks B4 (hq.below _)
    replace BB := Lib.hid BB
    replace n3 := Lib.hid n3
    clear B4 hq cB
    by_cases d0 : s ≤ 63
    · have hby : u = imm &&& 63#64 := by rw [hu.out]; apply BitVec.eq_of_toNat_eq; rw [by_nat, BitVec.toNat_ofNat, him.out (by have := hs7.out; omega)]; have := hs7.out; omega
      have d1 : gs ≤ 63 := by rw [es.out]; omega
      have hr := Lib.hid (show ⟨8, (1 : Nat), (rd : Nat), (rs1 : Nat), 0, u, 0, false, false, false, 0⟩ = immN false 1 f7 rd rs1 imm (imm &&& 63#64) from by rw [hby]; unfold immN; rw [if_pos (by have := hs7.out; simp; omega)]; rfl)
      clear him hs7 hby
      go_wp2_with fail
      refine ret_insb (b := w.heap.size) (cs := insC ⟨8, (1 : Nat), (rd : Nat), (rs1 : Nat), 0, u, 0, false, false, false, 0⟩) (v := .bool true) rfl rfl rfl (by simp only [rowI_setRow, if_true, rowI_setCell, n1, if_false, q0, Option.map_some]; rfl) rfl rfl (insB_eq (insB_yes rfl (below_row (by repeat (first | exact BB.out | refine below_setCell ?_ _ _ _ n3.out)) _ (Nat.le_refl _) _)) hr.out)
    · have d1 : ¬ gs ≤ 63 := by rw [es.out]; omega
      have hr := Lib.hid (show noI = immN false 1 f7 rd rs1 imm (imm &&& 63#64) from by have := hs7.out; unfold immN; rw [if_neg (by simp; omega), if_neg (by simp), if_neg (by simp), if_neg (by omega), if_pos (by omega)])
      clear him hs7
      go_wp2_with fail
      refine ret_insb (b := w.heap.size) (cs := insC ⟨8, (1 : Nat), (rd : Nat), (rs1 : Nat), 0, u, 0, false, false, false, 0⟩) (v := .bool false) rfl rfl rfl (by simp only [rowI_setRow, if_true, rowI_setCell, n1, if_false, q0, Option.map_some]; rfl) rfl rfl (insB_eq (insB_no ⟨8, (1 : Nat), (rd : Nat), (rs1 : Nat), 0, u, 0, false, false, false, 0⟩ rfl (below_row (by repeat (first | exact BB.out | refine below_setCell ?_ _ _ _ n3.out)) _ (Nat.le_refl _) _)) hr.out)
  · have hr := Lib.hid (show ⟨8, (2 : Nat), (rd : Nat), (rs1 : Nat), 0, imm, 0, false, false, false, 0⟩ = immN false 2 f7 rd rs1 imm (imm &&& 63#64) from by unfold immN; rw [if_neg (by simp), if_neg (by simp), if_neg (by simp)]; rfl)
    obtain ⟨r0, BB⟩ := one_block B4
    have hlt := rowI_lt r0
    have n1 : ¬ w.heap.size = w4.heap.size := by omega
    have n2 : ¬ w4.heap.size = w.heap.size := by omega
    have n4 : w.heap.size < w4.heap.size := hlt
    replace hlt := Lib.hid (Nat.le_of_lt hlt)
    replace BB := Lib.hid BB
    clear B4 hand b1 b2 cB
    go_wp2_with fail
    refine ret_insb (b := w.heap.size) (cs := insC ⟨8, (2 : Nat), (rd : Nat), (rs1 : Nat), 0, imm, 0, false, false, false, 0⟩) (v := .bool true) rfl rfl rfl (by simp only [rowI_setRow, if_true, rowI_alloc, setRow_size, n1, if_false, r0, Option.map_some]; rfl) rfl rfl (insB_eq (insB_yes rfl (by repeat (first | exact BB.out | exact hlt.out | refine below_row ?_ _ (Nat.le_refl _) _ | refine Below.alloc ?_ (by simp; exact hlt.out) _))) hr.out)
  · have hr := Lib.hid (show ⟨8, (3 : Nat), (rd : Nat), (rs1 : Nat), 0, imm, 0, false, false, false, 0⟩ = immN false 3 f7 rd rs1 imm (imm &&& 63#64) from by unfold immN; rw [if_neg (by simp), if_neg (by simp), if_neg (by simp)]; rfl)
    obtain ⟨r0, BB⟩ := one_block B4
    have hlt := rowI_lt r0
    have n1 : ¬ w.heap.size = w4.heap.size := by omega
    have n2 : ¬ w4.heap.size = w.heap.size := by omega
    have n4 : w.heap.size < w4.heap.size := hlt
    replace hlt := Lib.hid (Nat.le_of_lt hlt)
    replace BB := Lib.hid BB
    clear B4 hand b1 b2 cB
    go_wp2_with fail
    refine ret_insb (b := w.heap.size) (cs := insC ⟨8, (3 : Nat), (rd : Nat), (rs1 : Nat), 0, imm, 0, false, false, false, 0⟩) (v := .bool true) rfl rfl rfl (by simp only [rowI_setRow, if_true, rowI_alloc, setRow_size, n1, if_false, r0, Option.map_some]; rfl) rfl rfl (insB_eq (insB_yes rfl (by repeat (first | exact BB.out | exact hlt.out | refine below_row ?_ _ (Nat.le_refl _) _ | refine Below.alloc ?_ (by simp; exact hlt.out) _))) hr.out)
  · have hr := Lib.hid (show ⟨8, (4 : Nat), (rd : Nat), (rs1 : Nat), 0, imm, 0, false, false, false, 0⟩ = immN false 4 f7 rd rs1 imm (imm &&& 63#64) from by unfold immN; rw [if_neg (by simp), if_neg (by simp), if_neg (by simp)]; rfl)
    obtain ⟨r0, BB⟩ := one_block B4
    have hlt := rowI_lt r0
    have n1 : ¬ w.heap.size = w4.heap.size := by omega
    have n2 : ¬ w4.heap.size = w.heap.size := by omega
    have n4 : w.heap.size < w4.heap.size := hlt
    replace hlt := Lib.hid (Nat.le_of_lt hlt)
    replace BB := Lib.hid BB
    clear B4 hand b1 b2 cB
    go_wp2_with fail
    refine ret_insb (b := w.heap.size) (cs := insC ⟨8, (4 : Nat), (rd : Nat), (rs1 : Nat), 0, imm, 0, false, false, false, 0⟩) (v := .bool true) rfl rfl rfl (by simp only [rowI_setRow, if_true, rowI_alloc, setRow_size, n1, if_false, r0, Option.map_some]; rfl) rfl rfl (insB_eq (insB_yes rfl (by repeat (first | exact BB.out | exact hlt.out | refine below_row ?_ _ (Nat.le_refl _) _ | refine Below.alloc ?_ (by simp; exact hlt.out) _))) hr.out)
  · go_wp2_with fail
    refine (cB.out _).mono ?_
    rintro e w5 ⟨rfl, hq⟩
    obtain ⟨q0, q1, cc, cf, n1, n2, n3, BB⟩ := two_blocks B4 (hq.below _)
    replace BB := Lib.hid BB
    replace n3 := Lib.hid n3
    clear B4 hq cB
    by_cases d0 : s ≤ 63
    · have hby : u = imm &&& 63#64 := by rw [hu.out]; apply BitVec.eq_of_toNat_eq; rw [by_nat, BitVec.toNat_ofNat, him.out (by have := hs7.out; omega)]; have := hs7.out; omega
      have d1 : gs ≤ 63 := by rw [es.out]; omega
      have hr := Lib.hid (show ⟨8, (5 : Nat), (rd : Nat), (rs1 : Nat), 0, u, 0, false, false, false, 0⟩ = immN false 5 f7 rd rs1 imm (imm &&& 63#64) from by rw [hby]; unfold immN; rw [if_neg (by simp), if_pos (by have := hs7.out; simp; omega)]; rfl)
      clear him hs7 hby
      go_wp2_with fail
      refine ret_insb (b := w.heap.size) (cs := insC ⟨8, (5 : Nat), (rd : Nat), (rs1 : Nat), 0, u, 0, false, false, false, 0⟩) (v := .bool true) rfl rfl rfl (by simp only [rowI_setRow, if_true, rowI_setCell, n1, if_false, q0, Option.map_some]; rfl) rfl rfl (insB_eq (insB_yes rfl (below_row (by repeat (first | exact BB.out | refine below_setCell ?_ _ _ _ n3.out)) _ (Nat.le_refl _) _)) hr.out)
    · have d1 : ¬ gs ≤ 63 := by rw [es.out]; omega
      have hsub : IntKind.i64.wrap (gs - 1024) = gs - 1024 := IntWalk.i64_in _ (by omega)
      by_cases d2 : 1024 ≤ s ∧ s ≤ 1087
      · have d3 : 0 ≤ gs - 1024 := by rw [es.out]; omega
        have d4 : gs - 1024 ≤ 63 := by rw [es.out]; omega
        have hby : u = imm &&& 63#64 := by rw [hu.out]; apply BitVec.eq_of_toNat_eq; rw [by_nat, BitVec.toNat_ofNat, him.out (by have := hs7.out; omega)]; have := hs7.out; omega
        have hr := Lib.hid (show ⟨8, (13 : Nat), (rd : Nat), (rs1 : Nat), 0, u, 0, false, false, false, 0⟩ = immN false 5 f7 rd rs1 imm (imm &&& 63#64) from by have := hs7.out; rw [hby]; unfold immN; rw [if_neg (by simp), if_neg (by simp; omega), if_pos (by simp; omega)]; rfl)
        clear him hs7 hby
        go_wp2_with fail
        refine ret_insb (b := w.heap.size) (cs := insC ⟨8, (13 : Nat), (rd : Nat), (rs1 : Nat), 0, u, 0, false, false, false, 0⟩) (v := .bool true) rfl rfl rfl (by simp only [rowI_setRow, if_true, rowI_setCell, n1, if_false, q0, Option.map_some]; rfl) rfl rfl (insB_eq (insB_yes rfl (below_row (by repeat (first | exact BB.out | refine below_setCell ?_ _ _ _ n3.out)) _ (Nat.le_refl _) _)) hr.out)
      · have d5 : gs < 1024 ∨ 1087 < gs := by rw [es.out]; omega
        rcases d5 with d5 | d5
        · have d3 : ¬ 0 ≤ gs - 1024 := by omega
          have hr := Lib.hid (show noI = immN false 5 f7 rd rs1 imm (imm &&& 63#64) from by have := hs7.out; unfold immN; rw [if_neg (by simp), if_neg (by simp; omega), if_neg (by simp; omega), if_neg (by omega), if_pos (by omega)])
          clear him hs7
          go_wp2_with fail
          refine ret_insb (b := w.heap.size) (cs := insC ⟨8, (5 : Nat), (rd : Nat), (rs1 : Nat), 0, u, 0, false, false, false, 0⟩) (v := .bool false) rfl rfl rfl (by simp only [rowI_setRow, if_true, rowI_setCell, n1, if_false, q0, Option.map_some]; rfl) rfl rfl (insB_eq (insB_no ⟨8, (5 : Nat), (rd : Nat), (rs1 : Nat), 0, u, 0, false, false, false, 0⟩ rfl (below_row (by repeat (first | exact BB.out | refine below_setCell ?_ _ _ _ n3.out)) _ (Nat.le_refl _) _)) hr.out)
        · have d3 : 0 ≤ gs - 1024 := by omega
          have d4 : ¬ gs - 1024 ≤ 63 := by omega
          have hr := Lib.hid (show noI = immN false 5 f7 rd rs1 imm (imm &&& 63#64) from by have := hs7.out; unfold immN; rw [if_neg (by simp), if_neg (by simp; omega), if_neg (by simp; omega), if_neg (by omega), if_pos (by omega)])
          clear him hs7
          go_wp2_with fail
          refine ret_insb (b := w.heap.size) (cs := insC ⟨8, (5 : Nat), (rd : Nat), (rs1 : Nat), 0, u, 0, false, false, false, 0⟩) (v := .bool false) rfl rfl rfl (by simp only [rowI_setRow, if_true, rowI_setCell, n1, if_false, q0, Option.map_some]; rfl) rfl rfl (insB_eq (insB_no ⟨8, (5 : Nat), (rd : Nat), (rs1 : Nat), 0, u, 0, false, false, false, 0⟩ rfl (below_row (by repeat (first | exact BB.out | refine below_setCell ?_ _ _ _ n3.out)) _ (Nat.le_refl _) _)) hr.out)
  · have hr := Lib.hid (show ⟨8, (6 : Nat), (rd : Nat), (rs1 : Nat), 0, imm, 0, false, false, false, 0⟩ = immN false 6 f7 rd rs1 imm (imm &&& 63#64) from by unfold immN; rw [if_neg (by simp), if_neg (by simp), if_neg (by simp)]; rfl)
    obtain ⟨r0, BB⟩ := one_block B4
    have hlt := rowI_lt r0
    have n1 : ¬ w.heap.size = w4.heap.size := by omega
    have n2 : ¬ w4.heap.size = w.heap.size := by omega
    have n4 : w.heap.size < w4.heap.size := hlt
    replace hlt := Lib.hid (Nat.le_of_lt hlt)
    replace BB := Lib.hid BB
    clear B4 hand b1 b2 cB
    go_wp2_with fail
    refine ret_insb (b := w.heap.size) (cs := insC ⟨8, (6 : Nat), (rd : Nat), (rs1 : Nat), 0, imm, 0, false, false, false, 0⟩) (v := .bool true) rfl rfl rfl (by simp only [rowI_setRow, if_true, rowI_alloc, setRow_size, n1, if_false, r0, Option.map_some]; rfl) rfl rfl (insB_eq (insB_yes rfl (by repeat (first | exact BB.out | exact hlt.out | refine below_row ?_ _ (Nat.le_refl _) _ | refine Below.alloc ?_ (by simp; exact hlt.out) _))) hr.out)
  · have hr := Lib.hid (show ⟨8, (7 : Nat), (rd : Nat), (rs1 : Nat), 0, imm, 0, false, false, false, 0⟩ = immN false 7 f7 rd rs1 imm (imm &&& 63#64) from by unfold immN; rw [if_neg (by simp), if_neg (by simp), if_neg (by simp)]; rfl)
    obtain ⟨r0, BB⟩ := one_block B4
    have hlt := rowI_lt r0
    have n1 : ¬ w.heap.size = w4.heap.size := by omega
    have n2 : ¬ w4.heap.size = w.heap.size := by omega
    have n4 : w.heap.size < w4.heap.size := hlt
    replace hlt := Lib.hid (Nat.le_of_lt hlt)
    replace BB := Lib.hid BB
    clear B4 hand b1 b2 cB
    go_wp2_with fail
    refine ret_insb (b := w.heap.size) (cs := insC ⟨8, (7 : Nat), (rd : Nat), (rs1 : Nat), 0, imm, 0, false, false, false, 0⟩) (v := .bool true) rfl rfl rfl (by simp only [rowI_setRow, if_true, rowI_alloc, setRow_size, n1, if_false, r0, Option.map_some]; rfl) rfl rfl (insB_eq (insB_yes rfl (by repeat (first | exact BB.out | exact hlt.out | refine below_row ?_ _ (Nat.le_refl _) _ | refine Below.alloc ?_ (by simp; exact hlt.out) _))) hr.out)
set_option maxHeartbeats 40000000 in
theorem rimm_true (x : Int) (f3 f7 rd rs1 s : Nat) (imm : BitVec 64) (hs : s < 4096) (hs7 : s / 32 = f7) (him : f7 < 64 → imm.toNat = s) (g3 gs : Int) (e3 : Hid (g3 = (f3 : Int))) (es : Hid (gs = (s : Int))) (h3 : f3 < 8)
    (c3 : Hid (Mk Try.prog 84 #[.int .u32 x] (.int .i64 g3))) (cd : Hid (Mk Try.prog 81 #[.int .u32 x] (.int .i64 (rd : Nat)))) (ca : Hid (Mk Try.prog 82 #[.int .u32 x] (.int .i64 (rs1 : Nat)))) (ci : Hid (Mk Try.prog 87 #[.int .u32 x, .int .u8 73] (.int .u64 (imm.toNat : Int)))) (cB : Hid (Qt Try.prog 112 #[.int .u32 x, .int .i64 31, .int .i64 20] (.int .i64 gs))) (w : World) :
    Calls Try.prog 88 #[.int .u32 x, .bool true, .int .i64 31] w (InsB (immN true f3 f7 rd rs1 imm (imm &&& 63#64)) w) := by
  replace hs7 := Lib.hid hs7
  replace him := Lib.hid him
  have b1 : 0 ≤ gs := by rw [es.out]; omega
  have b2 : gs < 4096 := by rw [es.out]; omega
  obtain ⟨u, hu⟩ : ∃ u : BitVec 64, u = BitVec.ofNat 64 (s % 32) := ⟨_, rfl⟩
  have hand : bits .and .i64 gs 31 = (u.toNat : Int) := by
    rw [hu, es.out, BitVec.toNat_ofNat, Nat.mod_eq_of_lt (by omega)]
    exact and_pow_low s 31 hs (by omega)
  replace hu := Lib.hid hu
  go_enter Try.func88, Try.ntmps88
  go_wp2_with fail
  refine (c3.out _).mono ?_
  rintro e w1 ⟨rfl, hb1⟩
  go_wp2_with fail
  refine (cd.out _).mono ?_
  rintro e w2 ⟨rfl, hb2⟩
  go_wp2_with fail
  refine (ca.out _).mono ?_
  rintro e w3 ⟨rfl, hb3⟩
  go_wp2_with fail
  refine (ci.out _).mono ?_
  rintro e w4 ⟨rfl, hb4⟩
  have B2 := hb1.trans (hb2.mono hb1.size)
  have B3 := B2.trans (hb3.mono B2.size)
  have B4 := B3.trans (hb4.mono B3.size)
  clear hb1 hb2 hb3 hb4 B2 B3 c3 cd ca ci
  have hf : f3 = 0 ∨ f3 = 1 ∨ f3 = 2 ∨ f3 = 3 ∨ f3 = 4 ∨ f3 = 5 ∨ f3 = 6 ∨ f3 = 7 := by omega
  clear h3
  rcases hf with rfl | rfl | rfl | rfl | rfl | rfl | rfl | rfl
  all_goals
    have e := e3.out
    simp at e
    subst e
    clear e3
  · have hr := Lib.hid (show ⟨8, (0 : Nat), (rd : Nat), (rs1 : Nat), 0, imm, 0, false, true, false, 0⟩ = immN true 0 f7 rd rs1 imm (imm &&& 63#64) from by unfold immN; rw [if_neg (by simp), if_neg (by simp), if_neg (by simp)]; rfl)
    obtain ⟨r0, BB⟩ := one_block B4
    have hlt := rowI_lt r0
    have n1 : ¬ w.heap.size = w4.heap.size := by omega
    have n2 : ¬ w4.heap.size = w.heap.size := by omega
    have n4 : w.heap.size < w4.heap.size := hlt
    replace hlt := Lib.hid (Nat.le_of_lt hlt)
    replace BB := Lib.hid BB
    clear B4 hand b1 b2 cB
    go_wp2_with fail
    refine ret_insb (b := w.heap.size) (cs := insC ⟨8, (0 : Nat), (rd : Nat), (rs1 : Nat), 0, imm, 0, false, true, false, 0⟩) (v := .bool true) rfl rfl rfl (by simp only [rowI_setRow, if_true, rowI_alloc, setRow_size, n1, if_false, r0, Option.map_some]; rfl) rfl rfl (insB_eq (insB_yes rfl (by repeat (first | exact BB.out | exact hlt.out | refine below_row ?_ _ (Nat.le_refl _) _ | refine Below.alloc ?_ (by simp; exact hlt.out) _))) hr.out)
  · go_wp2_with fail
    refine (cB.out _).mono ?_
    rintro e w5 ⟨rfl, hq⟩
    obtain ⟨q0, q1, cc, cf, n1, n2, n3, BB⟩ := two_blocks B4 (hq.below _)
    replace BB := Lib.hid BB
    replace n3 := Lib.hid n3
    clear B4 hq cB
    by_cases d0 : s ≤ 31
    · have hby : u = imm &&& 63#64 := by rw [hu.out]; apply BitVec.eq_of_toNat_eq; rw [by_nat, BitVec.toNat_ofNat, him.out (by have := hs7.out; omega)]; have := hs7.out; omega
      have d1 : gs ≤ 31 := by rw [es.out]; omega
      have hr := Lib.hid (show ⟨8, (1 : Nat), (rd : Nat), (rs1 : Nat), 0, u, 0, false, true, false, 0⟩ = immN true 1 f7 rd rs1 imm (imm &&& 63#64) from by rw [hby]; unfold immN; rw [if_pos (by have := hs7.out; simp; omega)]; rfl)
      clear him hs7 hby
      go_wp2_with fail
      refine ret_insb (b := w.heap.size) (cs := insC ⟨8, (1 : Nat), (rd : Nat), (rs1 : Nat), 0, u, 0, false, true, false, 0⟩) (v := .bool true) rfl rfl rfl (by simp only [rowI_setRow, if_true, rowI_setCell, n1, if_false, q0, Option.map_some]; rfl) rfl rfl (insB_eq (insB_yes rfl (below_row (by repeat (first | exact BB.out | refine below_setCell ?_ _ _ _ n3.out)) _ (Nat.le_refl _) _)) hr.out)
    · have d1 : ¬ gs ≤ 31 := by rw [es.out]; omega
      have hr := Lib.hid (show noI = immN true 1 f7 rd rs1 imm (imm &&& 63#64) from by have := hs7.out; unfold immN; rw [if_neg (by simp; omega), if_neg (by simp), if_neg (by simp), if_neg (by omega), if_pos (by omega)])
      clear him hs7
      go_wp2_with fail
      refine ret_insb (b := w.heap.size) (cs := insC ⟨8, (1 : Nat), (rd : Nat), (rs1 : Nat), 0, u, 0, false, true, false, 0⟩) (v := .bool false) rfl rfl rfl (by simp only [rowI_setRow, if_true, rowI_setCell, n1, if_false, q0, Option.map_some]; rfl) rfl rfl (insB_eq (insB_no ⟨8, (1 : Nat), (rd : Nat), (rs1 : Nat), 0, u, 0, false, true, false, 0⟩ rfl (below_row (by repeat (first | exact BB.out | refine below_setCell ?_ _ _ _ n3.out)) _ (Nat.le_refl _) _)) hr.out)
  · have hr := Lib.hid (show noI = immN true 2 f7 rd rs1 imm (imm &&& 63#64) from by unfold immN; rw [if_neg (by simp), if_neg (by simp), if_neg (by simp)]; rfl)
    obtain ⟨r0, BB⟩ := one_block B4
    have hlt := rowI_lt r0
    have n1 : ¬ w.heap.size = w4.heap.size := by omega
    have n2 : ¬ w4.heap.size = w.heap.size := by omega
    have n4 : w.heap.size < w4.heap.size := hlt
    replace hlt := Lib.hid (Nat.le_of_lt hlt)
    replace BB := Lib.hid BB
    clear B4 hand b1 b2 cB
    go_wp2_with fail
    refine ret_insb (b := w.heap.size) (cs := insC ⟨8, (2 : Nat), (rd : Nat), (rs1 : Nat), 0, imm, 0, false, true, false, 0⟩) (v := .bool false) rfl rfl rfl (by simp only [rowI_setRow, if_true, rowI_alloc, setRow_size, n1, if_false, r0, Option.map_some]; rfl) rfl rfl (insB_eq (insB_no ⟨8, (2 : Nat), (rd : Nat), (rs1 : Nat), 0, imm, 0, false, true, false, 0⟩ rfl (by repeat (first | exact BB.out | exact hlt.out | refine below_row ?_ _ (Nat.le_refl _) _ | refine Below.alloc ?_ (by simp; exact hlt.out) _))) hr.out)
  · have hr := Lib.hid (show noI = immN true 3 f7 rd rs1 imm (imm &&& 63#64) from by unfold immN; rw [if_neg (by simp), if_neg (by simp), if_neg (by simp)]; rfl)
    obtain ⟨r0, BB⟩ := one_block B4
    have hlt := rowI_lt r0
    have n1 : ¬ w.heap.size = w4.heap.size := by omega
    have n2 : ¬ w4.heap.size = w.heap.size := by omega
    have n4 : w.heap.size < w4.heap.size := hlt
    replace hlt := Lib.hid (Nat.le_of_lt hlt)
    replace BB := Lib.hid BB
    clear B4 hand b1 b2 cB
    go_wp2_with fail
    refine ret_insb (b := w.heap.size) (cs := insC ⟨8, (3 : Nat), (rd : Nat), (rs1 : Nat), 0, imm, 0, false, true, false, 0⟩) (v := .bool false) rfl rfl rfl (by simp only [rowI_setRow, if_true, rowI_alloc, setRow_size, n1, if_false, r0, Option.map_some]; rfl) rfl rfl (insB_eq (insB_no ⟨8, (3 : Nat), (rd : Nat), (rs1 : Nat), 0, imm, 0, false, true, false, 0⟩ rfl (by repeat (first | exact BB.out | exact hlt.out | refine below_row ?_ _ (Nat.le_refl _) _ | refine Below.alloc ?_ (by simp; exact hlt.out) _))) hr.out)
  · have hr := Lib.hid (show noI = immN true 4 f7 rd rs1 imm (imm &&& 63#64) from by unfold immN; rw [if_neg (by simp), if_neg (by simp), if_neg (by simp)]; rfl)
    obtain ⟨r0, BB⟩ := one_block B4
    have hlt := rowI_lt r0
    have n1 : ¬ w.heap.size = w4.heap.size := by omega
    have n2 : ¬ w4.heap.size = w.heap.size := by omega
    have n4 : w.heap.size < w4.heap.size := hlt
    replace hlt := Lib.hid (Nat.le_of_lt hlt)
    replace BB := Lib.hid BB
    clear B4 hand b1 b2 cB
    go_wp2_with fail
    refine ret_insb (b := w.heap.size) (cs := insC ⟨8, (4 : Nat), (rd : Nat), (rs1 : Nat), 0, imm, 0, false, true, false, 0⟩) (v := .bool false) rfl rfl rfl (by simp only [rowI_setRow, if_true, rowI_alloc, setRow_size, n1, if_false, r0, Option.map_some]; rfl) rfl rfl (insB_eq (insB_no ⟨8, (4 : Nat), (rd : Nat), (rs1 : Nat), 0, imm, 0, false, true, false, 0⟩ rfl (by repeat (first | exact BB.out | exact hlt.out | refine below_row ?_ _ (Nat.le_refl _) _ | refine Below.alloc ?_ (by simp; exact hlt.out) _))) hr.out)
  · go_wp2_with fail
    refine (cB.out _).mono ?_
    rintro e w5 ⟨rfl, hq⟩
    obtain ⟨q0, q1, cc, cf, n1, n2, n3, BB⟩ := two_blocks B4 (hq.below _)
    replace BB := Lib.hid BB
    replace n3 := Lib.hid n3
    clear B4 hq cB
    by_cases d0 : s ≤ 31
    · have hby : u = imm &&& 63#64 := by rw [hu.out]; apply BitVec.eq_of_toNat_eq; rw [by_nat, BitVec.toNat_ofNat, him.out (by have := hs7.out; omega)]; have := hs7.out; omega
      have d1 : gs ≤ 31 := by rw [es.out]; omega
      have hr := Lib.hid (show ⟨8, (5 : Nat), (rd : Nat), (rs1 : Nat), 0, u, 0, false, true, false, 0⟩ = immN true 5 f7 rd rs1 imm (imm &&& 63#64) from by rw [hby]; unfold immN; rw [if_neg (by simp), if_pos (by have := hs7.out; simp; omega)]; rfl)
      clear him hs7 hby
      go_wp2_with fail
      refine ret_insb (b := w.heap.size) (cs := insC ⟨8, (5 : Nat), (rd : Nat), (rs1 : Nat), 0, u, 0, false, true, false, 0⟩) (v := .bool true) rfl rfl rfl (by simp only [rowI_setRow, if_true, rowI_setCell, n1, if_false, q0, Option.map_some]; rfl) rfl rfl (insB_eq (insB_yes rfl (below_row (by repeat (first | exact BB.out | refine below_setCell ?_ _ _ _ n3.out)) _ (Nat.le_refl _) _)) hr.out)
    · have d1 : ¬ gs ≤ 31 := by rw [es.out]; omega
      have hsub : IntKind.i64.wrap (gs - 1024) = gs - 1024 := IntWalk.i64_in _ (by omega)
      by_cases d2 : 1024 ≤ s ∧ s ≤ 1055
      · have d3 : 0 ≤ gs - 1024 := by rw [es.out]; omega
        have d4 : gs - 1024 ≤ 31 := by rw [es.out]; omega
        have hby : u = imm &&& 63#64 := by rw [hu.out]; apply BitVec.eq_of_toNat_eq; rw [by_nat, BitVec.toNat_ofNat, him.out (by have := hs7.out; omega)]; have := hs7.out; omega
        have hr := Lib.hid (show ⟨8, (13 : Nat), (rd : Nat), (rs1 : Nat), 0, u, 0, false, true, false, 0⟩ = immN true 5 f7 rd rs1 imm (imm &&& 63#64) from by have := hs7.out; rw [hby]; unfold immN; rw [if_neg (by simp), if_neg (by simp; omega), if_pos (by simp; omega)]; rfl)
        clear him hs7 hby
        go_wp2_with fail
        refine ret_insb (b := w.heap.size) (cs := insC ⟨8, (13 : Nat), (rd : Nat), (rs1 : Nat), 0, u, 0, false, true, false, 0⟩) (v := .bool true) rfl rfl rfl (by simp only [rowI_setRow, if_true, rowI_setCell, n1, if_false, q0, Option.map_some]; rfl) rfl rfl (insB_eq (insB_yes rfl (below_row (by repeat (first | exact BB.out | refine below_setCell ?_ _ _ _ n3.out)) _ (Nat.le_refl _) _)) hr.out)
      · have d5 : gs < 1024 ∨ 1055 < gs := by rw [es.out]; omega
        rcases d5 with d5 | d5
        · have d3 : ¬ 0 ≤ gs - 1024 := by omega
          have hr := Lib.hid (show noI = immN true 5 f7 rd rs1 imm (imm &&& 63#64) from by have := hs7.out; unfold immN; rw [if_neg (by simp), if_neg (by simp; omega), if_neg (by simp; omega), if_neg (by omega), if_pos (by omega)])
          clear him hs7
          go_wp2_with fail
          refine ret_insb (b := w.heap.size) (cs := insC ⟨8, (5 : Nat), (rd : Nat), (rs1 : Nat), 0, u, 0, false, true, false, 0⟩) (v := .bool false) rfl rfl rfl (by simp only [rowI_setRow, if_true, rowI_setCell, n1, if_false, q0, Option.map_some]; rfl) rfl rfl (insB_eq (insB_no ⟨8, (5 : Nat), (rd : Nat), (rs1 : Nat), 0, u, 0, false, true, false, 0⟩ rfl (below_row (by repeat (first | exact BB.out | refine below_setCell ?_ _ _ _ n3.out)) _ (Nat.le_refl _) _)) hr.out)
        · have d3 : 0 ≤ gs - 1024 := by omega
          have d4 : ¬ gs - 1024 ≤ 31 := by omega
          have hr := Lib.hid (show noI = immN true 5 f7 rd rs1 imm (imm &&& 63#64) from by have := hs7.out; unfold immN; rw [if_neg (by simp), if_neg (by simp; omega), if_neg (by simp; omega), if_neg (by omega), if_pos (by omega)])
          clear him hs7
          go_wp2_with fail
          refine ret_insb (b := w.heap.size) (cs := insC ⟨8, (5 : Nat), (rd : Nat), (rs1 : Nat), 0, u, 0, false, true, false, 0⟩) (v := .bool false) rfl rfl rfl (by simp only [rowI_setRow, if_true, rowI_setCell, n1, if_false, q0, Option.map_some]; rfl) rfl rfl (insB_eq (insB_no ⟨8, (5 : Nat), (rd : Nat), (rs1 : Nat), 0, u, 0, false, true, false, 0⟩ rfl (below_row (by repeat (first | exact BB.out | refine below_setCell ?_ _ _ _ n3.out)) _ (Nat.le_refl _) _)) hr.out)
  · have hr := Lib.hid (show noI = immN true 6 f7 rd rs1 imm (imm &&& 63#64) from by unfold immN; rw [if_neg (by simp), if_neg (by simp), if_neg (by simp)]; rfl)
    obtain ⟨r0, BB⟩ := one_block B4
    have hlt := rowI_lt r0
    have n1 : ¬ w.heap.size = w4.heap.size := by omega
    have n2 : ¬ w4.heap.size = w.heap.size := by omega
    have n4 : w.heap.size < w4.heap.size := hlt
    replace hlt := Lib.hid (Nat.le_of_lt hlt)
    replace BB := Lib.hid BB
    clear B4 hand b1 b2 cB
    go_wp2_with fail
    refine ret_insb (b := w.heap.size) (cs := insC ⟨8, (6 : Nat), (rd : Nat), (rs1 : Nat), 0, imm, 0, false, true, false, 0⟩) (v := .bool false) rfl rfl rfl (by simp only [rowI_setRow, if_true, rowI_alloc, setRow_size, n1, if_false, r0, Option.map_some]; rfl) rfl rfl (insB_eq (insB_no ⟨8, (6 : Nat), (rd : Nat), (rs1 : Nat), 0, imm, 0, false, true, false, 0⟩ rfl (by repeat (first | exact BB.out | exact hlt.out | refine below_row ?_ _ (Nat.le_refl _) _ | refine Below.alloc ?_ (by simp; exact hlt.out) _))) hr.out)
  · have hr := Lib.hid (show noI = immN true 7 f7 rd rs1 imm (imm &&& 63#64) from by unfold immN; rw [if_neg (by simp), if_neg (by simp), if_neg (by simp)]; rfl)
    obtain ⟨r0, BB⟩ := one_block B4
    have hlt := rowI_lt r0
    have n1 : ¬ w.heap.size = w4.heap.size := by omega
    have n2 : ¬ w4.heap.size = w.heap.size := by omega
    have n4 : w.heap.size < w4.heap.size := hlt
    replace hlt := Lib.hid (Nat.le_of_lt hlt)
    replace BB := Lib.hid BB
    clear B4 hand b1 b2 cB
    go_wp2_with fail
    refine ret_insb (b := w.heap.size) (cs := insC ⟨8, (7 : Nat), (rd : Nat), (rs1 : Nat), 0, imm, 0, false, true, false, 0⟩) (v := .bool false) rfl rfl rfl (by simp only [rowI_setRow, if_true, rowI_alloc, setRow_size, n1, if_false, r0, Option.map_some]; rfl) rfl rfl (insB_eq (insB_no ⟨8, (7 : Nat), (rd : Nat), (rs1 : Nat), 0, imm, 0, false, true, false, 0⟩ rfl (by repeat (first | exact BB.out | exact hlt.out | refine below_row ?_ _ (Nat.le_refl _) _ | refine Below.alloc ?_ (by simp; exact hlt.out) _))) hr.out)
theorem immR_I (v : BitVec 32) : Mk Try.prog 87 #[.int .u32 (v.toNat : Int), .int .u8 73] (.int .u64 ((immP v psI 12).toNat : Int)) := by
  rw [sameI]
  exact rimmI_any v
theorem top_32 (v : BitVec 32) : v.toNat / 1048576 / 32 = fieldI v 31 25 := by
  have := word_top v
  have := (small_of v).rs2
  omega
theorem rimm_any (v : BitVec 32) (w : World) : (fieldI v 6 0 = 19 → Calls Try.prog 88 #[.int .u32 (v.toNat : Int), .bool false, .int .i64 63] w (InsB (immD v) w)) ∧
    (fieldI v 6 0 = 27 → Calls Try.prog 88 #[.int .u32 (v.toNat : Int), .bool true, .int .i64 31] w (InsB (immD v) w)) := by
  have S := small_of v
  have T := word_top v
  have hB : Qt Try.prog 112 #[.int .u32 (v.toNat : Int), .int .i64 31, .int .i64 20] (.int .i64 ((v.toNat / 1048576 : Nat) : Int)) := by
    have := rbits_any v 31 20
    rwa [field_top] at this
  have hlt := v.isLt
  refine ⟨fun h => ?_, fun h => ?_⟩
  · unfold immD
    rw [h]
    exact rimm_false _ _ _ _ _ (v.toNat / 1048576) _ (by omega) (top_32 v) (fun h7 => (immI_nat v h7).trans T.symm) _ _ (Lib.hid rfl) (Lib.hid rfl) S.f3 (Lib.hid (rFunct3_any v).mk) (Lib.hid (rRd_any v).mk) (Lib.hid (rRs1_any v).mk) (Lib.hid (immR_I v)) (Lib.hid hB) w
  · unfold immD
    rw [h]
    exact rimm_true _ _ _ _ _ (v.toNat / 1048576) _ (by omega) (top_32 v) (fun h7 => (immI_nat v h7).trans T.symm) _ _ (Lib.hid rfl) (Lib.hid rfl) S.f3 (Lib.hid (rFunct3_any v).mk) (Lib.hid (rRd_any v).mk) (Lib.hid (rRs1_any v).mk) (Lib.hid (immR_I v)) (Lib.hid hB) w
end Go.Proofs.Ytnhbekgmameeaaa
