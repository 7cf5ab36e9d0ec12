/- Contract of the document's walk: Got, by ways. -/
import Derived.Test.YthjhcdkbajbpdaaGoing
import Derived.RegionTactic
import Derived.ChangeAlike
namespace Go.Proofs.Ythjhcdkbajbpdaa
open Go.RowKit Wd
set_option linter.unusedVariables false
set_option linter.unusedSimpArgs false
set_option maxRecDepth 8000
namespace Wd
theorem gq_2 : IntKind.i64.wrap (2 - 2) = 0 := by decide
theorem gq_1 : IntKind.i64.wrap (2 - 1) = 1 := by decide
theorem gq_0 : IntKind.i64.wrap (2 - 0) = 2 := by decide
theorem gr_2 : IntKind.i64.wrap (2 - 1) = 1 := by decide
theorem gr_1 : IntKind.i64.wrap (1 - 1) = 0 := by decide
theorem gr_0 : IntKind.i64.wrap (0 - 1) = -1 := by decide
def pathG (s : Gs) (l : Nat) : Gs := match l with
  | 0 => ⟨s.va, s.lv, s.table, s.pl, s.p0, s.p1, atW s.table s.va 0, s.en, s.er, s.ov⟩
  | 1 => ⟨s.va, s.lv, s.table, s.pl, s.p0, atW s.table s.va 1, s.p2, s.en, s.er, s.ov⟩
  | l + 2 => ⟨s.va, s.lv, s.table, s.pl, atW s.table s.va (l + 2), s.p1, s.p2, s.en, s.er, s.ov⟩
def gotG (s : Gs) (l : Nat) (e : BitVec 64) (ok : Bool) : Gs :=
  if ok = false then endG s 6 else if mayW e = false then endG (pathG s l) 7 else if leafW e = true then
    (if (decide (0 < l) && (((zext (field e 53 10) (9 * (l : Int))).toNat : Int) != 0)) = true then endG (pathG s l) 7 else { pathG s l with pl := (l : Int), en := e, ov := true })
  else
    (if ((((andL e 208).toNat : Int) != 0) || decide (l = 0)) = true then endG { pathG s l with table := field e 53 10, lv := (l : Int) - 1 } 7 else { pathG s l with table := field e 53 10, lv := (l : Int) - 1 })
end Wd
attribute [local go_sem] and_L or_L clr_L shl_12 mul8_L add_L gp_0 gp_1 gp_2 gp_9 gp_18 gp_z gp_a12 gp_a21 gp_a30 gp_b20 gp_b29 gp_b38 gp_12 gp_21 gp_30 gp_20 gp_29 gp_38 gq_2 gq_1 gq_0 gr_1 gr_0

set_option maxHeartbeats 2000000 in
theorem got_hole0 (s : Gs) (b : Nat) (e : BitVec 64) (w : World) (hl : s.lv = 0) (h : Bk w b (gsC s) 87) : Calls Try.prog 55 #[.pointer (some ⟨b, 0, none⟩), .int .u64 (e.toNat : Int), .bool false] w fun e' w' =>
    e' = .returned (.tuple #[]) ∧ Bk w' b (gsC (gotG s 0 e false)) 87 ∧ Just [b] w w' := by
  have CA := Lib.hid (at_any s b 0 w hl (by omega) h)
  have hc1 := (gs_cells h).2.1
  rw [hl] at hc1
  have H := Lib.hid h
  have HL := Lib.hid hl
  clear h hl
  go_enter Try.func55, Try.ntmps55
  go_wp2_with fail
  refine CA.out.mono ?_
  rintro e1 w1 ⟨rfl, k, rfl⟩
  go_wp2_with fail
  go_wp2_with fail
  refine (end_any s b 6 _ (H.out.drewN k)).mono ?_
  rintro e4 w4 ⟨rfl, hb4, ho4⟩
  go_wp2_with fail
  first
    | refine bodyPost_end (results_none rfl _ _ _) rfl ?_
    | refine bodyPost_ret (results_none rfl _ _ _) rfl ?_
  refine ⟨rfl, ?_, ((Just.refl [b] w).drewN k).trans ho4 (fun x hx => .inl hx)⟩
  have e5 : gotG s 0 e false = endG s 6 := by simp [gotG]
  rw [e5]
  exact hb4
set_option maxHeartbeats 2000000 in
theorem got_may0 (s : Gs) (b : Nat) (e : BitVec 64) (w : World) (hl : s.lv = 0) (h : Bk w b (gsC s) 87) (hm : mayW e = false) : Calls Try.prog 55 #[.pointer (some ⟨b, 0, none⟩), .int .u64 (e.toNat : Int), .bool true] w fun e' w' =>
    e' = .returned (.tuple #[]) ∧ Bk w' b (gsC (gotG s 0 e true)) 87 ∧ Just [b] w w' := by
  have CA := Lib.hid (at_any s b 0 w hl (by omega) h)
  have hc1 := (gs_cells h).2.1
  rw [hl] at hc1
  have H := Lib.hid h
  have HL := Lib.hid hl
  clear h hl
  replace hm := Lib.hid hm
  go_enter Try.func55, Try.ntmps55
  go_wp2_with fail
  refine CA.out.mono ?_
  rintro e1 w1 ⟨rfl, k, rfl⟩
  go_wp2_with fail
  have fz := H.out.free 6
  obtain ⟨_, _, _, _, y4, y5, y6, _⟩ := gs_cells H.out
  go_region
  have hb1 : Bk ((w.drewN (k + 1)).setCell ⟨b, 6, none⟩ (.int .u64 ((atW s.table s.va 0).toNat : Int))) b (gsC (pathG s 0)) 87 := by
    have e0 : (gsC s).setIfInBounds 6 (.int .u64 ((atW s.table s.va 0).toNat : Int)) = gsC (pathG s 0) := by simp [gsC, pathG]
    rw [← e0]
    exact (H.out.drewN _).set 6 _
  have ho1 : Just [b] w ((w.drewN (k + 1)).setCell ⟨b, 6, none⟩ (.int .u64 ((atW s.table s.va 0).toNat : Int))) := ((Just.refl [b] w).drewN _).set (.inl (by simp)) 6 _
  have HB1 := Lib.hid hb1
  have HO1 := Lib.hid ho1
  clear hb1 ho1 hc1 fz y4 y5 y6
  generalize (w.drewN (k + 1)).setCell ⟨b, 6, none⟩ (.int .u64 ((atW s.table s.va 0).toNat : Int)) = W1 at HB1 HO1 ⊢
  have hlv : (pathG s 0).lv = 0 := HL.out
  obtain ⟨c0, c1, c2, c3, c4, c5, c6, c7, c8, c9⟩ := gs_cells HB1.out
  rw [hlv] at c1
  have hf : ∀ o, W1.frozen? ⟨b, o, none⟩ = false := HB1.out.free
  clear hlv
  go_wp2_with fail
  refine (rwmay_any e _).mono ?_
  rintro e3 w3 ⟨rfl, rfl⟩
  rw [hm.out]
  go_wp2_with fail
  refine (end_any (pathG s 0) b 7 _ HB1.out).mono ?_
  rintro e4 w4 ⟨rfl, hb4, ho4⟩
  go_wp2_with fail
  first
    | refine bodyPost_end (results_none rfl _ _ _) rfl ?_
    | refine bodyPost_ret (results_none rfl _ _ _) rfl ?_
  refine ⟨rfl, ?_, HO1.out.trans ho4 (fun x hx => .inl hx)⟩
  have e5 : gotG s 0 e true = endG (pathG s 0) 7 := by simp [gotG, hm.out]
  rw [e5]
  exact hb4
set_option maxHeartbeats 2000000 in
theorem got_leaf0 (s : Gs) (b : Nat) (e : BitVec 64) (w : World) (hl : s.lv = 0) (h : Bk w b (gsC s) 87) (hm : mayW e = true) (hlf : leafW e = true) : Calls Try.prog 55 #[.pointer (some ⟨b, 0, none⟩), .int .u64 (e.toNat : Int), .bool true] w fun e' w' =>
    e' = .returned (.tuple #[]) ∧ Bk w' b (gsC (gotG s 0 e true)) 87 ∧ Just [b] w w' := by
  have CA := Lib.hid (at_any s b 0 w hl (by omega) h)
  have hc1 := (gs_cells h).2.1
  rw [hl] at hc1
  have H := Lib.hid h
  have HL := Lib.hid hl
  clear h hl
  replace hm := Lib.hid hm
  replace hlf := Lib.hid hlf
  go_enter Try.func55, Try.ntmps55
  go_wp2_with fail
  refine CA.out.mono ?_
  rintro e1 w1 ⟨rfl, k, rfl⟩
  go_wp2_with fail
  have fz := H.out.free 6
  obtain ⟨_, _, _, _, y4, y5, y6, _⟩ := gs_cells H.out
  go_region
  have hb1 : Bk ((w.drewN (k + 1)).setCell ⟨b, 6, none⟩ (.int .u64 ((atW s.table s.va 0).toNat : Int))) b (gsC (pathG s 0)) 87 := by
    have e0 : (gsC s).setIfInBounds 6 (.int .u64 ((atW s.table s.va 0).toNat : Int)) = gsC (pathG s 0) := by simp [gsC, pathG]
    rw [← e0]
    exact (H.out.drewN _).set 6 _
  have ho1 : Just [b] w ((w.drewN (k + 1)).setCell ⟨b, 6, none⟩ (.int .u64 ((atW s.table s.va 0).toNat : Int))) := ((Just.refl [b] w).drewN _).set (.inl (by simp)) 6 _
  have HB1 := Lib.hid hb1
  have HO1 := Lib.hid ho1
  clear hb1 ho1 hc1 fz y4 y5 y6
  generalize (w.drewN (k + 1)).setCell ⟨b, 6, none⟩ (.int .u64 ((atW s.table s.va 0).toNat : Int)) = W1 at HB1 HO1 ⊢
  have hlv : (pathG s 0).lv = 0 := HL.out
  obtain ⟨c0, c1, c2, c3, c4, c5, c6, c7, c8, c9⟩ := gs_cells HB1.out
  rw [hlv] at c1
  have hf : ∀ o, W1.frozen? ⟨b, o, none⟩ = false := HB1.out.free
  clear hlv
  go_wp2_with fail
  refine (rwmay_any e _).mono ?_
  rintro e3 w3 ⟨rfl, rfl⟩
  rw [hm.out]
  have hlf2 : (((andL e 10).toNat : Int) != 0) = true := hlf.out
  go_wp2_with fail
  go_quiet (fail)
  go_wp2_with fail
  first
    | refine bodyPost_end (results_none rfl _ _ _) rfl ?_
    | refine bodyPost_ret (results_none rfl _ _ _) rfl ?_
  refine ⟨rfl, ?_, (((HO1.out.drewN _).set (.inl (by simp)) 3 _).set (.inl (by simp)) 7 _).set (.inl (by simp)) 9 _⟩
  have e5 : gotG s 0 e true = { pathG s 0 with pl := ((0 : Nat) : Int), en := e, ov := true } := by
    simp [gotG, hm.out, hlf.out]
  rw [e5]
  have e6 : (((gsC (pathG s 0)).setIfInBounds 3 (.int .i64 0)).setIfInBounds 7 (.int .u64 (e.toNat : Int))).setIfInBounds 9 (.bool true) = gsC { pathG s 0 with pl := ((0 : Nat) : Int), en := e, ov := true } := by simp [gsC, pathG]
  rw [← e6]
  exact (((HB1.out.drewN _).set 3 _).set 7 _).set 9 _
set_option maxHeartbeats 2000000 in
theorem got_bad0 (s : Gs) (b : Nat) (e : BitVec 64) (w : World) (hl : s.lv = 0) (h : Bk w b (gsC s) 87) (hm : mayW e = true) (hlf : leafW e = false) : Calls Try.prog 55 #[.pointer (some ⟨b, 0, none⟩), .int .u64 (e.toNat : Int), .bool true] w fun e' w' =>
    e' = .returned (.tuple #[]) ∧ Bk w' b (gsC (gotG s 0 e true)) 87 ∧ Just [b] w w' := by
  have CA := Lib.hid (at_any s b 0 w hl (by omega) h)
  have hc1 := (gs_cells h).2.1
  rw [hl] at hc1
  have H := Lib.hid h
  have HL := Lib.hid hl
  clear h hl
  replace hm := Lib.hid hm
  replace hlf := Lib.hid hlf
  go_enter Try.func55, Try.ntmps55
  go_wp2_with fail
  refine CA.out.mono ?_
  rintro e1 w1 ⟨rfl, k, rfl⟩
  go_wp2_with fail
  have fz := H.out.free 6
  obtain ⟨_, _, _, _, y4, y5, y6, _⟩ := gs_cells H.out
  go_region
  have hb1 : Bk ((w.drewN (k + 1)).setCell ⟨b, 6, none⟩ (.int .u64 ((atW s.table s.va 0).toNat : Int))) b (gsC (pathG s 0)) 87 := by
    have e0 : (gsC s).setIfInBounds 6 (.int .u64 ((atW s.table s.va 0).toNat : Int)) = gsC (pathG s 0) := by simp [gsC, pathG]
    rw [← e0]
    exact (H.out.drewN _).set 6 _
  have ho1 : Just [b] w ((w.drewN (k + 1)).setCell ⟨b, 6, none⟩ (.int .u64 ((atW s.table s.va 0).toNat : Int))) := ((Just.refl [b] w).drewN _).set (.inl (by simp)) 6 _
  have HB1 := Lib.hid hb1
  have HO1 := Lib.hid ho1
  clear hb1 ho1 hc1 fz y4 y5 y6
  generalize (w.drewN (k + 1)).setCell ⟨b, 6, none⟩ (.int .u64 ((atW s.table s.va 0).toNat : Int)) = W1 at HB1 HO1 ⊢
  have hlv : (pathG s 0).lv = 0 := HL.out
  obtain ⟨c0, c1, c2, c3, c4, c5, c6, c7, c8, c9⟩ := gs_cells HB1.out
  rw [hlv] at c1
  have hf : ∀ o, W1.frozen? ⟨b, o, none⟩ = false := HB1.out.free
  clear hlv
  go_wp2_with fail
  refine (rwmay_any e _).mono ?_
  rintro e3 w3 ⟨rfl, rfl⟩
  rw [hm.out]
  have hlf2 : (((andL e 10).toNat : Int) != 0) = false := hlf.out
  go_wp2_with fail
  refine (number_any e _).mono ?_
  rintro e6 w6 ⟨rfl, hq6⟩
  have hf6 : ∀ o, w6.frozen? ⟨b, o, none⟩ = false := (HB1.out.quiet hq6).free
  obtain ⟨d0, d1, d2, d3, d4, d5, d6, d7, d8, d9⟩ := gs_cells (HB1.out.quiet hq6)
  have hb7 : Bk ((w6.setCell ⟨b, 2, none⟩ (.int .u64 ((field e 53 10).toNat : Int))).setCell ⟨b, 1, none⟩ (.int .i64 (-1))) b (gsC { pathG s 0 with table := field e 53 10, lv := ((0 : Nat) : Int) - 1 }) 87 := by
    have e0 : ((gsC (pathG s 0)).setIfInBounds 2 (.int .u64 ((field e 53 10).toNat : Int))).setIfInBounds 1 (.int .i64 (-1)) = gsC { pathG s 0 with table := field e 53 10, lv := ((0 : Nat) : Int) - 1 } := by simp [gsC, pathG]
    rw [← e0]
    exact ((HB1.out.quiet hq6).set 2 _).set 1 _
  have ho7 : Just [b] w ((w6.setCell ⟨b, 2, none⟩ (.int .u64 ((field e 53 10).toNat : Int))).setCell ⟨b, 1, none⟩ (.int .i64 (-1))) := ((HO1.out.quiet hq6).set (.inl (by simp)) 2 _).set (.inl (by simp)) 1 _
  have HB7 := Lib.hid hb7
  have HO7 := Lib.hid ho7
  have d1' : w6.cell? ⟨b, 1, none⟩ = some (.int .i64 0) := d1.trans (by rw [show (pathG s 0).lv = 0 from HL.out])
  clear hb7 ho7 hq6 d1
  cases hz : (((andL e 208).toNat : Int) != 0)
  all_goals
    go_wp2_with fail
    refine (end_any { pathG s 0 with table := field e 53 10, lv := ((0 : Nat) : Int) - 1 } b 7 _ HB7.out).mono ?_
    rintro e4 w4 ⟨rfl, hb4, ho4⟩
    go_wp2_with fail
    first
      | refine bodyPost_end (results_none rfl _ _ _) rfl ?_
      | refine bodyPost_ret (results_none rfl _ _ _) rfl ?_
    refine ⟨rfl, ?_, HO7.out.trans ho4 (fun x hx => .inl hx)⟩
    have e5 : gotG s 0 e true = endG { pathG s 0 with table := field e 53 10, lv := ((0 : Nat) : Int) - 1 } 7 := by
      simp only [gotG, hm.out, hlf.out]
      simp
    rw [e5]
    exact hb4
set_option maxHeartbeats 2000000 in
theorem got_hole1 (s : Gs) (b : Nat) (e : BitVec 64) (w : World) (hl : s.lv = 1) (h : Bk w b (gsC s) 87) : Calls Try.prog 55 #[.pointer (some ⟨b, 0, none⟩), .int .u64 (e.toNat : Int), .bool false] w fun e' w' =>
    e' = .returned (.tuple #[]) ∧ Bk w' b (gsC (gotG s 1 e false)) 87 ∧ Just [b] w w' := by
  have CA := Lib.hid (at_any s b 1 w hl (by omega) h)
  have hc1 := (gs_cells h).2.1
  rw [hl] at hc1
  have H := Lib.hid h
  have HL := Lib.hid hl
  clear h hl
  go_enter Try.func55, Try.ntmps55
  go_wp2_with fail
  refine CA.out.mono ?_
  rintro e1 w1 ⟨rfl, k, rfl⟩
  go_wp2_with fail
  go_wp2_with fail
  refine (end_any s b 6 _ (H.out.drewN k)).mono ?_
  rintro e4 w4 ⟨rfl, hb4, ho4⟩
  go_wp2_with fail
  first
    | refine bodyPost_end (results_none rfl _ _ _) rfl ?_
    | refine bodyPost_ret (results_none rfl _ _ _) rfl ?_
  refine ⟨rfl, ?_, ((Just.refl [b] w).drewN k).trans ho4 (fun x hx => .inl hx)⟩
  have e5 : gotG s 1 e false = endG s 6 := by simp [gotG]
  rw [e5]
  exact hb4
set_option maxHeartbeats 2000000 in
theorem got_may1 (s : Gs) (b : Nat) (e : BitVec 64) (w : World) (hl : s.lv = 1) (h : Bk w b (gsC s) 87) (hm : mayW e = false) : Calls Try.prog 55 #[.pointer (some ⟨b, 0, none⟩), .int .u64 (e.toNat : Int), .bool true] w fun e' w' =>
    e' = .returned (.tuple #[]) ∧ Bk w' b (gsC (gotG s 1 e true)) 87 ∧ Just [b] w w' := by
  have CA := Lib.hid (at_any s b 1 w hl (by omega) h)
  have hc1 := (gs_cells h).2.1
  rw [hl] at hc1
  have H := Lib.hid h
  have HL := Lib.hid hl
  clear h hl
  replace hm := Lib.hid hm
  go_enter Try.func55, Try.ntmps55
  go_wp2_with fail
  refine CA.out.mono ?_
  rintro e1 w1 ⟨rfl, k, rfl⟩
  go_wp2_with fail
  have fz := H.out.free 5
  obtain ⟨_, _, _, _, y4, y5, y6, _⟩ := gs_cells H.out
  go_region
  have hb1 : Bk ((w.drewN (k + 1)).setCell ⟨b, 5, none⟩ (.int .u64 ((atW s.table s.va 1).toNat : Int))) b (gsC (pathG s 1)) 87 := by
    have e0 : (gsC s).setIfInBounds 5 (.int .u64 ((atW s.table s.va 1).toNat : Int)) = gsC (pathG s 1) := by simp [gsC, pathG]
    rw [← e0]
    exact (H.out.drewN _).set 5 _
  have ho1 : Just [b] w ((w.drewN (k + 1)).setCell ⟨b, 5, none⟩ (.int .u64 ((atW s.table s.va 1).toNat : Int))) := ((Just.refl [b] w).drewN _).set (.inl (by simp)) 5 _
  have HB1 := Lib.hid hb1
  have HO1 := Lib.hid ho1
  clear hb1 ho1 hc1 fz y4 y5 y6
  generalize (w.drewN (k + 1)).setCell ⟨b, 5, none⟩ (.int .u64 ((atW s.table s.va 1).toNat : Int)) = W1 at HB1 HO1 ⊢
  have hlv : (pathG s 1).lv = 1 := HL.out
  obtain ⟨c0, c1, c2, c3, c4, c5, c6, c7, c8, c9⟩ := gs_cells HB1.out
  rw [hlv] at c1
  have hf : ∀ o, W1.frozen? ⟨b, o, none⟩ = false := HB1.out.free
  clear hlv
  go_wp2_with fail
  refine (rwmay_any e _).mono ?_
  rintro e3 w3 ⟨rfl, rfl⟩
  rw [hm.out]
  go_wp2_with fail
  refine (end_any (pathG s 1) b 7 _ HB1.out).mono ?_
  rintro e4 w4 ⟨rfl, hb4, ho4⟩
  go_wp2_with fail
  first
    | refine bodyPost_end (results_none rfl _ _ _) rfl ?_
    | refine bodyPost_ret (results_none rfl _ _ _) rfl ?_
  refine ⟨rfl, ?_, HO1.out.trans ho4 (fun x hx => .inl hx)⟩
  have e5 : gotG s 1 e true = endG (pathG s 1) 7 := by simp [gotG, hm.out]
  rw [e5]
  exact hb4
set_option maxHeartbeats 2000000 in
theorem got_mis1 (s : Gs) (b : Nat) (e : BitVec 64) (w : World) (hl : s.lv = 1) (h : Bk w b (gsC s) 87) (hm : mayW e = true) (hlf : leafW e = true) (hz : (((zext (field e 53 10) 9).toNat : Int) != 0) = true) : Calls Try.prog 55 #[.pointer (some ⟨b, 0, none⟩), .int .u64 (e.toNat : Int), .bool true] w fun e' w' =>
    e' = .returned (.tuple #[]) ∧ Bk w' b (gsC (gotG s 1 e true)) 87 ∧ Just [b] w w' := by
  have CA := Lib.hid (at_any s b 1 w hl (by omega) h)
  have hc1 := (gs_cells h).2.1
  rw [hl] at hc1
  have H := Lib.hid h
  have HL := Lib.hid hl
  clear h hl
  replace hm := Lib.hid hm
  replace hlf := Lib.hid hlf
  replace hz := Lib.hid hz
  go_enter Try.func55, Try.ntmps55
  go_wp2_with fail
  refine CA.out.mono ?_
  rintro e1 w1 ⟨rfl, k, rfl⟩
  go_wp2_with fail
  have fz := H.out.free 5
  obtain ⟨_, _, _, _, y4, y5, y6, _⟩ := gs_cells H.out
  go_region
  have hb1 : Bk ((w.drewN (k + 1)).setCell ⟨b, 5, none⟩ (.int .u64 ((atW s.table s.va 1).toNat : Int))) b (gsC (pathG s 1)) 87 := by
    have e0 : (gsC s).setIfInBounds 5 (.int .u64 ((atW s.table s.va 1).toNat : Int)) = gsC (pathG s 1) := by simp [gsC, pathG]
    rw [← e0]
    exact (H.out.drewN _).set 5 _
  have ho1 : Just [b] w ((w.drewN (k + 1)).setCell ⟨b, 5, none⟩ (.int .u64 ((atW s.table s.va 1).toNat : Int))) := ((Just.refl [b] w).drewN _).set (.inl (by simp)) 5 _
  have HB1 := Lib.hid hb1
  have HO1 := Lib.hid ho1
  clear hb1 ho1 hc1 fz y4 y5 y6
  generalize (w.drewN (k + 1)).setCell ⟨b, 5, none⟩ (.int .u64 ((atW s.table s.va 1).toNat : Int)) = W1 at HB1 HO1 ⊢
  have hlv : (pathG s 1).lv = 1 := HL.out
  obtain ⟨c0, c1, c2, c3, c4, c5, c6, c7, c8, c9⟩ := gs_cells HB1.out
  rw [hlv] at c1
  have hf : ∀ o, W1.frozen? ⟨b, o, none⟩ = false := HB1.out.free
  clear hlv
  go_wp2_with fail
  refine (rwmay_any e _).mono ?_
  rintro e3 w3 ⟨rfl, rfl⟩
  rw [hm.out]
  have hlf2 : (((andL e 10).toNat : Int) != 0) = true := hlf.out
  have hz2 := hz.out
  have CN := Lib.hid (number_any e)
  have CZ := Lib.hid (rzext_any (field e 53 10) 9)
  go_wp2_with fail
  go_quiet ((first | (go_at_call 57; exact CN.out.quiet) | (go_at_call 75; exact CZ.out.quiet)))
  go_wp2_with fail
  refine (end_any (pathG s 1) b 7 _ (HB1.out.drewN _)).mono ?_
  rintro e4 w4 ⟨rfl, hb4, ho4⟩
  go_wp2_with fail
  first
    | refine bodyPost_end (results_none rfl _ _ _) rfl ?_
    | refine bodyPost_ret (results_none rfl _ _ _) rfl ?_
  refine ⟨rfl, ?_, (HO1.out.drewN _).trans ho4 (fun x hx => .inl hx)⟩
  have e5 : gotG s 1 e true = endG (pathG s 1) 7 := by
    have hz3 : (((zext (field e 53 10) (9 * ((1 : Nat) : Int))).toNat : Int) != 0) = true := hz.out
    simp only [gotG, hm.out, hlf.out, hz3]
    rfl
  rw [e5]
  exact hb4
set_option maxHeartbeats 2000000 in
theorem got_leaf1 (s : Gs) (b : Nat) (e : BitVec 64) (w : World) (hl : s.lv = 1) (h : Bk w b (gsC s) 87) (hm : mayW e = true) (hlf : leafW e = true) (hz : (((zext (field e 53 10) 9).toNat : Int) != 0) = false) : Calls Try.prog 55 #[.pointer (some ⟨b, 0, none⟩), .int .u64 (e.toNat : Int), .bool true] w fun e' w' =>
    e' = .returned (.tuple #[]) ∧ Bk w' b (gsC (gotG s 1 e true)) 87 ∧ Just [b] w w' := by
  have CA := Lib.hid (at_any s b 1 w hl (by omega) h)
  have hc1 := (gs_cells h).2.1
  rw [hl] at hc1
  have H := Lib.hid h
  have HL := Lib.hid hl
  clear h hl
  replace hm := Lib.hid hm
  replace hlf := Lib.hid hlf
  replace hz := Lib.hid hz
  go_enter Try.func55, Try.ntmps55
  go_wp2_with fail
  refine CA.out.mono ?_
  rintro e1 w1 ⟨rfl, k, rfl⟩
  go_wp2_with fail
  have fz := H.out.free 5
  obtain ⟨_, _, _, _, y4, y5, y6, _⟩ := gs_cells H.out
  go_region
  have hb1 : Bk ((w.drewN (k + 1)).setCell ⟨b, 5, none⟩ (.int .u64 ((atW s.table s.va 1).toNat : Int))) b (gsC (pathG s 1)) 87 := by
    have e0 : (gsC s).setIfInBounds 5 (.int .u64 ((atW s.table s.va 1).toNat : Int)) = gsC (pathG s 1) := by simp [gsC, pathG]
    rw [← e0]
    exact (H.out.drewN _).set 5 _
  have ho1 : Just [b] w ((w.drewN (k + 1)).setCell ⟨b, 5, none⟩ (.int .u64 ((atW s.table s.va 1).toNat : Int))) := ((Just.refl [b] w).drewN _).set (.inl (by simp)) 5 _
  have HB1 := Lib.hid hb1
  have HO1 := Lib.hid ho1
  clear hb1 ho1 hc1 fz y4 y5 y6
  generalize (w.drewN (k + 1)).setCell ⟨b, 5, none⟩ (.int .u64 ((atW s.table s.va 1).toNat : Int)) = W1 at HB1 HO1 ⊢
  have hlv : (pathG s 1).lv = 1 := HL.out
  obtain ⟨c0, c1, c2, c3, c4, c5, c6, c7, c8, c9⟩ := gs_cells HB1.out
  rw [hlv] at c1
  have hf : ∀ o, W1.frozen? ⟨b, o, none⟩ = false := HB1.out.free
  clear hlv
  go_wp2_with fail
  refine (rwmay_any e _).mono ?_
  rintro e3 w3 ⟨rfl, rfl⟩
  rw [hm.out]
  have hlf2 : (((andL e 10).toNat : Int) != 0) = true := hlf.out
  have hz2 := hz.out
  have CN := Lib.hid (number_any e)
  have CZ := Lib.hid (rzext_any (field e 53 10) 9)
  go_wp2_with fail
  go_quiet ((first | (go_at_call 57; exact CN.out.quiet) | (go_at_call 75; exact CZ.out.quiet)))
  go_wp2_with fail
  first
    | refine bodyPost_end (results_none rfl _ _ _) rfl ?_
    | refine bodyPost_ret (results_none rfl _ _ _) rfl ?_
  refine ⟨rfl, ?_, (((HO1.out.drewN _).set (.inl (by simp)) 3 _).set (.inl (by simp)) 7 _).set (.inl (by simp)) 9 _⟩
  have e5 : gotG s 1 e true = { pathG s 1 with pl := ((1 : Nat) : Int), en := e, ov := true } := by
    have hz3 : (((zext (field e 53 10) (9 * ((1 : Nat) : Int))).toNat : Int) != 0) = false := hz.out
    simp only [gotG, hm.out, hlf.out, hz3]
    simp
  rw [e5]
  have e6 : (((gsC (pathG s 1)).setIfInBounds 3 (.int .i64 1)).setIfInBounds 7 (.int .u64 (e.toNat : Int))).setIfInBounds 9 (.bool true) = gsC { pathG s 1 with pl := ((1 : Nat) : Int), en := e, ov := true } := by simp [gsC, pathG]
  rw [← e6]
  exact (((HB1.out.drewN _).set 3 _).set 7 _).set 9 _
set_option maxHeartbeats 2000000 in
theorem got_bad1 (s : Gs) (b : Nat) (e : BitVec 64) (w : World) (hl : s.lv = 1) (h : Bk w b (gsC s) 87) (hm : mayW e = true) (hlf : leafW e = false) (hz : (((andL e 208).toNat : Int) != 0) = true) : Calls Try.prog 55 #[.pointer (some ⟨b, 0, none⟩), .int .u64 (e.toNat : Int), .bool true] w fun e' w' =>
    e' = .returned (.tuple #[]) ∧ Bk w' b (gsC (gotG s 1 e true)) 87 ∧ Just [b] w w' := by
  have CA := Lib.hid (at_any s b 1 w hl (by omega) h)
  have hc1 := (gs_cells h).2.1
  rw [hl] at hc1
  have H := Lib.hid h
  have HL := Lib.hid hl
  clear h hl
  replace hm := Lib.hid hm
  replace hlf := Lib.hid hlf
  replace hz := Lib.hid hz
  go_enter Try.func55, Try.ntmps55
  go_wp2_with fail
  refine CA.out.mono ?_
  rintro e1 w1 ⟨rfl, k, rfl⟩
  go_wp2_with fail
  have fz := H.out.free 5
  obtain ⟨_, _, _, _, y4, y5, y6, _⟩ := gs_cells H.out
  go_region
  have hb1 : Bk ((w.drewN (k + 1)).setCell ⟨b, 5, none⟩ (.int .u64 ((atW s.table s.va 1).toNat : Int))) b (gsC (pathG s 1)) 87 := by
    have e0 : (gsC s).setIfInBounds 5 (.int .u64 ((atW s.table s.va 1).toNat : Int)) = gsC (pathG s 1) := by simp [gsC, pathG]
    rw [← e0]
    exact (H.out.drewN _).set 5 _
  have ho1 : Just [b] w ((w.drewN (k + 1)).setCell ⟨b, 5, none⟩ (.int .u64 ((atW s.table s.va 1).toNat : Int))) := ((Just.refl [b] w).drewN _).set (.inl (by simp)) 5 _
  have HB1 := Lib.hid hb1
  have HO1 := Lib.hid ho1
  clear hb1 ho1 hc1 fz y4 y5 y6
  generalize (w.drewN (k + 1)).setCell ⟨b, 5, none⟩ (.int .u64 ((atW s.table s.va 1).toNat : Int)) = W1 at HB1 HO1 ⊢
  have hlv : (pathG s 1).lv = 1 := HL.out
  obtain ⟨c0, c1, c2, c3, c4, c5, c6, c7, c8, c9⟩ := gs_cells HB1.out
  rw [hlv] at c1
  have hf : ∀ o, W1.frozen? ⟨b, o, none⟩ = false := HB1.out.free
  clear hlv
  go_wp2_with fail
  refine (rwmay_any e _).mono ?_
  rintro e3 w3 ⟨rfl, rfl⟩
  rw [hm.out]
  have hlf2 : (((andL e 10).toNat : Int) != 0) = false := hlf.out
  go_wp2_with fail
  refine (number_any e _).mono ?_
  rintro e6 w6 ⟨rfl, hq6⟩
  have hf6 : ∀ o, w6.frozen? ⟨b, o, none⟩ = false := (HB1.out.quiet hq6).free
  obtain ⟨d0, d1, d2, d3, d4, d5, d6, d7, d8, d9⟩ := gs_cells (HB1.out.quiet hq6)
  have hb7 : Bk ((w6.setCell ⟨b, 2, none⟩ (.int .u64 ((field e 53 10).toNat : Int))).setCell ⟨b, 1, none⟩ (.int .i64 (0))) b (gsC { pathG s 1 with table := field e 53 10, lv := ((1 : Nat) : Int) - 1 }) 87 := by
    have e0 : ((gsC (pathG s 1)).setIfInBounds 2 (.int .u64 ((field e 53 10).toNat : Int))).setIfInBounds 1 (.int .i64 (0)) = gsC { pathG s 1 with table := field e 53 10, lv := ((1 : Nat) : Int) - 1 } := by simp [gsC, pathG]
    rw [← e0]
    exact ((HB1.out.quiet hq6).set 2 _).set 1 _
  have ho7 : Just [b] w ((w6.setCell ⟨b, 2, none⟩ (.int .u64 ((field e 53 10).toNat : Int))).setCell ⟨b, 1, none⟩ (.int .i64 (0))) := ((HO1.out.quiet hq6).set (.inl (by simp)) 2 _).set (.inl (by simp)) 1 _
  have HB7 := Lib.hid hb7
  have HO7 := Lib.hid ho7
  have d1' : w6.cell? ⟨b, 1, none⟩ = some (.int .i64 1) := d1.trans (by rw [show (pathG s 1).lv = 1 from HL.out])
  clear hb7 ho7 hq6 d1
  have hz2 := hz.out
  go_wp2_with fail
  refine (end_any { pathG s 1 with table := field e 53 10, lv := ((1 : Nat) : Int) - 1 } b 7 _ HB7.out).mono ?_
  rintro e4 w4 ⟨rfl, hb4, ho4⟩
  go_wp2_with fail
  first
    | refine bodyPost_end (results_none rfl _ _ _) rfl ?_
    | refine bodyPost_ret (results_none rfl _ _ _) rfl ?_
  refine ⟨rfl, ?_, HO7.out.trans ho4 (fun x hx => .inl hx)⟩
  have e5 : gotG s 1 e true = endG { pathG s 1 with table := field e 53 10, lv := ((1 : Nat) : Int) - 1 } 7 := by
    simp only [gotG, hm.out, hlf.out, hz.out]
    simp
  rw [e5]
  exact hb4
set_option maxHeartbeats 2000000 in
theorem got_down1 (s : Gs) (b : Nat) (e : BitVec 64) (w : World) (hl : s.lv = 1) (h : Bk w b (gsC s) 87) (hm : mayW e = true) (hlf : leafW e = false) (hz : (((andL e 208).toNat : Int) != 0) = false) : Calls Try.prog 55 #[.pointer (some ⟨b, 0, none⟩), .int .u64 (e.toNat : Int), .bool true] w fun e' w' =>
    e' = .returned (.tuple #[]) ∧ Bk w' b (gsC (gotG s 1 e true)) 87 ∧ Just [b] w w' := by
  have CA := Lib.hid (at_any s b 1 w hl (by omega) h)
  have hc1 := (gs_cells h).2.1
  rw [hl] at hc1
  have H := Lib.hid h
  have HL := Lib.hid hl
  clear h hl
  replace hm := Lib.hid hm
  replace hlf := Lib.hid hlf
  replace hz := Lib.hid hz
  go_enter Try.func55, Try.ntmps55
  go_wp2_with fail
  refine CA.out.mono ?_
  rintro e1 w1 ⟨rfl, k, rfl⟩
  go_wp2_with fail
  have fz := H.out.free 5
  obtain ⟨_, _, _, _, y4, y5, y6, _⟩ := gs_cells H.out
  go_region
  have hb1 : Bk ((w.drewN (k + 1)).setCell ⟨b, 5, none⟩ (.int .u64 ((atW s.table s.va 1).toNat : Int))) b (gsC (pathG s 1)) 87 := by
    have e0 : (gsC s).setIfInBounds 5 (.int .u64 ((atW s.table s.va 1).toNat : Int)) = gsC (pathG s 1) := by simp [gsC, pathG]
    rw [← e0]
    exact (H.out.drewN _).set 5 _
  have ho1 : Just [b] w ((w.drewN (k + 1)).setCell ⟨b, 5, none⟩ (.int .u64 ((atW s.table s.va 1).toNat : Int))) := ((Just.refl [b] w).drewN _).set (.inl (by simp)) 5 _
  have HB1 := Lib.hid hb1
  have HO1 := Lib.hid ho1
  clear hb1 ho1 hc1 fz y4 y5 y6
  generalize (w.drewN (k + 1)).setCell ⟨b, 5, none⟩ (.int .u64 ((atW s.table s.va 1).toNat : Int)) = W1 at HB1 HO1 ⊢
  have hlv : (pathG s 1).lv = 1 := HL.out
  obtain ⟨c0, c1, c2, c3, c4, c5, c6, c7, c8, c9⟩ := gs_cells HB1.out
  rw [hlv] at c1
  have hf : ∀ o, W1.frozen? ⟨b, o, none⟩ = false := HB1.out.free
  clear hlv
  go_wp2_with fail
  refine (rwmay_any e _).mono ?_
  rintro e3 w3 ⟨rfl, rfl⟩
  rw [hm.out]
  have hlf2 : (((andL e 10).toNat : Int) != 0) = false := hlf.out
  go_wp2_with fail
  refine (number_any e _).mono ?_
  rintro e6 w6 ⟨rfl, hq6⟩
  have hf6 : ∀ o, w6.frozen? ⟨b, o, none⟩ = false := (HB1.out.quiet hq6).free
  obtain ⟨d0, d1, d2, d3, d4, d5, d6, d7, d8, d9⟩ := gs_cells (HB1.out.quiet hq6)
  have hb7 : Bk ((w6.setCell ⟨b, 2, none⟩ (.int .u64 ((field e 53 10).toNat : Int))).setCell ⟨b, 1, none⟩ (.int .i64 (0))) b (gsC { pathG s 1 with table := field e 53 10, lv := ((1 : Nat) : Int) - 1 }) 87 := by
    have e0 : ((gsC (pathG s 1)).setIfInBounds 2 (.int .u64 ((field e 53 10).toNat : Int))).setIfInBounds 1 (.int .i64 (0)) = gsC { pathG s 1 with table := field e 53 10, lv := ((1 : Nat) : Int) - 1 } := by simp [gsC, pathG]
    rw [← e0]
    exact ((HB1.out.quiet hq6).set 2 _).set 1 _
  have ho7 : Just [b] w ((w6.setCell ⟨b, 2, none⟩ (.int .u64 ((field e 53 10).toNat : Int))).setCell ⟨b, 1, none⟩ (.int .i64 (0))) := ((HO1.out.quiet hq6).set (.inl (by simp)) 2 _).set (.inl (by simp)) 1 _
  have HB7 := Lib.hid hb7
  have HO7 := Lib.hid ho7
  have d1' : w6.cell? ⟨b, 1, none⟩ = some (.int .i64 1) := d1.trans (by rw [show (pathG s 1).lv = 1 from HL.out])
  clear hb7 ho7 hq6 d1
  have hz2 := hz.out
  go_wp2_with fail
  first
    | refine bodyPost_end (results_none rfl _ _ _) rfl ?_
    | refine bodyPost_ret (results_none rfl _ _ _) rfl ?_
  refine ⟨rfl, ?_, HO7.out⟩
  have e5 : gotG s 1 e true = { pathG s 1 with table := field e 53 10, lv := ((1 : Nat) : Int) - 1 } := by
    simp only [gotG, hm.out, hlf.out, hz.out]
    simp
  rw [e5]
  exact HB7.out
set_option maxHeartbeats 2000000 in
theorem got_hole2 (s : Gs) (b : Nat) (e : BitVec 64) (w : World) (hl : s.lv = 2) (h : Bk w b (gsC s) 87) : Calls Try.prog 55 #[.pointer (some ⟨b, 0, none⟩), .int .u64 (e.toNat : Int), .bool false] w fun e' w' =>
    e' = .returned (.tuple #[]) ∧ Bk w' b (gsC (gotG s 2 e false)) 87 ∧ Just [b] w w' := by
  have CA := Lib.hid (at_any s b 2 w hl (by omega) h)
  have hc1 := (gs_cells h).2.1
  rw [hl] at hc1
  have H := Lib.hid h
  have HL := Lib.hid hl
  clear h hl
  go_enter Try.func55, Try.ntmps55
  go_wp2_with fail
  refine CA.out.mono ?_
  rintro e1 w1 ⟨rfl, k, rfl⟩
  go_wp2_with fail
  go_wp2_with fail
  refine (end_any s b 6 _ (H.out.drewN k)).mono ?_
  rintro e4 w4 ⟨rfl, hb4, ho4⟩
  go_wp2_with fail
  first
    | refine bodyPost_end (results_none rfl _ _ _) rfl ?_
    | refine bodyPost_ret (results_none rfl _ _ _) rfl ?_
  refine ⟨rfl, ?_, ((Just.refl [b] w).drewN k).trans ho4 (fun x hx => .inl hx)⟩
  have e5 : gotG s 2 e false = endG s 6 := by simp [gotG]
  rw [e5]
  exact hb4
set_option maxHeartbeats 2000000 in
theorem got_may2 (s : Gs) (b : Nat) (e : BitVec 64) (w : World) (hl : s.lv = 2) (h : Bk w b (gsC s) 87) (hm : mayW e = false) : Calls Try.prog 55 #[.pointer (some ⟨b, 0, none⟩), .int .u64 (e.toNat : Int), .bool true] w fun e' w' =>
    e' = .returned (.tuple #[]) ∧ Bk w' b (gsC (gotG s 2 e true)) 87 ∧ Just [b] w w' := by
  have CA := Lib.hid (at_any s b 2 w hl (by omega) h)
  have hc1 := (gs_cells h).2.1
  rw [hl] at hc1
  have H := Lib.hid h
  have HL := Lib.hid hl
  clear h hl
  replace hm := Lib.hid hm
  go_enter Try.func55, Try.ntmps55
  go_wp2_with fail
  refine CA.out.mono ?_
  rintro e1 w1 ⟨rfl, k, rfl⟩
  go_wp2_with fail
  have fz := H.out.free 4
  obtain ⟨_, _, _, _, y4, y5, y6, _⟩ := gs_cells H.out
  go_region
  have hb1 : Bk ((w.drewN (k + 1)).setCell ⟨b, 4, none⟩ (.int .u64 ((atW s.table s.va 2).toNat : Int))) b (gsC (pathG s 2)) 87 := by
    have e0 : (gsC s).setIfInBounds 4 (.int .u64 ((atW s.table s.va 2).toNat : Int)) = gsC (pathG s 2) := by simp [gsC, pathG]
    rw [← e0]
    exact (H.out.drewN _).set 4 _
  have ho1 : Just [b] w ((w.drewN (k + 1)).setCell ⟨b, 4, none⟩ (.int .u64 ((atW s.table s.va 2).toNat : Int))) := ((Just.refl [b] w).drewN _).set (.inl (by simp)) 4 _
  have HB1 := Lib.hid hb1
  have HO1 := Lib.hid ho1
  clear hb1 ho1 hc1 fz y4 y5 y6
  generalize (w.drewN (k + 1)).setCell ⟨b, 4, none⟩ (.int .u64 ((atW s.table s.va 2).toNat : Int)) = W1 at HB1 HO1 ⊢
  have hlv : (pathG s 2).lv = 2 := HL.out
  obtain ⟨c0, c1, c2, c3, c4, c5, c6, c7, c8, c9⟩ := gs_cells HB1.out
  rw [hlv] at c1
  have hf : ∀ o, W1.frozen? ⟨b, o, none⟩ = false := HB1.out.free
  clear hlv
  go_wp2_with fail
  refine (rwmay_any e _).mono ?_
  rintro e3 w3 ⟨rfl, rfl⟩
  rw [hm.out]
  go_wp2_with fail
  refine (end_any (pathG s 2) b 7 _ HB1.out).mono ?_
  rintro e4 w4 ⟨rfl, hb4, ho4⟩
  go_wp2_with fail
  first
    | refine bodyPost_end (results_none rfl _ _ _) rfl ?_
    | refine bodyPost_ret (results_none rfl _ _ _) rfl ?_
  refine ⟨rfl, ?_, HO1.out.trans ho4 (fun x hx => .inl hx)⟩
  have e5 : gotG s 2 e true = endG (pathG s 2) 7 := by simp [gotG, hm.out]
  rw [e5]
  exact hb4
set_option maxHeartbeats 2000000 in
theorem got_mis2 (s : Gs) (b : Nat) (e : BitVec 64) (w : World) (hl : s.lv = 2) (h : Bk w b (gsC s) 87) (hm : mayW e = true) (hlf : leafW e = true) (hz : (((zext (field e 53 10) 18).toNat : Int) != 0) = true) : Calls Try.prog 55 #[.pointer (some ⟨b, 0, none⟩), .int .u64 (e.toNat : Int), .bool true] w fun e' w' =>
    e' = .returned (.tuple #[]) ∧ Bk w' b (gsC (gotG s 2 e true)) 87 ∧ Just [b] w w' := by
  have CA := Lib.hid (at_any s b 2 w hl (by omega) h)
  have hc1 := (gs_cells h).2.1
  rw [hl] at hc1
  have H := Lib.hid h
  have HL := Lib.hid hl
  clear h hl
  replace hm := Lib.hid hm
  replace hlf := Lib.hid hlf
  replace hz := Lib.hid hz
  go_enter Try.func55, Try.ntmps55
  go_wp2_with fail
  refine CA.out.mono ?_
  rintro e1 w1 ⟨rfl, k, rfl⟩
  go_wp2_with fail
  have fz := H.out.free 4
  obtain ⟨_, _, _, _, y4, y5, y6, _⟩ := gs_cells H.out
  go_region
  have hb1 : Bk ((w.drewN (k + 1)).setCell ⟨b, 4, none⟩ (.int .u64 ((atW s.table s.va 2).toNat : Int))) b (gsC (pathG s 2)) 87 := by
    have e0 : (gsC s).setIfInBounds 4 (.int .u64 ((atW s.table s.va 2).toNat : Int)) = gsC (pathG s 2) := by simp [gsC, pathG]
    rw [← e0]
    exact (H.out.drewN _).set 4 _
  have ho1 : Just [b] w ((w.drewN (k + 1)).setCell ⟨b, 4, none⟩ (.int .u64 ((atW s.table s.va 2).toNat : Int))) := ((Just.refl [b] w).drewN _).set (.inl (by simp)) 4 _
  have HB1 := Lib.hid hb1
  have HO1 := Lib.hid ho1
  clear hb1 ho1 hc1 fz y4 y5 y6
  generalize (w.drewN (k + 1)).setCell ⟨b, 4, none⟩ (.int .u64 ((atW s.table s.va 2).toNat : Int)) = W1 at HB1 HO1 ⊢
  have hlv : (pathG s 2).lv = 2 := HL.out
  obtain ⟨c0, c1, c2, c3, c4, c5, c6, c7, c8, c9⟩ := gs_cells HB1.out
  rw [hlv] at c1
  have hf : ∀ o, W1.frozen? ⟨b, o, none⟩ = false := HB1.out.free
  clear hlv
  go_wp2_with fail
  refine (rwmay_any e _).mono ?_
  rintro e3 w3 ⟨rfl, rfl⟩
  rw [hm.out]
  have hlf2 : (((andL e 10).toNat : Int) != 0) = true := hlf.out
  have hz2 := hz.out
  have CN := Lib.hid (number_any e)
  have CZ := Lib.hid (rzext_any (field e 53 10) 18)
  go_wp2_with fail
  go_quiet ((first | (go_at_call 57; exact CN.out.quiet) | (go_at_call 75; exact CZ.out.quiet)))
  go_wp2_with fail
  refine (end_any (pathG s 2) b 7 _ (HB1.out.drewN _)).mono ?_
  rintro e4 w4 ⟨rfl, hb4, ho4⟩
  go_wp2_with fail
  first
    | refine bodyPost_end (results_none rfl _ _ _) rfl ?_
    | refine bodyPost_ret (results_none rfl _ _ _) rfl ?_
  refine ⟨rfl, ?_, (HO1.out.drewN _).trans ho4 (fun x hx => .inl hx)⟩
  have e5 : gotG s 2 e true = endG (pathG s 2) 7 := by
    have hz3 : (((zext (field e 53 10) (9 * ((2 : Nat) : Int))).toNat : Int) != 0) = true := hz.out
    simp only [gotG, hm.out, hlf.out, hz3]
    rfl
  rw [e5]
  exact hb4
set_option maxHeartbeats 2000000 in
theorem got_leaf2 (s : Gs) (b : Nat) (e : BitVec 64) (w : World) (hl : s.lv = 2) (h : Bk w b (gsC s) 87) (hm : mayW e = true) (hlf : leafW e = true) (hz : (((zext (field e 53 10) 18).toNat : Int) != 0) = false) : Calls Try.prog 55 #[.pointer (some ⟨b, 0, none⟩), .int .u64 (e.toNat : Int), .bool true] w fun e' w' =>
    e' = .returned (.tuple #[]) ∧ Bk w' b (gsC (gotG s 2 e true)) 87 ∧ Just [b] w w' := by
  have CA := Lib.hid (at_any s b 2 w hl (by omega) h)
  have hc1 := (gs_cells h).2.1
  rw [hl] at hc1
  have H := Lib.hid h
  have HL := Lib.hid hl
  clear h hl
  replace hm := Lib.hid hm
  replace hlf := Lib.hid hlf
  replace hz := Lib.hid hz
  go_enter Try.func55, Try.ntmps55
  go_wp2_with fail
  refine CA.out.mono ?_
  rintro e1 w1 ⟨rfl, k, rfl⟩
  go_wp2_with fail
  have fz := H.out.free 4
  obtain ⟨_, _, _, _, y4, y5, y6, _⟩ := gs_cells H.out
  go_region
  have hb1 : Bk ((w.drewN (k + 1)).setCell ⟨b, 4, none⟩ (.int .u64 ((atW s.table s.va 2).toNat : Int))) b (gsC (pathG s 2)) 87 := by
    have e0 : (gsC s).setIfInBounds 4 (.int .u64 ((atW s.table s.va 2).toNat : Int)) = gsC (pathG s 2) := by simp [gsC, pathG]
    rw [← e0]
    exact (H.out.drewN _).set 4 _
  have ho1 : Just [b] w ((w.drewN (k + 1)).setCell ⟨b, 4, none⟩ (.int .u64 ((atW s.table s.va 2).toNat : Int))) := ((Just.refl [b] w).drewN _).set (.inl (by simp)) 4 _
  have HB1 := Lib.hid hb1
  have HO1 := Lib.hid ho1
  clear hb1 ho1 hc1 fz y4 y5 y6
  generalize (w.drewN (k + 1)).setCell ⟨b, 4, none⟩ (.int .u64 ((atW s.table s.va 2).toNat : Int)) = W1 at HB1 HO1 ⊢
  have hlv : (pathG s 2).lv = 2 := HL.out
  obtain ⟨c0, c1, c2, c3, c4, c5, c6, c7, c8, c9⟩ := gs_cells HB1.out
  rw [hlv] at c1
  have hf : ∀ o, W1.frozen? ⟨b, o, none⟩ = false := HB1.out.free
  clear hlv
  go_wp2_with fail
  refine (rwmay_any e _).mono ?_
  rintro e3 w3 ⟨rfl, rfl⟩
  rw [hm.out]
  have hlf2 : (((andL e 10).toNat : Int) != 0) = true := hlf.out
  have hz2 := hz.out
  have CN := Lib.hid (number_any e)
  have CZ := Lib.hid (rzext_any (field e 53 10) 18)
  go_wp2_with fail
  go_quiet ((first | (go_at_call 57; exact CN.out.quiet) | (go_at_call 75; exact CZ.out.quiet)))
  go_wp2_with fail
  first
    | refine bodyPost_end (results_none rfl _ _ _) rfl ?_
    | refine bodyPost_ret (results_none rfl _ _ _) rfl ?_
  refine ⟨rfl, ?_, (((HO1.out.drewN _).set (.inl (by simp)) 3 _).set (.inl (by simp)) 7 _).set (.inl (by simp)) 9 _⟩
  have e5 : gotG s 2 e true = { pathG s 2 with pl := ((2 : Nat) : Int), en := e, ov := true } := by
    have hz3 : (((zext (field e 53 10) (9 * ((2 : Nat) : Int))).toNat : Int) != 0) = false := hz.out
    simp only [gotG, hm.out, hlf.out, hz3]
    simp
  rw [e5]
  have e6 : (((gsC (pathG s 2)).setIfInBounds 3 (.int .i64 2)).setIfInBounds 7 (.int .u64 (e.toNat : Int))).setIfInBounds 9 (.bool true) = gsC { pathG s 2 with pl := ((2 : Nat) : Int), en := e, ov := true } := by simp [gsC, pathG]
  rw [← e6]
  exact (((HB1.out.drewN _).set 3 _).set 7 _).set 9 _
set_option maxHeartbeats 2000000 in
theorem got_bad2 (s : Gs) (b : Nat) (e : BitVec 64) (w : World) (hl : s.lv = 2) (h : Bk w b (gsC s) 87) (hm : mayW e = true) (hlf : leafW e = false) (hz : (((andL e 208).toNat : Int) != 0) = true) : Calls Try.prog 55 #[.pointer (some ⟨b, 0, none⟩), .int .u64 (e.toNat : Int), .bool true] w fun e' w' =>
    e' = .returned (.tuple #[]) ∧ Bk w' b (gsC (gotG s 2 e true)) 87 ∧ Just [b] w w' := by
  have CA := Lib.hid (at_any s b 2 w hl (by omega) h)
  have hc1 := (gs_cells h).2.1
  rw [hl] at hc1
  have H := Lib.hid h
  have HL := Lib.hid hl
  clear h hl
  replace hm := Lib.hid hm
  replace hlf := Lib.hid hlf
  replace hz := Lib.hid hz
  go_enter Try.func55, Try.ntmps55
  go_wp2_with fail
  refine CA.out.mono ?_
  rintro e1 w1 ⟨rfl, k, rfl⟩
  go_wp2_with fail
  have fz := H.out.free 4
  obtain ⟨_, _, _, _, y4, y5, y6, _⟩ := gs_cells H.out
  go_region
  have hb1 : Bk ((w.drewN (k + 1)).setCell ⟨b, 4, none⟩ (.int .u64 ((atW s.table s.va 2).toNat : Int))) b (gsC (pathG s 2)) 87 := by
    have e0 : (gsC s).setIfInBounds 4 (.int .u64 ((atW s.table s.va 2).toNat : Int)) = gsC (pathG s 2) := by simp [gsC, pathG]
    rw [← e0]
    exact (H.out.drewN _).set 4 _
  have ho1 : Just [b] w ((w.drewN (k + 1)).setCell ⟨b, 4, none⟩ (.int .u64 ((atW s.table s.va 2).toNat : Int))) := ((Just.refl [b] w).drewN _).set (.inl (by simp)) 4 _
  have HB1 := Lib.hid hb1
  have HO1 := Lib.hid ho1
  clear hb1 ho1 hc1 fz y4 y5 y6
  generalize (w.drewN (k + 1)).setCell ⟨b, 4, none⟩ (.int .u64 ((atW s.table s.va 2).toNat : Int)) = W1 at HB1 HO1 ⊢
  have hlv : (pathG s 2).lv = 2 := HL.out
  obtain ⟨c0, c1, c2, c3, c4, c5, c6, c7, c8, c9⟩ := gs_cells HB1.out
  rw [hlv] at c1
  have hf : ∀ o, W1.frozen? ⟨b, o, none⟩ = false := HB1.out.free
  clear hlv
  go_wp2_with fail
  refine (rwmay_any e _).mono ?_
  rintro e3 w3 ⟨rfl, rfl⟩
  rw [hm.out]
  have hlf2 : (((andL e 10).toNat : Int) != 0) = false := hlf.out
  go_wp2_with fail
  refine (number_any e _).mono ?_
  rintro e6 w6 ⟨rfl, hq6⟩
  have hf6 : ∀ o, w6.frozen? ⟨b, o, none⟩ = false := (HB1.out.quiet hq6).free
  obtain ⟨d0, d1, d2, d3, d4, d5, d6, d7, d8, d9⟩ := gs_cells (HB1.out.quiet hq6)
  have hb7 : Bk ((w6.setCell ⟨b, 2, none⟩ (.int .u64 ((field e 53 10).toNat : Int))).setCell ⟨b, 1, none⟩ (.int .i64 (1))) b (gsC { pathG s 2 with table := field e 53 10, lv := ((2 : Nat) : Int) - 1 }) 87 := by
    have e0 : ((gsC (pathG s 2)).setIfInBounds 2 (.int .u64 ((field e 53 10).toNat : Int))).setIfInBounds 1 (.int .i64 (1)) = gsC { pathG s 2 with table := field e 53 10, lv := ((2 : Nat) : Int) - 1 } := by simp [gsC, pathG]
    rw [← e0]
    exact ((HB1.out.quiet hq6).set 2 _).set 1 _
  have ho7 : Just [b] w ((w6.setCell ⟨b, 2, none⟩ (.int .u64 ((field e 53 10).toNat : Int))).setCell ⟨b, 1, none⟩ (.int .i64 (1))) := ((HO1.out.quiet hq6).set (.inl (by simp)) 2 _).set (.inl (by simp)) 1 _
  have HB7 := Lib.hid hb7
  have HO7 := Lib.hid ho7
  have d1' : w6.cell? ⟨b, 1, none⟩ = some (.int .i64 2) := d1.trans (by rw [show (pathG s 2).lv = 2 from HL.out])
  clear hb7 ho7 hq6 d1
  have hz2 := hz.out
  go_wp2_with fail
  refine (end_any { pathG s 2 with table := field e 53 10, lv := ((2 : Nat) : Int) - 1 } b 7 _ HB7.out).mono ?_
  rintro e4 w4 ⟨rfl, hb4, ho4⟩
  go_wp2_with fail
  first
    | refine bodyPost_end (results_none rfl _ _ _) rfl ?_
    | refine bodyPost_ret (results_none rfl _ _ _) rfl ?_
  refine ⟨rfl, ?_, HO7.out.trans ho4 (fun x hx => .inl hx)⟩
  have e5 : gotG s 2 e true = endG { pathG s 2 with table := field e 53 10, lv := ((2 : Nat) : Int) - 1 } 7 := by
    simp only [gotG, hm.out, hlf.out, hz.out]
    simp
  rw [e5]
  exact hb4
set_option maxHeartbeats 2000000 in
theorem got_down2 (s : Gs) (b : Nat) (e : BitVec 64) (w : World) (hl : s.lv = 2) (h : Bk w b (gsC s) 87) (hm : mayW e = true) (hlf : leafW e = false) (hz : (((andL e 208).toNat : Int) != 0) = false) : Calls Try.prog 55 #[.pointer (some ⟨b, 0, none⟩), .int .u64 (e.toNat : Int), .bool true] w fun e' w' =>
    e' = .returned (.tuple #[]) ∧ Bk w' b (gsC (gotG s 2 e true)) 87 ∧ Just [b] w w' := by
  have CA := Lib.hid (at_any s b 2 w hl (by omega) h)
  have hc1 := (gs_cells h).2.1
  rw [hl] at hc1
  have H := Lib.hid h
  have HL := Lib.hid hl
  clear h hl
  replace hm := Lib.hid hm
  replace hlf := Lib.hid hlf
  replace hz := Lib.hid hz
  go_enter Try.func55, Try.ntmps55
  go_wp2_with fail
  refine CA.out.mono ?_
  rintro e1 w1 ⟨rfl, k, rfl⟩
  go_wp2_with fail
  have fz := H.out.free 4
  obtain ⟨_, _, _, _, y4, y5, y6, _⟩ := gs_cells H.out
  go_region
  have hb1 : Bk ((w.drewN (k + 1)).setCell ⟨b, 4, none⟩ (.int .u64 ((atW s.table s.va 2).toNat : Int))) b (gsC (pathG s 2)) 87 := by
    have e0 : (gsC s).setIfInBounds 4 (.int .u64 ((atW s.table s.va 2).toNat : Int)) = gsC (pathG s 2) := by simp [gsC, pathG]
    rw [← e0]
    exact (H.out.drewN _).set 4 _
  have ho1 : Just [b] w ((w.drewN (k + 1)).setCell ⟨b, 4, none⟩ (.int .u64 ((atW s.table s.va 2).toNat : Int))) := ((Just.refl [b] w).drewN _).set (.inl (by simp)) 4 _
  have HB1 := Lib.hid hb1
  have HO1 := Lib.hid ho1
  clear hb1 ho1 hc1 fz y4 y5 y6
  generalize (w.drewN (k + 1)).setCell ⟨b, 4, none⟩ (.int .u64 ((atW s.table s.va 2).toNat : Int)) = W1 at HB1 HO1 ⊢
  have hlv : (pathG s 2).lv = 2 := HL.out
  obtain ⟨c0, c1, c2, c3, c4, c5, c6, c7, c8, c9⟩ := gs_cells HB1.out
  rw [hlv] at c1
  have hf : ∀ o, W1.frozen? ⟨b, o, none⟩ = false := HB1.out.free
  clear hlv
  go_wp2_with fail
  refine (rwmay_any e _).mono ?_
  rintro e3 w3 ⟨rfl, rfl⟩
  rw [hm.out]
  have hlf2 : (((andL e 10).toNat : Int) != 0) = false := hlf.out
  go_wp2_with fail
  refine (number_any e _).mono ?_
  rintro e6 w6 ⟨rfl, hq6⟩
  have hf6 : ∀ o, w6.frozen? ⟨b, o, none⟩ = false := (HB1.out.quiet hq6).free
  obtain ⟨d0, d1, d2, d3, d4, d5, d6, d7, d8, d9⟩ := gs_cells (HB1.out.quiet hq6)
  have hb7 : Bk ((w6.setCell ⟨b, 2, none⟩ (.int .u64 ((field e 53 10).toNat : Int))).setCell ⟨b, 1, none⟩ (.int .i64 (1))) b (gsC { pathG s 2 with table := field e 53 10, lv := ((2 : Nat) : Int) - 1 }) 87 := by
    have e0 : ((gsC (pathG s 2)).setIfInBounds 2 (.int .u64 ((field e 53 10).toNat : Int))).setIfInBounds 1 (.int .i64 (1)) = gsC { pathG s 2 with table := field e 53 10, lv := ((2 : Nat) : Int) - 1 } := by simp [gsC, pathG]
    rw [← e0]
    exact ((HB1.out.quiet hq6).set 2 _).set 1 _
  have ho7 : Just [b] w ((w6.setCell ⟨b, 2, none⟩ (.int .u64 ((field e 53 10).toNat : Int))).setCell ⟨b, 1, none⟩ (.int .i64 (1))) := ((HO1.out.quiet hq6).set (.inl (by simp)) 2 _).set (.inl (by simp)) 1 _
  have HB7 := Lib.hid hb7
  have HO7 := Lib.hid ho7
  have d1' : w6.cell? ⟨b, 1, none⟩ = some (.int .i64 2) := d1.trans (by rw [show (pathG s 2).lv = 2 from HL.out])
  clear hb7 ho7 hq6 d1
  have hz2 := hz.out
  go_wp2_with fail
  first
    | refine bodyPost_end (results_none rfl _ _ _) rfl ?_
    | refine bodyPost_ret (results_none rfl _ _ _) rfl ?_
  refine ⟨rfl, ?_, HO7.out⟩
  have e5 : gotG s 2 e true = { pathG s 2 with table := field e 53 10, lv := ((2 : Nat) : Int) - 1 } := by
    simp only [gotG, hm.out, hlf.out, hz.out]
    simp
  rw [e5]
  exact HB7.out
end Go.Proofs.Ythjhcdkbajbpdaa
