/- Contracts of the small functions of package walk, and of the document's: which entries may be, what they let go, where they lead. -/
import Derived.Test.YthjhcdkbajbpdaaAndL
import Derived.Test.YthjhcdkbajbpdaaRefBits
import Derived.Test.YthjhcdkbajbpdaaBits
import Derived.Test.YthjhcdkbajbpdaaBitsPlain
namespace Go.Proofs.Ythjhcdkbajbpdaa
open Go.RowKit Wd
set_option linter.unusedVariables false
set_option linter.unusedSimpArgs false
attribute [local go_sem] and_L or_L clr_L
set_option maxRecDepth 4000
/-- A call that computes a value and turns nothing at all. -/
def Pu (P : Program) (f : FuncId) (args : Array Value) (v : Value) : Prop := ∀ w, Calls P f args w fun e w' => e = .returned v ∧ w' = w
theorem Pu.qt {P : Program} {f : FuncId} {args : Array Value} {v : Value} (h : Pu P f args v) : Qt P f args v := fun w => (h w).mono fun _ _ k => ⟨k.1, by rw [k.2]; exact Quiet.refl _⟩
namespace Wd
structure Pte where
  level : Int
  p0 : BitVec 64
  p1 : BitVec 64
  p2 : BitVec 64
  entry : BitVec 64
def pteC (p : Pte) : Array Value := #[.int .i64 p.level, .int .u64 (p.p0.toNat : Int), .int .u64 (p.p1.toNat : Int), .int .u64 (p.p2.toNat : Int), .int .u64 (p.entry.toNat : Int)]
def mayW (e : BitVec 64) : Bool := (((andL e 1).toNat : Int) != 0) && ((((andL e 4).toNat : Int) == 0) || (((andL e 2).toNat : Int) != 0)) && ((e.toNat : Int) / 18014398509481984 == 0)
def leafW (e : BitVec 64) : Bool := ((andL e 10).toNat : Int) != 0
def onB (s : BitVec 64) (p : Int) : Bool := ((s.toNat : Int) / 1152921504606846976 == 8) && ((p == 0) || (p == 1))
def kindB (e : BitVec 64) (k : Int) (mxr : Bool) : Bool :=
  if k = 0 then ((andL e 8).toNat : Int) != 0 else if k = 1 then (((andL e 2).toNat : Int) != 0) || (mxr && (((andL e 8).toNat : Int) != 0)) else if k = 2 then ((andL e 4).toNat : Int) != 0 else false
def privB (e : BitVec 64) (k p : Int) (sum : Bool) : Bool :=
  if p = 0 then ((andL e 16).toNat : Int) != 0 else if p = 1 then (((andL e 16).toNat : Int) == 0) || (sum && decide (k ≠ 0)) else true
def checkB (e : BitVec 64) (k p : Int) (sum mxr : Bool) : Bool := kindB e k mxr && privB e k p sum
def marksW (e : BitVec 64) (k : Int) : BitVec 64 := if k = 2 then orL (orL e 64) 128 else orL e 64
def marksB (e : BitVec 64) (k : Int) : Bool := ((marksW e k).toNat : Int) != (e.toNat : Int)
def shlW (v : BitVec 64) (n : Nat) : BitVec 64 := v <<< n
def shrW (v : BitVec 64) (n : Nat) : BitVec 64 := v >>> n
theorem shl_L (v : BitVec 64) (n : Nat) (p : Int) (hp : p = 2 ^ n) : IntKind.u64.wrap ((v.toNat : Int) * p) = ((shlW v n).toNat : Int) := by
  rw [w64, hp, shl64]
  rfl
theorem shr_L (v : BitVec 64) (n : Nat) (p : Int) (hp : p = 2 ^ n) : ((v.toNat : Int) / p) = ((shrW v n).toNat : Int) := by
  rw [hp, shr64]
  rfl
theorem shl_12 (v : BitVec 64) : IntKind.u64.wrap ((v.toNat : Int) * 4096) = ((shlW v 12).toNat : Int) := shl_L v 12 _ (by decide)
theorem shl_21 (v : BitVec 64) : IntKind.u64.wrap ((v.toNat : Int) * 2097152) = ((shlW v 21).toNat : Int) := shl_L v 21 _ (by decide)
theorem shl_30 (v : BitVec 64) : IntKind.u64.wrap ((v.toNat : Int) * 1073741824) = ((shlW v 30).toNat : Int) := shl_L v 30 _ (by decide)
theorem shr_12 (v : BitVec 64) : ((v.toNat : Int) / 4096) = ((shrW v 12).toNat : Int) := shr_L v 12 _ (by decide)
theorem shr_21 (v : BitVec 64) : ((v.toNat : Int) / 2097152) = ((shrW v 21).toNat : Int) := shr_L v 21 _ (by decide)
theorem shr_30 (v : BitVec 64) : ((v.toNat : Int) / 1073741824) = ((shrW v 30).toNat : Int) := shr_L v 30 _ (by decide)
def lvN (l : Int) : Nat := if l ≤ 0 then 0 else if l = 1 then 1 else 2
def addrW (e va : BitVec 64) (n : Nat) : BitVec 64 := zext (orL (shlW (shrW (shlW (field e 53 10) 12) n) n) ((zext va n).toNat : Int)) 56
def faultI (k : Int) (page : Bool) : Int := if k = 0 then (if page then 12 else 1) else if k = 1 then (if page then 13 else 5) else if page then 15 else 7
end Wd

theorem wmay_any (e : BitVec 64) : Pu Try.prog 47 #[.int .u64 (e.toNat : Int)] (.bool (mayW e)) := by
  intro w
  go_enter Try.func47, Try.ntmps47
  go_wp2_with fail
  all_goals (go_ret; exact ⟨ret_bool (by unfold mayW; simp [*]), rfl⟩)
theorem rwmay_any (e : BitVec 64) : Pu Try.prog 76 #[.int .u64 (e.toNat : Int)] (.bool (mayW e)) := by
  intro w
  go_enter Try.func76, Try.ntmps76
  go_wp2_with fail
  all_goals (go_ret; exact ⟨ret_bool (by unfold mayW; simp [*]), rfl⟩)
theorem leaf_any (e : BitVec 64) : Pu Try.prog 48 #[.int .u64 (e.toNat : Int)] (.bool (leafW e)) := by
  intro w
  go_enter Try.func48, Try.ntmps48
  go_wp2_with fail
  go_ret
  exact ⟨rfl, rfl⟩
theorem on_any (s : BitVec 64) (p : Int) : Pu Try.prog 24 #[.int .u64 (s.toNat : Int), .int .i64 p] (.bool (onB s p)) := by
  intro w
  go_enter Try.func24, Try.ntmps24
  go_wp2_with fail
  all_goals (go_ret; exact ⟨ret_bool (by unfold onB; simp_all), rfl⟩)
theorem ron_any (s : BitVec 64) (p : Int) : Pu Try.prog 25 #[.int .u64 (s.toNat : Int), .int .i64 p] (.bool (onB s p)) := by
  intro w
  go_enter Try.func25, Try.ntmps25
  go_wp2_with fail
  all_goals (go_ret; exact ⟨ret_bool (by unfold onB; simp_all), rfl⟩)
theorem marks_any (p : Pte) (k : Int) : Mk Try.prog 27 #[.agg (pteC p), .int .i64 k] (.tuple #[.int .u64 ((marksW p.entry k).toNat : Int), .bool (marksB p.entry k)]) := by
  intro w
  unfold pteC
  by_cases q : k = 2
  · subst q
    go_enter Try.func27, Try.ntmps27
    go_wp2_with fail
    go_quiet (fail)
    go_wp2_with fail
    go_ret2
    exact ⟨rfl, below_drewN ((Below.refl _ _).alloc (Nat.le_refl _) _) _⟩
  · have hm := Lib.hid (show marksW p.entry k = orL p.entry 64 from if_neg q)
    have q2 : (k == 2) = false := beq_eq_false_iff_ne.2 q
    go_enter Try.func27, Try.ntmps27
    go_wp2_with fail
    go_quiet (fail)
    go_wp2_with fail
    go_ret2
    exact ⟨by unfold marksB; rw [hm.out]; rfl, below_drewN ((Below.refl _ _).alloc (Nat.le_refl _) _) _⟩

theorem rmarks_any (p : Pte) (k : Int) : Mk Try.prog 28 #[.agg (pteC p), .int .i64 k] (.tuple #[.int .u64 ((marksW p.entry k).toNat : Int), .bool (marksB p.entry k)]) := by
  intro w
  unfold pteC
  by_cases q : k = 2
  · subst q
    go_enter Try.func28, Try.ntmps28
    go_wp2_with fail
    go_quiet (fail)
    go_wp2_with fail
    go_ret2
    exact ⟨rfl, below_drewN ((Below.refl _ _).alloc (Nat.le_refl _) _) _⟩
  · have hm := Lib.hid (show marksW p.entry k = orL p.entry 64 from if_neg q)
    have q2 : (k == 2) = false := beq_eq_false_iff_ne.2 q
    go_enter Try.func28, Try.ntmps28
    go_wp2_with fail
    go_quiet (fail)
    go_wp2_with fail
    go_ret2
    exact ⟨by unfold marksB; rw [hm.out]; rfl, below_drewN ((Below.refl _ _).alloc (Nat.le_refl _) _) _⟩

set_option maxHeartbeats 4000000 in
theorem check_any (p : Pte) (k v : Int) (sum mxr : Bool) : Mk Try.prog 26 #[.agg (pteC p), .int .i64 k, .int .i64 v, .bool sum, .bool mxr] (.bool (checkB p.entry k v sum mxr)) := by
  intro w
  unfold pteC
  have e0 : (0 : Int) = 0 := rfl
  have kk : k = 0 ∨ k = 1 ∨ k = 2 ∨ ((k == 0) = false ∧ (k == 1) = false ∧ (k == 2) = false) := by
    simp only [beq_eq_false_iff_ne]
    omega
  have vv : v = 0 ∨ v = 1 ∨ ((v == 0) = false ∧ (v == 1) = false) := by
    simp only [beq_eq_false_iff_ne]
    omega
  clear e0
  rcases kk with rfl | rfl | rfl | ⟨k0, k1, k2⟩ <;> rcases vv with rfl | rfl | ⟨v0, v1⟩ <;> cases sum <;> cases mxr
  all_goals
    go_enter Try.func26, Try.ntmps26
    go_wp2_with fail
    all_goals
      go_ret
      exact ⟨ret_bool (by unfold checkB kindB privB; simp_all), (Below.refl _ _).alloc (Nat.le_refl _) _⟩

set_option maxHeartbeats 4000000 in
theorem rcheck_any (p : Pte) (k v : Int) (sum mxr : Bool) : Mk Try.prog 29 #[.agg (pteC p), .int .i64 k, .int .i64 v, .bool sum, .bool mxr] (.bool (checkB p.entry k v sum mxr)) := by
  intro w
  unfold pteC
  have e0 : (0 : Int) = 0 := rfl
  have kk : k = 0 ∨ k = 1 ∨ k = 2 ∨ ((k == 0) = false ∧ (k == 1) = false ∧ (k == 2) = false) := by
    simp only [beq_eq_false_iff_ne]
    omega
  have vv : v = 0 ∨ v = 1 ∨ ((v == 0) = false ∧ (v == 1) = false) := by
    simp only [beq_eq_false_iff_ne]
    omega
  clear e0
  rcases kk with rfl | rfl | rfl | ⟨k0, k1, k2⟩ <;> rcases vv with rfl | rfl | ⟨v0, v1⟩ <;> cases sum <;> cases mxr
  all_goals
    go_enter Try.func29, Try.ntmps29
    go_wp2_with fail
    all_goals
      go_ret
      exact ⟨ret_bool (by unfold checkB kindB privB; simp_all), (Below.refl _ _).alloc (Nat.le_refl _) _⟩

theorem fault_any (k : Int) (page : Bool) : Pu Try.prog 30 #[.int .i64 k, .bool page] (.int .u64 (faultI k page)) := by
  intro w
  have kk : k = 0 ∨ k = 1 ∨ ((k == 0) = false ∧ (k == 1) = false) := by
    simp only [beq_eq_false_iff_ne]
    omega
  rcases kk with rfl | rfl | ⟨k0, k1⟩ <;> cases page
  all_goals
    go_enter Try.func30, Try.ntmps30
    go_wp2_with fail
    go_ret
    exact ⟨ret_int (by unfold faultI; simp_all), rfl⟩

theorem rfault_any (k : Int) (page : Bool) : Pu Try.prog 31 #[.int .i64 k, .bool page] (.int .u64 (faultI k page)) := by
  intro w
  have kk : k = 0 ∨ k = 1 ∨ ((k == 0) = false ∧ (k == 1) = false) := by
    simp only [beq_eq_false_iff_ne]
    omega
  rcases kk with rfl | rfl | ⟨k0, k1⟩ <;> cases page
  all_goals
    go_enter Try.func31, Try.ntmps31
    go_wp2_with fail
    go_ret
    exact ⟨ret_int (by unfold faultI; simp_all), rfl⟩

theorem ppn_any (e : BitVec 64) : Qt Try.prog 49 #[.int .u64 (e.toNat : Int)] (.int .u64 ((field e 53 10).toNat : Int)) := by
  intro w
  go_enter Try.func49, Try.ntmps49
  go_wp2_with (go_at_call 46; refine (field_any _ _ _ _).mono ?_; rintro e1 w1 ⟨rfl, hq⟩)
  go_ret
  exact ⟨rfl, hq⟩
theorem number_any (e : BitVec 64) : Qt Try.prog 57 #[.int .u64 (e.toNat : Int)] (.int .u64 ((field e 53 10).toNat : Int)) := by
  intro w
  go_enter Try.func57, Try.ntmps57
  go_wp2_with (go_at_call 72; refine (rfield_any _ _ _ _).mono ?_; rintro e1 w1 ⟨rfl, hq⟩)
  go_ret
  exact ⟨rfl, hq⟩
theorem right_any (v : BitVec 64) : Qt Try.prog 73 #[.int .u64 (v.toNat : Int)] (.bool (((sext v 39).toNat : Int) == (v.toNat : Int))) := by
  intro w
  go_enter Try.func73, Try.ntmps73
  go_wp2_with (go_at_call 90; refine (rsext_any _ _ _).mono ?_; rintro e1 w1 ⟨rfl, hq⟩)
  go_ret
  exact ⟨rfl, hq⟩
attribute [local go_sem] shl_12 shl_21 shl_30 shr_12 shr_21 shr_30
set_option maxHeartbeats 4000000 in
theorem addr_any (p : Pte) (va : BitVec 64) : Mk Try.prog 19 #[.agg (pteC p), .int .u64 (va.toNat : Int)] (.int .u64 ((addrW p.entry va (12 + 9 * lvN p.level)).toNat : Int)) := by
  intro w
  unfold pteC
  have hlv : (p.level < 0 ∧ lvN p.level = 0) ∨ (p.level = 0 ∧ lvN p.level = 0) ∨ (p.level = 1 ∧ lvN p.level = 1) ∨ (p.level = 2 ∧ lvN p.level = 2) ∨ (2 < p.level ∧ lvN p.level = 2) := by
    unfold lvN
    split
    · by_cases c : p.level = 0
      · exact .inr (.inl ⟨c, rfl⟩)
      · exact .inl ⟨by omega, rfl⟩
    · split
      · exact .inr (.inr (.inl ⟨by omega, rfl⟩))
      · by_cases c : p.level = 2
        · exact .inr (.inr (.inr (.inl ⟨c, rfl⟩)))
        · exact .inr (.inr (.inr (.inr ⟨by omega, rfl⟩)))
  rcases hlv with ⟨l0, hl⟩ | ⟨l0, hl⟩ | ⟨l0, hl⟩ | ⟨l0, hl⟩ | ⟨l0, hl⟩
  all_goals
    have Hl := Lib.hid hl
    clear hl
    go_enter Try.func19, Try.ntmps19
    go_wp2_with fail
    go_quiet ((first | (go_at_call 49; exact (ppn_any _).quiet) | (go_at_call 45; exact (zext_any _ _).quiet)))
    go_wp2_with fail
    go_ret
    exact ⟨ret_int (by rw [Hl.out]; rfl), below_drewN ((Below.refl _ _).alloc (Nat.le_refl _) _) _⟩
namespace Wd
def raddrW (e va : BitVec 64) (n : Nat) : BitVec 64 := andL (put (shlW (field e 53 10) 12) ((n : Int) - 1) 0 va) 72057594037927935
end Wd
set_option maxHeartbeats 4000000 in
theorem raddr_any (p : Pte) (va : BitVec 64) : Mk Try.prog 32 #[.agg (pteC p), .int .u64 (va.toNat : Int)] (.int .u64 ((raddrW p.entry va (12 + 9 * lvN p.level)).toNat : Int)) := by
  intro w
  unfold pteC
  have hlv : (p.level < 0 ∧ lvN p.level = 0) ∨ (p.level = 0 ∧ lvN p.level = 0) ∨ (p.level = 1 ∧ lvN p.level = 1) ∨ (p.level = 2 ∧ lvN p.level = 2) ∨ (2 < p.level ∧ lvN p.level = 2) := by
    unfold lvN
    split
    · by_cases c : p.level = 0
      · exact .inr (.inl ⟨c, rfl⟩)
      · exact .inl ⟨by omega, rfl⟩
    · split
      · exact .inr (.inr (.inl ⟨by omega, rfl⟩))
      · by_cases c : p.level = 2
        · exact .inr (.inr (.inr (.inl ⟨c, rfl⟩)))
        · exact .inr (.inr (.inr (.inr ⟨by omega, rfl⟩)))
  rcases hlv with ⟨l0, hl⟩ | ⟨l0, hl⟩ | ⟨l0, hl⟩ | ⟨l0, hl⟩ | ⟨l0, hl⟩
  all_goals
    have Hl := Lib.hid hl
    clear hl
    go_enter Try.func32, Try.ntmps32
    go_wp2_with (first
      | (go_at_call 57; refine (number_any _ _).mono ?_; rintro e1 w1 ⟨rfl, hq1⟩)
      | (go_at_call 56; refine (rput_any _ _ _ _ _).mono ?_; rintro e1 w2 ⟨rfl, hq2⟩))
    go_ret
    exact ⟨ret_int (by rw [Hl.out]; rfl), ((Below.refl _ _).alloc (Nat.le_refl _) _).trans ((hq1.trans hq2).below _)⟩
namespace Wd
theorem addr_same (e va : BitVec 64) (n : Nat) (hn : 12 ≤ n) (hn2 : n ≤ 30) : raddrW e va n = addrW e va n := by
  apply BitVec.eq_of_getLsbD_eq
  intro i hi
  unfold raddrW addrW
  have hm : (BitVec.ofInt 64 72057594037927935).getLsbD i = decide (i < 56) := (show ∀ i, i < 64 → (BitVec.ofInt 64 72057594037927935).getLsbD i = decide (i < 56) by decide +kernel) i hi
  rw [get_and, hm]
  unfold put
  rw [if_pos ((may_iff _ _).2 (by omega)), show (0 : Int).toNat = 0 from rfl, show ((n : Int) - 1 - 0 + 1).toNat = n from by omega, putN_get _ _ _ _ _ hi]
  unfold zext
  rw [show ((56 : Int)).toNat = 56 from rfl, zextN_get, get_or, of64]
  have hz : (zextN va n).getLsbD i = (decide (i < n) && va.getLsbD i) := zextN_get _ _ _
  rw [show ((n : Int)).toNat = n from by omega, hz]
  unfold shlW shrW
  rw [BitVec.getLsbD_shiftLeft, BitVec.getLsbD_shiftLeft, BitVec.getLsbD_ushiftRight, BitVec.getLsbD_shiftLeft]
  by_cases c : i < n
  · rw [if_pos (by omega), decide_eq_true c]
    simp only [Nat.sub_zero, Bool.not_true, Bool.and_false, Bool.false_and, Bool.true_and, Bool.false_or]
    exact Bool.and_comm _ _
  · rw [if_neg (by omega), decide_eq_false c, decide_eq_true hi]
    simp only [Bool.not_false, Bool.true_and, Bool.false_and, Bool.or_false]
    rw [show n + (i - n) = i from by omega, decide_eq_true hi]
    by_cases d : i < 56 <;> simp [d]
end Wd
end Go.Proofs.Ythjhcdkbajbpdaa
