/- The laws WalkChecks, WalkMarked, WalkRights, walked: each call answers true. -/
import Derived.Test.YthjhcdkbajbpdaaWalkLawsPlain
import Derived.Test.YthjhcdkbajbpdaaWalkAw
import Derived.Test.YthjhcdkbajbpdaaFlat
import Derived.Deep.RegionHeld3
namespace Go.Proofs.Ythjhcdkbajbpdaa
open Go.RowKit Wd
set_option linter.unusedVariables false
set_option linter.unusedSimpArgs false
attribute [local go_sem] and_L or_L
set_option maxRecDepth 8000
namespace Wd
def five (p : Pte) : Array Value := pteC p
end Wd
/-- A leaf in a block, in a world in which nothing old has turned. -/
theorem pte_in {W w' : World} {b : Nat} {l a0 a1 a2 e : Int} (h : rowC W b = some #[.int .i64 l, .int .u64 a0, .int .u64 a1, .int .u64 a2, .int .u64 e]) (hb : Below W.heap.size W w') :
    rowC w' b = some #[.int .i64 l, .int .u64 a0, .int .u64 a1, .int .u64 a2, .int .u64 e] ∧ w'.cell? ⟨b, 0, none⟩ = some (.int .i64 l) ∧ w'.cell? ⟨b, 1, none⟩ = some (.int .u64 a0) ∧ w'.cell? ⟨b, 2, none⟩ = some (.int .u64 a1) ∧ w'.cell? ⟨b, 3, none⟩ = some (.int .u64 a2) ∧ w'.cell? ⟨b, 4, none⟩ = some (.int .u64 e) := by
  have h2 := rowC_below h hb
  exact ⟨h2, rowC_cell h2 0, rowC_cell h2 1, rowC_cell h2 2, rowC_cell h2 3, rowC_cell h2 4⟩
/-- Two leaves in their blocks. -/
theorem two_in {W w' : World} {b c : Nat} {l a0 a1 a2 e m d0 d1 d2 f : Int} (h : rowC W b = some #[.int .i64 l, .int .u64 a0, .int .u64 a1, .int .u64 a2, .int .u64 e]) (k : rowC W c = some #[.int .i64 m, .int .u64 d0, .int .u64 d1, .int .u64 d2, .int .u64 f]) (hb : Below W.heap.size W w') :
    Below W.heap.size W w' ∧ (w'.cell? ⟨b, 0, none⟩ = some (.int .i64 l) ∧ w'.cell? ⟨b, 1, none⟩ = some (.int .u64 a0) ∧ w'.cell? ⟨b, 2, none⟩ = some (.int .u64 a1) ∧ w'.cell? ⟨b, 3, none⟩ = some (.int .u64 a2) ∧ w'.cell? ⟨b, 4, none⟩ = some (.int .u64 e)) ∧
      w'.cell? ⟨c, 0, none⟩ = some (.int .i64 m) ∧ w'.cell? ⟨c, 1, none⟩ = some (.int .u64 d0) ∧ w'.cell? ⟨c, 2, none⟩ = some (.int .u64 d1) ∧ w'.cell? ⟨c, 3, none⟩ = some (.int .u64 d2) ∧ w'.cell? ⟨c, 4, none⟩ = some (.int .u64 f) :=
  ⟨hb, (pte_in h hb).2, (pte_in k hb).2⟩
set_option maxHeartbeats 4000000 in
theorem walkMarked_walk (p : Pte) (k v : Int) (sum mxr : Bool) (w : World) :
    Calls Try.prog 8 #[.agg (pteC p), .int .i64 k, .int .i64 v, .bool sum, .bool mxr] w fun e w' => e = .returned (.bool true) ∧ Below w.heap.size w w' := by
  have m1 := marks_again p.entry k
  have m2 := marks_load p.entry k
  have m3 := check_same p.entry (marksW p.entry k) k v sum mxr (fun i _ h => marks_low p.entry k i h)
  have b1 : marksB (marksW p.entry k) k = false := by unfold marksB; rw [m1]; simp
  have b2 : marksB (marksW p.entry k) 1 = false := by unfold marksB; rw [m2]; simp
  have b0 : (((marksW p.entry k).toNat : Int) != (p.entry.toNat : Int)) = marksB p.entry k := rfl
  have M2 : Mk Try.prog 27 #[.agg #[.int .i64 p.level, .int .u64 (p.p0.toNat : Int), .int .u64 (p.p1.toNat : Int), .int .u64 (p.p2.toNat : Int), .int .u64 ((marksW p.entry k).toNat : Int)], .int .i64 k] (.tuple #[.int .u64 ((marksW p.entry k).toNat : Int), .bool false]) := by
    have := marks_any ⟨p.level, p.p0, p.p1, p.p2, marksW p.entry k⟩ k
    rw [show (⟨p.level, p.p0, p.p1, p.p2, marksW p.entry k⟩ : Pte).entry = marksW p.entry k from rfl, m1, b1] at this
    exact this
  have M3 : Mk Try.prog 27 #[.agg #[.int .i64 p.level, .int .u64 (p.p0.toNat : Int), .int .u64 (p.p1.toNat : Int), .int .u64 (p.p2.toNat : Int), .int .u64 ((marksW p.entry k).toNat : Int)], .int .i64 1] (.tuple #[.int .u64 ((marksW p.entry k).toNat : Int), .bool false]) := by
    have := marks_any ⟨p.level, p.p0, p.p1, p.p2, marksW p.entry k⟩ 1
    rw [show (⟨p.level, p.p0, p.p1, p.p2, marksW p.entry k⟩ : Pte).entry = marksW p.entry k from rfl, m2, b2] at this
    exact this
  have C1 : Mk Try.prog 26 #[.agg #[.int .i64 p.level, .int .u64 (p.p0.toNat : Int), .int .u64 (p.p1.toNat : Int), .int .u64 (p.p2.toNat : Int), .int .u64 (p.entry.toNat : Int)], .int .i64 k, .int .i64 v, .bool sum, .bool mxr] (.bool (checkB p.entry k v sum mxr)) := check_any p k v sum mxr
  have C2 : Mk Try.prog 26 #[.agg #[.int .i64 p.level, .int .u64 (p.p0.toNat : Int), .int .u64 (p.p1.toNat : Int), .int .u64 (p.p2.toNat : Int), .int .u64 ((marksW p.entry k).toNat : Int)], .int .i64 k, .int .i64 v, .bool sum, .bool mxr] (.bool (checkB p.entry k v sum mxr)) := by
    have := check_any ⟨p.level, p.p0, p.p1, p.p2, marksW p.entry k⟩ k v sum mxr
    rw [show (⟨p.level, p.p0, p.p1, p.p2, marksW p.entry k⟩ : Pte).entry = marksW p.entry k from rfl, m3] at this
    exact this
  replace M2 := Lib.hid M2
  replace M3 := Lib.hid M3
  replace C1 := Lib.hid C1
  replace C2 := Lib.hid C2
  clear m1 m2 m3 b1 b2
  unfold pteC
  go_enter Try.func8, Try.ntmps8
  go_wp2_with fail
  refine (marks_any p k _).mono ?_
  rintro e w1 ⟨rfl, hb1⟩
  have r0 : rowC (w.alloc (.cells #[.int .i64 p.level, .int .u64 (p.p0.toNat : Int), .int .u64 (p.p1.toNat : Int), .int .u64 (p.p2.toNat : Int), .int .u64 (p.entry.toNat : Int)] 29)) w.heap.size = some #[.int .i64 p.level, .int .u64 (p.p0.toNat : Int), .int .u64 (p.p1.toNat : Int), .int .u64 (p.p2.toNat : Int), .int .u64 (p.entry.toNat : Int)] := by rw [rowC_alloc, if_pos rfl]
  obtain ⟨r1, c0, c1, c2, c3, c4⟩ := pte_in r0 hb1
  have hz1 : w.heap.size < w1.heap.size := by have := hb1.size; simp at this; omega
  have HB1 := Lib.hid (below_alloc hb1)
  clear hb1 r0
  go_wp2_with fail
  refine (M2.out _).mono ?_
  rintro e w2 ⟨rfl, hb2⟩
  have q0 : rowC (w1.alloc (.cells #[.int .i64 p.level, .int .u64 (p.p0.toNat : Int), .int .u64 (p.p1.toNat : Int), .int .u64 (p.p2.toNat : Int), .int .u64 ((marksW p.entry k).toNat : Int)] 29)) w1.heap.size = some #[.int .i64 p.level, .int .u64 (p.p0.toNat : Int), .int .u64 (p.p1.toNat : Int), .int .u64 (p.p2.toNat : Int), .int .u64 ((marksW p.entry k).toNat : Int)] := by rw [rowC_alloc, if_pos rfl]
  obtain ⟨q2, d0, d1, d2, d3, d4⟩ := pte_in q0 hb2
  obtain ⟨r2, _⟩ := pte_in r1 (below_alloc hb2)
  have HB2 := Lib.hid (HB1.out.trans ((below_alloc hb2).mono HB1.out.size))
  clear hb2 q0 r1 c0 c1 c2 c3 c4
  go_wp2_with fail
  refine (M3.out _).mono ?_
  rintro e w3 ⟨rfl, hb3⟩
  obtain ⟨r3, _⟩ := pte_in r2 hb3
  obtain ⟨q3, _⟩ := pte_in q2 hb3
  have HB3 := Lib.hid (HB2.out.trans (hb3.mono HB2.out.size))
  clear hb3 q2 r2 d0 d1 d2 d3 d4
  replace r3 := Lib.hid r3
  replace q3 := Lib.hid q3
  go_wp2_with fail
  go_region_held3 (fun w' => Below w3.heap.size w3 w' ∧ (w'.cell? ⟨w.heap.size, 0, none⟩ = some (.int .i64 p.level) ∧ w'.cell? ⟨w.heap.size, 1, none⟩ = some (.int .u64 (p.p0.toNat : Int)) ∧ w'.cell? ⟨w.heap.size, 2, none⟩ = some (.int .u64 (p.p1.toNat : Int)) ∧ w'.cell? ⟨w.heap.size, 3, none⟩ = some (.int .u64 (p.p2.toNat : Int)) ∧ w'.cell? ⟨w.heap.size, 4, none⟩ = some (.int .u64 (p.entry.toNat : Int))) ∧ w'.cell? ⟨w1.heap.size, 0, none⟩ = some (.int .i64 p.level) ∧ w'.cell? ⟨w1.heap.size, 1, none⟩ = some (.int .u64 (p.p0.toNat : Int)) ∧ w'.cell? ⟨w1.heap.size, 2, none⟩ = some (.int .u64 (p.p1.toNat : Int)) ∧ w'.cell? ⟨w1.heap.size, 3, none⟩ = some (.int .u64 (p.p2.toNat : Int)) ∧ w'.cell? ⟨w1.heap.size, 4, none⟩ = some (.int .u64 ((marksW p.entry k).toNat : Int))) (first | exact two_in r3.out q3.out hb1 | exact two_in r3.out q3.out (Below.refl _ _).drew | exact two_in r3.out q3.out (Below.refl _ _))
    (first
      | (go_at_call 17; refine ((awake_any).at (‹_ ∧ _›.1)).mono ?_; rintro e w4 ⟨rfl, hb1⟩)
      | (go_at_call_of 26 (marksW p.entry k); refine ((C2.out).at (‹_ ∧ _›.1)).mono ?_; rintro e w4 ⟨rfl, hb1⟩)
      | (go_at_call 26; refine ((C1.out).at (‹_ ∧ _›.1)).mono ?_; rintro e w4 ⟨rfl, hb1⟩))
  all_goals
    go_wp2_with fail
    go_ret
    exact ⟨rfl, HB3.out.trans (hb1.mono HB3.out.size)⟩

theorem rights_rows (w : World) (l a0 a1 a2 e f : Int) : rowC ((w.alloc (.cells #[.int .i64 l, .int .u64 a0, .int .u64 a1, .int .u64 a2, .int .u64 e] 29)).alloc (.cells #[.int .i64 l, .int .u64 a0, .int .u64 a1, .int .u64 a2, .int .u64 f] 29)) w.heap.size = some #[.int .i64 l, .int .u64 a0, .int .u64 a1, .int .u64 a2, .int .u64 e] ∧
    rowC ((w.alloc (.cells #[.int .i64 l, .int .u64 a0, .int .u64 a1, .int .u64 a2, .int .u64 e] 29)).alloc (.cells #[.int .i64 l, .int .u64 a0, .int .u64 a1, .int .u64 a2, .int .u64 f] 29)) (w.heap.size + 1) = some #[.int .i64 l, .int .u64 a0, .int .u64 a1, .int .u64 a2, .int .u64 f] := by
  refine ⟨?_, ?_⟩
  · rw [rowC_alloc, if_neg (by simp), rowC_alloc, if_pos rfl]
  · rw [rowC_alloc, if_pos (by simp)]
set_option maxHeartbeats 8000000 in
theorem walkRights_walk (p : Pte) (m : BitVec 64) (k v : Int) (sum mxr : Bool) (w : World) (x y z : Bool) (hx : checkB p.entry k v sum mxr = x) (hy : checkB (orL p.entry ((andL m 14).toNat : Int)) k v sum mxr = y) (hz : checkB p.entry k v false false = z) (hxy : x = true → y = true) (hzx : z = true → x = true) (hk : k = 0 → x = z) :
    Calls Try.prog 7 #[.agg (pteC p), .int .u64 (m.toNat : Int), .int .i64 k, .int .i64 v, .bool sum, .bool mxr] w fun e w' => e = .returned (.bool true) ∧ Below w.heap.size w w' := by
  have C1 : Mk Try.prog 26 #[.agg #[.int .i64 p.level, .int .u64 (p.p0.toNat : Int), .int .u64 (p.p1.toNat : Int), .int .u64 (p.p2.toNat : Int), .int .u64 (p.entry.toNat : Int)], .int .i64 k, .int .i64 v, .bool sum, .bool mxr] (.bool x) := by
    have := check_any p k v sum mxr
    rw [hx] at this
    exact this
  have C2 : Mk Try.prog 26 #[.agg #[.int .i64 p.level, .int .u64 (p.p0.toNat : Int), .int .u64 (p.p1.toNat : Int), .int .u64 (p.p2.toNat : Int), .int .u64 ((orL p.entry ((andL m 14).toNat : Int)).toNat : Int)], .int .i64 k, .int .i64 v, .bool sum, .bool mxr] (.bool y) := by
    have := check_any ⟨p.level, p.p0, p.p1, p.p2, (orL p.entry ((andL m 14).toNat : Int))⟩ k v sum mxr
    rw [show (⟨p.level, p.p0, p.p1, p.p2, (orL p.entry ((andL m 14).toNat : Int))⟩ : Pte).entry = (orL p.entry ((andL m 14).toNat : Int)) from rfl, hy] at this
    exact this
  have C0 : Mk Try.prog 26 #[.agg #[.int .i64 p.level, .int .u64 (p.p0.toNat : Int), .int .u64 (p.p1.toNat : Int), .int .u64 (p.p2.toNat : Int), .int .u64 (p.entry.toNat : Int)], .int .i64 k, .int .i64 v, .bool false, .bool false] (.bool z) := by
    have := check_any p k v false false
    rw [hz] at this
    exact this
  replace C0 := Lib.hid C0
  replace C1 := Lib.hid C1
  replace C2 := Lib.hid C2
  clear hx hy hz
  obtain ⟨r0, q0⟩ := rights_rows w p.level (p.p0.toNat : Int) (p.p1.toNat : Int) (p.p2.toNat : Int) (p.entry.toNat : Int) ((orL p.entry ((andL m 14).toNat : Int)).toNat : Int)
  have hb0 : Below w.heap.size w ((w.alloc (.cells #[.int .i64 p.level, .int .u64 (p.p0.toNat : Int), .int .u64 (p.p1.toNat : Int), .int .u64 (p.p2.toNat : Int), .int .u64 (p.entry.toNat : Int)] 29)).alloc (.cells #[.int .i64 p.level, .int .u64 (p.p0.toNat : Int), .int .u64 (p.p1.toNat : Int), .int .u64 (p.p2.toNat : Int), .int .u64 ((orL p.entry ((andL m 14).toNat : Int)).toNat : Int)] 29)) := ((Below.refl _ _).alloc (Nat.le_refl _) _).alloc (by simp) _
  replace r0 := Lib.hid r0
  replace q0 := Lib.hid q0
  have HB0 := Lib.hid hb0
  clear hb0
  unfold pteC
  have hkk : k = 0 ∨ (k != 0) = true := by
    by_cases h : k = 0
    · exact .inl h
    · exact .inr (bne_iff_ne.2 h)
  have HX := Lib.hid hxy
  have HZ := Lib.hid hzx
  have HK := Lib.hid hk
  clear hxy hzx hk
  go_enter Try.func7, Try.ntmps7
  go_wp2_with fail
  refine (awake_any _).mono ?_
  rintro e w1 ⟨rfl, hb1⟩
  obtain ⟨_, ⟨c0, c1, c2, c3, c4⟩, d0, d1, d2, d3, d4⟩ := two_in r0.out q0.out hb1
  have hq1 := rowC_below r0.out hb1
  have hq2 := rowC_below q0.out hb1
  have HB1 := Lib.hid (HB0.out.trans (hb1.mono HB0.out.size))
  clear r0 q0 hb1
  replace hq1 := Lib.hid hq1
  replace hq2 := Lib.hid hq2
  go_wp2_with fail
  refine (C1.out _).mono ?_
  rintro e w2 ⟨rfl, hb2⟩
  obtain ⟨_, ⟨c0, c1, c2, c3, c4⟩, d0, d1, d2, d3, d4⟩ := two_in hq1.out hq2.out hb2
  have hr1 := Lib.hid (rowC_below hq1.out hb2)
  have hr2 := Lib.hid (rowC_below hq2.out hb2)
  have HB2 := Lib.hid (HB1.out.trans (hb2.mono HB1.out.size))
  clear hq1 hq2 hb2
  cases x with
  | true =>
    obtain rfl := HX.out rfl
    go_wp2_with fail
    refine (C2.out _).mono ?_
    rintro e w3 ⟨rfl, hb3⟩
    obtain ⟨_, ⟨c0, c1, c2, c3, c4⟩, d0, d1, d2, d3, d4⟩ := two_in hr1.out hr2.out hb3
    have hs1 := Lib.hid (rowC_below hr1.out hb3)
    have hs2 := Lib.hid (rowC_below hr2.out hb3)
    have HB3 := Lib.hid (HB2.out.trans (hb3.mono HB2.out.size))
    clear hr1 hr2 hb3
    go_wp2_with fail
    refine (C0.out _).mono ?_
    rintro e w4 ⟨rfl, hb4⟩
    obtain ⟨_, ⟨c0, c1, c2, c3, c4⟩, d0, d1, d2, d3, d4⟩ := two_in hs1.out hs2.out hb4
    have ht1 := Lib.hid (rowC_below hs1.out hb4)
    have ht2 := Lib.hid (rowC_below hs2.out hb4)
    have HB4 := Lib.hid (HB3.out.trans (hb4.mono HB3.out.size))
    clear hs1 hs2 hb4
    cases z with
    | true =>
      go_wp2_with fail
      refine (C1.out _).mono ?_
      rintro e w5 ⟨rfl, hb5⟩
      obtain ⟨_, ⟨c0, c1, c2, c3, c4⟩, d0, d1, d2, d3, d4⟩ := two_in ht1.out ht2.out hb5
      have hu1 := Lib.hid (rowC_below ht1.out hb5)
      have hu2 := Lib.hid (rowC_below ht2.out hb5)
      have HB5 := Lib.hid (HB4.out.trans (hb5.mono HB4.out.size))
      clear ht1 ht2 hb5
      rcases hkk with rfl | hk0
      · go_wp2_with fail
        go_region_held3 (fun w' => Below w5.heap.size w5 w' ∧ (w'.cell? ⟨w.heap.size, 0, none⟩ = some (.int .i64 p.level) ∧ w'.cell? ⟨w.heap.size, 1, none⟩ = some (.int .u64 (p.p0.toNat : Int)) ∧ w'.cell? ⟨w.heap.size, 2, none⟩ = some (.int .u64 (p.p1.toNat : Int)) ∧ w'.cell? ⟨w.heap.size, 3, none⟩ = some (.int .u64 (p.p2.toNat : Int)) ∧ w'.cell? ⟨w.heap.size, 4, none⟩ = some (.int .u64 (p.entry.toNat : Int))) ∧ w'.cell? ⟨w.heap.size + 1, 0, none⟩ = some (.int .i64 p.level) ∧ w'.cell? ⟨w.heap.size + 1, 1, none⟩ = some (.int .u64 (p.p0.toNat : Int)) ∧ w'.cell? ⟨w.heap.size + 1, 2, none⟩ = some (.int .u64 (p.p1.toNat : Int)) ∧ w'.cell? ⟨w.heap.size + 1, 3, none⟩ = some (.int .u64 (p.p2.toNat : Int)) ∧ w'.cell? ⟨w.heap.size + 1, 4, none⟩ = some (.int .u64 ((orL p.entry ((andL m 14).toNat : Int)).toNat : Int))) (first | exact two_in hu1.out hu2.out hb9 | exact two_in hu1.out hu2.out (Below.refl _ _).drew | exact two_in hu1.out hu2.out (Below.refl _ _))
          (first
            | (go_at_call_of 26 sum; refine ((C1.out).at (‹_ ∧ _›.1)).mono ?_; rintro e w9 ⟨rfl, hb9⟩)
            | (go_at_call 26; refine ((C0.out).at (‹_ ∧ _›.1)).mono ?_; rintro e w9 ⟨rfl, hb9⟩))
        all_goals
          go_wp2_with fail
          go_ret
          first
            | exact ⟨rfl, HB5.out.trans (hb9.mono HB5.out.size)⟩
            | exact ⟨rfl, HB5.out.drew⟩
            | exact ⟨rfl, below_drewN HB5.out _⟩
      · go_wp2_with fail
        go_quiet (fail)
        go_wp2_with fail
        go_ret
        exact ⟨rfl, below_drewN HB5.out _⟩
    | false =>
      rcases hkk with rfl | hk0
      · exact absurd (HK.out rfl) (by simp)
      · go_wp2_with fail
        go_quiet (fail)
        go_wp2_with fail
        go_ret
        exact ⟨rfl, below_drewN HB4.out _⟩
  | false =>
    go_wp2_with fail
    refine (C0.out _).mono ?_
    rintro e w4 ⟨rfl, hb4⟩
    obtain ⟨_, ⟨c0, c1, c2, c3, c4⟩, d0, d1, d2, d3, d4⟩ := two_in hr1.out hr2.out hb4
    have ht1 := Lib.hid (rowC_below hr1.out hb4)
    have ht2 := Lib.hid (rowC_below hr2.out hb4)
    have HB4 := Lib.hid (HB2.out.trans (hb4.mono HB2.out.size))
    clear hr1 hr2 hb4
    cases z with
    | true => exact absurd (HZ.out rfl) (by simp)
    | false =>
      rcases hkk with rfl | hk0
      · go_wp2_with fail
        go_region_held3 (fun w' => Below w4.heap.size w4 w' ∧ (w'.cell? ⟨w.heap.size, 0, none⟩ = some (.int .i64 p.level) ∧ w'.cell? ⟨w.heap.size, 1, none⟩ = some (.int .u64 (p.p0.toNat : Int)) ∧ w'.cell? ⟨w.heap.size, 2, none⟩ = some (.int .u64 (p.p1.toNat : Int)) ∧ w'.cell? ⟨w.heap.size, 3, none⟩ = some (.int .u64 (p.p2.toNat : Int)) ∧ w'.cell? ⟨w.heap.size, 4, none⟩ = some (.int .u64 (p.entry.toNat : Int))) ∧ w'.cell? ⟨w.heap.size + 1, 0, none⟩ = some (.int .i64 p.level) ∧ w'.cell? ⟨w.heap.size + 1, 1, none⟩ = some (.int .u64 (p.p0.toNat : Int)) ∧ w'.cell? ⟨w.heap.size + 1, 2, none⟩ = some (.int .u64 (p.p1.toNat : Int)) ∧ w'.cell? ⟨w.heap.size + 1, 3, none⟩ = some (.int .u64 (p.p2.toNat : Int)) ∧ w'.cell? ⟨w.heap.size + 1, 4, none⟩ = some (.int .u64 ((orL p.entry ((andL m 14).toNat : Int)).toNat : Int))) (first | exact two_in ht1.out ht2.out hb9 | exact two_in ht1.out ht2.out (Below.refl _ _).drew | exact two_in ht1.out ht2.out (Below.refl _ _))
          (first
            | (go_at_call_of 26 sum; refine ((C1.out).at (‹_ ∧ _›.1)).mono ?_; rintro e w9 ⟨rfl, hb9⟩)
            | (go_at_call 26; refine ((C0.out).at (‹_ ∧ _›.1)).mono ?_; rintro e w9 ⟨rfl, hb9⟩))
        all_goals
          go_wp2_with fail
          go_ret
          first
            | exact ⟨rfl, HB4.out.trans (hb9.mono HB4.out.size)⟩
            | exact ⟨rfl, HB4.out.drew⟩
            | exact ⟨rfl, below_drewN HB4.out _⟩
      · go_wp2_with fail
        go_quiet (fail)
        go_wp2_with fail
        go_ret
        exact ⟨rfl, below_drewN HB4.out _⟩
end Go.Proofs.Ythjhcdkbajbpdaa
