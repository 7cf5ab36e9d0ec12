/- Contract: another TLB, alike. -/
import Derived.Test.YthjhcdkbajbpdaaTlbNew
import Derived.Deep.RegionLaw
import Derived.Deep.AppendLies
namespace Go.Proofs.Ythjhcdkbajbpdaa
open Go.RowKit Wd
set_option linter.unusedVariables false
set_option linter.unusedSimpArgs false
set_option maxRecDepth 8000
theorem info_way : (Try.prog.info? 99).map (fun i => (i.zero, i.size, i.bytes)) = some (some (.agg #[.bool false, .int .u64 0, .int .i64 0, .int .u64 0, .int .u64 0, .int .u64 0, .int .u64 0]), 7, 56) := by kernel_rfl
theorem row_cells {w : World} {tT tW : TypeId} {p q : Nat} {ws : List Wy} {st : Int} (h : Tb w tT tW p q ws st) :
    ∃ news : List Value, news.length = ws.length * 7 ∧ (∀ j u, news[j]? = some u → w.cell? ⟨q, j, none⟩ = some u) ∧ (∀ u ∈ news, u.oneCell' = true) ∧ ∀ i, i < ws.length → ∀ j, j < 7 → news[i * 7 + j]? = (wyC (wyAt ws i))[j]? := by
  obtain ⟨cs, hb, hc⟩ := h.row
  have hl := h.len
  have hs : ws.length * 7 ≤ cs.size := by
    have h6 := hc (ws.length - 1) (by omega) 6 (by omega)
    have := (Array.getElem?_eq_some_iff.1 (h6.trans rfl)).1
    omega
  have hg : ∀ k, k < ws.length * 7 → (cs.toList.take (ws.length * 7))[k]? = cs[k]? := fun k hk => by
    rw [List.getElem?_take_of_lt hk]
    simp
  refine ⟨cs.toList.take (ws.length * 7), by simp; omega, fun j u hu => ?_, fun u hu => ?_, fun i hi j hj => (hg _ (by omega)).trans (hc i hi j hj)⟩
  · have hj : j < ws.length * 7 := by
      by_cases g : j < ws.length * 7
      · exact g
      · rw [List.getElem?_eq_none (by simp; omega)] at hu
        simp at hu
    rw [hg j hj] at hu
    exact (hb.cell j).trans hu
  · obtain ⟨k, hk, e⟩ := List.getElem_of_mem hu
    have hk2 : k < ws.length * 7 := by simp at hk; omega
    have e2 : (cs.toList.take (ws.length * 7))[k]? = some u := by rw [List.getElem?_eq_getElem hk, e]
    rw [hg k hk2] at e2
    have h3 := hc (k / 7) (by omega) (k % 7) (by omega)
    rw [show k / 7 * 7 + k % 7 = k by omega, e2] at h3
    generalize wyAt ws (k / 7) = y at h3
    have h7 : k % 7 = 0 ∨ k % 7 = 1 ∨ k % 7 = 2 ∨ k % 7 = 3 ∨ k % 7 = 4 ∨ k % 7 = 5 ∨ k % 7 = 6 := by omega
    rcases h7 with h7 | h7 | h7 | h7 | h7 | h7 | h7 <;> rw [h7] at h3 <;> (simp [wyC] at h3; rw [h3]; rfl)
/-- The copy, boxed. -/
theorem fork_tb {w w1 : World} {p q : Nat} {ws : List Wy} {st : Int} {news : List Value} {g cap : Nat} (h : Tb w 94 99 p q ws st) (hn : ∀ i, i < ws.length → ∀ j, j < 7 → news[i * 7 + j]? = (wyC (wyAt ws i))[j]?)
    (hl : news.length = ws.length * 7)
    (hown : w1.ownsRow w.heap.size 99 7 (.slice (some ⟨g, 0, none⟩) (0 + ws.length) cap) (0 + ws.length) ([] ++ news)) (hb : Below w.heap.size w w1) :
    Tb (w1.alloc (.cells #[.slice (some ⟨g, 0, none⟩) ws.length cap, .int .i64 st] 94)) 94 99 w1.heap.size g ws st ∧ w.heap.size ≤ g ∧ Below w.heap.size w (w1.alloc (.cells #[.slice (some ⟨g, 0, none⟩) ws.length cap, .int .i64 st] 94)) := by
  rw [Nat.zero_add, List.nil_append] at hown
  rcases hown.2 with ⟨e, _⟩ | ⟨g', cap', cur, e, hbg, hheap, hnc, _, hcs, htake⟩
  · cases e
  · cases e
    have hgl : g < w1.heap.size := Bk.lt (cs := cur) (t := 99) hheap
    refine ⟨⟨h.len, ⟨cap, ?_⟩, ⟨cur, Bk.alloc (cs := cur) (t := 99) hheap _, fun i hi j hj => ?_⟩, by omega, h.ok⟩, hbg, hb.alloc hb.size _⟩
    · have := Bk.new w1 #[.slice (some ⟨g, 0, none⟩) ws.length cap, .int .i64 st] 94
      exact this
    · rw [← hn i hi j hj, ← htake, List.getElem?_take_of_lt (by omega)]
      simp
set_option maxHeartbeats 2000000 in
theorem fork_any (p q : Nat) (ws : List Wy) (st : Int) (w : World) (h : Tb w 94 99 p q ws st) : Calls Try.prog 42 #[.pointer (some ⟨p, 0, none⟩)] w fun e w' =>
    ∃ p2 q2, e = .returned (.pointer (some ⟨p2, 0, none⟩)) ∧ Tb w' 94 99 p2 q2 ws st ∧ w.heap.size ≤ p2 ∧ w.heap.size ≤ q2 ∧ Below w.heap.size w w' := by
  obtain ⟨i0, hi0, hz0, hz1, hz2⟩ := info_parts info_way
  obtain ⟨c, hb⟩ := h.box
  have hlen := h.len
  have c0 := hb.get (o := 0) rfl
  have c1 := hb.get (o := 1) rfl
  have hp := hb.lt
  obtain ⟨news, hnl, hnc, hn1, hnw⟩ := row_cells h
  have H := Lib.hid h
  have HNL := Lib.hid hnl
  have HNC := Lib.hid hnc
  have HN1 := Lib.hid hn1
  have HNW := Lib.hid hnw
  have hl8 : ws.length ≤ 8 := by omega
  have hl0 : 0 < ws.length := by omega
  clear h hb hlen hnl hnc hn1 hnw
  go_enter Try.func42, Try.ntmps42
  go_wp2_with fail
  go_region_law ((refine step_append_lies _ (by rfl) _ _ _ (by rfl) w.heap.size 99 i0 _ 7 56 Try.underlying92 hi0 hz0 hz1 hz2 rfl (by omega) (.slice none 0 0) 0 [] (by rfl) (World.ownsRow_nil _ _ _ _) ⟨q, 0, none⟩ ws.length c news (by rfl) HNL.out (fun j u hu => by rw [add_at, Nat.zero_add]; exact HNC.out j u hu) HN1.out hl0 (by unfold maxLen; omega) (by omega) (by exact Nat.le_refl _) w.heap.size (by rfl) ?_; intro gg cap w1 hown1 hgrow hat hlt; have hb1 := Lib.hid (((Below.refl w.heap.size w).drew).grown hgrow (Nat.le_refl _) (fun k hk => by simp [Value.ownBlock] at hk)); have c1' := (hb1.out.cell (p := ⟨p, 1, none⟩) hp).trans c1))
  all_goals
    have F := Lib.hid (fork_tb H.out HNW.out HNL.out hown1 hb1.out)
    have hz1 := hb1.out.size
    clear hown1 hb1 hgrow hat hlt
    go_wp2_with fail
    go_ret
    exact ⟨_, gg, rfl, F.out.1, hz1, F.out.2.1, F.out.2.2⟩
end Go.Proofs.Ythjhcdkbajbpdaa
