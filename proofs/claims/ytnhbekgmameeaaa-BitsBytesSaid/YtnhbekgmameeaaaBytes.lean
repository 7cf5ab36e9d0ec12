/- Contracts of Bytes of package bits and of package tappetref01: the slice that comes back owns the word's bytes. -/
import Derived.Test.YtnhbekgmameeaaaRefBits
namespace Go.Proofs.Ytnhbekgmameeaaa
open Go.RowKit Wd

theorem info_byte : (Try.prog.info? 5).map (fun i => (i.zero, i.size, i.bytes)) = some (some (.int .u8 0), 1, 1) := by kernel_rfl

/-- A result that is new memory: a slice that owns these cells. -/
def Makes (e : TypeId) (n : Nat) (xs : List Value) (w : World) (en : Ending) (w' : World) : Prop :=
  ∃ sv, en = .returned sv ∧ w'.ownsRow w.heap.size e 1 sv n xs ∧ Below w.heap.size w w'

theorem cell_new (w : World) (u : Value) (t : TypeId) : ∀ j x, [u][j]? = some x → (w.alloc (.cells #[u] t)).cell? ((⟨w.heap.size, 0, none⟩ : Addr).add j) = some x := by
  intro j x hj
  match j, hj with
  | 0, hj => simp at hj; subst hj; simp [Addr.add]

theorem rel_step {w wr w' : World} {e : TypeId} {size n : Nat} {v : Value} {xs : List Value} (hown : wr.ownsRow w.heap.size e size v n xs) (hb : Below w.heap.size w wr) (o : Obj)
    (hg : (wr.alloc o).grownBy w' v.ownBlock) : Below w.heap.size w w' :=
  (hb.alloc hb.size o).grown hg (by have := hb.size; simp; omega) (fun k hk => (hown.lt k hk).1)

theorem pbytes_any (v : BitVec 64) (n : Int) (m : Nat) (hn : (m : Int) = min (max n 0) 8) (w : World) :
    Calls Try.prog 13 #[.int .u64 (v.toNat : Int), .int .i64 n] w (Makes 5 m (bytesOf v m) w) := by
  obtain ⟨i0, hi0, hz0, hz1, hz2⟩ := info_parts info_byte
  have hm : m ≤ 8 := by omega
  by_cases h1 : 0 ≤ n
  · by_cases h2 : n ≤ 8
    · obtain rfl : n = (m : Int) := by omega
      clear hn h1 h2
      go_enter Try.func13, Try.ntmps13
      go_wp2_with fail
      go_loopw [5, 10] (fun sv i wr => ∃ k : Nat, k ≤ m ∧ i = .int .i64 (k : Int) ∧ wr.ownsRow w.heap.size 5 1 sv k (bytesOf v k) ∧ Below w.heap.size w wr) (fun _ i _ => m - (intOf i).toNat)
      case atStart => exact ⟨0, Nat.zero_le _, rfl, World.ownsRow_nil _ _ _ _, Below.refl _ _⟩
      case round =>
        obtain ⟨k, hk, rfl, hown, hb⟩ := hrel
        by_cases hlt : k < m
        · go_wp2_with (at_builtin; refine wpList_append_own _ rfl _ _ 23 rfl w.heap.size 5 i0 (.int .u8 0) 1 1 Try.underlying23 hi0 hz0 hz1 hz2 rfl (by decide) _ _ _ rfl (hown.alloc _) ⟨wr.heap.size, 0, none⟩ 1 1 [.int .u8 (byteAt v k)] rfl rfl ?c1 ?c2 ?c3 ?c4 ?c5 ?_)
          case c1 => rw [byteAt_eq]; exact cell_new _ _ _
          case c2 => intro u hu; simp at hu; subst hu; rfl
          case c3 => unfold maxLen; omega
          case c4 => omega
          case c5 => have := hb.size; simp; omega
          intro v' w' hown' hg' _
          have hb' := rel_step hown hb _ hg'
          clear hown hb hg'
          go_wp2
          go_roundw
          case rel => exact ⟨k + 1, by omega, by go_num, by rw [bytesOf_succ]; exact hown', hb'⟩
          case measure => simp [intOf]; omega
        · go_wp2
          go_ret
          obtain rfl : k = m := by omega
          exact ⟨_, rfl, hown, hb⟩
    · obtain rfl : m = 8 := by omega
      clear hn h1 hm
      go_enter Try.func13, Try.ntmps13
      go_wp2_with fail
      go_loopw [5, 10] (fun sv i wr => ∃ k : Nat, k ≤ 8 ∧ i = .int .i64 (k : Int) ∧ wr.ownsRow w.heap.size 5 1 sv k (bytesOf v k) ∧ Below w.heap.size w wr) (fun _ i _ => 8 - (intOf i).toNat)
      case atStart => exact ⟨0, Nat.zero_le _, rfl, World.ownsRow_nil _ _ _ _, Below.refl _ _⟩
      case round =>
        obtain ⟨k, hk, rfl, hown, hb⟩ := hrel
        by_cases hlt : k < 8
        · go_wp2_with (at_builtin; refine wpList_append_own _ rfl _ _ 23 rfl w.heap.size 5 i0 (.int .u8 0) 1 1 Try.underlying23 hi0 hz0 hz1 hz2 rfl (by decide) _ _ _ rfl (hown.alloc _) ⟨wr.heap.size, 0, none⟩ 1 1 [.int .u8 (byteAt v k)] rfl rfl ?c1 ?c2 ?c3 ?c4 ?c5 ?_)
          case c1 => rw [byteAt_eq]; exact cell_new _ _ _
          case c2 => intro u hu; simp at hu; subst hu; rfl
          case c3 => unfold maxLen; omega
          case c4 => omega
          case c5 => have := hb.size; simp; omega
          intro v' w' hown' hg' _
          have hb' := rel_step hown hb _ hg'
          clear hown hb hg'
          go_wp2
          go_roundw
          case rel => exact ⟨k + 1, by omega, by go_num, by rw [bytesOf_succ]; exact hown', hb'⟩
          case measure => simp [intOf]; omega
        · go_wp2
          go_ret
          obtain rfl : k = 8 := by omega
          exact ⟨_, rfl, hown, hb⟩
  · obtain rfl : m = 0 := by omega
    clear hn hm
    go_enter Try.func13, Try.ntmps13
    go_wp2_with fail
    refine wp_loop_rounds 1 ?_
    rw [rounds_succ]
    go_wp2
    go_ret
    exact ⟨_, rfl, World.ownsRow_nil _ _ _ _, Below.refl _ _⟩

theorem rbytes_any (v : BitVec 64) (n : Int) (m : Nat) (hn : (m : Int) = min (max n 0) 8) (w : World) :
    Calls Try.prog 16 #[.int .u64 (v.toNat : Int), .int .i64 n] w (Makes 5 m (bytesOf v m) w) := by
  obtain ⟨i0, hi0, hz0, hz1, hz2⟩ := info_parts info_byte
  have hm : m ≤ 8 := by omega
  have HN := Lib.hid hn
  clear hn
  go_enter Try.func16, Try.ntmps16
  go_wp2_with fail
  go_loopw [5, 6] (fun sv i wr => ∃ k : Nat, k ≤ m ∧ i = .int .i64 (k : Int) ∧ wr.ownsRow w.heap.size 5 1 sv k (bytesOf v k) ∧ Below w.heap.size w wr) (fun _ i _ => m - (intOf i).toNat)
  case atStart => exact ⟨0, Nat.zero_le _, rfl, World.ownsRow_nil _ _ _ _, Below.refl _ _⟩
  case round =>
    obtain ⟨k, hk, rfl, hown, hb⟩ := hrel
    by_cases hlt : k < m
    · have h3 : (k : Int) < n := by have := HN.out; omega
      by_cases h8 : n ≤ 8
      · go_wp2_with (first
          | (go_at_call 52; refine (rfield_any _ _ _ _).mono ?_; rintro e w1 ⟨rfl, hq1⟩; have hown1 := hq1.owns hown; have hb1 := hb.trans (hq1.below _))
          | (at_builtin; refine wpList_append_own _ rfl _ _ 23 rfl w.heap.size 5 i0 (.int .u8 0) 1 1 Try.underlying23 hi0 hz0 hz1 hz2 rfl (by decide) _ _ _ rfl (hown1.alloc _) ⟨w1.heap.size, 0, none⟩ 1 1 [.int .u8 (byteAt v k)] rfl rfl ?c1 ?c2 ?c3 ?c4 ?c5 ?_))
        case c1 => rw [byte_field _ _ (by omega)]; exact cell_new _ _ _
        case c2 => intro u hu; simp at hu; subst hu; rfl
        case c3 => unfold maxLen; omega
        case c4 => omega
        case c5 => have := hb1.size; simp; omega
        intro v' w' hown' hg' _
        have hb' := rel_step hown1 hb1 _ hg'
        clear hown hown1 hb hb1 hg' hq1
        go_wp2
        go_roundw
        case rel => exact ⟨k + 1, by omega, by go_num, by rw [bytesOf_succ]; exact hown', hb'⟩
        case measure => simp [intOf]; omega
      · go_wp2_with (first
          | (go_at_call 52; refine (rfield_any _ _ _ _).mono ?_; rintro e w1 ⟨rfl, hq1⟩; have hown1 := hq1.owns hown; have hb1 := hb.trans (hq1.below _))
          | (at_builtin; refine wpList_append_own _ rfl _ _ 23 rfl w.heap.size 5 i0 (.int .u8 0) 1 1 Try.underlying23 hi0 hz0 hz1 hz2 rfl (by decide) _ _ _ rfl (hown1.alloc _) ⟨w1.heap.size, 0, none⟩ 1 1 [.int .u8 (byteAt v k)] rfl rfl ?c1 ?c2 ?c3 ?c4 ?c5 ?_))
        case c1 => rw [byte_field _ _ (by omega)]; exact cell_new _ _ _
        case c2 => intro u hu; simp at hu; subst hu; rfl
        case c3 => unfold maxLen; omega
        case c4 => omega
        case c5 => have := hb1.size; simp; omega
        intro v' w' hown' hg' _
        have hb' := rel_step hown1 hb1 _ hg'
        clear hown hown1 hb hb1 hg' hq1
        go_wp2
        go_roundw
        case rel => exact ⟨k + 1, by omega, by go_num, by rw [bytesOf_succ]; exact hown', hb'⟩
        case measure => simp [intOf]; omega
    · by_cases h8 : n ≤ 8
      · have h3 : n ≤ (k : Int) := by have := HN.out; omega
        go_wp2
        go_ret
        obtain rfl : k = m := by omega
        exact ⟨_, rfl, hown, hb⟩
      · have h3 : 8 ≤ k := by have := HN.out; omega
        go_wp2
        go_ret
        obtain rfl : k = m := by omega
        exact ⟨_, rfl, hown, hb⟩
end Go.Proofs.Ytnhbekgmameeaaa
