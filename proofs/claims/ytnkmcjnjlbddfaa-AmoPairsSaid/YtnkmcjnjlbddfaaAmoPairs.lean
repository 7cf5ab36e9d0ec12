/- The law AmoPairs, walked: the least and the greatest of two are these two; each call answers true. -/
import Derived.Test.YtnkmcjnjlbddfaaAmoLaws
import Derived.Test.YtnkmcjnjlbddfaaAmoOrderPlain
import Derived.Laws.EntriesVeiled
namespace Go.Proofs.Ytnkmcjnjlbddfaa
open Go.RowKit Wd

theorem Qt.run {P : Program} {f : FuncId} {args : Array Value} {v : Value} (h : Qt P f args v) (w : World) : Calls P f args w fun e w' => e = .returned v ∧ Quiet w w' := h w
theorem quiet_in {P : Program} {f : FuncId} {args : Array Value} {v : Value} {w : World} {n : Nat} (h : Calls P f args (w.drewN n) fun e w' => e = .returned v ∧ Quiet (w.drewN n) w') :
    Calls P f args (w.drewN n) fun e w'' => e = .returned v ∧ ∃ m, w'' = w.drewN m := Calls.quiet_of h
theorem cut_any (v : BitVec 64) (S : Addr) (size : Int) (w : World) (hc : w.cell? S = some (.int .i64 size)) :
    Calls Try.prog 22 #[.int .u64 (v.toNat : Int), .pointer (some S)] w fun e w' => e = .returned (.int .u64 ((ext v size false).toNat : Int)) ∧ Quiet w w' := by
  have hq := Quiet.refl w
  go_enter Try.func22, Try.ntmps22
  go_wp2_with (go_at_call 20; refine ((pext_any _ _ _).at hq).mono ?_; clear hq; rintro e w1 ⟨rfl, hq⟩)
  go_ret
  exact ⟨rfl, hq⟩

/-- What the closures captured. -/
structure Kept (w : World) (S F A B : Addr) (a b : BitVec 64) (size : Int) : Prop where
  s : w.cell? S = some (.int .i64 size)
  f : w.cell? F = some (.func (.func 22) #[] #[.pointer (some S)])
  a : w.cell? A = some (.int .u64 (a.toNat : Int))
  b : w.cell? B = some (.int .u64 (b.toNat : Int))
theorem Kept.quiet {w w' : World} {S F A B : Addr} {a b : BitVec 64} {size : Int} (h : Kept w S F A B a b size) (hq : Quiet w w') : Kept w' S F A B a b size :=
  ⟨(hq.cell _).trans h.s, (hq.cell _).trans h.f, (hq.cell _).trans h.a, (hq.cell _).trans h.b⟩

theorem two_true (x y a b za zb : BitVec 64) (S F A B : Addr) (size : Int) (w : World) (hk : Kept w S F A B a b size) (ea : ext a size false = za) (eb : ext b size false = zb) (h : (x = za ∧ y = zb) ∨ (x = zb ∧ y = za)) :
    Calls Try.prog 23 #[.int .u64 (x.toNat : Int), .int .u64 (y.toNat : Int), .pointer (some F), .pointer (some A), .pointer (some B)] w fun e w' => e = .returned (.bool true) ∧ Quiet w w' := by
  have hq := Quiet.refl w
  have K := Lib.hid hk
  by_cases e : x = za ∧ y = zb
  · obtain ⟨rfl, rfl⟩ := e
    obtain ⟨c1, c2, c3, c4⟩ := hk
    clear h
    go_enter Try.func23, Try.ntmps23
    go_wp2_with (go_at_call 22; clear c1 c2 c3 c4; refine (cut_any _ _ _ _ (K.out.quiet hq).s).mono ?_; rintro e w1 ⟨rfl, hq1⟩; replace hq := hq.trans hq1; clear hq1; obtain ⟨c1, c2, c3, c4⟩ := K.out.quiet hq)
    go_ret
    exact ⟨rfl, hq⟩
  · have h' : x = zb ∧ y = za := by
      rcases h with h | h
      · exact absurd h e
      · exact h
    obtain ⟨rfl, rfl⟩ := h'
    have hne : ¬ x = y := fun c => e ⟨c, c.symm⟩
    have hn : (((x.toNat : Nat) : Int) == (y.toNat : Int)) = false := by rw [eq64]; simpa using hne
    obtain ⟨c1, c2, c3, c4⟩ := hk
    clear h e hne
    go_enter Try.func23, Try.ntmps23
    go_wp2_with (go_at_call 22; clear c1 c2 c3 c4; refine (cut_any _ _ _ _ (K.out.quiet hq).s).mono ?_; rintro e w1 ⟨rfl, hq1⟩; replace hq := hq.trans hq1; clear hq1; obtain ⟨c1, c2, c3, c4⟩ := K.out.quiet hq)
    go_ret
    exact ⟨rfl, hq⟩

namespace Wd
/-- The least and the greatest of two, with signs and without. -/
structure Pairs (size n : Int) (a b l g p q : BitVec 64) : Prop where
  l1 : amoNew 16 size a b = some l
  g1 : amoNew 20 size a b = some g
  p1 : amoNew 24 size a b = some p
  q1 : amoNew 28 size a b = some q
  s1 : amoNew 1 size a b = some (zext b n)
  two : (l = zext a n ∧ g = zext b n) ∨ (l = zext b n ∧ g = zext a n)
  too : (p = zext a n ∧ q = zext b n) ∨ (p = zext b n ∧ q = zext a n)
  le : p.toNat ≤ q.toNat
  sle : (sext l n).toInt ≤ (sext g n).toInt
theorem pairs_of (size n : Int) (a b : BitVec 64) (hs : size = 4 ∨ size = 8) (hn : 8 * size = n) : ∃ l g p q, Pairs size n a b l g p q := by
  have h1 : 1 ≤ n := by omega
  have h2 : n ≤ 64 := by omega
  have hs1 : amoNew 1 size a b = some (zext b n) := by
    have := new_at 1 size n a b _ hs hn rfl
    rwa [zext_zext] at this
  have hl : ∃ l g, amoNew 16 size a b = some l ∧ amoNew 20 size a b = some g ∧ ((l = zext a n ∧ g = zext b n) ∨ (l = zext b n ∧ g = zext a n)) ∧ (sext l n).toInt ≤ (sext g n).toInt := by
    by_cases h : (sext a n).toInt < (sext b n).toInt
    · have e : slt a b n = true := decide_eq_true h
      refine ⟨zext a n, zext b n, ?_, ?_, .inl ⟨rfl, rfl⟩, by rw [sext_zext a n h1 h2, sext_zext b n h1 h2]; omega⟩
      · have := new_at 16 size n a b (zext a n) hs hn (by show some (if slt a b n then _ else _) = _; rw [e]; rfl)
        rwa [zext_zext] at this
      · have := new_at 20 size n a b (zext b n) hs hn (by show some (if slt a b n then _ else _) = _; rw [e]; rfl)
        rwa [zext_zext] at this
    · have e : slt a b n = false := decide_eq_false h
      refine ⟨zext b n, zext a n, ?_, ?_, .inr ⟨rfl, rfl⟩, by rw [sext_zext a n h1 h2, sext_zext b n h1 h2]; omega⟩
      · have := new_at 16 size n a b (zext b n) hs hn (by show some (if slt a b n then _ else _) = _; rw [e]; rfl)
        rwa [zext_zext] at this
      · have := new_at 20 size n a b (zext a n) hs hn (by show some (if slt a b n then _ else _) = _; rw [e]; rfl)
        rwa [zext_zext] at this
  have hp : ∃ p q, amoNew 24 size a b = some p ∧ amoNew 28 size a b = some q ∧ ((p = zext a n ∧ q = zext b n) ∨ (p = zext b n ∧ q = zext a n)) ∧ p.toNat ≤ q.toNat := by
    by_cases h : (zext a n).toNat < (zext b n).toNat
    · refine ⟨zext a n, zext b n, ?_, ?_, .inl ⟨rfl, rfl⟩, by omega⟩
      · have := new_at 24 size n a b (zext a n) hs hn (by show some (if _ ≤ _ then _ else _) = _; rw [if_pos (by omega)])
        rwa [zext_zext] at this
      · have := new_at 28 size n a b (zext b n) hs hn (by show some (if _ < _ then _ else _) = _; rw [if_pos h])
        rwa [zext_zext] at this
    · by_cases k : (zext a n).toNat ≤ (zext b n).toNat
      · have e : zext a n = zext b n := BitVec.eq_of_toNat_eq (by omega)
        refine ⟨zext a n, zext a n, ?_, ?_, .inl ⟨rfl, e⟩, by omega⟩
        · have := new_at 24 size n a b (zext a n) hs hn (by show some (if _ ≤ _ then _ else _) = _; rw [if_pos k])
          rwa [zext_zext] at this
        · have := new_at 28 size n a b (zext a n) hs hn (by show some (if _ < _ then _ else _) = _; rw [if_neg h])
          rwa [zext_zext] at this
      · refine ⟨zext b n, zext a n, ?_, ?_, .inr ⟨rfl, rfl⟩, by omega⟩
        · have := new_at 24 size n a b (zext b n) hs hn (by show some (if _ ≤ _ then _ else _) = _; rw [if_neg k])
          rwa [zext_zext] at this
        · have := new_at 28 size n a b (zext a n) hs hn (by show some (if _ < _ then _ else _) = _; rw [if_neg h])
          rwa [zext_zext] at this
  obtain ⟨l, g, l1, g1, two, sle⟩ := hl
  obtain ⟨p, q, p1, q1, too, le⟩ := hp
  exact ⟨l, g, p, q, l1, g1, p1, q1, hs1, two, too, le, sle⟩
end Wd

attribute [local go_sem] wrap64_toInt

set_option maxHeartbeats 400000 in
theorem amoPairs_false (a b : BitVec 64) (w : World) :
    Calls Try.prog 6 #[.int .u64 (a.toNat : Int), .int .u64 (b.toNat : Int), .bool false] w fun e w' => e = .returned (.bool true) ∧ Below w.heap.size w w' := by
  obtain ⟨l, g, p, q, hp⟩ := pairs_of 4 32 a b (by omega) (by omega)
  have k1 := pnew_any 16 4 a b (by omega)
  have k2 := pnew_any 20 4 a b (by omega)
  have k3 := pnew_any 24 4 a b (by omega)
  have k4 := pnew_any 28 4 a b (by omega)
  have k5 := pnew_any 1 4 a b (by omega)
  rw [hp.l1] at k1
  rw [hp.g1] at k2
  rw [hp.p1] at k3
  rw [hp.q1] at k4
  rw [hp.s1] at k5
  have HP := Lib.hid hp
  have K1 := Lib.hid k1
  have K2 := Lib.hid k2
  have K3 := Lib.hid k3
  have K4 := Lib.hid k4
  have K5 := Lib.hid k5
  have ea := Lib.hid (show ext a 4 false = zext a 32 from ext_z a 4 (by omega))
  have eb : ext b 4 false = zext b 32 := ext_z b 4 (by omega)
  have el : ext l 4 true = sext l 32 := ext_s l 4 (by omega)
  have eg : ext g 4 true = sext g 32 := ext_s g 4 (by omega)
  have EB := Lib.hid eb
  have hle : (p.toNat : Int) ≤ q.toNat := by have := hp.le; omega
  have hsle := hp.sle
  clear hp k1 k2 k3 k4 k5
  go_enter Try.func6, Try.ntmps6
  go_wp2_with fail
  have hB : Below w.heap.size w ((((w.alloc (.cells #[.int .u64 ↑a.toNat] 22)).alloc (.cells #[.int .u64 ↑b.toNat] 22)).alloc (.cells #[.int .i64 4] 3)).alloc (.cells #[.func (.func 22) #[] #[.pointer (some { block := w.heap.size + 1 + 1, off := 0 })]] 36)) := by
    exact ((((Below.refl _ _).alloc (Nat.le_refl _) _).alloc (by simp) _).alloc (by simp; omega) _).alloc (by simp; omega) _
  have hk : Kept ((((w.alloc (.cells #[.int .u64 ↑a.toNat] 22)).alloc (.cells #[.int .u64 ↑b.toNat] 22)).alloc (.cells #[.int .i64 4] 3)).alloc (.cells #[.func (.func 22) #[] #[.pointer (some { block := w.heap.size + 1 + 1, off := 0 })]] 36))
      ⟨w.heap.size + 1 + 1, 0, none⟩ ⟨w.heap.size + 1 + 1 + 1, 0, none⟩ ⟨w.heap.size, 0, none⟩ ⟨w.heap.size + 1, 0, none⟩ a b 4 := by
    constructor <;> simp [go_sem]
  refine (K1.out _).mono ?_
  rintro e w1 ⟨rfl, hq1⟩
  unfold amoVal
  have HK := Lib.hid (hk.quiet hq1)
  have hb := hB.trans (hq1.below _)
  clear hB hk hq1
  obtain ⟨c1, c2, c3, c4⟩ := HK.out
  go_wp2_with (first
    | (go_at_call 11; clear c1 c2 c3 c4; refine (awake_any _).mono ?_; rintro e w1 ⟨rfl, hq1⟩; have HK1 := Lib.hid (HK.out.quiet hq1); have hb1 := hb.trans (hq1.below _); clear HK hb hq1; have HK := HK1; have hb := hb1; clear HK1 hb1; obtain ⟨c1, c2, c3, c4⟩ := HK.out)
    | (go_at_call 9; clear c1 c2 c3 c4; (with_reducible refine (K2.out.run _).mono ?_); rintro e w1 ⟨rfl, hq1⟩; unfold amoVal; have HK1 := Lib.hid (HK.out.quiet hq1); have hb1 := hb.trans (hq1.below _); clear HK hb hq1; have HK := HK1; have hb := hb1; clear HK1 hb1; obtain ⟨c1, c2, c3, c4⟩ := HK.out)
    | (go_at_call 9; clear c1 c2 c3 c4; (with_reducible refine (K3.out.run _).mono ?_); rintro e w1 ⟨rfl, hq1⟩; unfold amoVal; have HK1 := Lib.hid (HK.out.quiet hq1); have hb1 := hb.trans (hq1.below _); clear HK hb hq1; have HK := HK1; have hb := hb1; clear HK1 hb1; obtain ⟨c1, c2, c3, c4⟩ := HK.out)
    | (go_at_call 9; clear c1 c2 c3 c4; (with_reducible refine (K4.out.run _).mono ?_); rintro e w1 ⟨rfl, hq1⟩; unfold amoVal; have HK1 := Lib.hid (HK.out.quiet hq1); have hb1 := hb.trans (hq1.below _); clear HK hb hq1; have HK := HK1; have hb := hb1; clear HK1 hb1; obtain ⟨c1, c2, c3, c4⟩ := HK.out)
    | (go_at_call 9; clear c1 c2 c3 c4; (with_reducible refine (K5.out.run _).mono ?_); rintro e w1 ⟨rfl, hq1⟩; unfold amoVal; have HK1 := Lib.hid (HK.out.quiet hq1); have hb1 := hb.trans (hq1.below _); clear HK hb hq1; have HK := HK1; have hb := hb1; clear HK1 hb1; obtain ⟨c1, c2, c3, c4⟩ := HK.out))
  go_quiet ((first
    | (go_at_call 23; (with_reducible exact quiet_in (two_true l g a b _ _ _ _ _ _ 4 _ (HK.out.quiet ((Quiet.refl _).drewN _)) ea.out EB.out HP.out.two)))
    | (go_at_call 23; (with_reducible exact quiet_in (two_true p q a b _ _ _ _ _ _ 4 _ (HK.out.quiet ((Quiet.refl _).drewN _)) ea.out EB.out HP.out.too)))
    | (go_at_call 20; exact (pext_any _ _ _).quiet)
    | (go_at_call 22; exact quiet_in (cut_any _ _ 4 _ (HK.out.quiet ((Quiet.refl _).drewN _)).s))))
  go_wp2
  go_ret
  exact ⟨rfl, below_drewN hb _⟩

set_option maxHeartbeats 400000 in
theorem amoPairs_true (a b : BitVec 64) (w : World) :
    Calls Try.prog 6 #[.int .u64 (a.toNat : Int), .int .u64 (b.toNat : Int), .bool true] w fun e w' => e = .returned (.bool true) ∧ Below w.heap.size w w' := by
  obtain ⟨l, g, p, q, hp⟩ := pairs_of 8 64 a b (by omega) (by omega)
  have k1 := pnew_any 16 8 a b (by omega)
  have k2 := pnew_any 20 8 a b (by omega)
  have k3 := pnew_any 24 8 a b (by omega)
  have k4 := pnew_any 28 8 a b (by omega)
  have k5 := pnew_any 1 8 a b (by omega)
  rw [hp.l1] at k1
  rw [hp.g1] at k2
  rw [hp.p1] at k3
  rw [hp.q1] at k4
  rw [hp.s1] at k5
  have HP := Lib.hid hp
  have K1 := Lib.hid k1
  have K2 := Lib.hid k2
  have K3 := Lib.hid k3
  have K4 := Lib.hid k4
  have K5 := Lib.hid k5
  have ea := Lib.hid (show ext a 8 false = zext a 64 from ext_z a 8 (by omega))
  have eb : ext b 8 false = zext b 64 := ext_z b 8 (by omega)
  have el : ext l 8 true = sext l 64 := ext_s l 8 (by omega)
  have eg : ext g 8 true = sext g 64 := ext_s g 8 (by omega)
  have EB := Lib.hid eb
  have hle : (p.toNat : Int) ≤ q.toNat := by have := hp.le; omega
  have hsle := hp.sle
  clear hp k1 k2 k3 k4 k5
  go_enter Try.func6, Try.ntmps6
  go_wp2_with fail
  have hB : Below w.heap.size w ((((w.alloc (.cells #[.int .u64 ↑a.toNat] 22)).alloc (.cells #[.int .u64 ↑b.toNat] 22)).alloc (.cells #[.int .i64 8] 3)).alloc (.cells #[.func (.func 22) #[] #[.pointer (some { block := w.heap.size + 1 + 1, off := 0 })]] 36)) := by
    exact ((((Below.refl _ _).alloc (Nat.le_refl _) _).alloc (by simp) _).alloc (by simp; omega) _).alloc (by simp; omega) _
  have hk : Kept ((((w.alloc (.cells #[.int .u64 ↑a.toNat] 22)).alloc (.cells #[.int .u64 ↑b.toNat] 22)).alloc (.cells #[.int .i64 8] 3)).alloc (.cells #[.func (.func 22) #[] #[.pointer (some { block := w.heap.size + 1 + 1, off := 0 })]] 36))
      ⟨w.heap.size + 1 + 1, 0, none⟩ ⟨w.heap.size + 1 + 1 + 1, 0, none⟩ ⟨w.heap.size, 0, none⟩ ⟨w.heap.size + 1, 0, none⟩ a b 8 := by
    constructor <;> simp [go_sem]
  refine (K1.out _).mono ?_
  rintro e w1 ⟨rfl, hq1⟩
  unfold amoVal
  have HK := Lib.hid (hk.quiet hq1)
  have hb := hB.trans (hq1.below _)
  clear hB hk hq1
  obtain ⟨c1, c2, c3, c4⟩ := HK.out
  go_wp2_with (first
    | (go_at_call 11; clear c1 c2 c3 c4; refine (awake_any _).mono ?_; rintro e w1 ⟨rfl, hq1⟩; have HK1 := Lib.hid (HK.out.quiet hq1); have hb1 := hb.trans (hq1.below _); clear HK hb hq1; have HK := HK1; have hb := hb1; clear HK1 hb1; obtain ⟨c1, c2, c3, c4⟩ := HK.out)
    | (go_at_call 9; clear c1 c2 c3 c4; (with_reducible refine (K2.out.run _).mono ?_); rintro e w1 ⟨rfl, hq1⟩; unfold amoVal; have HK1 := Lib.hid (HK.out.quiet hq1); have hb1 := hb.trans (hq1.below _); clear HK hb hq1; have HK := HK1; have hb := hb1; clear HK1 hb1; obtain ⟨c1, c2, c3, c4⟩ := HK.out)
    | (go_at_call 9; clear c1 c2 c3 c4; (with_reducible refine (K3.out.run _).mono ?_); rintro e w1 ⟨rfl, hq1⟩; unfold amoVal; have HK1 := Lib.hid (HK.out.quiet hq1); have hb1 := hb.trans (hq1.below _); clear HK hb hq1; have HK := HK1; have hb := hb1; clear HK1 hb1; obtain ⟨c1, c2, c3, c4⟩ := HK.out)
    | (go_at_call 9; clear c1 c2 c3 c4; (with_reducible refine (K4.out.run _).mono ?_); rintro e w1 ⟨rfl, hq1⟩; unfold amoVal; have HK1 := Lib.hid (HK.out.quiet hq1); have hb1 := hb.trans (hq1.below _); clear HK hb hq1; have HK := HK1; have hb := hb1; clear HK1 hb1; obtain ⟨c1, c2, c3, c4⟩ := HK.out)
    | (go_at_call 9; clear c1 c2 c3 c4; (with_reducible refine (K5.out.run _).mono ?_); rintro e w1 ⟨rfl, hq1⟩; unfold amoVal; have HK1 := Lib.hid (HK.out.quiet hq1); have hb1 := hb.trans (hq1.below _); clear HK hb hq1; have HK := HK1; have hb := hb1; clear HK1 hb1; obtain ⟨c1, c2, c3, c4⟩ := HK.out))
  go_quiet ((first
    | (go_at_call 23; (with_reducible exact quiet_in (two_true l g a b _ _ _ _ _ _ 8 _ (HK.out.quiet ((Quiet.refl _).drewN _)) ea.out EB.out HP.out.two)))
    | (go_at_call 23; (with_reducible exact quiet_in (two_true p q a b _ _ _ _ _ _ 8 _ (HK.out.quiet ((Quiet.refl _).drewN _)) ea.out EB.out HP.out.too)))
    | (go_at_call 20; exact (pext_any _ _ _).quiet)
    | (go_at_call 22; exact quiet_in (cut_any _ _ 8 _ (HK.out.quiet ((Quiet.refl _).drewN _)).s))))
  go_wp2
  go_ret
  exact ⟨rfl, below_drewN hb _⟩


theorem amoPairs_walk (a0 a1 : Int) (a2 : Bool) (w0 : (Lit.int .u64 a0).wf = true) (w1 : (Lit.int .u64 a1).wf = true) (w : World) :
    Calls Try.prog 6 #[.int .u64 a0, .int .u64 a1, .bool a2] w fun e w' => e = .returned (.bool true) ∧ Below w.heap.size w w' := by
  obtain ⟨a, rfl⟩ := u64_bv w0
  obtain ⟨b, rfl⟩ := u64_bv w1
  cases a2 with
  | true => exact amoPairs_true a b w
  | false => exact amoPairs_false a b w
end Go.Proofs.Ytnkmcjnjlbddfaa
