/- The law TlbRecent, walked: each call answers true. -/
import Derived.Test.YthjhcdkbajbpdaaTlbRecPlain
import Derived.Deep.Cut
import Derived.Deep.CutRange
import Derived.Deep.CutBlock
import Derived.BigQuiet
import Derived.Deep.QuietTactic
namespace Go.Proofs.Ythjhcdkbajbpdaa
open Go.RowKit Wd Pl
set_option linter.unusedVariables false
set_option linter.unusedSimpArgs false
set_option maxRecDepth 100000
theorem info_u64 : (Try.prog.info? 22).map (fun i => (i.zero, i.size, i.bytes)) = some (some (.int .u64 0), 1, 8) := by kernel_rfl
namespace Wd
/-- The words of the pages. -/
def pgV (had : List Nat) : List Value := had.map fun (k : Nat) => Value.int .u64 ((k : Int) * 4096)
end Wd
theorem lookY_yes (ws : List Wy) (va : BitVec 64) (h : fndI ws va < ws.length) : lookY ws va = wyAt ws (fndI ws va) := if_pos h
/-- The numbers that came in, below block n. -/
def NumsIn (w : World) (n : Nat) (A : Option Addr) (l : List Int) : Prop :=
  0 < l.length → ∃ b off, A = some ⟨b, off, none⟩ ∧ b < n ∧ ∀ i, i < l.length → w.cell? ⟨b, off + i, none⟩ = some (.int .i64 (l.getD i 0))
theorem NumsIn.below {w w' : World} {n : Nat} {A : Option Addr} {l : List Int} (h : NumsIn w n A l) (hb : Below n w w') : NumsIn w' n A l := fun h0 => by
  obtain ⟨b, off, e, hl, hc⟩ := h h0
  exact ⟨b, off, e, hl, fun i hi => (hb.cell (p := ⟨b, off + i, none⟩) hl).trans (hc i hi)⟩
theorem nums_of {W : World} {A : Option Addr} {len : Nat} (h : RowsIn [.int .i64] W A len) : ∃ l : List Int, l.length = len ∧ NumsIn W W.heap.size A l ∧ l.length ≤ 9223372036854775807 := by
  rcases Nat.eq_zero_or_pos len with h0 | h0
  · subst h0
    exact ⟨[], rfl, fun h => by simp at h, by simp⟩
  · obtain ⟨b, off, rfl, hb, hc⟩ := h.2 h0
    obtain ⟨l, hl, hp⟩ := list_of (0 : Int) (fun i x => W.cell? ⟨b, off + i, none⟩ = some (.int .i64 x)) len (fun i hi => by
      obtain ⟨cs, ha, hj⟩ := hc i hi
      have e0 := hj 0 (by simp)
      obtain ⟨v0, g0, z0, rfl, _⟩ := ha.get 0 _ rfl
      rw [g0] at e0
      exact ⟨z0, by simpa using e0⟩)
    exact ⟨l, hl, fun _ => ⟨b, off, rfl, hb, fun i hi => hp i (by omega)⟩, by rw [hl]; exact h.1⟩
theorem rem_64 (n : Int) : ∃ k : Nat, k < 64 ∧ (IntKind.u64.wrap n).tmod 64 = (k : Int) := by
  refine ⟨((IntKind.u64.wrap n).tmod 64).toNat, ?_⟩
  rw [w64, Int.tmod_eq_emod_of_nonneg (by omega)]
  omega
theorem owns_only {w w' : World} {base : Nat} {e : TypeId} {size n : Nat} {v : Value} {xs : List Value} {S : List Nat} (h : w.ownsRow base e size v n xs) (ho : Only S w w') (hs : ∀ x, x ∈ S → x < base) : w'.ownsRow base e size v n xs := by
  obtain ⟨h1, h2⟩ := h
  refine ⟨h1, ?_⟩
  rcases h2 with h2 | ⟨g, cap, cur, e1, hb, hh, h3⟩
  · exact .inl h2
  · exact .inr ⟨g, cap, cur, e1, hb, (ho.block g (Bk.lt (cs := cur) (t := e) hh) (fun hm => by have := hs g hm; omega)).trans hh, h3⟩
theorem only_grown {w w' : World} {row : Option Nat} (h : w.grownBy w' row) : Only row.toList w w' :=
  ⟨h.os, h.tape, h.output, h.size, fun k hk hn => h.block k hk (fun e => hn (by rw [← e]; simp))⟩
theorem law_grown {w0 w w' : World} {p q B : Nat} {ws : List Wy} {st : Int} {row : Option Nat} (h : Law w0 w p q ws st) (hg : w.grownBy w' row) (hr : ∀ k, row = some k → B ≤ k) (hp : p < B) (hq : q < B) : Law w0 w' p q ws st := by
  have ho := only_grown hg
  have hm : ∀ x, x ∈ row.toList → B ≤ x := fun x hx => hr x (by simpa using hx)
  exact ⟨h.t.only ho (fun hx => by have := hm _ hx; omega) (fun hx => by have := hm _ hx; omega), h.b.trans (ho.below (fun x hx => by have := hm x hx; have := h.pn; omega) h.b.size), h.pn, h.qn⟩
theorem pgV_snoc (had : List Nat) (k : Nat) : pgV (had ++ [k]) = pgV had ++ [.int .u64 ((k : Int) * 4096)] := by simp [pgV]
theorem rem_n (look : Int) (n : Nat) (h : n = 2 ∨ n = 4 ∨ n = 8) : ∃ j : Nat, j < n ∧ (IntKind.u64.wrap look).tmod (n : Int) = (j : Int) := by
  refine ⟨((IntKind.u64.wrap look).tmod (n : Int)).toNat, ?_⟩
  rw [w64, Int.tmod_eq_emod_of_nonneg (by omega)]
  have h1 := Int.emod_nonneg ((BitVec.ofInt 64 look).toNat : Int) (show (n : Int) ≠ 0 by omega)
  have h2 := Int.emod_lt_of_pos ((BitVec.ofInt 64 look).toNat : Int) (show (0 : Int) < n by omega)
  omega
set_option maxHeartbeats 4000000 in
theorem tlbRecent_walk (ways look : Int) (A : Option Addr) (c : Nat) (l : List Int) (w : World) (hmax : l.length ≤ 9223372036854775807) (hc : NumsIn w w.heap.size A l) :
    Calls Try.prog 10 #[.int .i64 ways, .slice A l.length c, .int .i64 look] w fun e w' => e = .returned (.bool true) ∧ Below w.heap.size w w' := by
  obtain ⟨i0, hi0, hz0, hz1, hz2⟩ := info_parts info_u64
  have HC := Lib.hid hc
  have hr := Lib.hid (rem_3 ways)
  clear hc
  go_enter Try.func10, Try.ntmps10
  go_upto_region 1 with fail
  go_cut [7] from 22 (fun s7 wx => ∃ n : Nat, (n = 2 ∨ n = 4 ∨ n = 8) ∧ s7 = .int .i64 (n : Int) ∧ Below w.heap.size w wx)
  case first =>
    rcases hr.out with h | h | h
    · go_wp2_with fail
      go_meet
      case rel => exact ⟨2, .inl rfl, rfl, (Below.refl _ _).alloc (Nat.le_refl _) _⟩
    · go_wp2_with fail
      go_meet
      case rel => exact ⟨4, .inr (.inl rfl), rfl, (Below.refl _ _).alloc (Nat.le_refl _) _⟩
    · go_wp2_with fail
      go_meet
      case rel => exact ⟨8, .inr (.inr rfl), rfl, (Below.refl _ _).alloc (Nat.le_refl _) _⟩
  case rest =>
    obtain ⟨n, hn, rfl, hb⟩ := hcut
    have HN := Lib.hid hn
    have HB := Lib.hid hb
    have hbs := hb.size
    have hn8 : n ≤ 8 := by omega
    have hn2 : 2 ≤ n := by omega
    clear hn hb hr
    go_wp2_with fail
    refine (new_at n HN.out _ wc.heap.size rfl).mono ?_
    rintro e w1 ⟨rfl, hT, hb1⟩
    have HL := Lib.hid (show Law w w1 (wc.heap.size + 1) wc.heap.size (mkW n) 0 from ⟨hT, HB.out.trans (hb1.mono hbs), by omega, hbs⟩)
    clear hT hb1 HB
    go_wp2_with fail
    refine (tawake_any _).mono ?_
    rintro e w2 ⟨rfl, hb2⟩
    replace HL := Lib.hid (HL.out.make hb2)
    have hpq : wc.heap.size + 1 < w2.heap.size := HL.out.t.pl
    clear hb2
    generalize hp : wc.heap.size + 1 = p at HL hpq ⊢
    generalize hq : wc.heap.size = q at HL ⊢
    have hqw : q < w2.heap.size := by omega
    clear hp hq hbs
    go_upto_block 0 with fail
    go_cut [10] from 11 (fun s10 wx => ∃ (ws : List Wy) (st : Int) (had : List Nat), Law w wx p q ws st ∧ Filled n ws st had ∧ wx.ownsRow w2.heap.size 22 1 s10 had.length (pgV had))
    case first =>
      go_wp2_with fail
      go_loopw [10, 11] (fun v k wr => ∃ (i : Nat) (ws : List Wy) (st : Int) (had : List Nat), i ≤ l.length ∧ k = .int .i64 (i : Int) ∧ Law w wr p q ws st ∧ Filled n ws st had ∧ wr.ownsRow w2.heap.size 22 1 v had.length (pgV had) ∧ w2.heap.size ≤ wr.heap.size) (fun _ k _ => l.length - (intOf k).toNat)
      case atStart => exact ⟨0, _, _, [], Nat.zero_le _, rfl, HL.out, filled_start n HN.out, World.ownsRow_nil _ _ _ _, Nat.le_refl _⟩
      case round =>
        obtain ⟨i, ws, st, had, hi, rfl, hl, hf, hown, hws⟩ := hrel
        have HL0 := Lib.hid hl
        have HF := Lib.hid hf
        have hci := Lib.hid (HC.out.below hl.b)
        have hle := hf.le
        clear hl hf HL
        obtain ⟨A1, c1, rfl⟩ : ∃ A1 c1, u10 = .slice A1 had.length c1 := by
          rcases hown.2 with ⟨e, h0⟩ | ⟨g, cap, cur, e, _⟩
          · exact ⟨none, 0, by rw [h0]; exact e⟩
          · exact ⟨_, cap, e⟩
        have HOWN := Lib.hid hown
        clear hown
        by_cases hgo : i < l.length ∧ had.length < n
        · obtain ⟨g1, g2⟩ := hgo
          obtain ⟨b, off, rfl, hb, hcc⟩ := hci.out (by omega)
          have d0 := hcc i g1
          obtain ⟨k, hk64, hk⟩ := rem_64 (l.getD i 0)
          generalize l.getD i 0 = pg at d0 hk
          have g3 : (had.length : Int) < (n : Int) := by omega
          have hkk : (k : Int) < 64 := by omega
          have hsh : IntKind.u64.wrap ((k : Int) * 4096) = (k : Int) * 4096 := by rw [w64, ← pgW_int k (by omega), of64]
          have hpg := pgW_int k (by omega)
          have cK := Lib.hid (look_any p q ws st (pgW k))
          have cP := Lib.hid (fun st' => put_any p q ws st' (pgW k) ⟨0, 0, 0, 0, (k : Int) * 4096⟩)
          rw [hpg] at cK cP
          clear hcc hpg
          go_wp2_with fail
          have hcase := HF.out.dec k hk64
          unfold pteY at cK
          rcases hcase with ⟨j, hj, hjk⟩ | hmiss
          · have hfi : fndI ws (pgW k) = j := by rw [← hjk]; exact HF.out.hit j hj
            rw [show fndIs ws (pgW k) = true from decide_eq_true (by rw [hfi, HF.out.len]; omega)] at cK
            clear hjk hfi
            refine (cK.out wr HL0.out.t).mono ?_
            rintro e w3 ⟨rfl, hT3, ho3⟩
            have HL3 := Lib.hid (HL0.out.step hT3 (only_p ho3) HL0.out.pn HL0.out.qn)
            have HO3 := Lib.hid (owns_only HOWN.out ho3 (fun x hx => by simp at hx; omega))
            have HF3 := Lib.hid (HF.out.look (pgW k))
            have hws3 : w2.heap.size ≤ w3.heap.size := Nat.le_trans hws ho3.size
            clear hT3 ho3 cK cP
            go_wp2_with fail
            go_roundw
            case rel => exact ⟨i + 1, _, _, _, by omega, by go_num, HL3.out.make ((Below.refl _ _).alloc (Nat.le_refl _) _), HF3.out, HO3.out.alloc _, by simp; omega⟩
            case measure => simp [intOf]; omega
          · have hfi := HF.out.miss k (by omega) hmiss
            rw [show fndIs ws (pgW k) = false from decide_eq_false (by omega)] at cK
            have HMISS := Lib.hid hmiss
            clear hmiss hfi
            refine (cK.out wr HL0.out.t).mono ?_
            rintro e w3 ⟨rfl, hT3, ho3⟩
            have HL3 := Lib.hid (HL0.out.step hT3 (only_p ho3) HL0.out.pn HL0.out.qn)
            have HO3 := Lib.hid (owns_only HOWN.out ho3 (fun x hx => by simp at hx; omega))
            have HF3 := Lib.hid (HF.out.look (pgW k))
            have hws3 : w2.heap.size ≤ w3.heap.size := Nat.le_trans hws ho3.size
            clear hT3 ho3 cK
            have HL4 := Lib.hid (HL3.out.make ((Below.refl _ _).alloc (Nat.le_refl _) (.cells #[.int .i64 (lookY ws (pgW k)).lv, .int .u64 (lookY ws (pgW k)).p0, .int .u64 (lookY ws (pgW k)).p1, .int .u64 (lookY ws (pgW k)).p2, .int .u64 (lookY ws (pgW k)).en] 29)))
            have cP4 := Lib.hid (cP.out (lookS ws st (pgW k)) _ HL4.out.t)
            rw [if_pos (pg_may k _ (by omega))] at cP4
            unfold lfC at cP4
            clear cP
            go_wp2_with fail
            refine cP4.out.mono ?_
            rintro e w5 ⟨rfl, hT5, ho5⟩
            have HL5 := Lib.hid (HL4.out.step hT5 ho5 HL4.out.pn HL4.out.qn)
            have HO5 := Lib.hid (owns_only (HO3.out.alloc _) ho5 (fun x hx => by simp at hx; omega))
            have HF5 := Lib.hid (HF3.out.more k hk64 g2 HMISS.out)
            have hws5 : w2.heap.size ≤ w5.heap.size := Nat.le_trans (by simp; omega) ho5.size
            clear hT5 ho5 cP4 HL3 HL4 HO3
            go_wp2_with (at_builtin; (refine wpList_append_own _ rfl _ _ 26 rfl w2.heap.size 22 i0 _ 1 8 Try.underlying26 hi0 hz0 hz1 hz2 rfl (by omega) _ _ _ rfl (HO5.out.alloc _) ⟨w5.heap.size, 0, none⟩ 1 1 [.int .u64 ((k : Int) * 4096)] rfl rfl ?c1 ?c2 ?c3 ?c4 ?c5 ?_))
            case c1 =>
              intro j u hu
              have hb := Bk.new w5 #[.int .u64 ((k : Int) * 4096)] 22
              rw [add_at, Nat.zero_add, hb.cell]
              simpa using hu
            case c2 =>
              intro u hu
              simp at hu
              rw [hu]
              rfl
            case c3 => unfold maxLen; omega
            case c4 => omega
            case c5 => simp; omega
            intro v' w6 hown6 hgrow _
            have hrow : ∀ b, (Value.slice A1 had.length c1).ownBlock = some b → w2.heap.size ≤ b := fun b hb => (HO5.out.lt b hb).1
            have HL6 := Lib.hid (law_grown (HL5.out.make ((Below.refl _ _).alloc (Nat.le_refl _) _)) hgrow hrow (by omega) hqw)
            have HO6 := Lib.hid hown6
            have hws6 : w2.heap.size ≤ w6.heap.size := Nat.le_trans (by simp; omega) hgrow.size
            clear hown6 hgrow hrow HL5 HO5
            go_wp2_with fail
            go_roundw
            case rel => exact ⟨i + 1, _, _, had ++ [k], by omega, by go_num, HL6.out, HF5.out, by rw [pgV_snoc, List.length_append]; exact HO6.out, hws6⟩
            case measure => simp [intOf]; omega
        · by_cases h1 : i < l.length
          · have h2 : decide ((had.length : Int) < (n : Int)) = false := decide_eq_false (by omega)
            go_wp2_with fail
            go_meet
            case rel => exact ⟨ws, st, had, HL0.out, HF.out, HOWN.out⟩
          · go_wp2_with fail
            go_meet
            case rel => exact ⟨ws, st, had, HL0.out, HF.out, HOWN.out⟩
    case rest =>
      obtain ⟨ws, st, had, hl, hf, hown⟩ := hcut
      have HL := Lib.hid hl
      have HF := Lib.hid hf
      have hle := hf.le
      have cLen := Lib.hid (fun W hW => len_any p q ws st W hW)
      rw [hf.count] at cLen
      obtain ⟨A1, c1, rfl⟩ : ∃ A1 c1, u10 = .slice A1 had.length c1 := by
        rcases hown.2 with ⟨e, h0⟩ | ⟨g, cap, cur, e, _⟩
        · exact ⟨none, 0, by rw [h0]; exact e⟩
        · exact ⟨_, cap, e⟩
      have HOWN := Lib.hid hown
      clear hl hf hown HC
      go_wp2_with fail
      refine (cLen.out _ HL.out.t).mono ?_
      rintro e w3 ⟨rfl, hb3⟩
      have HL3 := Lib.hid (HL.out.make hb3)
      have HOWN3 := Lib.hid (owns_only HOWN.out (only_below hb3 []) (by simp))
      clear hb3 HOWN HL
      by_cases hlt : had.length < n
      · have hli : (had.length : Int) < (n : Int) := by omega
        go_wp2_with fail
        refine (cLen.out _ HL3.out.t).mono ?_
        rintro e w4 ⟨rfl, hb4⟩
        have HL4 := Lib.hid (HL3.out.make hb4)
        clear hb4
        go_wp2_with fail
        go_ret
        exact ⟨ret_bool (by simp), HL4.out.b⟩
      · have hln : had.length = n := by omega
        obtain ⟨j, hj, hjr⟩ := rem_n look n HN.out
        have hN : IntKind.u64.wrap (n : Int) = (n : Int) := by rcases HN.out with rfl | rfl | rfl <;> rfl
        have hn0 : (0 : Int) < (n : Int) := by omega
        have j0 : (0 : Int) ≤ (j : Int) := by omega
        have jn : (j : Int) < (n : Int) := by omega
        obtain ⟨g, cap, e, hbg, hgl⟩ := HOWN3.out.form (by omega)
        cases e
        have hcell := HOWN3.out.cellAt j (by simp [pgV]; omega)
        have hv : (pgV had)[j]? = some (.int .u64 (((had.getD j 0 : Nat) : Int) * 4096)) := by
          simp [pgV, List.getD, show j < had.length by omega]
        rw [hv] at hcell
        have hs := HF.out.small j (by omega)
        have hfi := HF.out.hit j (by omega)
        have hover := HF.out.over hln j hj (pgW (had.getD j 0)) hfi
        have hpj := pgW_int (had.getD j 0) (by omega)
        generalize had.getD j 0 = kj at *
        obtain ⟨_, hcnt, hf1, hw1, hf2, hw2, hl2⟩ := hover
        have cK := Lib.hid (look_any p q ws st (pgW kj))
        have cP := Lib.hid (put_any p q ws (lookS ws st (pgW kj)) (pgW 100) ⟨0, 0, 0, 0, 5⟩)
        generalize hws2 : putWs ws (lookS ws st (pgW kj)) (pgW 100) ⟨0, 0, 0, 0, 5⟩ = ws2 at *
        generalize hst2 : putSt ws (lookS ws st (pgW kj)) (pgW 100) ⟨0, 0, 0, 0, 5⟩ = st2 at *
        have cL2 := Lib.hid (fun W hW => len_any p q ws2 st2 W hW)
        rw [hcnt] at cL2
        have cK2 := Lib.hid (fun W hW => look_any p q ws2 st2 (pgW kj) W hW)
        have cK3 := Lib.hid (fun W st3 hW => look_any p q ws2 st3 (pgW 100) W hW)
        rw [lookY_yes _ _ (by rw [hf1, hl2]; exact hj), hf1, hw1, show fndIs ws2 (pgW kj) = true from decide_eq_true (by rw [hf1, hl2]; exact hj)] at cK2
        rw [lookY_yes _ _ hf2, hw2, show fndIs ws2 (pgW 100) = true from decide_eq_true hf2] at cK3
        rw [show fndIs ws (pgW kj) = true from decide_eq_true (by rw [hfi, HF.out.len]; exact hj)] at cK
        rw [if_pos (pg_may 100 5 (by omega))] at cP
        have h100 : ((pgW 100).toNat : Int) = 409600 := by decide +kernel
        rw [hpj] at cK cK2
        rw [h100] at cP cK3
        unfold pteY at cK cK2 cK3
        unfold pgY at cK2 cK3
        unfold lfC at cP
        have hln2 : (had.length : Int) = (n : Int) := by omega
        clear hws2 hst2 hcnt hf1 hw1 hf2 hw2 hl2 hfi hpj h100 hv hs hln hlt cLen
        rw [hln2]
        go_wp2_with fail
        refine (cK.out _ HL3.out.t).mono ?_
        rintro e w4 ⟨rfl, hT4, ho4⟩
        have HL4 := Lib.hid (HL3.out.step hT4 (only_p ho4) HL3.out.pn HL3.out.qn)
        clear hT4 ho4 cK HL3 HOWN3 hcell
        generalize hY : lookY ws (pgW kj) = Y
        have HL5 := Lib.hid (HL4.out.make ((Below.refl _ _).alloc (Nat.le_refl _) (.cells #[.int .i64 Y.lv, .int .u64 Y.p0, .int .u64 Y.p1, .int .u64 Y.p2, .int .u64 Y.en] 29)))
        clear hY HL4
        go_wp2_with fail
        refine (cP.out _ HL5.out.t).mono ?_
        rintro e w6 ⟨rfl, hT6, ho6⟩
        have HL6 := Lib.hid (HL5.out.step hT6 ho6 HL5.out.pn HL5.out.qn)
        clear hT6 ho6 cP HL5
        go_wp2_with fail
        refine (cL2.out _ HL6.out.t).mono ?_
        rintro e w7 ⟨rfl, hb7⟩
        have HL7 := Lib.hid (HL6.out.make hb7)
        clear hb7 cL2 HL6
        go_wp2_with fail
        refine (cK2.out _ HL7.out.t).mono ?_
        rintro e w8 ⟨rfl, hT8, ho8⟩
        have HL8 := Lib.hid (HL7.out.step hT8 (only_p ho8) HL7.out.pn HL7.out.qn)
        clear hT8 ho8 cK2 HL7
        have HL9 := Lib.hid (HL8.out.make ((Below.refl _ _).alloc (Nat.le_refl _) (.cells #[.int .i64 0, .int .u64 0, .int .u64 0, .int .u64 0, .int .u64 ((kj : Int) * 4096)] 29)))
        have bP := Lib.hid (Bk.new w8 #[.int .i64 0, .int .u64 0, .int .u64 0, .int .u64 0, .int .u64 ((kj : Int) * 4096)] 29)
        have hp8 : p < w8.heap.size := HL8.out.t.pl
        clear HL8
        go_wp2_with fail
        refine (cK3.out _ _ HL9.out.t).mono ?_
        rintro e w10 ⟨rfl, hT10, ho10⟩
        have bP2 := bP.out.only ho10 (by simp; omega)
        have e4 := bP2.get (o := 4) rfl
        have hz10 : w8.heap.size < w10.heap.size := by have := ho10.size; simp at this; omega
        have HL10 := Lib.hid (HL9.out.step hT10 (only_p ho10) HL9.out.pn HL9.out.qn)
        clear hT10 ho10 cK3 HL9 bP bP2
        go_wp2_with fail
        go_ret
        exact ⟨rfl, HL10.out.b.alloc HL10.out.b.size _⟩
theorem tlbRecent_cells (ways : Int) (w0 : (Lit.int .i64 ways).wf = true) (A : Option Addr) (n c : Nat) (w : World) (h : RowsIn [.int .i64] w A n) (look : Int) (w2 : (Lit.int .i64 look).wf = true) :
    Calls Try.prog 10 #[.int .i64 ways, .slice A n c, .int .i64 look] w fun e w' => e = .returned (.bool true) ∧ Below w.heap.size w w' := by
  obtain ⟨l, hl, ho, hm⟩ := nums_of h
  rw [← hl]
  exact tlbRecent_walk ways look A c l w hm ho
end Go.Proofs.Ythjhcdkbajbpdaa
