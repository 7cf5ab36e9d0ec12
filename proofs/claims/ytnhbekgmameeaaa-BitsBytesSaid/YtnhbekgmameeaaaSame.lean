/- The helper Bytes of package tappethelp: two slices that read as the same bytes are the same. -/
import Derived.Test.YtnhbekgmameeaaaBytes
import Derived.Deep.AppendLies
namespace Go.Proofs.Ytnhbekgmameeaaa
open Go.RowKit Wd

/-- The slice's first n cells are these bytes. -/
def Octets (w : World) (A : Option Addr) (n : Nat) (xs : List Int) : Prop :=
  xs.length = n ∧ (0 < n → ∃ b off, A = some ⟨b, off, none⟩ ∧ b < w.heap.size ∧ ∀ i, i < n → w.cell? ⟨b, off + i, none⟩ = some (.int .u8 (xs.getD i 0)))
theorem Octets.below {w w' : World} {A : Option Addr} {n : Nat} {xs : List Int} (h : Octets w A n xs) (hb : Below w.heap.size w w') : Octets w' A n xs :=
  ⟨h.1, fun hn => by
    obtain ⟨b, off, e, hlt, hc⟩ := h.2 hn
    exact ⟨b, off, e, by have := hb.size; omega, fun i hi => (hb.cell (p := ⟨b, off + i, none⟩) hlt).trans (hc i hi)⟩⟩
theorem octets_conv {P : Program} (w : World) (src e dst : TypeId) (hs : P.underlying src = some (.slice e)) (he : P.underlying e = some (.int .u8)) (hd : P.underlying dst = some .string)
    {A : Option Addr} {n : Nat} {xs : List Int} (h : Octets w A n xs) (c : Nat) : (convert src dst (.slice A n c)).run P w = .ok (.string (strOfNums xs)) w := by
  rcases Nat.eq_zero_or_pos n with h0 | h0
  · subst h0
    have hx : xs = [] := List.eq_nil_of_length_eq_zero h.1
    subst hx
    rw [run_convert_bytes_string w src dst e A 0 c hs he hd]
    cases A with
    | none => rfl
    | some a => exact run_bytesToString w a 0 c [] (run_loadCells_list (P := P) w a [] (fun j v hv => by simp at hv))
  · obtain ⟨b, off, rfl, _, hc⟩ := h.2 h0
    exact run_convert_bytes_arg w src e hs he b off n c xs h.1 hc dst hd

theorem sameBytes_true (A B : Option Addr) (n m c d : Nat) (xs : List Int) (w : World) (ha : Octets w A n xs) (hb : Octets w B m xs) :
    Calls Try.prog 15 #[.slice A n c, .slice B m d] w fun e w' => e = .returned (.bool true) ∧ Quiet w w' := by
  have h1 := octets_conv (P := Try.prog) w 23 5 9 Try.underlying23 Try.underlying5 Try.underlying9 ha c
  have h2 := octets_conv (P := Try.prog) w 23 5 9 Try.underlying23 Try.underlying5 Try.underlying9 hb d
  clear ha hb
  go_enter Try.func15, Try.ntmps15
  go_wp2
  go_ret
  exact ⟨rfl, Quiet.refl _⟩

/-- What a call made reads as bytes. -/
theorem octets_of_own {w : World} {base : Nat} {e : TypeId} {sv : Value} {n : Nat} {xs : List Int} (h : w.ownsRow base e 1 sv n (xs.map (Value.int .u8))) : ∃ A c, sv = .slice A n c ∧ Octets w A n xs := by
  have hl : xs.length = n := by simpa using h.1
  rcases Nat.eq_zero_or_pos n with h0 | h0
  · rcases h.2 with ⟨rfl, _⟩ | ⟨g, cap, cur, rfl, _⟩
    · subst h0
      exact ⟨none, 0, rfl, hl, fun h => absurd h (by omega)⟩
    · exact ⟨_, cap, rfl, hl, fun h => absurd h (by omega)⟩
  · obtain ⟨g, cap, rfl, hb, hlt⟩ := h.form h0
    refine ⟨_, cap, rfl, hl, fun _ => ⟨g, 0, rfl, hlt, fun i hi => ?_⟩⟩
    rw [Nat.zero_add, h.cellAt i (by omega)]
    simp [List.getD, List.getElem?_eq_getElem (show i < xs.length by omega)]
theorem bytesOf_map (v : BitVec 64) (k : Nat) : bytesOf v k = ((List.range k).map (byteAt v)).map (Value.int .u8) := by simp [bytesOf]
/-- An append onto a row of the call's own, under a guard that says yes. -/
theorem append_want {P : Program} (w : World) {ops : Array Oper} {rest : List Oper} {o : Oper} {a : Act} {Q : Exit → Act → World → Prop} (hw : Region.wanted o (yielded ops a.tmps) = true) (s x : Operand) (t : TypeId)
    (ho : o.op = .call { callee := .builtin .append, args := #[s, x], argTypes := #[t, t] })
    (base : Nat) (e : TypeId) (i : TypeInfo) (z : Value) (size bytes : Nat) (ht : P.underlying t = some (.slice e)) (hi : P.info? e = some i) (hz : i.zero = some z)
    (hsize : i.size = size) (hby : i.bytes = bytes) (hzs : z.cells.size = size) (hsz : 0 < size)
    (v : Value) (n : Nat) (xs : List Value) (hs : a.eval s = v) (hown : w.ownsRow base e size v n xs)
    (ad : Addr) (m c : Nat) (news : List Value) (hx : a.eval x = .slice (some ad) m c) (hl : news.length = m * size) (hnews : ∀ j u, news[j]? = some u → w.cell? (ad.add j) = some u) (h1 : ∀ u ∈ news, u.oneCell' = true)
    (h63 : n + m ≤ maxLen) (hbytes : (n + m) * bytes ≤ 140737488355328) (hbase : base ≤ w.heap.size)
    (h : ∀ v' w', w'.ownsRow base e size v' (n + m) (xs ++ news) → w.grownBy w' v.ownBlock → wpList P ops Q rest (a.put o.dst v') w') : wpList P ops Q (o :: rest) a w :=
  BigFrame.wpList_want hw fun _ hK => wp_append_own w s x t ho base e i z size bytes ht hi hz hsize hby hzs hsz v n xs hs hown ad m c news hx hl hnews h1 h63 hbytes hbase fun v' w' h2 h3 _ => hK _ _ (h v' w' h2 h3)
theorem owns_below {wA wB : World} {base : Nat} {e : TypeId} {size n : Nat} {v : Value} {xs : List Value} (h : wA.ownsRow base e size v n xs) (hb : Below wA.heap.size wA wB) : wB.ownsRow base e size v n xs := by
  refine h.kept (row := none) ⟨hb.os, hb.tape, hb.output, hb.size, fun k hk _ => hb.block k hk⟩ ?_
  rcases h.2 with ⟨rfl, _⟩ | ⟨g, cap, cur, rfl, _⟩
  · exact .inl rfl
  · exact .inr (by simp [Value.ownBlock])
end Go.Proofs.Ytnhbekgmameeaaa
