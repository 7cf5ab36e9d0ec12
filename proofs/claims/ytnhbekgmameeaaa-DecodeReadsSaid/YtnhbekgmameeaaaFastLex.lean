/- A quick check that the text's own order serves for every order of a region, however many operations it has. -/
import Derived.Still
import Derived.KernelRfl
import Derived.BigQuiet
namespace Go.Proofs.Ytnhbekgmameeaaa
open Go

def lateOk (ops : Array Oper) (k : Nat) (o : Oper) (rest : List Oper) : Bool := rest.all fun p => (p.after.any fun e => Region.binds .any e && e.on == k) || o.apart ops p
def fastFrom (ops : Array Oper) : Nat → List Oper → Bool
  | _, [] => true
  | k, o :: rest => (o.after.all fun e => !Region.binds .any e || Nat.blt e.on k) && lateOk ops k o rest && fastFrom ops (k + 1) rest
def fastB (l : List Oper) : Bool := Region.noSelect l.toArray && fastFrom l.toArray 0 l

structure Told (n k : Nat) (listed : Array Bool) : Prop where
  size : listed.size = n
  at_ : ∀ i, i < n → listed[i]? = some (decide (i < k))
theorem Told.getT {n k : Nat} {listed : Array Bool} (h : Told n k listed) (i : Nat) (hi : i < n) : listed.getD i true = decide (i < k) := by
  rw [Array.getD_eq_getD_getElem?, h.at_ i hi]
  rfl
theorem Told.getF {n k : Nat} {listed : Array Bool} (h : Told n k listed) (i : Nat) (hi : i < n) : listed.getD i false = decide (i < k) := by
  rw [Array.getD_eq_getD_getElem?, h.at_ i hi]
  rfl
theorem Told.start (n : Nat) : Told n 0 (Array.replicate n false) := by
  refine ⟨by simp, fun i hi => ?_⟩
  rw [Array.getElem?_replicate, if_pos hi]
  rfl
theorem Told.next {n k : Nat} {listed : Array Bool} (h : Told n k listed) (hk : k < n) : Told n (k + 1) (listed.setIfInBounds k true) := by
  refine ⟨by rw [Array.size_setIfInBounds, h.size], fun i hi => ?_⟩
  rw [Array.getElem?_setIfInBounds]
  by_cases e : k = i
  · subst e
    rw [if_pos rfl, if_pos (by rw [h.size]; exact hk), decide_eq_true (by omega)]
  · rw [if_neg e, h.at_ i hi]
    congr 1
    exact decide_eq_decide.2 (by omega)

theorem lex_of_fast (ops : Array Oper) : ∀ (l : List Oper) (k : Nat) (listed : Array Bool), k + l.length = ops.size → (∀ j, l[j]? = ops[k + j]?) → Told ops.size k listed → fastFrom ops k l = true → Region.lexFrom .any ops l.length k listed = true
  | [], k, listed, hn, hl, ht, hf => by
    simp only [List.length_nil, Region.lexFrom, List.isEmpty_iff]
    unfold Region.ready
    rw [List.filter_eq_nil_iff]
    intro i hi
    simp only [List.mem_range] at hi
    simp only [List.length_nil, Nat.add_zero] at hn
    rw [ht.getT i hi, decide_eq_true (by omega)]
    simp
  | o :: rest, k, listed, hn, hl, ht, hf => by
    simp only [fastFrom, Bool.and_eq_true] at hf
    obtain ⟨⟨h1, h2⟩, h3⟩ := hf
    have hk : k < ops.size := by simp at hn; omega
    have h0 : ops[k]? = some o := by simpa using (hl 0).symm
    simp only [List.length_cons, Region.lexFrom, Bool.and_eq_true]
    refine ⟨⟨?_, ?_⟩, ?_⟩
    · rw [List.contains_iff_mem]
      unfold Region.ready
      rw [List.mem_filter]
      refine ⟨by simpa using hk, ?_⟩
      rw [ht.getT k hk, decide_eq_false (by omega), h0]
      simp only [Bool.not_false, Bool.true_and, Option.map_some, Option.getD_some]
      rw [Array.all_eq_true_iff_forall_mem] at h1 ⊢
      intro e he
      have := h1 e he
      rw [Bool.or_eq_true] at this ⊢
      rcases this with a | a
      · exact .inl a
      · right
        have hlt : e.on < k := by simpa [Nat.blt_eq] using a
        rw [ht.getF e.on (by omega), decide_eq_true hlt]
    · unfold Region.free
      rw [h0]
      simp only
      rw [List.all_eq_true]
      intro j hj
      simp only [List.mem_range] at hj
      by_cases c1 : j = k
      · simp [c1]
      · rw [ht.getT j hj]
        by_cases c2 : j < k
        · simp [c2]
        · rw [Bool.or_eq_true, Bool.or_eq_true]
          right
          have hr := hl (j - k)
          have hp : k + (j - k) = j := by omega
          rw [hp] at hr
          obtain ⟨p, hp2⟩ : ∃ p, ops[j]? = some p := ⟨ops[j], Array.getElem?_eq_getElem hj⟩
          rw [hp2]
          simp only
          have hm : p ∈ rest := by
            rw [hp2] at hr
            have : j - k = (j - k - 1) + 1 := by omega
            rw [this, List.getElem?_cons_succ] at hr
            exact List.mem_of_getElem? hr
          unfold lateOk at h2
          exact List.all_eq_true.1 h2 p hm
    · exact lex_of_fast ops rest (k + 1) _ (by simp at hn ⊢; omega) (fun j => by have := hl (j + 1); simpa [Nat.add_assoc, Nat.add_comm 1 j] using this) (ht.next hk) h3

theorem lexB_of_fast (l : List Oper) (h : fastB l = true) : Region.lexB .any l.toArray = true := by
  unfold fastB at h
  rw [Bool.and_eq_true] at h
  unfold Region.lexB
  rw [h.1, Bool.true_and]
  have := lex_of_fast l.toArray l 0 _ (by simp) (by simp) (by simpa using Told.start l.toArray.size) h.2
  simpa using this
/-- An operation that is passed over, whose slot holds nothing yet. -/
theorem skip_same {P : Program} {ops : Array Oper} {C : World → Prop} {Q : Act → Prop} {a : Act} {o : Oper} {rest : List Oper} {d : Tmp} (hd : o.dst = some d) (hw : Region.wanted o (yielded ops a.tmps) = false)
    (hu : a.tmps[d]? = some undef) (h : wpQuiet P ops C Q rest a) : wpQuiet P ops C Q (o :: rest) a := by
  refine BigFrame.wpQuiet_skip hw ?_
  have e : a.put o.dst undef = a := by
    rw [hd]
    unfold Act.put
    obtain ⟨tmps, defers⟩ := a
    simp only
    congr 1
    apply Array.ext_getElem?
    intro i
    rw [Array.getElem?_setIfInBounds]
    by_cases c : d = i
    · subst c
      rw [if_pos rfl, if_pos (Array.getElem?_eq_some_iff.1 hu).1]
      exact hu.symm
    · rw [if_neg c]
  rw [e]
  exact h
end Go.Proofs.Ytnhbekgmameeaaa
