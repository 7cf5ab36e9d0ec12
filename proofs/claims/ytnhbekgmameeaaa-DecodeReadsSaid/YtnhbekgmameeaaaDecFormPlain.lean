/- Plain lemmas: what the instruction of a word looks like; what it reads and writes; which bits play no part. -/
import Derived.Test.YtnhbekgmameeaaaDecBackPlain
namespace Go.Proofs.Ytnhbekgmameeaaa
open Go.RowKit
set_option linter.unusedVariables false
set_option linter.unusedSimpArgs false
namespace Wd
inductive Form (w : BitVec 32) : Ins → Prop
  | none : Form w noI
  | upper (op : Int) (im : BitVec 64) (h : op = 1 ∨ op = 2 ∨ op = 3) : Form w ⟨op, 0, fieldI w 11 7, 0, 0, im, 0, false, false, false, 0⟩
  | jalr (im : BitVec 64) : Form w ⟨4, 0, fieldI w 11 7, fieldI w 19 15, 0, im, 0, false, false, false, 0⟩
  | branch (fn : Int) (im : BitVec 64) : Form w ⟨5, fn, 0, fieldI w 19 15, fieldI w 24 20, im, 0, false, false, false, 0⟩
  | load (k : Nat) (hk : k < 4) (im : BitVec 64) (s : Bool) : Form w ⟨6, 0, fieldI w 11 7, fieldI w 19 15, 0, im, sz k, s, false, false, 0⟩
  | store (k : Nat) (hk : k < 4) (im : BitVec 64) : Form w ⟨7, 0, 0, fieldI w 19 15, fieldI w 24 20, im, sz k, false, false, false, 0⟩
  | imm (fn : Int) (im : BitVec 64) (W : Bool) : Form w ⟨8, fn, fieldI w 11 7, fieldI w 19 15, 0, im, 0, false, W, false, 0⟩
  | reg (op fn : Int) (W : Bool) (h : op = 9 ∨ op = 10) : Form w ⟨op, fn, fieldI w 11 7, fieldI w 19 15, fieldI w 24 20, 0#64, 0, false, W, false, 0⟩
  | only (op : Int) (h : 11 ≤ op ∧ op ≤ 17) : Form w (opOnly op)
  | csr (fn c : Int) (u : Bool) : Form w ⟨19, fn, fieldI w 11 7, fieldI w 19 15, 0, 0#64, 0, false, false, u, c⟩
  | sfence : Form w ⟨18, 0, 0, fieldI w 19 15, fieldI w 24 20, 0#64, 0, false, false, false, 0⟩
  | lr (k : Nat) (hk : k < 4) (h : fieldI w 24 20 = 0) : Form w ⟨20, 0, fieldI w 11 7, fieldI w 19 15, fieldI w 24 20, 0#64, sz k, false, false, false, 0⟩
  | sc (k : Nat) (hk : k < 4) : Form w ⟨21, 0, fieldI w 11 7, fieldI w 19 15, fieldI w 24 20, 0#64, sz k, false, false, false, 0⟩
  | amo (k : Nat) (hk : k < 4) (fn : Int) : Form w ⟨22, fn, fieldI w 11 7, fieldI w 19 15, fieldI w 24 20, 0#64, sz k, false, false, false, 0⟩
theorem form_imm (w : BitVec 32) : Form w (immD w) := by
  unfold immD immN
  split
  · exact .imm _ _ _
  split
  · exact .imm _ _ _
  split
  · exact .imm _ _ _
  split
  · exact .imm _ _ _
  split
  · exact .none
  · exact .imm _ _ _
theorem form_reg (w : BitVec 32) : Form w (regD w) := by
  unfold regD regN
  split
  · exact .reg 9 _ _ (by omega)
  split
  · exact .reg 9 _ _ (by omega)
  split
  · exact .reg 9 _ _ (by omega)
  split
  · exact .reg 10 _ _ (by omega)
  · exact .none
theorem form_amo (w : BitVec 32) : Form w (amoD w) := by
  unfold amoD amoN
  split
  · rename_i h
    split
    · split
      · rename_i h2
        exact .lr _ (by omega) h2
      · exact .none
    split
    · exact .sc _ (by omega)
    split
    · exact .amo _ (by omega) _
    · exact .none
  · exact .none
theorem form_sys (w : BitVec 32) : Form w (sysD w) := by
  unfold sysD sysN
  split
  · exact .only 13 (by omega)
  split
  · exact .only 14 (by omega)
  split
  · exact .only 16 (by omega)
  split
  · exact .only 15 (by omega)
  split
  · exact .only 17 (by omega)
  split
  · exact .csr _ _ _
  split
  · exact .sfence
  · exact .none
theorem form_of (w : BitVec 32) : Form w (decW w) :=
  decW_ind (Form w) w .none (fun _ => .upper 1 _ (by omega)) (fun _ => .upper 2 _ (by omega)) (fun _ => .upper 3 _ (by omega)) (fun _ _ => .jalr _) (fun _ _ => .branch _ _) (fun _ _ => .load _ (Nat.mod_lt _ (by omega)) _ _)
    (fun _ h => .store _ h _) (fun _ => form_imm w) (fun _ => form_reg w) (fun _ _ => .only 11 (by omega)) (fun _ _ => .only 12 (by omega)) (fun _ => form_amo w) (fun _ => form_sys w)
theorem op_mod (w : BitVec 32) : (decW w).op ≠ 0 → fieldI w 6 0 % 4 = 3 :=
  decW_ind (fun i => i.op ≠ 0 → fieldI w 6 0 % 4 = 3) w (fun h => absurd rfl h) (fun c _ => by omega) (fun c _ => by omega) (fun c _ => by omega) (fun c _ _ => by omega) (fun c _ _ => by omega) (fun c _ _ => by omega)
    (fun c _ _ => by omega) (fun c _ => by omega) (fun c _ => by omega) (fun c _ _ => by omega) (fun c _ _ => by omega) (fun c _ => by omega) (fun c _ => by omega)
def memB (op : Int) : Bool := decide (op = 6) || decide (op = 7) || decide (op = 20) || decide (op = 21) || decide (op = 22)
def serB (op : Int) : Bool := decide (op = 11) || decide (op = 12) || decide (op = 13) || decide (op = 14) || decide (op = 15) || decide (op = 16) || decide (op = 17) || decide (op = 18) || decide (op = 19) || decide (op = 0)
def sizeB (n : Int) : Bool := decide (n = 0) || decide (n = 1) || decide (n = 2) || decide (n = 4) || decide (n = 8)
theorem sz_ok (k : Nat) (hk : k < 4) : sizeB (sz k) = true ∧ 0 < sz k := by
  match k, hk with
  | 0, _ => decide
  | 1, _ => decide
  | 2, _ => decide
  | 3, _ => decide
structure NoneOk (w : BitVec 32) (i : Ins) : Prop where
  size : sizeB i.size = true
  rd0 : 0 ≤ i.rd
  rd1 : i.rd < 32
  a0 : 0 ≤ i.rs1
  a1 : i.rs1 < 32
  b0 : 0 ≤ i.rs2
  b1 : i.rs2 < 32
  op0 : 0 ≤ i.op
  op1 : i.op ≤ 22
  mem : decide (0 < i.size) = memB i.op
theorem none_ok (w : BitVec 32) : NoneOk w (decW w) := by
  have S := small_of w
  have s1 := S.rd
  have s2 := S.rs1
  have s3 := S.rs2
  have F := form_of w
  generalize decW w = i at F ⊢
  cases F with
  | none => exact ⟨rfl, by decide, by decide, by decide, by decide, by decide, by decide, by decide, by decide, rfl⟩
  | upper op im h => refine ⟨rfl, by simp, by simp; omega, by simp, by simp, by simp, by simp, by simp; omega, by simp; omega, ?_⟩; rcases h with rfl | rfl | rfl <;> rfl
  | jalr im => exact ⟨rfl, by simp, by simp; omega, by simp, by simp; omega, by simp, by simp, by simp, by simp, rfl⟩
  | branch fn im => exact ⟨rfl, by simp, by simp, by simp, by simp; omega, by simp, by simp; omega, by simp, by simp, rfl⟩
  | load k hk im s => exact ⟨(sz_ok k hk).1, by simp, by simp; omega, by simp, by simp; omega, by simp, by simp, by simp, by simp, decide_eq_true (sz_ok k hk).2⟩
  | store k hk im => exact ⟨(sz_ok k hk).1, by simp, by simp, by simp, by simp; omega, by simp, by simp; omega, by simp, by simp, decide_eq_true (sz_ok k hk).2⟩
  | imm fn im W => exact ⟨rfl, by simp, by simp; omega, by simp, by simp; omega, by simp, by simp, by simp, by simp, rfl⟩
  | reg op fn W h => refine ⟨rfl, by simp, by simp; omega, by simp, by simp; omega, by simp, by simp; omega, by simp; omega, by simp; omega, ?_⟩; rcases h with rfl | rfl <;> rfl
  | only op h => 
    refine ⟨rfl, by simp [opOnly], by simp [opOnly], by simp [opOnly], by simp [opOnly], by simp [opOnly], by simp [opOnly], by simp [opOnly]; omega, by simp [opOnly]; omega, ?_⟩
    have : ∀ n : Int, 11 ≤ n ∧ n ≤ 17 → false = memB n := by
      intro n hn
      unfold memB
      rw [decide_eq_false (by omega), decide_eq_false (by omega), decide_eq_false (by omega), decide_eq_false (by omega), decide_eq_false (by omega)]
      rfl
    exact this op h
  | csr fn c u => exact ⟨rfl, by simp, by simp; omega, by simp, by simp; omega, by simp, by simp, by simp, by simp, rfl⟩
  | sfence => exact ⟨rfl, by simp, by simp, by simp, by simp; omega, by simp, by simp; omega, by simp, by simp, rfl⟩
  | lr k hk h => exact ⟨(sz_ok k hk).1, by simp, by simp; omega, by simp, by simp; omega, by simp, by simp; omega, by simp, by simp, decide_eq_true (sz_ok k hk).2⟩
  | sc k hk => exact ⟨(sz_ok k hk).1, by simp, by simp; omega, by simp, by simp; omega, by simp, by simp; omega, by simp, by simp, decide_eq_true (sz_ok k hk).2⟩
  | amo k hk fn => exact ⟨(sz_ok k hk).1, by simp, by simp; omega, by simp, by simp; omega, by simp, by simp; omega, by simp, by simp, decide_eq_true (sz_ok k hk).2⟩

/-! ### What is read and written -/
structure Rds where
  rs1 : Int
  rs2 : Int
  rd : Int
  whn : Int
def noR : Rds := ⟨0, 0, 0, 0⟩
def lateB (op : Int) : Bool := decide (op = 6) || decide (op = 20) || decide (op = 21) || decide (op = 22) || decide (op = 19)
def whenI (i : Ins) : Int := if i.rd = 0 then 0 else if lateB i.op = true then 2 else 1
def readsD (i : Ins) : Rds := ⟨if i.op = 19 ∧ i.useImm = true then 0 else i.rs1, i.rs2, i.rd, whenI i⟩
def bothB (op : Int) : Bool := decide (op = 5) || decide (op = 7) || decide (op = 9) || decide (op = 10) || decide (op = 18) || decide (op = 21) || decide (op = 22)
def oneB (op : Int) : Bool := decide (op = 4) || decide (op = 6) || decide (op = 8) || decide (op = 20)
def readsE (i : Ins) : Rds := ⟨if oneB i.op = true ∨ (i.op = 19 ∧ i.useImm = false) ∨ bothB i.op = true then i.rs1 else 0, if bothB i.op = true then i.rs2 else 0, i.rd, whenI i⟩
def readsC (i : Ins) : Rds := if (encF layC i).2 = 0 then readsD i else noR
def readsR (i : Ins) : Rds := if (encF wordR i).2 = 0 then readsE i else noR
theorem reads_dec (w : BitVec 32) : readsD (decW w) = readsE (decW w) := by
  have F := form_of w
  generalize decW w = i at F ⊢
  cases F with
  | none => rfl
  | upper op im h => rcases h with rfl | rfl | rfl <;> rfl
  | jalr im => rfl
  | branch fn im => rfl
  | load k hk im s => rfl
  | store k hk im => rfl
  | imm fn im W => rfl
  | reg op fn W h => rcases h with rfl | rfl <;> rfl
  | only op h =>
    unfold readsD readsE opOnly
    simp only [ite_self]
  | csr fn c u => cases u <;> rfl
  | sfence => rfl
  | lr k hk h => simp only [readsD, readsE, h]; rfl
  | sc k hk => rfl
  | amo k hk fn => rfl
theorem encF_dec {lay : Ins → BitVec 32 × Int} {i : Ins} (h : (encF lay i).2 = 0) : ∃ v, i = decW v ∧ i.op ≠ 0 := by
  unfold encF at h
  split at h
  · rename_i a
    exact ⟨_, ((insB_iff _ _).1 a.2.2).symm, a.2.1⟩
  · simp at h
theorem reads_same (i : Ins) : readsC i = readsR i := by
  unfold readsC readsR
  rw [enc_same]
  split
  · rename_i h
    obtain ⟨v, rfl, _⟩ := encF_dec h
    exact reads_dec v
  · rfl
theorem enc_of (w : BitVec 32) (h : (decW w).op ≠ 0) : ∃ v, encF layC (decW w) = (v, 0) ∧ decW v = decW w ∧ v &&& ~~~w = 0#32 := by
  obtain ⟨v, h1, h2, h3⟩ := lay_back w h
  refine ⟨v, ?_, h2, h3⟩
  unfold encF
  rw [h1, if_pos ⟨rfl, h, (insB_iff _ _).2 h2⟩]
theorem enc_no (w : BitVec 32) (h : (decW w).op = 0) : encF layC (decW w) = (0#32, 7) := by
  unfold encF
  rw [if_neg (fun a => a.2.1 h)]
structure RolesOk (w : BitVec 32) (i : Ins) (r : Rds) : Prop where
  a : r.rs1 = 0 ∨ r.rs1 = (fieldI w 19 15 : Nat)
  b : r.rs2 = 0 ∨ r.rs2 = (fieldI w 24 20 : Nat)
  d : r.rd = 0 ∨ r.rd = (fieldI w 11 7 : Nat)
  k : decide (0 < r.whn) = decide (0 < r.rd)
  k0 : 0 ≤ r.whn
  k2 : r.whn ≤ 2
  d0 : 0 ≤ r.rd
  no : i.op = 7 ∨ i.op = 5 ∨ (serB i.op = true ∧ i.op ≠ 19) → r.rd = 0
theorem when_ok (i : Ins) (h : 0 ≤ i.rd) : decide (0 < whenI i) = decide (0 < i.rd) ∧ 0 ≤ whenI i ∧ whenI i ≤ 2 := by
  unfold whenI
  split
  · rename_i e
    rw [e]
    decide
  · have : 0 < i.rd := by omega
    rw [decide_eq_true this]
    split <;> decide
theorem roles_form (w : BitVec 32) (i : Ins) (F : Form w i) : RolesOk w i (readsD i) ∨ ¬ 0 ≤ i.rd := by
  by_cases N : 0 ≤ i.rd
  · refine .inl ?_
    have W := when_ok i N
    unfold readsD
    refine ⟨?_, ?_, ?_, W.1, W.2.1, W.2.2, N, ?_⟩
    · cases F with
      | csr fn c u => cases u <;> simp
      | upper op im h => rcases h with rfl | rfl | rfl <;> simp
      | reg op fn W h => rcases h with rfl | rfl <;> simp
      | only op h => simp [opOnly]
      | _ => simp [noI]
    · cases F with
      | only op h => simp [opOnly]
      | _ => simp [noI]
    · cases F with
      | only op h => simp [opOnly]
      | _ => simp [noI]
    · cases F with
      | upper op im h => rcases h with rfl | rfl | rfl <;> simp [serB]
      | reg op fn W h => rcases h with rfl | rfl <;> simp [serB]
      | only op h => simp [opOnly]
      | _ => simp [noI, serB]
  · exact .inr N
theorem roles_ok (w : BitVec 32) : RolesOk w (decW w) (readsC (decW w)) := by
  by_cases h0 : (decW w).op = 0
  · unfold readsC
    rw [enc_no w h0]
    have : (if ((0#32, 7) : BitVec 32 × Int).2 = 0 then readsD (decW w) else noR) = noR := if_neg (by decide)
    rw [this]
    exact ⟨.inl rfl, .inl rfl, .inl rfl, rfl, by decide, by decide, by decide, fun _ => rfl⟩
  · obtain ⟨v, h1, _, _⟩ := enc_of w h0
    have N := (none_ok w).rd0
    unfold readsC
    rw [h1, if_pos rfl]
    exact (roles_form w _ (form_of w)).resolve_right (fun h => h N)

/-! ### Which bits play no part -/
theorem dec_amo (v : BitVec 32) (hv : fieldI v 6 0 = 47) : decW v = amoD v := by
  unfold decW
  rw [hv]
  rfl
theorem dec_fence (v : BitVec 32) (hv : fieldI v 6 0 = 15) : decW v = if fieldI v 14 12 = 0 then opOnly 11 else if fieldI v 14 12 = 1 then opOnly 12 else noI := by
  unfold decW
  rw [hv]
  rfl
theorem op_imm (w : BitVec 32) : (immD w).op = 8 ∨ (immD w).op = 0 := by
  unfold immD immN
  split
  · exact .inl rfl
  split
  · exact .inl rfl
  split
  · exact .inl rfl
  split
  · exact .inl rfl
  split
  · exact .inr rfl
  · exact .inl rfl
theorem op_reg (w : BitVec 32) : (regD w).op = 9 ∨ (regD w).op = 10 ∨ (regD w).op = 0 := by
  unfold regD regN
  split
  · exact .inl rfl
  split
  · exact .inl rfl
  split
  · exact .inl rfl
  split
  · exact .inr (.inl rfl)
  · exact .inr (.inr rfl)
theorem op_sys (w : BitVec 32) : 13 ≤ (sysD w).op ∧ (sysD w).op ≤ 19 ∨ (sysD w).op = 0 := by
  unfold sysD sysN
  split
  · exact .inl (by decide)
  split
  · exact .inl (by decide)
  split
  · exact .inl (by decide)
  split
  · exact .inl (by decide)
  split
  · exact .inl (by decide)
  split
  · exact .inl (by simp)
  split
  · exact .inl (by simp)
  · exact .inr rfl
theorem op_amoD (w : BitVec 32) : 20 ≤ (amoD w).op ∧ (amoD w).op ≤ 22 ∨ (amoD w).op = 0 := by
  unfold amoD amoN
  split
  · split
    · split
      · exact .inl (by simp)
      · exact .inr rfl
    split
    · exact .inl (by simp)
    split
    · exact .inl (by simp)
    · exact .inr rfl
  · exact .inr rfl
theorem op_amo (w : BitVec 32) : ((decW w).op = 20 ∨ (decW w).op = 21 ∨ (decW w).op = 22) → fieldI w 6 0 = 47 := by
  have h8 := op_imm w
  have h9 := op_reg w
  have hs := op_sys w
  refine decW_ind (fun i => (i.op = 20 ∨ i.op = 21 ∨ i.op = 22) → fieldI w 6 0 = 47) w ?_ ?_ ?_ ?_ ?_ ?_ ?_ ?_ ?_ ?_ ?_ ?_ (fun c _ => c) ?_
  · simp [noI]
  · simp
  · simp
  · simp
  · simp
  · simp
  · simp
  · simp
  · intro _ h; omega
  · intro _ h; omega
  · simp [opOnly]
  · simp [opOnly]
  · intro _ h; omega
theorem op_fence (w : BitVec 32) : ((decW w).op = 11 ∨ (decW w).op = 12) → fieldI w 6 0 = 15 := by
  have h8 := op_imm w
  have h9 := op_reg w
  have hs := op_sys w
  have ha := op_amoD w
  refine decW_ind (fun i => (i.op = 11 ∨ i.op = 12) → fieldI w 6 0 = 15) w ?_ ?_ ?_ ?_ ?_ ?_ ?_ ?_ ?_ ?_ (fun c _ _ => c) (fun c _ _ => c) ?_ ?_
  · simp [noI]
  · simp
  · simp
  · simp
  · simp
  · simp
  · simp
  · simp
  · intro _ h; omega
  · intro _ h; omega
  · intro _ h; omega
  · intro _ h; omega
theorem fieldI_same (v w : BitVec 32) (hi lo : Nat) (h : lo ≤ hi) (h2 : hi < 32) (hb : ∀ i, i < hi - lo + 1 → v.getLsbD (lo + i) = w.getLsbD (lo + i)) : fieldI v (hi : Int) (lo : Int) = fieldI w (hi : Int) (lo : Int) :=
  fieldI_eq v hi lo _ h (by omega) (fieldI_lt2 w hi lo h (by omega)) fun i hi' => by
    rw [hb i hi', fieldI_bit _ _ _ _ h (by omega), decide_eq_true hi']; rfl
theorem xor_keep (w m : BitVec 32) (j : Nat) (h : m.getLsbD j = false) : (w ^^^ m).getLsbD j = w.getLsbD j := by
  rw [BitVec.getLsbD_xor, h, Bool.xor_false]
theorem and_no (b m : BitVec 32) (j : Nat) (h : m.getLsbD j = false) : (b &&& m).getLsbD j = false := by
  rw [BitVec.getLsbD_and, h, Bool.and_false]
theorem div4_same (v w : BitVec 32) (hb : ∀ i, 27 ≤ i → i < 32 → v.getLsbD i = w.getLsbD i) : fieldI v 31 25 / 4 = fieldI w 31 25 / 4 := by
  apply Nat.eq_of_testBit_eq
  intro i
  rw [show (4 : Nat) = 2 ^ 2 from rfl, Nat.testBit_div_two_pow, Nat.testBit_div_two_pow, show fieldI v 31 25 = fieldI v ((31 : Nat) : Int) ((25 : Nat) : Int) from rfl, show fieldI w 31 25 = fieldI w ((31 : Nat) : Int) ((25 : Nat) : Int) from rfl, fieldI_bit _ _ _ _ (by omega) (by omega), fieldI_bit _ _ _ _ (by omega) (by omega)]
  by_cases h : i + 2 < 7
  · rw [hb _ (by omega) (by omega)]
  · rw [decide_eq_false (by omega), Bool.false_and, Bool.false_and]
theorem order_amo (w b : BitVec 32) (h : (decW w).op = 20 ∨ (decW w).op = 21 ∨ (decW w).op = 22) : decW (w ^^^ (b &&& 0x06000000#32)) = decW w := by
  have ho := op_amo w h
  have hm : ∀ j, j < 32 → j < 25 ∨ 27 ≤ j → (0x06000000#32).getLsbD j = false := by decide
  have hk : ∀ j, j < 32 → j < 25 ∨ 27 ≤ j → (w ^^^ (b &&& 0x06000000#32)).getLsbD j = w.getLsbD j := fun j hj a => xor_keep _ _ _ (and_no _ _ _ (hm j hj a))
  have f0 : fieldI (w ^^^ (b &&& 0x06000000#32)) 6 0 = fieldI w 6 0 := fieldI_same _ _ 6 0 (by omega) (by omega) fun i hi => hk _ (by omega) (by omega)
  have f1 : fieldI (w ^^^ (b &&& 0x06000000#32)) 11 7 = fieldI w 11 7 := fieldI_same _ _ 11 7 (by omega) (by omega) fun i hi => hk _ (by omega) (by omega)
  have f2 : fieldI (w ^^^ (b &&& 0x06000000#32)) 14 12 = fieldI w 14 12 := fieldI_same _ _ 14 12 (by omega) (by omega) fun i hi => hk _ (by omega) (by omega)
  have f3 : fieldI (w ^^^ (b &&& 0x06000000#32)) 19 15 = fieldI w 19 15 := fieldI_same _ _ 19 15 (by omega) (by omega) fun i hi => hk _ (by omega) (by omega)
  have f4 : fieldI (w ^^^ (b &&& 0x06000000#32)) 24 20 = fieldI w 24 20 := fieldI_same _ _ 24 20 (by omega) (by omega) fun i hi => hk _ (by omega) (by omega)
  have f5 := div4_same (w ^^^ (b &&& 0x06000000#32)) w fun i h1 h2 => hk i h2 (.inr h1)
  rw [dec_amo w ho, dec_amo _ (f0.trans ho)]
  unfold amoD
  rw [f1, f2, f3, f4, f5]
theorem order_fence (w b : BitVec 32) (h : (decW w).op = 11 ∨ (decW w).op = 12) : decW (w ^^^ (b &&& ~~~0x707f#32)) = decW w := by
  have ho := op_fence w h
  have hm : ∀ j, j < 32 → j < 7 ∨ (12 ≤ j ∧ j < 15) → (~~~0x707f#32).getLsbD j = false := by decide
  have hk : ∀ j, j < 32 → j < 7 ∨ (12 ≤ j ∧ j < 15) → (w ^^^ (b &&& ~~~0x707f#32)).getLsbD j = w.getLsbD j := fun j hj a => xor_keep _ _ _ (and_no _ _ _ (hm j hj a))
  have f0 : fieldI (w ^^^ (b &&& ~~~0x707f#32)) 6 0 = fieldI w 6 0 := fieldI_same _ _ 6 0 (by omega) (by omega) fun i hi => hk _ (by omega) (by omega)
  have f2 : fieldI (w ^^^ (b &&& ~~~0x707f#32)) 14 12 = fieldI w 14 12 := fieldI_same _ _ 14 12 (by omega) (by omega) fun i hi => hk _ (by omega) (by omega)
  rw [dec_fence w ho, dec_fence _ (f0.trans ho), f2]
end Wd
end Go.Proofs.Ytnhbekgmameeaaa
