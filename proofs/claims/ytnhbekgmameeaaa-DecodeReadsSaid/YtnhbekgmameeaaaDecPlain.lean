/- Plain: instructions, which one a word is, and which word an instruction is. -/
import Derived.Test.YtnhbekgmameeaaaShapeBackPlain
namespace Go.Proofs.Ytnhbekgmameeaaa
open Go.RowKit
namespace Wd
structure Ins where
  op : Int
  fn : Int
  rd : Int
  rs1 : Int
  rs2 : Int
  imm : BitVec 64
  size : Int
  sgn : Bool
  word : Bool
  useImm : Bool
  csr : Int
def insC (i : Ins) : Array Value := #[.int .i64 i.op, .int .i64 i.fn, .int .i64 i.rd, .int .i64 i.rs1, .int .i64 i.rs2, .int .u64 (i.imm.toNat : Int), .int .i64 i.size, .bool i.sgn, .bool i.word, .bool i.useImm, .int .i64 i.csr]
def noI : Ins := ⟨0, 0, 0, 0, 0, 0#64, 0, false, false, false, 0⟩
/-- Both are one, cell by cell. -/
def insB (a b : Ins) : Bool := a.op == b.op && a.fn == b.fn && a.rd == b.rd && a.rs1 == b.rs1 && a.rs2 == b.rs2 && a.imm == b.imm && a.size == b.size && a.sgn == b.sgn && a.word == b.word && a.useImm == b.useImm && a.csr == b.csr
theorem insB_iff (a b : Ins) : insB a b = true ↔ a = b := by
  obtain ⟨a1, a2, a3, a4, a5, a6, a7, a8, a9, a10, a11⟩ := a
  obtain ⟨b1, b2, b3, b4, b5, b6, b7, b8, b9, b10, b11⟩ := b
  unfold insB
  simp [and_assoc]
def sz : Nat → Int
  | 0 => 1
  | 1 => 2
  | 2 => 4
  | _ => 8
/-- With an immediate. -/
def immN (W : Bool) (f3 f7 rd rs1 : Nat) (imm by_ : BitVec 64) : Ins :=
  if f3 = 1 ∧ f7 / 2 = 0 ∧ ¬ (W = true ∧ f7 % 2 = 1) then ⟨8, 1, rd, rs1, 0, by_, 0, false, W, false, 0⟩
  else if f3 = 5 ∧ f7 / 2 = 0 ∧ ¬ (W = true ∧ f7 % 2 = 1) then ⟨8, 5, rd, rs1, 0, by_, 0, false, W, false, 0⟩
  else if f3 = 5 ∧ f7 / 2 = 16 ∧ ¬ (W = true ∧ f7 % 2 = 1) then ⟨8, 13, rd, rs1, 0, by_, 0, false, W, false, 0⟩
  else if f3 = 0 then ⟨8, 0, rd, rs1, 0, imm, 0, false, W, false, 0⟩
  else if f3 = 1 ∨ f3 = 5 ∨ W = true then noI
  else ⟨8, f3, rd, rs1, 0, imm, 0, false, W, false, 0⟩
def immD (w : BitVec 32) : Ins := immN (decide (fieldI w 6 0 = 27)) (fieldI w 14 12) (fieldI w 31 25) (fieldI w 11 7) (fieldI w 19 15) (immP w psI 12) (immP w psI 12 &&& 63#64)
/-- With two registers. -/
def regN (W : Bool) (f3 f7 rd rs1 rs2 : Nat) : Ins :=
  if f7 = 0 ∧ (W = false ∨ f3 = 0 ∨ f3 = 1 ∨ f3 = 5) then ⟨9, f3, rd, rs1, rs2, 0#64, 0, false, W, false, 0⟩
  else if f7 = 32 ∧ f3 = 0 then ⟨9, 8, rd, rs1, rs2, 0#64, 0, false, W, false, 0⟩
  else if f7 = 32 ∧ f3 = 5 then ⟨9, 13, rd, rs1, rs2, 0#64, 0, false, W, false, 0⟩
  else if f7 = 1 ∧ (W = false ∨ f3 = 0 ∨ 4 ≤ f3) then ⟨10, f3, rd, rs1, rs2, 0#64, 0, false, W, false, 0⟩
  else noI
def regD (w : BitVec 32) : Ins := regN (decide (fieldI w 6 0 = 59)) (fieldI w 14 12) (fieldI w 31 25) (fieldI w 11 7) (fieldI w 19 15) (fieldI w 24 20)
def amoSet : List Nat := [0, 1, 4, 8, 12, 16, 20, 24, 28]
/-- Atomic. -/
def amoN (f3 f5 rd rs1 rs2 : Nat) : Ins :=
  if f3 = 2 ∨ f3 = 3 then
    if f5 = 2 then (if rs2 = 0 then ⟨20, 0, rd, rs1, rs2, 0#64, sz f3, false, false, false, 0⟩ else noI)
    else if f5 = 3 then ⟨21, 0, rd, rs1, rs2, 0#64, sz f3, false, false, false, 0⟩
    else if f5 ∈ amoSet then ⟨22, f5, rd, rs1, rs2, 0#64, sz f3, false, false, false, 0⟩
    else noI
  else noI
def amoD (w : BitVec 32) : Ins := amoN (fieldI w 14 12) (fieldI w 31 25 / 4) (fieldI w 11 7) (fieldI w 19 15) (fieldI w 24 20)
def opOnly (op : Int) : Ins := ⟨op, 0, 0, 0, 0, 0#64, 0, false, false, false, 0⟩
/-- Of the system. -/
def sysN (n f3 f7 rd rs1 rs2 : Nat) : Ins :=
  if n = 0x73 then opOnly 13
  else if n = 0x100073 then opOnly 14
  else if n = 0x10200073 then opOnly 16
  else if n = 0x30200073 then opOnly 15
  else if n = 0x10500073 then opOnly 17
  else if f3 % 4 ≠ 0 then ⟨19, (f3 % 4 : Nat), rd, rs1, 0, 0#64, 0, false, false, decide (4 ≤ f3), (n / 1048576 : Nat)⟩
  else if f3 = 0 ∧ rd = 0 ∧ f7 = 9 then ⟨18, 0, 0, rs1, rs2, 0#64, 0, false, false, false, 0⟩
  else noI
def sysD (w : BitVec 32) : Ins := sysN w.toNat (fieldI w 14 12) (fieldI w 31 25) (fieldI w 11 7) (fieldI w 19 15) (fieldI w 24 20)
/-- Which instruction a word is. -/
def decW (w : BitVec 32) : Ins :=
  if fieldI w 6 0 = 55 then ⟨1, 0, fieldI w 11 7, 0, 0, immP w psU 32, 0, false, false, false, 0⟩
  else if fieldI w 6 0 = 23 then ⟨2, 0, fieldI w 11 7, 0, 0, immP w psU 32, 0, false, false, false, 0⟩
  else if fieldI w 6 0 = 111 then ⟨3, 0, fieldI w 11 7, 0, 0, immP w psJ 21, 0, false, false, false, 0⟩
  else if fieldI w 6 0 = 103 then (if fieldI w 14 12 = 0 then ⟨4, 0, fieldI w 11 7, fieldI w 19 15, 0, immP w psI 12, 0, false, false, false, 0⟩ else noI)
  else if fieldI w 6 0 = 99 then (if fieldI w 14 12 = 2 ∨ fieldI w 14 12 = 3 then noI else ⟨5, fieldI w 14 12, 0, fieldI w 19 15, fieldI w 24 20, immP w psB 13, 0, false, false, false, 0⟩)
  else if fieldI w 6 0 = 3 then (if fieldI w 14 12 < 7 then ⟨6, 0, fieldI w 11 7, fieldI w 19 15, 0, immP w psI 12, sz (fieldI w 14 12 % 4), decide (fieldI w 14 12 < 4), false, false, 0⟩ else noI)
  else if fieldI w 6 0 = 35 then (if fieldI w 14 12 < 4 then ⟨7, 0, 0, fieldI w 19 15, fieldI w 24 20, immP w psS 12, sz (fieldI w 14 12), false, false, false, 0⟩ else noI)
  else if fieldI w 6 0 = 19 ∨ fieldI w 6 0 = 27 then immD w
  else if fieldI w 6 0 = 51 ∨ fieldI w 6 0 = 59 then regD w
  else if fieldI w 6 0 = 15 then (if fieldI w 14 12 = 0 then opOnly 11 else if fieldI w 14 12 = 1 then opOnly 12 else noI)
  else if fieldI w 6 0 = 47 then amoD w
  else if fieldI w 6 0 = 115 then sysD w
  else noI

/-- By the ways. -/
theorem decW_ind (P : Ins → Prop) (w : BitVec 32) (h0 : P noI)
    (h55 : fieldI w 6 0 = 55 → P ⟨1, 0, fieldI w 11 7, 0, 0, immP w psU 32, 0, false, false, false, 0⟩)
    (h23 : fieldI w 6 0 = 23 → P ⟨2, 0, fieldI w 11 7, 0, 0, immP w psU 32, 0, false, false, false, 0⟩)
    (h111 : fieldI w 6 0 = 111 → P ⟨3, 0, fieldI w 11 7, 0, 0, immP w psJ 21, 0, false, false, false, 0⟩)
    (h103 : fieldI w 6 0 = 103 → fieldI w 14 12 = 0 → P ⟨4, 0, fieldI w 11 7, fieldI w 19 15, 0, immP w psI 12, 0, false, false, false, 0⟩)
    (h99 : fieldI w 6 0 = 99 → ¬ (fieldI w 14 12 = 2 ∨ fieldI w 14 12 = 3) → P ⟨5, fieldI w 14 12, 0, fieldI w 19 15, fieldI w 24 20, immP w psB 13, 0, false, false, false, 0⟩)
    (h3 : fieldI w 6 0 = 3 → fieldI w 14 12 < 7 → P ⟨6, 0, fieldI w 11 7, fieldI w 19 15, 0, immP w psI 12, sz (fieldI w 14 12 % 4), decide (fieldI w 14 12 < 4), false, false, 0⟩)
    (h35 : fieldI w 6 0 = 35 → fieldI w 14 12 < 4 → P ⟨7, 0, 0, fieldI w 19 15, fieldI w 24 20, immP w psS 12, sz (fieldI w 14 12), false, false, false, 0⟩)
    (h19 : fieldI w 6 0 = 19 ∨ fieldI w 6 0 = 27 → P (immD w))
    (h51 : fieldI w 6 0 = 51 ∨ fieldI w 6 0 = 59 → P (regD w))
    (h15 : fieldI w 6 0 = 15 → fieldI w 14 12 = 0 → P (opOnly 11))
    (h15' : fieldI w 6 0 = 15 → fieldI w 14 12 = 1 → P (opOnly 12))
    (h47 : fieldI w 6 0 = 47 → P (amoD w))
    (h115 : fieldI w 6 0 = 115 → P (sysD w)) : P (decW w) := by
  unfold decW
  by_cases c : fieldI w 6 0 = 55
  · rw [if_pos c]; exact h55 c
  rw [if_neg c]; clear c
  by_cases c : fieldI w 6 0 = 23
  · rw [if_pos c]; exact h23 c
  rw [if_neg c]; clear c
  by_cases c : fieldI w 6 0 = 111
  · rw [if_pos c]; exact h111 c
  rw [if_neg c]; clear c
  by_cases c : fieldI w 6 0 = 103
  · rw [if_pos c]
    by_cases d : fieldI w 14 12 = 0
    · rw [if_pos d]; exact h103 c d
    · rw [if_neg d]; exact h0
  rw [if_neg c]; clear c
  by_cases c : fieldI w 6 0 = 99
  · rw [if_pos c]
    by_cases d : fieldI w 14 12 = 2 ∨ fieldI w 14 12 = 3
    · rw [if_pos d]; exact h0
    · rw [if_neg d]; exact h99 c d
  rw [if_neg c]; clear c
  by_cases c : fieldI w 6 0 = 3
  · rw [if_pos c]
    by_cases d : fieldI w 14 12 < 7
    · rw [if_pos d]; exact h3 c d
    · rw [if_neg d]; exact h0
  rw [if_neg c]; clear c
  by_cases c : fieldI w 6 0 = 35
  · rw [if_pos c]
    by_cases d : fieldI w 14 12 < 4
    · rw [if_pos d]; exact h35 c d
    · rw [if_neg d]; exact h0
  rw [if_neg c]; clear c
  by_cases c : fieldI w 6 0 = 19 ∨ fieldI w 6 0 = 27
  · rw [if_pos c]; exact h19 c
  rw [if_neg c]; clear c
  by_cases c : fieldI w 6 0 = 51 ∨ fieldI w 6 0 = 59
  · rw [if_pos c]; exact h51 c
  rw [if_neg c]; clear c
  by_cases c : fieldI w 6 0 = 15
  · rw [if_pos c]
    by_cases d : fieldI w 14 12 = 0
    · rw [if_pos d]; exact h15 c d
    · rw [if_neg d]
      by_cases e : fieldI w 14 12 = 1
      · rw [if_pos e]; exact h15' c e
      · rw [if_neg e]; exact h0
  rw [if_neg c]; clear c
  by_cases c : fieldI w 6 0 = 47
  · rw [if_pos c]; exact h47 c
  rw [if_neg c]; clear c
  by_cases c : fieldI w 6 0 = 115
  · rw [if_pos c]; exact h115 c
  rw [if_neg c]; exact h0

/-! ### Which word an instruction is -/
def widthI (n : Int) : Int := if n = 1 then 0 else if n = 2 then 1 else if n = 4 then 2 else if n = 8 then 3 else -1
def opcI (W : Bool) (n : Int) : Int := if W then n + 8 else n
def layImmC (i : Ins) : BitVec 32 × Int :=
  if i.fn = 1 ∨ i.fn = 5 ∨ i.fn = 13 then
    if i.imm.toInt < 0 ∨ 63 < i.imm.toInt then (0#32, 7) else encI (opcI i.word 19) i.rd (if i.fn = 13 then 5 else i.fn) i.rs1 (if i.fn = 13 then i.imm.toInt + 1024 else i.imm.toInt)
  else encI (opcI i.word 19) i.rd i.fn i.rs1 i.imm.toInt
def csrC (i : Ins) : BitVec 32 × Int :=
  if i.csr < 0 ∨ 4095 < i.csr then (0#32, 7) else encR 115 i.rd (if i.useImm then IntKind.i64.wrap (i.fn + 4) else i.fn) i.rs1 (i.csr % 32) (i.csr / 32)
def csrR (i : Ins) : BitVec 32 × Int :=
  if i.csr < 0 ∨ 4095 < i.csr ∨ i.fn < 1 ∨ 3 < i.fn then (0#32, 7) else
    ((encI 115 i.rd (if i.useImm then i.fn + 4 else i.fn) i.rs1 0).1 ||| BitVec.ofNat 32 i.csr.toNat <<< 20, (encI 115 i.rd (if i.useImm then i.fn + 4 else i.fn) i.rs1 0).2)
def laySys (i : Ins) : BitVec 32 × Int :=
  if i.op = 11 then (15#32, 0)
  else if i.op = 12 then encI 15 0 1 0 0
  else if i.op = 13 then (0x73#32, 0)
  else if i.op = 14 then (0x100073#32, 0)
  else if i.op = 16 then (0x10200073#32, 0)
  else if i.op = 15 then (0x30200073#32, 0)
  else if i.op = 17 then (0x10500073#32, 0)
  else if i.op = 18 then encR 115 0 0 i.rs1 i.rs2 9
  else if i.op = 19 then csrC i
  else (0#32, 7)
def layC (i : Ins) : BitVec 32 × Int :=
  if i.op = 1 then encU 55 i.rd i.imm.toInt
  else if i.op = 2 then encU 23 i.rd i.imm.toInt
  else if i.op = 3 then encJ 111 i.rd i.imm.toInt
  else if i.op = 4 then encI 103 i.rd 0 i.rs1 i.imm.toInt
  else if i.op = 5 then encB 99 i.fn i.rs1 i.rs2 i.imm.toInt
  else if i.op = 6 then encI 3 i.rd (if i.sgn then widthI i.size else widthI i.size + 4) i.rs1 i.imm.toInt
  else if i.op = 7 then encS 35 (widthI i.size) i.rs1 i.rs2 i.imm.toInt
  else if i.op = 8 then layImmC i
  else if i.op = 9 then encR (opcI i.word 51) i.rd (if i.fn = 8 then 0 else if i.fn = 13 then 5 else i.fn) i.rs1 i.rs2 (if i.fn = 8 ∨ i.fn = 13 then 32 else 0)
  else if i.op = 10 then encR (opcI i.word 51) i.rd i.fn i.rs1 i.rs2 1
  else if i.op = 20 then encR 47 i.rd (widthI i.size) i.rs1 i.rs2 8
  else if i.op = 21 then encR 47 i.rd (widthI i.size) i.rs1 i.rs2 12
  else if i.op = 22 then (if i.fn < 0 ∨ 31 < i.fn then (0#32, 7) else encR 47 i.rd (widthI i.size) i.rs1 i.rs2 (i.fn * 4))
  else laySys i
def and7 (n : Int) : Int := bits .and .i64 n 7
def immWordR (i : Ins) : BitVec 32 × Int :=
  if i.fn = 1 ∨ i.fn = 5 ∨ i.fn = 13 then
    if 63 < i.imm.toNat then (0#32, 7) else encI (opcI i.word 19) i.rd (and7 i.fn) i.rs1 (if i.fn = 13 then i.imm.toInt + 1024 else i.imm.toInt)
  else encI (opcI i.word 19) i.rd i.fn i.rs1 i.imm.toInt
def loadF (i : Ins) : Int := if i.sgn = false ∧ 0 ≤ widthI i.size then widthI i.size + 4 else widthI i.size
def wordR (i : Ins) : BitVec 32 × Int :=
  if i.op = 1 then encU 55 i.rd i.imm.toInt
  else if i.op = 2 then encU 23 i.rd i.imm.toInt
  else if i.op = 3 then encJ 111 i.rd i.imm.toInt
  else if i.op = 4 then encI 103 i.rd 0 i.rs1 i.imm.toInt
  else if i.op = 5 then encB 99 i.fn i.rs1 i.rs2 i.imm.toInt
  else if i.op = 6 then encI 3 i.rd (loadF i) i.rs1 i.imm.toInt
  else if i.op = 7 then encS 35 (widthI i.size) i.rs1 i.rs2 i.imm.toInt
  else if i.op = 8 then immWordR i
  else if i.op = 9 then encR (opcI i.word 51) i.rd (and7 i.fn) i.rs1 i.rs2 (if 7 < i.fn then 32 else 0)
  else if i.op = 10 then encR (opcI i.word 51) i.rd (and7 i.fn) i.rs1 i.rs2 1
  else if i.op = 11 then (15#32, 0)
  else if i.op = 12 then (0x100f#32, 0)
  else if i.op = 13 then (0x73#32, 0)
  else if i.op = 14 then (0x100073#32, 0)
  else if i.op = 15 then (0x30200073#32, 0)
  else if i.op = 16 then (0x10200073#32, 0)
  else if i.op = 17 then (0x10500073#32, 0)
  else if i.op = 18 then encR 115 0 0 i.rs1 i.rs2 9
  else if i.op = 19 then csrR i
  else if i.op = 20 then encR 47 i.rd (widthI i.size) i.rs1 0 8
  else if i.op = 21 then encR 47 i.rd (widthI i.size) i.rs1 i.rs2 12
  else if i.op = 22 then (if i.fn < 0 ∨ 31 < i.fn then (0#32, 7) else encR 47 i.rd (widthI i.size) i.rs1 i.rs2 (i.fn * 4))
  else (0#32, 7)
/-- The word, where it is that instruction. -/
def encF (lay : Ins → BitVec 32 × Int) (i : Ins) : BitVec 32 × Int :=
  if (lay i).2 = 0 ∧ i.op ≠ 0 ∧ insB (decW (lay i).1) i = true then ((lay i).1, 0) else (0#32, 7)
theorem encF_same (f g : Ins → BitVec 32 × Int) (h : ∀ w, (decW w).op ≠ 0 → f (decW w) = g (decW w)) (i : Ins) : encF f i = encF g i := by
  unfold encF
  by_cases a : (f i).2 = 0 ∧ i.op ≠ 0 ∧ insB (decW (f i).1) i = true
  · have e := (insB_iff _ _).1 a.2.2
    have hh : f i = g i := by
      have := h (f i).1 (by rw [e]; exact a.2.1)
      rwa [e] at this
    rw [hh]
  · rw [if_neg a]
    by_cases b : (g i).2 = 0 ∧ i.op ≠ 0 ∧ insB (decW (g i).1) i = true
    · have e := (insB_iff _ _).1 b.2.2
      have hh : f i = g i := by
        have := h (g i).1 (by rw [e]; exact b.2.1)
        rwa [e] at this
      rw [hh] at a
      exact absurd b a
    · rw [if_neg b]
end Wd
end Go.Proofs.Ytnhbekgmameeaaa
