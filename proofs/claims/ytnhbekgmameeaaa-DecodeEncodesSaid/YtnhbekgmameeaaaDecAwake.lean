/- awake of the laws on package decode; what the walks of these laws lean on. -/
import Derived.Test.YtnhbekgmameeaaaDecode
import Derived.Test.YtnhbekgmameeaaaDecMem
import Derived.Test.YtnhbekgmameeaaaInsEq
import Derived.Test.YtnhbekgmameeaaaLate
namespace Go.Proofs.Ytnhbekgmameeaaa
open Go.RowKit Wd
set_option linter.unusedVariables false
set_option linter.unusedSimpArgs false
attribute [local go_sem] loadI_lit storeI_lit rowI_alloc rowI_drew rowI_setRow rowI_setCell setRow_allocI
attribute [local go_sem ↓] loadI_run storeI_run'
set_option maxRecDepth 8000
theorem dec_13 : decW 19#32 = ⟨8, 0, 0, 0, 0, 0#64, 0, false, false, false, 0⟩ := (insB_iff _ _).1 (by decide +kernel)
theorem awakeDec : Mk Try.prog 40 #[.int .u32 19] (.agg #[.int .i64 8, .int .i64 0, .int .i64 0, .int .i64 0, .int .i64 0, .int .u64 0, .int .i64 0, .bool false, .bool false, .bool false, .int .i64 0]) := by
  have h := decode_any 19#32
  rw [dec_13] at h
  exact h
theorem awakeSer : Mk Try.prog 46 #[.agg #[.int .i64 0, .int .i64 0, .int .i64 0, .int .i64 0, .int .i64 0, .int .u64 0, .int .i64 0, .bool false, .bool false, .bool false, .int .i64 0]] (.bool true) := serial_any noI
theorem awake_any : Mk Try.prog 39 #[] (.bool true) := by
  intro w
  go_enter Try.func39, Try.ntmps39
  go_wp2_with fail
  refine (awakeDec _).mono ?_
  rintro e w1 ⟨rfl, hb1⟩
  replace hb1 := Lib.hid hb1
  go_wp2_with (go_at_call 46; refine (awakeSer _).mono ?_; rintro e w2 ⟨rfl, hb2⟩)
  go_ret
  exact ⟨rfl, hb1.out.trans ((below_alloc hb2).mono hb1.out.size)⟩
theorem insC_0 (i : Ins) : (insC i)[0]? = some (.int .i64 i.op) := rfl
theorem eq_ins0 (i : Ins) (w : World) : (Op.equalIn 10000 44 (.agg (insC i)) (.agg #[.int .i64 0, .int .i64 0, .int .i64 0, .int .i64 0, .int .i64 0, .int .u64 0, .int .i64 0, .bool false, .bool false, .bool false, .int .i64 0])).run Try.prog w = .ok (insB i noI) w := eq_ins i noI w
namespace Wd
def ordA (b : BitVec 32) : BitVec 32 := b &&& 0x06000000#32
def ordF (b : BitVec 32) : BitVec 32 := b &&& ~~~0x707f#32
def xorW (a b : BitVec 32) : BitVec 32 := a ^^^ b
end Wd
theorem ordA_walk (b : BitVec 32) : bits .and .u32 (b.toNat : Int) 100663296 = ((ordA b).toNat : Int) := by
  rw [and32, of32]
  rfl
theorem ordF_walk (b : BitVec 32) : bits .andNot .u32 (b.toNat : Int) 28799 = ((ordF b).toNat : Int) := by
  rw [andNot32, of32]
  rfl
theorem xorW_walk (a b : BitVec 32) : bits .xor .u32 (a.toNat : Int) (b.toNat : Int) = ((xorW a b).toNat : Int) := by
  show IntKind.u32.wrap ((BitVec.ofInt 32 (a.toNat : Int) ^^^ BitVec.ofInt 32 (b.toNat : Int)).toNat : Int) = _
  rw [w32, of32, of32, of32]
  rfl
end Go.Proofs.Ytnhbekgmameeaaa
