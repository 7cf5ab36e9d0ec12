/- The document's May: are a core's registers such as writes leave them? Way by way. -/
import Derived.Test.YthijheijognhmaaTrapPlain
import Derived.Test.YthijheijognhmaaTrapClear
import Derived.Test.YthijheijognhmaaHartC
import Derived.Test.YthijheijognhmaaFastLex
namespace Go.Proofs.Ythijheijognhmaa
open Go.RowKit Wd
set_option linter.unusedVariables false
set_option linter.unusedSimpArgs false
namespace Wd
theorem csrs_get_ev0 (h : Hart) : (csrsC h)[22]? = some (.int .u64 ((h.ev 0).toNat : Int)) := rfl
theorem csrs_get_ev1 (h : Hart) : (csrsC h)[23]? = some (.int .u64 ((h.ev 1).toNat : Int)) := rfl
theorem csrs_get_ev2 (h : Hart) : (csrsC h)[24]? = some (.int .u64 ((h.ev 2).toNat : Int)) := rfl
theorem csrs_get_ev3 (h : Hart) : (csrsC h)[25]? = some (.int .u64 ((h.ev 3).toNat : Int)) := rfl
def stW (s : BitVec 64) : BitVec 64 := if ((andL (andL s 8264106) 6144).toNat : Int) = 4096 then orL (clrL (andL s 8264106) 6144) 0 else andL s 8264106
def mayL (h : Hart) : List Bool := [(((h.status).toNat : Int) == ((stW h.status).toNat : Int)), (((andL h.status 6144).toNat : Int) != 4096), (((clrL h.edeleg 46079).toNat : Int) == 0), (((clrL h.ideleg 546).toNat : Int) == 0), (((clrL h.ie 2730).toNat : Int) == 0), (((clrL h.ip 546).toNat : Int) == 0), (((andL h.tvec 2).toNat : Int) == 0), (((andL h.stvec 2).toNat : Int) == 0), (((clrL h.counteren 127).toNat : Int) == 0), (((clrL h.scounteren 127).toNat : Int) == 0), (((andL h.epc 3).toNat : Int) == 0), (((andL h.sepc 3).toNat : Int) == 0), (((clrL h.cause 9223372036854775871).toNat : Int) == 0), (((clrL h.scause 9223372036854775871).toNat : Int) == 0), (((h.satp.toNat : Int) / 1152921504606846976 == 0) || ((h.satp.toNat : Int) / 1152921504606846976 == 8)), (((clrL h.inhibit 125).toNat : Int) == 0)]
def evs (h : Hart) : List Bool := [decide (((h.ev 0).toNat : Int) ≤ 5), decide (((h.ev 1).toNat : Int) ≤ 5), decide (((h.ev 2).toNat : Int) ≤ 5), decide (((h.ev 3).toNat : Int) ≤ 5)]
def mayC (h : Hart) : Bool := (evs h ++ mayL h).all id
end Wd
attribute [local go_sem] csrs_size csrs_get_status csrs_get_edeleg csrs_get_ideleg csrs_get_ie csrs_get_ip csrs_get_tvec csrs_get_counteren csrs_get_epc csrs_get_cause csrs_get_stvec csrs_get_scounteren csrs_get_sepc csrs_get_scause csrs_get_satp csrs_get_inhibit csrs_get_ev0 csrs_get_ev1 csrs_get_ev2 csrs_get_ev3 and_L or_L clr_L
set_option maxRecDepth 4000
theorem status_any (s : BitVec 64) : Pu Try.prog 47 #[.int .u64 0, .int .u64 (s.toNat : Int)] (.int .u64 ((stW s).toNat : Int)) := by
  intro w
  by_cases q : ((andL (andL s 8264106) 6144).toNat : Int) = 4096
  · have hs := Lib.hid (show stW s = orL (clrL (andL s 8264106) 6144) 0 from if_pos q)
    go_enter Try.func47, Try.ntmps47
    go_wp2_with fail
    go_ret
    exact ⟨ret_int (by rw [hs.out, show bits BinOp.and IntKind.u64 0 6144 = 0 from by decide]), rfl⟩
  · have hs := Lib.hid (show stW s = andL s 8264106 from if_neg q)
    go_enter Try.func47, Try.ntmps47
    go_wp2_with fail
    go_ret
    exact ⟨ret_int (by rw [hs.out]), rfl⟩

theorem status_qt (s : BitVec 64) : Qt Try.prog 47 #[.int .u64 0, .int .u64 (s.toNat : Int)] (.int .u64 ((stW s).toNat : Int)) := fun w => (status_any s w).mono fun _ _ k => ⟨k.1, by rw [k.2]; exact Quiet.refl _⟩

end Go.Proofs.Ythijheijognhmaa
