/- A core's registers, Csrs, by value: 30 cells out of the middle of a row. -/
import Derived.Test.YthijheijognhmaaHart
import Derived.Laws.Cells
namespace Go.Proofs.Ythijheijognhmaa
open Go.RowKit
set_option linter.unusedVariables false
set_option linter.unusedSimpArgs false
namespace Wd
def csrsL (h : Hart) : List Value := [.int .u64 (h.status.toNat : Int), .int .u64 (h.edeleg.toNat : Int), .int .u64 (h.ideleg.toNat : Int), .int .u64 (h.ie.toNat : Int), .int .u64 (h.ip.toNat : Int), .int .u64 (h.tvec.toNat : Int), .int .u64 (h.counteren.toNat : Int), .int .u64 (h.scratch.toNat : Int), .int .u64 (h.epc.toNat : Int), .int .u64 (h.cause.toNat : Int), .int .u64 (h.tval.toNat : Int), .int .u64 (h.stvec.toNat : Int), .int .u64 (h.scounteren.toNat : Int), .int .u64 (h.sscratch.toNat : Int), .int .u64 (h.sepc.toNat : Int), .int .u64 (h.scause.toNat : Int), .int .u64 (h.stval.toNat : Int), .int .u64 (h.satp.toNat : Int), .int .u64 (h.inhibit.toNat : Int), .int .u64 (h.instret.toNat : Int), .int .u64 (h.cycle.toNat : Int), .int .u64 (h.cyAt.toNat : Int), .int .u64 ((h.ev 0).toNat : Int), .int .u64 ((h.ev 1).toNat : Int), .int .u64 ((h.ev 2).toNat : Int), .int .u64 ((h.ev 3).toNat : Int), .int .u64 ((h.hpm 0).toNat : Int), .int .u64 ((h.hpm 1).toNat : Int), .int .u64 ((h.hpm 2).toNat : Int), .int .u64 ((h.hpm 3).toNat : Int)]
def csrsC (h : Hart) : Array Value := (csrsL h).toArray
theorem csrs_size (h : Hart) : (csrsC h).size = 30 := rfl
theorem csrs_of (h : Hart) : (hartC h).extract 34 64 = csrsC h := by
  unfold hartC csrsC
  rw [List.extract_toArray]
  exact congrArg List.toArray rfl
theorem csrs_get_status (h : Hart) : (csrsC h)[0]? = some (.int .u64 (h.status.toNat : Int)) := rfl
theorem csrs_get_edeleg (h : Hart) : (csrsC h)[1]? = some (.int .u64 (h.edeleg.toNat : Int)) := rfl
theorem csrs_get_ideleg (h : Hart) : (csrsC h)[2]? = some (.int .u64 (h.ideleg.toNat : Int)) := rfl
theorem csrs_get_ie (h : Hart) : (csrsC h)[3]? = some (.int .u64 (h.ie.toNat : Int)) := rfl
theorem csrs_get_ip (h : Hart) : (csrsC h)[4]? = some (.int .u64 (h.ip.toNat : Int)) := rfl
theorem csrs_get_tvec (h : Hart) : (csrsC h)[5]? = some (.int .u64 (h.tvec.toNat : Int)) := rfl
theorem csrs_get_counteren (h : Hart) : (csrsC h)[6]? = some (.int .u64 (h.counteren.toNat : Int)) := rfl
theorem csrs_get_scratch (h : Hart) : (csrsC h)[7]? = some (.int .u64 (h.scratch.toNat : Int)) := rfl
theorem csrs_get_epc (h : Hart) : (csrsC h)[8]? = some (.int .u64 (h.epc.toNat : Int)) := rfl
theorem csrs_get_cause (h : Hart) : (csrsC h)[9]? = some (.int .u64 (h.cause.toNat : Int)) := rfl
theorem csrs_get_tval (h : Hart) : (csrsC h)[10]? = some (.int .u64 (h.tval.toNat : Int)) := rfl
theorem csrs_get_stvec (h : Hart) : (csrsC h)[11]? = some (.int .u64 (h.stvec.toNat : Int)) := rfl
theorem csrs_get_scounteren (h : Hart) : (csrsC h)[12]? = some (.int .u64 (h.scounteren.toNat : Int)) := rfl
theorem csrs_get_sscratch (h : Hart) : (csrsC h)[13]? = some (.int .u64 (h.sscratch.toNat : Int)) := rfl
theorem csrs_get_sepc (h : Hart) : (csrsC h)[14]? = some (.int .u64 (h.sepc.toNat : Int)) := rfl
theorem csrs_get_scause (h : Hart) : (csrsC h)[15]? = some (.int .u64 (h.scause.toNat : Int)) := rfl
theorem csrs_get_stval (h : Hart) : (csrsC h)[16]? = some (.int .u64 (h.stval.toNat : Int)) := rfl
theorem csrs_get_satp (h : Hart) : (csrsC h)[17]? = some (.int .u64 (h.satp.toNat : Int)) := rfl
theorem csrs_get_inhibit (h : Hart) : (csrsC h)[18]? = some (.int .u64 (h.inhibit.toNat : Int)) := rfl
theorem csrs_get_instret (h : Hart) : (csrsC h)[19]? = some (.int .u64 (h.instret.toNat : Int)) := rfl
theorem csrs_get_cycle (h : Hart) : (csrsC h)[20]? = some (.int .u64 (h.cycle.toNat : Int)) := rfl
theorem csrs_get_cyAt (h : Hart) : (csrsC h)[21]? = some (.int .u64 (h.cyAt.toNat : Int)) := rfl
end Wd
open Wd
noncomputable def loadCR (w : World) (b : Nat) : Option (Array Value) → Result (Array Value)
  | some cs => if cs.size = 66 then .ok (cs.extract 34 64) w else (loadCellsFrom ⟨b, 34, none⟩ 0 30 #[]).run Try.prog w
  | none => (loadCellsFrom ⟨b, 34, none⟩ 0 30 #[]).run Try.prog w
theorem loadC_row (w : World) (b : Nat) : (loadCellsFrom ⟨b, 34, none⟩ 0 30 #[]).run Try.prog w = loadCR w b (rowAt w b) := by
  cases hr : rowAt w b with
  | none => rfl
  | some cs =>
    by_cases hs : cs.size = 66
    · have e : loadCR w b (some cs) = .ok (cs.extract 34 64) w := if_pos hs
      rw [e]
      have hl := run_loadCells_list (P := Try.prog) w ⟨b, 34, none⟩ ((cs.toList.drop 34).take 30) (fun j v hv => by
        have hadd : (⟨b, 34, none⟩ : Addr).add j = ⟨b, 34 + j, none⟩ := by unfold Addr.add; split <;> simp_all
        rw [hadd, cell_of_row w b (34 + j) cs _ (0, 0) (rowAt_heap hr)]
        rw [List.getElem?_take] at hv
        split at hv
        · simpa using hv
        · simp at hv)
      have hn : ((cs.toList.drop 34).take 30).length = 30 := by simp [hs]
      have hx : cs.extract 34 64 = ((cs.toList.drop 34).take 30).toArray := by
        apply Array.toList_inj.1
        rw [Array.toList_extract]
      rw [hn] at hl
      rw [hx]
      exact hl
    · exact (if_neg hs).symm
theorem loadCR_hart (w : World) (b : Nat) (h : Hart) : loadCR w b (some (hartC h)) = .ok (csrsC h) w := by
  unfold loadCR
  simp only [hart_size, if_true, csrs_of]
end Go.Proofs.Ythijheijognhmaa
