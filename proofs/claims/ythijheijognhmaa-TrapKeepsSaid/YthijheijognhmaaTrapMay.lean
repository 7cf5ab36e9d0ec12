/- The document's May, way by way. -/
import Derived.Test.YthijheijognhmaaTrapMay4
import Derived.Test.YthijheijognhmaaTrapMay8
import Derived.Test.YthijheijognhmaaTrapMay11
import Derived.Test.YthijheijognhmaaTrapMay14
import Derived.Test.YthijheijognhmaaTrapMay15
import Derived.Test.YthijheijognhmaaTrapMay16
import Derived.Test.YthijheijognhmaaTrapMay17
namespace Go.Proofs.Ythijheijognhmaa
open Go.RowKit Wd
set_option linter.unusedVariables false
set_option linter.unusedSimpArgs false
attribute [local go_sem] csrs_size csrs_get_status csrs_get_edeleg csrs_get_ideleg csrs_get_ie csrs_get_ip csrs_get_tvec csrs_get_counteren csrs_get_epc csrs_get_cause csrs_get_stvec csrs_get_scounteren csrs_get_sepc csrs_get_scause csrs_get_satp csrs_get_inhibit csrs_get_ev0 csrs_get_ev1 csrs_get_ev2 csrs_get_ev3 and_L or_L clr_L
set_option maxRecDepth 4000
theorem may_any (h : Hart) : Mk Try.prog 32 #[.agg (csrsC h)] (.bool (mayC h)) := by
  by_cases e0 : ((h.ev 0).toNat : Int) ≤ 5
  case neg =>
    rw [show mayC h = false by unfold mayC evs; simp [e0]]
    exact may_e0 h  (by omega)
  by_cases e1 : ((h.ev 1).toNat : Int) ≤ 5
  case neg =>
    rw [show mayC h = false by unfold mayC evs; simp [e1]]
    exact may_e1 h e0 (by omega)
  by_cases e2 : ((h.ev 2).toNat : Int) ≤ 5
  case neg =>
    rw [show mayC h = false by unfold mayC evs; simp [e2]]
    exact may_e2 h e0 e1 (by omega)
  by_cases e3 : ((h.ev 3).toNat : Int) ≤ 5
  case neg =>
    rw [show mayC h = false by unfold mayC evs; simp [e3]]
    exact may_e3 h e0 e1 e2 (by omega)
  cases t0 : (((h.status).toNat : Int) == ((stW h.status).toNat : Int))
  case false =>
    rw [show mayC h = false by unfold mayC mayL; rw [t0]; simp]
    exact may_t0 h e0 e1 e2 e3 t0
  cases t1 : (((andL h.status 6144).toNat : Int) != 4096)
  case false =>
    rw [show mayC h = false by unfold mayC mayL; rw [t1]; simp]
    exact may_t1 h e0 e1 e2 e3 t0 t1
  cases t2 : (((clrL h.edeleg 46079).toNat : Int) == 0)
  case false =>
    rw [show mayC h = false by unfold mayC mayL; rw [t2]; simp]
    exact may_t2 h e0 e1 e2 e3 t0 t1 t2
  cases t3 : (((clrL h.ideleg 546).toNat : Int) == 0)
  case false =>
    rw [show mayC h = false by unfold mayC mayL; rw [t3]; simp]
    exact may_t3 h e0 e1 e2 e3 t0 t1 t2 t3
  cases t4 : (((clrL h.ie 2730).toNat : Int) == 0)
  case false =>
    rw [show mayC h = false by unfold mayC mayL; rw [t4]; simp]
    exact may_t4 h e0 e1 e2 e3 t0 t1 t2 t3 t4
  cases t5 : (((clrL h.ip 546).toNat : Int) == 0)
  case false =>
    rw [show mayC h = false by unfold mayC mayL; rw [t5]; simp]
    exact may_t5 h e0 e1 e2 e3 t0 t1 t2 t3 t4 t5
  cases t6 : (((andL h.tvec 2).toNat : Int) == 0)
  case false =>
    rw [show mayC h = false by unfold mayC mayL; rw [t6]; simp]
    exact may_t6 h e0 e1 e2 e3 t0 t1 t2 t3 t4 t5 t6
  cases t7 : (((andL h.stvec 2).toNat : Int) == 0)
  case false =>
    rw [show mayC h = false by unfold mayC mayL; rw [t7]; simp]
    exact may_t7 h e0 e1 e2 e3 t0 t1 t2 t3 t4 t5 t6 t7
  cases t8 : (((clrL h.counteren 127).toNat : Int) == 0)
  case false =>
    rw [show mayC h = false by unfold mayC mayL; rw [t8]; simp]
    exact may_t8 h e0 e1 e2 e3 t0 t1 t2 t3 t4 t5 t6 t7 t8
  cases t9 : (((clrL h.scounteren 127).toNat : Int) == 0)
  case false =>
    rw [show mayC h = false by unfold mayC mayL; rw [t9]; simp]
    exact may_t9 h e0 e1 e2 e3 t0 t1 t2 t3 t4 t5 t6 t7 t8 t9
  cases t10 : (((andL h.epc 3).toNat : Int) == 0)
  case false =>
    rw [show mayC h = false by unfold mayC mayL; rw [t10]; simp]
    exact may_t10 h e0 e1 e2 e3 t0 t1 t2 t3 t4 t5 t6 t7 t8 t9 t10
  cases t11 : (((andL h.sepc 3).toNat : Int) == 0)
  case false =>
    rw [show mayC h = false by unfold mayC mayL; rw [t11]; simp]
    exact may_t11 h e0 e1 e2 e3 t0 t1 t2 t3 t4 t5 t6 t7 t8 t9 t10 t11
  cases t12 : (((clrL h.cause 9223372036854775871).toNat : Int) == 0)
  case false =>
    rw [show mayC h = false by unfold mayC mayL; rw [t12]; simp]
    exact may_t12 h e0 e1 e2 e3 t0 t1 t2 t3 t4 t5 t6 t7 t8 t9 t10 t11 t12
  cases t13 : (((clrL h.scause 9223372036854775871).toNat : Int) == 0)
  case false =>
    rw [show mayC h = false by unfold mayC mayL; rw [t13]; simp]
    exact may_t13 h e0 e1 e2 e3 t0 t1 t2 t3 t4 t5 t6 t7 t8 t9 t10 t11 t12 t13
  cases p : (((h.satp.toNat : Int) / 1152921504606846976 == 0) || ((h.satp.toNat : Int) / 1152921504606846976 == 8))
  case false =>
    rw [Bool.or_eq_false_iff] at p
    rw [show mayC h = false by unfold mayC mayL; rw [p.1, p.2]; simp]
    exact may_t14 h e0 e1 e2 e3 t0 t1 t2 t3 t4 t5 t6 t7 t8 t9 t10 t11 t12 t13 p.1 p.2
  have t14 : ((h.satp.toNat : Int) / 1152921504606846976 == 0) = true ∨ (((h.satp.toNat : Int) / 1152921504606846976 == 0) = false ∧ ((h.satp.toNat : Int) / 1152921504606846976 == 8) = true) := by
    cases q : ((h.satp.toNat : Int) / 1152921504606846976 == 0)
    · exact .inr ⟨rfl, by rw [q, Bool.false_or] at p; exact p⟩
    · exact .inl rfl
  clear p
  cases t15 : (((clrL h.inhibit 125).toNat : Int) == 0)
  case false =>
    rw [show mayC h = false by unfold mayC mayL; rw [t15]; simp]
    rcases t14 with t14 | ⟨t14, u14⟩
    · exact may_t15a h e0 e1 e2 e3 t0 t1 t2 t3 t4 t5 t6 t7 t8 t9 t10 t11 t12 t13 t14  t15
    · exact may_t15b h e0 e1 e2 e3 t0 t1 t2 t3 t4 t5 t6 t7 t8 t9 t10 t11 t12 t13 t14 u14  t15
  have hm : mayC h = true := by
    have hp : (((h.satp.toNat : Int) / 1152921504606846976 == 0) || ((h.satp.toNat : Int) / 1152921504606846976 == 8)) = true := by rcases t14 with q | q <;> simp [q]
    unfold mayC mayL evs
    rw [t0, t1, t2, t3, t4, t5, t6, t7, t8, t9, t10, t11, t12, t13, hp, t15]
    simp [e0, e1, e2, e3]
  rw [hm]
  rcases t14 with t14 | ⟨t14, u14⟩
  · exact may_yesa h e0 e1 e2 e3 t0 t1 t2 t3 t4 t5 t6 t7 t8 t9 t10 t11 t12 t13 t14 t15
  · exact may_yesb h e0 e1 e2 e3 t0 t1 t2 t3 t4 t5 t6 t7 t8 t9 t10 t11 t12 t13 t14 u14 t15
end Go.Proofs.Ythijheijognhmaa
