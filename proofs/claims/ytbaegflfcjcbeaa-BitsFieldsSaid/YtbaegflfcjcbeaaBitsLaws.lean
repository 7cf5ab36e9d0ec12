/- The laws on fields, extensions and counts, walked: each call answers true. -/
import Derived.Test.YtbaegflfcjcbeaaBits
import Derived.Test.YtbaegflfcjcbeaaRefBits
import Derived.Test.YtbaegflfcjcbeaaCounts
namespace Go.Proofs.Ytbaegflfcjcbeaa
open Go.RowKit Wd

theorem awake_any : Qt Try.prog 11 #[] (.bool true) := by
  intro w
  have h1 : Qt Try.prog 12 #[.int .u64 43981, .int .i64 11, .int .i64 4] (.int .u64 188) := field_any 43981#64 11 4
  have h2 : Qt Try.prog 28 #[.int .u64 7] (.int .i64 3) := pones_any 7#64
  have H1 := Lib.hid h1
  have H2 := Lib.hid h2
  clear h1 h2
  go_enter Try.func11, Try.ntmps11
  go_wp2_with (first
    | (go_at_call 12; refine (H1.out _).mono ?_; rintro e w1 ⟨rfl, hq1⟩)
    | (go_at_call 28; refine (H2.out _).mono ?_; rintro e w2 ⟨rfl, hq2⟩))
  go_ret
  exact ⟨rfl, hq1.trans hq2⟩

theorem bitsFields_bv (v x : BitVec 64) (hi lo : Int) : Qt Try.prog 3 #[.int .u64 (v.toNat : Int), .int .i64 hi, .int .i64 lo, .int .u64 (x.toNat : Int)] (.bool true) := by
  intro w
  go_enter Try.func3, Try.ntmps3
  go_wp2_with (first
    | (go_at_call 11; refine (awake_any _).mono ?_; rintro e w1 ⟨rfl, hq1⟩)
    | (go_at_call 12; refine (field_any _ _ _ _).mono ?_; rintro e w2 ⟨rfl, hq2⟩)
    | (go_at_call 13; refine (rfield_any _ _ _ _).mono ?_; rintro e w3 ⟨rfl, hq3⟩)
    | (go_at_call 14; refine (put_any _ _ _ _ _).mono ?_; rintro e w4 ⟨rfl, hq4⟩)
    | (go_at_call 15; refine (rput_any _ _ _ _ _).mono ?_; rintro e w5 ⟨rfl, hq5⟩))
  go_ret
  exact ⟨rfl, hq1.trans (hq2.trans (hq3.trans (hq4.trans hq5)))⟩

theorem bitsFields_walk (a0 a1 a2 a3 : Int) (w0 : (Lit.int .u64 a0).wf = true) (_ : (Lit.int .i64 a1).wf = true) (_ : (Lit.int .i64 a2).wf = true) (w3 : (Lit.int .u64 a3).wf = true) (w : World) :
    Calls Try.prog 3 #[.int .u64 a0, .int .i64 a1, .int .i64 a2, .int .u64 a3] w fun e w' => e = .returned (.bool true) ∧ Grown w w' := by
  obtain ⟨v, rfl⟩ := u64_bv w0
  obtain ⟨x, rfl⟩ := u64_bv w3
  exact (bitsFields_bv v x a1 a2 w).mono fun _ _ ⟨h, q⟩ => ⟨h, q.grown⟩
end Go.Proofs.Ytbaegflfcjcbeaa
