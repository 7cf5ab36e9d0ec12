/- The law AmoOrders, walked: each call answers true. -/
import Derived.Test.YtnkmcjnjlbddfaaAmoLaws
import Derived.Test.YtnkmcjnjlbddfaaAmoOrderPlain
namespace Go.Proofs.Ytnkmcjnjlbddfaa
open Go.RowKit Wd

theorem zext_low32 (v : BitVec 64) (h : zext v 32 = v) : (v.toNat : Int) / 4294967296 = 0 := by
  have := zext_div v 32 (by omega)
  rw [show ((32 : Nat) : Int) = 32 from rfl, h] at this
  exact this

theorem orders_0_4 (a b : BitVec 64) (w : World) :
    Calls Try.prog 7 #[.int .i64 0, .int .u64 (a.toNat : Int), .int .u64 (b.toNat : Int), .bool false] w fun e w' => e = .returned (.bool true) ∧ Quiet w w' := by
  have hq := Quiet.refl w
  obtain ⟨v, x, ⟨o1, o2, o3⟩, hz⟩ := o_add 4 32 a b (by omega) (by omega)
  have k1 := pnew_any 0 4 a b (by omega)
  have k2 := pnew_any 0 4 b a (by omega)
  have k3 := pnew_any 0 4 v b (by omega)
  rw [o1] at k1
  rw [o2] at k2
  rw [o3] at k3
  have K1 := Lib.hid k1
  have K2 := Lib.hid k2
  have K3 := Lib.hid k3
  have hd := zext_low32 v hz
  clear o1 o2 o3 hz k1 k2 k3
  go_enter Try.func7, Try.ntmps7
  go_wp2_with (first
    | (go_at_call 11; refine (awake_any.at hq).mono ?_; clear hq; rintro e w1 ⟨rfl, hq⟩)
    | (go_at_call 9; (with_reducible refine (K1.out.at hq).mono ?_); clear hq; rintro e w1 ⟨rfl, hq⟩; unfold amoVal)
    | (go_at_call 9; (with_reducible refine (K2.out.at hq).mono ?_); clear hq; rintro e w1 ⟨rfl, hq⟩; unfold amoVal)
    | (go_at_call 9; (with_reducible refine (K3.out.at hq).mono ?_); clear hq; rintro e w1 ⟨rfl, hq⟩; unfold amoVal)
    | (go_at_call 20; refine ((pext_any _ _ _).at hq).mono ?_; clear hq; rintro e w1 ⟨rfl, hq⟩))
  go_ret
  exact ⟨rfl, hq⟩

theorem orders_4_4 (a b : BitVec 64) (w : World) :
    Calls Try.prog 7 #[.int .i64 4, .int .u64 (a.toNat : Int), .int .u64 (b.toNat : Int), .bool false] w fun e w' => e = .returned (.bool true) ∧ Quiet w w' := by
  have hq := Quiet.refl w
  obtain ⟨v, ⟨o1, o2, o3⟩, hz⟩ := o_xor 4 32 a b (by omega) (by omega)
  have k1 := pnew_any 4 4 a b (by omega)
  have k2 := pnew_any 4 4 b a (by omega)
  have k3 := pnew_any 4 4 v b (by omega)
  rw [o1] at k1
  rw [o2] at k2
  rw [o3] at k3
  have K1 := Lib.hid k1
  have K2 := Lib.hid k2
  have K3 := Lib.hid k3
  have hd := zext_low32 v hz
  have he : ext a 4 false = zext a 32 := ext_z a 4 (by omega)
  clear o1 o2 o3 hz k1 k2 k3
  go_enter Try.func7, Try.ntmps7
  go_wp2_with (first
    | (go_at_call 11; refine (awake_any.at hq).mono ?_; clear hq; rintro e w1 ⟨rfl, hq⟩)
    | (go_at_call 9; (with_reducible refine (K1.out.at hq).mono ?_); clear hq; rintro e w1 ⟨rfl, hq⟩; unfold amoVal)
    | (go_at_call 9; (with_reducible refine (K2.out.at hq).mono ?_); clear hq; rintro e w1 ⟨rfl, hq⟩; unfold amoVal)
    | (go_at_call 9; (with_reducible refine (K3.out.at hq).mono ?_); clear hq; rintro e w1 ⟨rfl, hq⟩; unfold amoVal)
    | (go_at_call 20; refine ((pext_any _ _ _).at hq).mono ?_; clear hq; rintro e w1 ⟨rfl, hq⟩))
  go_ret
  exact ⟨rfl, hq⟩

theorem orders_8_4 (a b : BitVec 64) (w : World) :
    Calls Try.prog 7 #[.int .i64 8, .int .u64 (a.toNat : Int), .int .u64 (b.toNat : Int), .bool false] w fun e w' => e = .returned (.bool true) ∧ Quiet w w' := by
  have hq := Quiet.refl w
  obtain ⟨v, ⟨o1, o2, o3⟩, hz⟩ := o_or 4 32 a b (by omega) (by omega)
  have k1 := pnew_any 8 4 a b (by omega)
  have k2 := pnew_any 8 4 b a (by omega)
  have k3 := pnew_any 8 4 v b (by omega)
  rw [o1] at k1
  rw [o2] at k2
  rw [o3] at k3
  have K1 := Lib.hid k1
  have K2 := Lib.hid k2
  have K3 := Lib.hid k3
  have hd := zext_low32 v hz
  clear o1 o2 o3 hz k1 k2 k3
  go_enter Try.func7, Try.ntmps7
  go_wp2_with (first
    | (go_at_call 11; refine (awake_any.at hq).mono ?_; clear hq; rintro e w1 ⟨rfl, hq⟩)
    | (go_at_call 9; (with_reducible refine (K1.out.at hq).mono ?_); clear hq; rintro e w1 ⟨rfl, hq⟩; unfold amoVal)
    | (go_at_call 9; (with_reducible refine (K2.out.at hq).mono ?_); clear hq; rintro e w1 ⟨rfl, hq⟩; unfold amoVal)
    | (go_at_call 9; (with_reducible refine (K3.out.at hq).mono ?_); clear hq; rintro e w1 ⟨rfl, hq⟩; unfold amoVal)
    | (go_at_call 20; refine ((pext_any _ _ _).at hq).mono ?_; clear hq; rintro e w1 ⟨rfl, hq⟩))
  go_ret
  exact ⟨rfl, hq⟩

theorem orders_12_4 (a b : BitVec 64) (w : World) :
    Calls Try.prog 7 #[.int .i64 12, .int .u64 (a.toNat : Int), .int .u64 (b.toNat : Int), .bool false] w fun e w' => e = .returned (.bool true) ∧ Quiet w w' := by
  have hq := Quiet.refl w
  obtain ⟨v, ⟨o1, o2, o3⟩, hz⟩ := o_and 4 32 a b (by omega) (by omega)
  have k1 := pnew_any 12 4 a b (by omega)
  have k2 := pnew_any 12 4 b a (by omega)
  have k3 := pnew_any 12 4 v b (by omega)
  rw [o1] at k1
  rw [o2] at k2
  rw [o3] at k3
  have K1 := Lib.hid k1
  have K2 := Lib.hid k2
  have K3 := Lib.hid k3
  have hd := zext_low32 v hz
  clear o1 o2 o3 hz k1 k2 k3
  go_enter Try.func7, Try.ntmps7
  go_wp2_with (first
    | (go_at_call 11; refine (awake_any.at hq).mono ?_; clear hq; rintro e w1 ⟨rfl, hq⟩)
    | (go_at_call 9; (with_reducible refine (K1.out.at hq).mono ?_); clear hq; rintro e w1 ⟨rfl, hq⟩; unfold amoVal)
    | (go_at_call 9; (with_reducible refine (K2.out.at hq).mono ?_); clear hq; rintro e w1 ⟨rfl, hq⟩; unfold amoVal)
    | (go_at_call 9; (with_reducible refine (K3.out.at hq).mono ?_); clear hq; rintro e w1 ⟨rfl, hq⟩; unfold amoVal)
    | (go_at_call 20; refine ((pext_any _ _ _).at hq).mono ?_; clear hq; rintro e w1 ⟨rfl, hq⟩))
  go_ret
  exact ⟨rfl, hq⟩

theorem orders_16_4 (a b : BitVec 64) (w : World) :
    Calls Try.prog 7 #[.int .i64 16, .int .u64 (a.toNat : Int), .int .u64 (b.toNat : Int), .bool false] w fun e w' => e = .returned (.bool true) ∧ Quiet w w' := by
  have hq := Quiet.refl w
  obtain ⟨v, ⟨o1, o2, o3⟩, hz⟩ := o_min 4 32 a b (by omega) (by omega)
  have k1 := pnew_any 16 4 a b (by omega)
  have k2 := pnew_any 16 4 b a (by omega)
  have k3 := pnew_any 16 4 v b (by omega)
  rw [o1] at k1
  rw [o2] at k2
  rw [o3] at k3
  have K1 := Lib.hid k1
  have K2 := Lib.hid k2
  have K3 := Lib.hid k3
  have hd := zext_low32 v hz
  clear o1 o2 o3 hz k1 k2 k3
  go_enter Try.func7, Try.ntmps7
  go_wp2_with (first
    | (go_at_call 11; refine (awake_any.at hq).mono ?_; clear hq; rintro e w1 ⟨rfl, hq⟩)
    | (go_at_call 9; (with_reducible refine (K1.out.at hq).mono ?_); clear hq; rintro e w1 ⟨rfl, hq⟩; unfold amoVal)
    | (go_at_call 9; (with_reducible refine (K2.out.at hq).mono ?_); clear hq; rintro e w1 ⟨rfl, hq⟩; unfold amoVal)
    | (go_at_call 9; (with_reducible refine (K3.out.at hq).mono ?_); clear hq; rintro e w1 ⟨rfl, hq⟩; unfold amoVal)
    | (go_at_call 20; refine ((pext_any _ _ _).at hq).mono ?_; clear hq; rintro e w1 ⟨rfl, hq⟩))
  go_ret
  exact ⟨rfl, hq⟩

theorem orders_20_4 (a b : BitVec 64) (w : World) :
    Calls Try.prog 7 #[.int .i64 20, .int .u64 (a.toNat : Int), .int .u64 (b.toNat : Int), .bool false] w fun e w' => e = .returned (.bool true) ∧ Quiet w w' := by
  have hq := Quiet.refl w
  obtain ⟨v, ⟨o1, o2, o3⟩, hz⟩ := o_max 4 32 a b (by omega) (by omega)
  have k1 := pnew_any 20 4 a b (by omega)
  have k2 := pnew_any 20 4 b a (by omega)
  have k3 := pnew_any 20 4 v b (by omega)
  rw [o1] at k1
  rw [o2] at k2
  rw [o3] at k3
  have K1 := Lib.hid k1
  have K2 := Lib.hid k2
  have K3 := Lib.hid k3
  have hd := zext_low32 v hz
  clear o1 o2 o3 hz k1 k2 k3
  go_enter Try.func7, Try.ntmps7
  go_wp2_with (first
    | (go_at_call 11; refine (awake_any.at hq).mono ?_; clear hq; rintro e w1 ⟨rfl, hq⟩)
    | (go_at_call 9; (with_reducible refine (K1.out.at hq).mono ?_); clear hq; rintro e w1 ⟨rfl, hq⟩; unfold amoVal)
    | (go_at_call 9; (with_reducible refine (K2.out.at hq).mono ?_); clear hq; rintro e w1 ⟨rfl, hq⟩; unfold amoVal)
    | (go_at_call 9; (with_reducible refine (K3.out.at hq).mono ?_); clear hq; rintro e w1 ⟨rfl, hq⟩; unfold amoVal)
    | (go_at_call 20; refine ((pext_any _ _ _).at hq).mono ?_; clear hq; rintro e w1 ⟨rfl, hq⟩))
  go_ret
  exact ⟨rfl, hq⟩

theorem orders_24_4 (a b : BitVec 64) (w : World) :
    Calls Try.prog 7 #[.int .i64 24, .int .u64 (a.toNat : Int), .int .u64 (b.toNat : Int), .bool false] w fun e w' => e = .returned (.bool true) ∧ Quiet w w' := by
  have hq := Quiet.refl w
  obtain ⟨v, ⟨o1, o2, o3⟩, hz⟩ := o_minu 4 32 a b (by omega) (by omega)
  have k1 := pnew_any 24 4 a b (by omega)
  have k2 := pnew_any 24 4 b a (by omega)
  have k3 := pnew_any 24 4 v b (by omega)
  rw [o1] at k1
  rw [o2] at k2
  rw [o3] at k3
  have K1 := Lib.hid k1
  have K2 := Lib.hid k2
  have K3 := Lib.hid k3
  have hd := zext_low32 v hz
  clear o1 o2 o3 hz k1 k2 k3
  go_enter Try.func7, Try.ntmps7
  go_wp2_with (first
    | (go_at_call 11; refine (awake_any.at hq).mono ?_; clear hq; rintro e w1 ⟨rfl, hq⟩)
    | (go_at_call 9; (with_reducible refine (K1.out.at hq).mono ?_); clear hq; rintro e w1 ⟨rfl, hq⟩; unfold amoVal)
    | (go_at_call 9; (with_reducible refine (K2.out.at hq).mono ?_); clear hq; rintro e w1 ⟨rfl, hq⟩; unfold amoVal)
    | (go_at_call 9; (with_reducible refine (K3.out.at hq).mono ?_); clear hq; rintro e w1 ⟨rfl, hq⟩; unfold amoVal)
    | (go_at_call 20; refine ((pext_any _ _ _).at hq).mono ?_; clear hq; rintro e w1 ⟨rfl, hq⟩))
  go_ret
  exact ⟨rfl, hq⟩

theorem orders_28_4 (a b : BitVec 64) (w : World) :
    Calls Try.prog 7 #[.int .i64 28, .int .u64 (a.toNat : Int), .int .u64 (b.toNat : Int), .bool false] w fun e w' => e = .returned (.bool true) ∧ Quiet w w' := by
  have hq := Quiet.refl w
  obtain ⟨v, ⟨o1, o2, o3⟩, hz⟩ := o_maxu 4 32 a b (by omega) (by omega)
  have k1 := pnew_any 28 4 a b (by omega)
  have k2 := pnew_any 28 4 b a (by omega)
  have k3 := pnew_any 28 4 v b (by omega)
  rw [o1] at k1
  rw [o2] at k2
  rw [o3] at k3
  have K1 := Lib.hid k1
  have K2 := Lib.hid k2
  have K3 := Lib.hid k3
  have hd := zext_low32 v hz
  clear o1 o2 o3 hz k1 k2 k3
  go_enter Try.func7, Try.ntmps7
  go_wp2_with (first
    | (go_at_call 11; refine (awake_any.at hq).mono ?_; clear hq; rintro e w1 ⟨rfl, hq⟩)
    | (go_at_call 9; (with_reducible refine (K1.out.at hq).mono ?_); clear hq; rintro e w1 ⟨rfl, hq⟩; unfold amoVal)
    | (go_at_call 9; (with_reducible refine (K2.out.at hq).mono ?_); clear hq; rintro e w1 ⟨rfl, hq⟩; unfold amoVal)
    | (go_at_call 9; (with_reducible refine (K3.out.at hq).mono ?_); clear hq; rintro e w1 ⟨rfl, hq⟩; unfold amoVal)
    | (go_at_call 20; refine ((pext_any _ _ _).at hq).mono ?_; clear hq; rintro e w1 ⟨rfl, hq⟩))
  go_ret
  exact ⟨rfl, hq⟩

theorem orders_1_4 (a b : BitVec 64) (w : World) :
    Calls Try.prog 7 #[.int .i64 1, .int .u64 (a.toNat : Int), .int .u64 (b.toNat : Int), .bool false] w fun e w' => e = .returned (.bool true) ∧ Quiet w w' := by
  have hq := Quiet.refl w
  have k1 := pnew_any 1 4 a b (by omega)
  have k2 := pnew_any 1 4 b a (by omega)
  rw [new_at 1 4 32 a b _ (by omega) (by omega) rfl] at k1
  rw [new_at 1 4 32 b a _ (by omega) (by omega) rfl] at k2
  have K1 := Lib.hid k1
  have K2 := Lib.hid k2
  clear k1 k2
  go_enter Try.func7, Try.ntmps7
  go_wp2_with (first
    | (go_at_call 11; refine (awake_any.at hq).mono ?_; clear hq; rintro e w1 ⟨rfl, hq⟩)
    | (go_at_call 9; (with_reducible refine (K1.out.at hq).mono ?_); clear hq; rintro e w1 ⟨rfl, hq⟩; unfold amoVal)
    | (go_at_call 9; (with_reducible refine (K2.out.at hq).mono ?_); clear hq; rintro e w1 ⟨rfl, hq⟩; unfold amoVal))
  go_ret
  exact ⟨rfl, hq⟩

theorem orders_x_4 (op : Int) (a b : BitVec 64) (h1 : ¬ op = 1) (h0 : ¬ op = 0) (h4 : ¬ op = 4) (h8 : ¬ op = 8) (h12 : ¬ op = 12) (h16 : ¬ op = 16) (h20 : ¬ op = 20) (h24 : ¬ op = 24) (h28 : ¬ op = 28) (w : World) :
    Calls Try.prog 7 #[.int .i64 op, .int .u64 (a.toNat : Int), .int .u64 (b.toNat : Int), .bool false] w fun e w' => e = .returned (.bool true) ∧ Quiet w w' := by
  have hq := Quiet.refl w
  have k1 := pnew_any op 4 a b (by omega)
  have k2 := pnew_any op 4 b a (by omega)
  rw [amoNew_at op 4 a b (by omega) none (amoF_none op _ _ _ h1 h0 h4 h8 h12 h16 h20 h24 h28)] at k1
  rw [amoNew_at op 4 b a (by omega) none (amoF_none op _ _ _ h1 h0 h4 h8 h12 h16 h20 h24 h28)] at k2
  have K1 := Lib.hid k1
  have K2 := Lib.hid k2
  clear k1 k2 h1 h0 h4 h8 h12 h16 h20 h24 h28
  go_enter Try.func7, Try.ntmps7
  go_wp2_with (first
    | (go_at_call 11; refine (awake_any.at hq).mono ?_; clear hq; rintro e w1 ⟨rfl, hq⟩)
    | (go_at_call 9; (with_reducible refine (K1.out.at hq).mono ?_); clear hq; rintro e w1 ⟨rfl, hq⟩; unfold amoVal)
    | (go_at_call 9; (with_reducible refine (K2.out.at hq).mono ?_); clear hq; rintro e w1 ⟨rfl, hq⟩; unfold amoVal))
  go_ret
  exact ⟨rfl, hq⟩

theorem orders_0_8 (a b : BitVec 64) (w : World) :
    Calls Try.prog 7 #[.int .i64 0, .int .u64 (a.toNat : Int), .int .u64 (b.toNat : Int), .bool true] w fun e w' => e = .returned (.bool true) ∧ Quiet w w' := by
  have hq := Quiet.refl w
  obtain ⟨v, x, ⟨o1, o2, o3⟩, hz⟩ := o_add 8 64 a b (by omega) (by omega)
  have k1 := pnew_any 0 8 a b (by omega)
  have k2 := pnew_any 0 8 b a (by omega)
  have k3 := pnew_any 0 8 v b (by omega)
  rw [o1] at k1
  rw [o2] at k2
  rw [o3] at k3
  have K1 := Lib.hid k1
  have K2 := Lib.hid k2
  have K3 := Lib.hid k3
  clear o1 o2 o3 hz k1 k2 k3
  go_enter Try.func7, Try.ntmps7
  go_wp2_with (first
    | (go_at_call 11; refine (awake_any.at hq).mono ?_; clear hq; rintro e w1 ⟨rfl, hq⟩)
    | (go_at_call 9; (with_reducible refine (K1.out.at hq).mono ?_); clear hq; rintro e w1 ⟨rfl, hq⟩; unfold amoVal)
    | (go_at_call 9; (with_reducible refine (K2.out.at hq).mono ?_); clear hq; rintro e w1 ⟨rfl, hq⟩; unfold amoVal)
    | (go_at_call 9; (with_reducible refine (K3.out.at hq).mono ?_); clear hq; rintro e w1 ⟨rfl, hq⟩; unfold amoVal)
    | (go_at_call 20; refine ((pext_any _ _ _).at hq).mono ?_; clear hq; rintro e w1 ⟨rfl, hq⟩))
  go_ret
  exact ⟨rfl, hq⟩

theorem orders_4_8 (a b : BitVec 64) (w : World) :
    Calls Try.prog 7 #[.int .i64 4, .int .u64 (a.toNat : Int), .int .u64 (b.toNat : Int), .bool true] w fun e w' => e = .returned (.bool true) ∧ Quiet w w' := by
  have hq := Quiet.refl w
  obtain ⟨v, ⟨o1, o2, o3⟩, hz⟩ := o_xor 8 64 a b (by omega) (by omega)
  have k1 := pnew_any 4 8 a b (by omega)
  have k2 := pnew_any 4 8 b a (by omega)
  have k3 := pnew_any 4 8 v b (by omega)
  rw [o1] at k1
  rw [o2] at k2
  rw [o3] at k3
  have K1 := Lib.hid k1
  have K2 := Lib.hid k2
  have K3 := Lib.hid k3
  have he : ext a 8 false = zext a 64 := ext_z a 8 (by omega)
  clear o1 o2 o3 hz k1 k2 k3
  go_enter Try.func7, Try.ntmps7
  go_wp2_with (first
    | (go_at_call 11; refine (awake_any.at hq).mono ?_; clear hq; rintro e w1 ⟨rfl, hq⟩)
    | (go_at_call 9; (with_reducible refine (K1.out.at hq).mono ?_); clear hq; rintro e w1 ⟨rfl, hq⟩; unfold amoVal)
    | (go_at_call 9; (with_reducible refine (K2.out.at hq).mono ?_); clear hq; rintro e w1 ⟨rfl, hq⟩; unfold amoVal)
    | (go_at_call 9; (with_reducible refine (K3.out.at hq).mono ?_); clear hq; rintro e w1 ⟨rfl, hq⟩; unfold amoVal)
    | (go_at_call 20; refine ((pext_any _ _ _).at hq).mono ?_; clear hq; rintro e w1 ⟨rfl, hq⟩))
  go_ret
  exact ⟨rfl, hq⟩

theorem orders_8_8 (a b : BitVec 64) (w : World) :
    Calls Try.prog 7 #[.int .i64 8, .int .u64 (a.toNat : Int), .int .u64 (b.toNat : Int), .bool true] w fun e w' => e = .returned (.bool true) ∧ Quiet w w' := by
  have hq := Quiet.refl w
  obtain ⟨v, ⟨o1, o2, o3⟩, hz⟩ := o_or 8 64 a b (by omega) (by omega)
  have k1 := pnew_any 8 8 a b (by omega)
  have k2 := pnew_any 8 8 b a (by omega)
  have k3 := pnew_any 8 8 v b (by omega)
  rw [o1] at k1
  rw [o2] at k2
  rw [o3] at k3
  have K1 := Lib.hid k1
  have K2 := Lib.hid k2
  have K3 := Lib.hid k3
  clear o1 o2 o3 hz k1 k2 k3
  go_enter Try.func7, Try.ntmps7
  go_wp2_with (first
    | (go_at_call 11; refine (awake_any.at hq).mono ?_; clear hq; rintro e w1 ⟨rfl, hq⟩)
    | (go_at_call 9; (with_reducible refine (K1.out.at hq).mono ?_); clear hq; rintro e w1 ⟨rfl, hq⟩; unfold amoVal)
    | (go_at_call 9; (with_reducible refine (K2.out.at hq).mono ?_); clear hq; rintro e w1 ⟨rfl, hq⟩; unfold amoVal)
    | (go_at_call 9; (with_reducible refine (K3.out.at hq).mono ?_); clear hq; rintro e w1 ⟨rfl, hq⟩; unfold amoVal)
    | (go_at_call 20; refine ((pext_any _ _ _).at hq).mono ?_; clear hq; rintro e w1 ⟨rfl, hq⟩))
  go_ret
  exact ⟨rfl, hq⟩

theorem orders_12_8 (a b : BitVec 64) (w : World) :
    Calls Try.prog 7 #[.int .i64 12, .int .u64 (a.toNat : Int), .int .u64 (b.toNat : Int), .bool true] w fun e w' => e = .returned (.bool true) ∧ Quiet w w' := by
  have hq := Quiet.refl w
  obtain ⟨v, ⟨o1, o2, o3⟩, hz⟩ := o_and 8 64 a b (by omega) (by omega)
  have k1 := pnew_any 12 8 a b (by omega)
  have k2 := pnew_any 12 8 b a (by omega)
  have k3 := pnew_any 12 8 v b (by omega)
  rw [o1] at k1
  rw [o2] at k2
  rw [o3] at k3
  have K1 := Lib.hid k1
  have K2 := Lib.hid k2
  have K3 := Lib.hid k3
  clear o1 o2 o3 hz k1 k2 k3
  go_enter Try.func7, Try.ntmps7
  go_wp2_with (first
    | (go_at_call 11; refine (awake_any.at hq).mono ?_; clear hq; rintro e w1 ⟨rfl, hq⟩)
    | (go_at_call 9; (with_reducible refine (K1.out.at hq).mono ?_); clear hq; rintro e w1 ⟨rfl, hq⟩; unfold amoVal)
    | (go_at_call 9; (with_reducible refine (K2.out.at hq).mono ?_); clear hq; rintro e w1 ⟨rfl, hq⟩; unfold amoVal)
    | (go_at_call 9; (with_reducible refine (K3.out.at hq).mono ?_); clear hq; rintro e w1 ⟨rfl, hq⟩; unfold amoVal)
    | (go_at_call 20; refine ((pext_any _ _ _).at hq).mono ?_; clear hq; rintro e w1 ⟨rfl, hq⟩))
  go_ret
  exact ⟨rfl, hq⟩

theorem orders_16_8 (a b : BitVec 64) (w : World) :
    Calls Try.prog 7 #[.int .i64 16, .int .u64 (a.toNat : Int), .int .u64 (b.toNat : Int), .bool true] w fun e w' => e = .returned (.bool true) ∧ Quiet w w' := by
  have hq := Quiet.refl w
  obtain ⟨v, ⟨o1, o2, o3⟩, hz⟩ := o_min 8 64 a b (by omega) (by omega)
  have k1 := pnew_any 16 8 a b (by omega)
  have k2 := pnew_any 16 8 b a (by omega)
  have k3 := pnew_any 16 8 v b (by omega)
  rw [o1] at k1
  rw [o2] at k2
  rw [o3] at k3
  have K1 := Lib.hid k1
  have K2 := Lib.hid k2
  have K3 := Lib.hid k3
  clear o1 o2 o3 hz k1 k2 k3
  go_enter Try.func7, Try.ntmps7
  go_wp2_with (first
    | (go_at_call 11; refine (awake_any.at hq).mono ?_; clear hq; rintro e w1 ⟨rfl, hq⟩)
    | (go_at_call 9; (with_reducible refine (K1.out.at hq).mono ?_); clear hq; rintro e w1 ⟨rfl, hq⟩; unfold amoVal)
    | (go_at_call 9; (with_reducible refine (K2.out.at hq).mono ?_); clear hq; rintro e w1 ⟨rfl, hq⟩; unfold amoVal)
    | (go_at_call 9; (with_reducible refine (K3.out.at hq).mono ?_); clear hq; rintro e w1 ⟨rfl, hq⟩; unfold amoVal)
    | (go_at_call 20; refine ((pext_any _ _ _).at hq).mono ?_; clear hq; rintro e w1 ⟨rfl, hq⟩))
  go_ret
  exact ⟨rfl, hq⟩

theorem orders_20_8 (a b : BitVec 64) (w : World) :
    Calls Try.prog 7 #[.int .i64 20, .int .u64 (a.toNat : Int), .int .u64 (b.toNat : Int), .bool true] w fun e w' => e = .returned (.bool true) ∧ Quiet w w' := by
  have hq := Quiet.refl w
  obtain ⟨v, ⟨o1, o2, o3⟩, hz⟩ := o_max 8 64 a b (by omega) (by omega)
  have k1 := pnew_any 20 8 a b (by omega)
  have k2 := pnew_any 20 8 b a (by omega)
  have k3 := pnew_any 20 8 v b (by omega)
  rw [o1] at k1
  rw [o2] at k2
  rw [o3] at k3
  have K1 := Lib.hid k1
  have K2 := Lib.hid k2
  have K3 := Lib.hid k3
  clear o1 o2 o3 hz k1 k2 k3
  go_enter Try.func7, Try.ntmps7
  go_wp2_with (first
    | (go_at_call 11; refine (awake_any.at hq).mono ?_; clear hq; rintro e w1 ⟨rfl, hq⟩)
    | (go_at_call 9; (with_reducible refine (K1.out.at hq).mono ?_); clear hq; rintro e w1 ⟨rfl, hq⟩; unfold amoVal)
    | (go_at_call 9; (with_reducible refine (K2.out.at hq).mono ?_); clear hq; rintro e w1 ⟨rfl, hq⟩; unfold amoVal)
    | (go_at_call 9; (with_reducible refine (K3.out.at hq).mono ?_); clear hq; rintro e w1 ⟨rfl, hq⟩; unfold amoVal)
    | (go_at_call 20; refine ((pext_any _ _ _).at hq).mono ?_; clear hq; rintro e w1 ⟨rfl, hq⟩))
  go_ret
  exact ⟨rfl, hq⟩

theorem orders_24_8 (a b : BitVec 64) (w : World) :
    Calls Try.prog 7 #[.int .i64 24, .int .u64 (a.toNat : Int), .int .u64 (b.toNat : Int), .bool true] w fun e w' => e = .returned (.bool true) ∧ Quiet w w' := by
  have hq := Quiet.refl w
  obtain ⟨v, ⟨o1, o2, o3⟩, hz⟩ := o_minu 8 64 a b (by omega) (by omega)
  have k1 := pnew_any 24 8 a b (by omega)
  have k2 := pnew_any 24 8 b a (by omega)
  have k3 := pnew_any 24 8 v b (by omega)
  rw [o1] at k1
  rw [o2] at k2
  rw [o3] at k3
  have K1 := Lib.hid k1
  have K2 := Lib.hid k2
  have K3 := Lib.hid k3
  clear o1 o2 o3 hz k1 k2 k3
  go_enter Try.func7, Try.ntmps7
  go_wp2_with (first
    | (go_at_call 11; refine (awake_any.at hq).mono ?_; clear hq; rintro e w1 ⟨rfl, hq⟩)
    | (go_at_call 9; (with_reducible refine (K1.out.at hq).mono ?_); clear hq; rintro e w1 ⟨rfl, hq⟩; unfold amoVal)
    | (go_at_call 9; (with_reducible refine (K2.out.at hq).mono ?_); clear hq; rintro e w1 ⟨rfl, hq⟩; unfold amoVal)
    | (go_at_call 9; (with_reducible refine (K3.out.at hq).mono ?_); clear hq; rintro e w1 ⟨rfl, hq⟩; unfold amoVal)
    | (go_at_call 20; refine ((pext_any _ _ _).at hq).mono ?_; clear hq; rintro e w1 ⟨rfl, hq⟩))
  go_ret
  exact ⟨rfl, hq⟩

theorem orders_28_8 (a b : BitVec 64) (w : World) :
    Calls Try.prog 7 #[.int .i64 28, .int .u64 (a.toNat : Int), .int .u64 (b.toNat : Int), .bool true] w fun e w' => e = .returned (.bool true) ∧ Quiet w w' := by
  have hq := Quiet.refl w
  obtain ⟨v, ⟨o1, o2, o3⟩, hz⟩ := o_maxu 8 64 a b (by omega) (by omega)
  have k1 := pnew_any 28 8 a b (by omega)
  have k2 := pnew_any 28 8 b a (by omega)
  have k3 := pnew_any 28 8 v b (by omega)
  rw [o1] at k1
  rw [o2] at k2
  rw [o3] at k3
  have K1 := Lib.hid k1
  have K2 := Lib.hid k2
  have K3 := Lib.hid k3
  clear o1 o2 o3 hz k1 k2 k3
  go_enter Try.func7, Try.ntmps7
  go_wp2_with (first
    | (go_at_call 11; refine (awake_any.at hq).mono ?_; clear hq; rintro e w1 ⟨rfl, hq⟩)
    | (go_at_call 9; (with_reducible refine (K1.out.at hq).mono ?_); clear hq; rintro e w1 ⟨rfl, hq⟩; unfold amoVal)
    | (go_at_call 9; (with_reducible refine (K2.out.at hq).mono ?_); clear hq; rintro e w1 ⟨rfl, hq⟩; unfold amoVal)
    | (go_at_call 9; (with_reducible refine (K3.out.at hq).mono ?_); clear hq; rintro e w1 ⟨rfl, hq⟩; unfold amoVal)
    | (go_at_call 20; refine ((pext_any _ _ _).at hq).mono ?_; clear hq; rintro e w1 ⟨rfl, hq⟩))
  go_ret
  exact ⟨rfl, hq⟩

theorem orders_1_8 (a b : BitVec 64) (w : World) :
    Calls Try.prog 7 #[.int .i64 1, .int .u64 (a.toNat : Int), .int .u64 (b.toNat : Int), .bool true] w fun e w' => e = .returned (.bool true) ∧ Quiet w w' := by
  have hq := Quiet.refl w
  have k1 := pnew_any 1 8 a b (by omega)
  have k2 := pnew_any 1 8 b a (by omega)
  rw [new_at 1 8 64 a b _ (by omega) (by omega) rfl] at k1
  rw [new_at 1 8 64 b a _ (by omega) (by omega) rfl] at k2
  have K1 := Lib.hid k1
  have K2 := Lib.hid k2
  clear k1 k2
  go_enter Try.func7, Try.ntmps7
  go_wp2_with (first
    | (go_at_call 11; refine (awake_any.at hq).mono ?_; clear hq; rintro e w1 ⟨rfl, hq⟩)
    | (go_at_call 9; (with_reducible refine (K1.out.at hq).mono ?_); clear hq; rintro e w1 ⟨rfl, hq⟩; unfold amoVal)
    | (go_at_call 9; (with_reducible refine (K2.out.at hq).mono ?_); clear hq; rintro e w1 ⟨rfl, hq⟩; unfold amoVal))
  go_ret
  exact ⟨rfl, hq⟩

theorem orders_x_8 (op : Int) (a b : BitVec 64) (h1 : ¬ op = 1) (h0 : ¬ op = 0) (h4 : ¬ op = 4) (h8 : ¬ op = 8) (h12 : ¬ op = 12) (h16 : ¬ op = 16) (h20 : ¬ op = 20) (h24 : ¬ op = 24) (h28 : ¬ op = 28) (w : World) :
    Calls Try.prog 7 #[.int .i64 op, .int .u64 (a.toNat : Int), .int .u64 (b.toNat : Int), .bool true] w fun e w' => e = .returned (.bool true) ∧ Quiet w w' := by
  have hq := Quiet.refl w
  have k1 := pnew_any op 8 a b (by omega)
  have k2 := pnew_any op 8 b a (by omega)
  rw [amoNew_at op 8 a b (by omega) none (amoF_none op _ _ _ h1 h0 h4 h8 h12 h16 h20 h24 h28)] at k1
  rw [amoNew_at op 8 b a (by omega) none (amoF_none op _ _ _ h1 h0 h4 h8 h12 h16 h20 h24 h28)] at k2
  have K1 := Lib.hid k1
  have K2 := Lib.hid k2
  clear k1 k2 h1 h0 h4 h8 h12 h16 h20 h24 h28
  go_enter Try.func7, Try.ntmps7
  go_wp2_with (first
    | (go_at_call 11; refine (awake_any.at hq).mono ?_; clear hq; rintro e w1 ⟨rfl, hq⟩)
    | (go_at_call 9; (with_reducible refine (K1.out.at hq).mono ?_); clear hq; rintro e w1 ⟨rfl, hq⟩; unfold amoVal)
    | (go_at_call 9; (with_reducible refine (K2.out.at hq).mono ?_); clear hq; rintro e w1 ⟨rfl, hq⟩; unfold amoVal))
  go_ret
  exact ⟨rfl, hq⟩

theorem amoOrders_walk (a0 a1 a2 : Int) (a3 : Bool) (_ : (Lit.int .i64 a0).wf = true) (w1 : (Lit.int .u64 a1).wf = true) (w2 : (Lit.int .u64 a2).wf = true) (w : World) :
    Calls Try.prog 7 #[.int .i64 a0, .int .u64 a1, .int .u64 a2, .bool a3] w fun e w' => e = .returned (.bool true) ∧ Grown w w' := by
  obtain ⟨a, rfl⟩ := u64_bv w1
  obtain ⟨b, rfl⟩ := u64_bv w2
  cases a3 with
  | false =>
    by_cases h1 : a0 = 1
    · subst h1; exact (orders_1_4 a b w).mono fun _ _ ⟨e, q⟩ => ⟨e, q.grown⟩
    by_cases h0 : a0 = 0
    · subst h0; exact (orders_0_4 a b w).mono fun _ _ ⟨e, q⟩ => ⟨e, q.grown⟩
    by_cases h4 : a0 = 4
    · subst h4; exact (orders_4_4 a b w).mono fun _ _ ⟨e, q⟩ => ⟨e, q.grown⟩
    by_cases h8 : a0 = 8
    · subst h8; exact (orders_8_4 a b w).mono fun _ _ ⟨e, q⟩ => ⟨e, q.grown⟩
    by_cases h12 : a0 = 12
    · subst h12; exact (orders_12_4 a b w).mono fun _ _ ⟨e, q⟩ => ⟨e, q.grown⟩
    by_cases h16 : a0 = 16
    · subst h16; exact (orders_16_4 a b w).mono fun _ _ ⟨e, q⟩ => ⟨e, q.grown⟩
    by_cases h20 : a0 = 20
    · subst h20; exact (orders_20_4 a b w).mono fun _ _ ⟨e, q⟩ => ⟨e, q.grown⟩
    by_cases h24 : a0 = 24
    · subst h24; exact (orders_24_4 a b w).mono fun _ _ ⟨e, q⟩ => ⟨e, q.grown⟩
    by_cases h28 : a0 = 28
    · subst h28; exact (orders_28_4 a b w).mono fun _ _ ⟨e, q⟩ => ⟨e, q.grown⟩
    exact (orders_x_4 a0 a b h1 h0 h4 h8 h12 h16 h20 h24 h28 w).mono fun _ _ ⟨e, q⟩ => ⟨e, q.grown⟩
  | true =>
    by_cases h1 : a0 = 1
    · subst h1; exact (orders_1_8 a b w).mono fun _ _ ⟨e, q⟩ => ⟨e, q.grown⟩
    by_cases h0 : a0 = 0
    · subst h0; exact (orders_0_8 a b w).mono fun _ _ ⟨e, q⟩ => ⟨e, q.grown⟩
    by_cases h4 : a0 = 4
    · subst h4; exact (orders_4_8 a b w).mono fun _ _ ⟨e, q⟩ => ⟨e, q.grown⟩
    by_cases h8 : a0 = 8
    · subst h8; exact (orders_8_8 a b w).mono fun _ _ ⟨e, q⟩ => ⟨e, q.grown⟩
    by_cases h12 : a0 = 12
    · subst h12; exact (orders_12_8 a b w).mono fun _ _ ⟨e, q⟩ => ⟨e, q.grown⟩
    by_cases h16 : a0 = 16
    · subst h16; exact (orders_16_8 a b w).mono fun _ _ ⟨e, q⟩ => ⟨e, q.grown⟩
    by_cases h20 : a0 = 20
    · subst h20; exact (orders_20_8 a b w).mono fun _ _ ⟨e, q⟩ => ⟨e, q.grown⟩
    by_cases h24 : a0 = 24
    · subst h24; exact (orders_24_8 a b w).mono fun _ _ ⟨e, q⟩ => ⟨e, q.grown⟩
    by_cases h28 : a0 = 28
    · subst h28; exact (orders_28_8 a b w).mono fun _ _ ⟨e, q⟩ => ⟨e, q.grown⟩
    exact (orders_x_8 a0 a b h1 h0 h4 h8 h12 h16 h20 h24 h28 w).mono fun _ _ ⟨e, q⟩ => ⟨e, q.grown⟩
end Go.Proofs.Ytnkmcjnjlbddfaa
