/- The laws of package serial, walked. -/
import Derived.Test.YthdcpdojkmdmeaaSerial
namespace Go.Proofs.Ythdcpdojkmdmeaa
open Go.RowKit

theorem awake_any (w : World) : Calls Try.prog 11 #[] w fun e w' => e = .returned (.bool true) ∧ w = w' := by
  have e1 : far16 65535 2 = 3 := by decide
  have e2 : IntKind.u16.wrap 65535 = 65535 := by decide
  have e3 : far32 5 4294967295 = -6 := by decide
  have e4 : far16 65535 0 = 1 := by decide
  have e5 : far32 0 4294967295 = -1 := by decide
  have e6 : far32 0 4294967295 = -1 := by decide
  go_enter Try.func11, Try.ntmps11
  go_wp2_with (first
    | (go_at_call 13; refine (From16_any _ _ _).mono ?_; rintro e w' ⟨rfl, rfl⟩)
    | (go_at_call 17; refine (Near16_any _ _ _ (by omega) (by omega)).mono ?_; rintro e w' ⟨rfl, rfl⟩)
    | (go_at_call 14; refine (From32_any _ _ _).mono ?_; rintro e w' ⟨rfl, rfl⟩)
    | (go_at_call 15; refine (Less16_any _ _ _).mono ?_; rintro e w' ⟨rfl, rfl⟩)
    | (go_at_call 16; refine (Less32_any _ _ _).mono ?_; rintro e w' ⟨rfl, rfl⟩)
    | (go_at_call 19; refine (Near32_any _ _ _ (by omega) (by omega)).mono ?_; rintro e w' ⟨rfl, rfl⟩))
  go_ret
  exact ⟨rfl, rfl⟩

/-! ### The reference -/
theorem refFrom16 (a b : Int) (w : World) (a0 : 0 ≤ a) (a1 : a ≤ 65535) (b0 : 0 ≤ b) (b1 : b ≤ 65535) :
    Calls Try.prog 12 #[.int .i64 a, .int .i64 b, .int .i64 65536] w fun e w' => e = .returned (.int .i64 (far16 a b)) ∧ w = w' := by
  have HF : Hid (far16 a b = if b - a < -32768 then b - a + 65536 else if 32768 ≤ b - a then b - a - 65536 else b - a) := Lib.hid (by unfold far16; split <;> split <;> (try split) <;> omega)
  go_enter Try.func12, Try.ntmps12
  go_wp2
  all_goals
    go_ret
    refine ⟨ret_int ?_, rfl⟩
    rw [HF.out]
    repeat' (first | omega | split)
theorem refFrom32 (a b : Int) (w : World) (a0 : 0 ≤ a) (a1 : a ≤ 4294967295) (b0 : 0 ≤ b) (b1 : b ≤ 4294967295) :
    Calls Try.prog 12 #[.int .i64 a, .int .i64 b, .int .i64 4294967296] w fun e w' => e = .returned (.int .i64 (far32 a b)) ∧ w = w' := by
  have HF : Hid (far32 a b = if b - a < -2147483648 then b - a + 4294967296 else if 2147483648 ≤ b - a then b - a - 4294967296 else b - a) := Lib.hid (by unfold far32; split <;> split <;> (try split) <;> omega)
  go_enter Try.func12, Try.ntmps12
  go_wp2
  all_goals
    go_ret
    refine ⟨ret_int ?_, rfl⟩
    rw [HF.out]
    repeat' (first | omega | split)
theorem tmod_cases (x m : Int) : (0 ≤ x ∧ x.tmod m = x % m) ∨ (x < 0 ∧ x.tmod m = -((-x) % m)) := by
  by_cases h : 0 ≤ x
  · exact .inl ⟨h, Int.tmod_eq_emod_of_nonneg h⟩
  · refine .inr ⟨by omega, ?_⟩
    rw [← Int.tmod_eq_emod_of_nonneg (by omega), Int.neg_tmod, Int.neg_neg]
theorem refRest16 (x : Int) (w : World) (x0 : -1152921504606846976 ≤ x) (x1 : x ≤ 1152921504606846976) :
    Calls Try.prog 22 #[.int .i64 x, .int .i64 65536] w fun e w' => e = .returned (.int .i64 (x % 65536)) ∧ w = w' := by
  have hc := tmod_cases x 65536
  have h0 : -65536 < x.tmod 65536 := by omega
  have h1 : x.tmod 65536 < 65536 := by omega
  have hc := Lib.hid hc
  go_enter Try.func22, Try.ntmps22
  go_wp2
  all_goals
    go_ret
    refine ⟨ret_int ?_, rfl⟩
    have := hc.out
    omega
theorem refRest32 (x : Int) (w : World) (x0 : -1152921504606846976 ≤ x) (x1 : x ≤ 1152921504606846976) :
    Calls Try.prog 22 #[.int .i64 x, .int .i64 4294967296] w fun e w' => e = .returned (.int .i64 (x % 4294967296)) ∧ w = w' := by
  have hc := tmod_cases x 4294967296
  have h0 : -4294967296 < x.tmod 4294967296 := by omega
  have h1 : x.tmod 4294967296 < 4294967296 := by omega
  have hc := Lib.hid hc
  go_enter Try.func22, Try.ntmps22
  go_wp2
  all_goals
    go_ret
    refine ⟨ret_int ?_, rfl⟩
    have := hc.out
    omega
theorem refNear16 (l x : Int) (w : World) (l0 : -1152921504606846976 ≤ l) (l1 : l ≤ 1152921504606846976) (x0 : 0 ≤ x) (x1 : x ≤ 65535) :
    Calls Try.prog 18 #[.int .i64 l, .int .i64 x, .int .i64 65536] w fun e w' => e = .returned (.int .i64 (l + far16 (l % 65536) x)) ∧ w = w' := by
  obtain ⟨h2, h3⟩ := far16_bd (l % 65536) x
  go_enter Try.func18, Try.ntmps18
  go_wp2_with (first
    | (go_at_call 22; refine (refRest16 _ _ (by omega) (by omega)).mono ?_; rintro e w' ⟨rfl, rfl⟩)
    | (go_at_call 12; refine (refFrom16 _ _ _ (by omega) (by omega) (by omega) (by omega)).mono ?_; rintro e w' ⟨rfl, rfl⟩))
  go_ret
  exact ⟨rfl, rfl⟩
theorem refNear32 (l x : Int) (w : World) (l0 : -1152921504606846976 ≤ l) (l1 : l ≤ 1152921504606846976) (x0 : 0 ≤ x) (x1 : x ≤ 4294967295) :
    Calls Try.prog 18 #[.int .i64 l, .int .i64 x, .int .i64 4294967296] w fun e w' => e = .returned (.int .i64 (l + far32 (l % 4294967296) x)) ∧ w = w' := by
  obtain ⟨h2, h3⟩ := far32_bd (l % 4294967296) x
  go_enter Try.func18, Try.ntmps18
  go_wp2_with (first
    | (go_at_call 22; refine (refRest32 _ _ (by omega) (by omega)).mono ?_; rintro e w' ⟨rfl, rfl⟩)
    | (go_at_call 12; refine (refFrom32 _ _ _ (by omega) (by omega) (by omega) (by omega)).mono ?_; rintro e w' ⟨rfl, rfl⟩))
  go_ret
  exact ⟨rfl, rfl⟩

/-! ### The laws -/
theorem tells_walk (a b c d : Int) (w : World) (a0 : 0 ≤ a) (a1 : a ≤ 65535) (b0 : 0 ≤ b) (b1 : b ≤ 65535) (c0 : 0 ≤ c) (c1 : c ≤ 4294967295) (d0 : 0 ≤ d) (d1 : d ≤ 4294967295) :
    Calls Try.prog 3 #[.int .u16 a, .int .u16 b, .int .u32 c, .int .u32 d] w fun e w' => e = .returned (.bool true) ∧ w = w' := by
  obtain ⟨h0, h1⟩ := far16_bd a b
  obtain ⟨h2, h3⟩ := far32_bd c d
  go_enter Try.func3, Try.ntmps3
  go_wp2_with (first
    | (go_at_call 11; (with_reducible refine (awake_any _).mono ?_); rintro e w' ⟨rfl, rfl⟩)
    | (go_at_call 12; (with_reducible refine (refFrom16 _ _ _ (by omega) (by omega) (by omega) (by omega)).mono ?_); rintro e w' ⟨rfl, rfl⟩)
    | (go_at_call 12; (with_reducible refine (refFrom32 _ _ _ (by omega) (by omega) (by omega) (by omega)).mono ?_); rintro e w' ⟨rfl, rfl⟩)
    | (go_at_call 13; (with_reducible refine (From16_any _ _ _).mono ?_); rintro e w' ⟨rfl, rfl⟩)
    | (go_at_call 14; (with_reducible refine (From32_any _ _ _).mono ?_); rintro e w' ⟨rfl, rfl⟩)
    | (go_at_call 15; (with_reducible refine (Less16_any _ _ _).mono ?_); rintro e w' ⟨rfl, rfl⟩)
    | (go_at_call 16; (with_reducible refine (Less32_any _ _ _).mono ?_); rintro e w' ⟨rfl, rfl⟩))
  go_ret
  exact ⟨rfl, rfl⟩

theorem near_walk (l x y : Int) (w : World) (l0 : -9223372036854775808 ≤ l) (l1 : l ≤ 9223372036854775807) (x0 : 0 ≤ x) (x1 : x ≤ 65535) (y0 : 0 ≤ y) (y1 : y ≤ 4294967295) :
    Calls Try.prog 4 #[.int .i64 l, .int .u16 x, .int .u32 y] w fun e w' => e = .returned (.bool true) ∧ w = w' := by
  have e1 := u16_mod l
  go_enter Try.func4, Try.ntmps4
  go_wp2_with (first
    | (go_at_call 11; (with_reducible refine (awake_any _).mono ?_); rintro e w' ⟨rfl, rfl⟩)
    | (go_at_call 17; (with_reducible refine (Near16_any _ _ _ (by omega) (by omega)).mono ?_); rintro e w' ⟨rfl, rfl⟩)
    | (go_at_call 19; (with_reducible refine (Near32_any _ _ _ (by omega) (by omega)).mono ?_); rintro e w' ⟨rfl, rfl⟩)
    | (go_at_call 18; (with_reducible refine (refNear16 _ _ _ (by omega) (by omega) (by omega) (by omega)).mono ?_); rintro e w' ⟨rfl, rfl⟩)
    | (go_at_call 18; (with_reducible refine (refNear32 _ _ _ (by omega) (by omega) (by omega) (by omega)).mono ?_); rintro e w' ⟨rfl, rfl⟩))
  all_goals
    go_ret
    exact ⟨rfl, rfl⟩
theorem back_walk (a b c d : Int) (w : World) (a0 : 0 ≤ a) (a1 : a ≤ 65535) (b0 : 0 ≤ b) (b1 : b ≤ 65535) (c0 : 0 ≤ c) (c1 : c ≤ 4294967295) (d0 : 0 ≤ d) (d1 : d ≤ 4294967295) :
    Calls Try.prog 6 #[.int .u16 a, .int .u16 b, .int .u32 c, .int .u32 d] w fun e w' => e = .returned (.bool true) ∧ w = w' := by
  obtain ⟨h0, h1⟩ := far16_bd a b
  obtain ⟨h2, h3⟩ := far32_bd c d
  have e1 : IntKind.u16.wrap (a + IntKind.u16.wrap (far16 a b)) = b := by rw [u16_mod, u16_mod]; unfold far16; split <;> omega
  have e2 : (c + far32 c d % 4294967296) % 4294967296 = d := by unfold far32; split <;> omega
  go_enter Try.func6, Try.ntmps6
  go_wp2_with (first
    | (go_at_call 11; (with_reducible refine (awake_any _).mono ?_); rintro e w' ⟨rfl, rfl⟩)
    | (go_at_call 13; (with_reducible refine (From16_any _ _ _).mono ?_); rintro e w' ⟨rfl, rfl⟩)
    | (go_at_call 14; (with_reducible refine (From32_any _ _ _).mono ?_); rintro e w' ⟨rfl, rfl⟩))
  all_goals
    go_ret
    exact ⟨rfl, rfl⟩
theorem moves_walk (a b x c d y : Int) (w : World) (a0 : 0 ≤ a) (a1 : a ≤ 65535) (b0 : 0 ≤ b) (b1 : b ≤ 65535) (x0 : 0 ≤ x) (x1 : x ≤ 65535) (c0 : 0 ≤ c) (c1 : c ≤ 4294967295) (d0 : 0 ≤ d) (d1 : d ≤ 4294967295) (y0 : 0 ≤ y) (y1 : y ≤ 4294967295) :
    Calls Try.prog 8 #[.int .u16 a, .int .u16 b, .int .u16 x, .int .u32 c, .int .u32 d, .int .u32 y] w fun e w' => e = .returned (.bool true) ∧ w = w' := by
  have e1 : far16 (IntKind.u16.wrap (a + x)) (IntKind.u16.wrap (b + x)) = far16 a b := by
    rw [u16_mod, u16_mod]; unfold far16; rw [show ((b + x) % 65536 - (a + x) % 65536) % 65536 = (b - a) % 65536 by omega]
  have e2 : far32 ((c + y) % 4294967296) ((d + y) % 4294967296) = far32 c d := by
    unfold far32; rw [show ((d + y) % 4294967296 - (c + y) % 4294967296) % 4294967296 = (d - c) % 4294967296 by omega]
  go_enter Try.func8, Try.ntmps8
  go_wp2_with (first
    | (go_at_call 11; (with_reducible refine (awake_any _).mono ?_); rintro e w' ⟨rfl, rfl⟩)
    | (go_at_call 13; (with_reducible refine (From16_any _ _ _).mono ?_); rintro e w' ⟨rfl, rfl⟩)
    | (go_at_call 14; (with_reducible refine (From32_any _ _ _).mono ?_); rintro e w' ⟨rfl, rfl⟩))
  all_goals
    go_ret
    exact ⟨rfl, rfl⟩
theorem place_walk (l x y : Int) (w : World) (l0 : -9223372036854775808 ≤ l) (l1 : l ≤ 9223372036854775807) (x0 : 0 ≤ x) (x1 : x ≤ 65535) (y0 : 0 ≤ y) (y1 : y ≤ 4294967295) :
    Calls Try.prog 10 #[.int .i64 l, .int .u16 x, .int .u32 y] w fun e w' => e = .returned (.bool true) ∧ w = w' := by
  obtain ⟨h0, h1⟩ := far16_bd (IntKind.u16.wrap l) x
  obtain ⟨h2, h3⟩ := far32_bd (l % 4294967296) y
  have e1 : IntKind.u16.wrap (l + far16 (IntKind.u16.wrap l) x) = x := by rw [u16_mod, u16_mod]; unfold far16; split <;> omega
  have e2 : (l + far32 (l % 4294967296) y) % 4294967296 = y := by unfold far32; split <;> omega
  go_enter Try.func10, Try.ntmps10
  go_wp2_with (first
    | (go_at_call 11; (with_reducible refine (awake_any _).mono ?_); rintro e w' ⟨rfl, rfl⟩)
    | (go_at_call 17; (with_reducible refine (Near16_any _ _ _ (by omega) (by omega)).mono ?_); rintro e w' ⟨rfl, rfl⟩)
    | (go_at_call 19; (with_reducible refine (Near32_any _ _ _ (by omega) (by omega)).mono ?_); rintro e w' ⟨rfl, rfl⟩))
  all_goals
    go_ret
    refine ⟨ret_bool ?_, rfl⟩
    first | rfl | exact decide_eq_true (by omega)
theorem both_walk (l x : Int) (w : World) (l0 : -9223372036854775808 ≤ l) (l1 : l ≤ 9223372036854775807) (x0 : 0 ≤ x) (x1 : x ≤ 4294967295) :
    Calls Try.prog 9 #[.int .i64 l, .int .u32 x] w fun e w' => e = .returned (.bool true) ∧ w = w' := by
  obtain ⟨h2, h3⟩ := far32_bd (l % 4294967296) x
  have e1 : far32 (l % 4294967296) x ≤ 32767 → -32768 ≤ far32 (l % 4294967296) x → far16 (IntKind.u16.wrap l) (IntKind.u16.wrap x) = far32 (l % 4294967296) x := by
    rw [u16_mod, u16_mod]; unfold far16 far32; intro h4 h5; split <;> split at h4 <;> split at h5 <;> omega
  go_enter Try.func9, Try.ntmps9
  go_wp2_with (first
    | (go_at_call 11; (with_reducible refine (awake_any _).mono ?_); rintro e w' ⟨rfl, rfl⟩)
    | (go_at_call 17; (with_reducible refine (Near16_any _ _ _ (by omega) (by omega)).mono ?_); rintro e w' ⟨rfl, rfl⟩)
    | (go_at_call 19; (with_reducible refine (Near32_any _ _ _ (by omega) (by omega)).mono ?_); rintro e w' ⟨rfl, rfl⟩))
  all_goals
    go_ret
    refine ⟨ret_bool ?_, rfl⟩
    first | rfl | (rw [e1 (by omega) (by omega)]; exact beq_self_eq_true _)

end Go.Proofs.Ythdcpdojkmdmeaa
