/- How far it is between numbers, as the program and as the reference compute it. No condition but that numbers are small. -/
import Derived.Test.YtidpkmabcndknaaPlain
import Derived.Test.YtidpkmabcndknaaBits
import Derived.Test.YtidpkmabcndknaaMem
import Derived.Deep.RegionHeld3
namespace Go.Proofs.Ytidpkmabcndknaa
set_option linter.unusedSimpArgs false
set_option linter.unusedVariables false
open Go.RowKit

theorem i64_in (x : Int) (h0 : -9000000000000000000 ≤ x) (h1 : x ≤ 9000000000000000000) : IntKind.i64.wrap x = x := by
  simp [IntKind.wrap, IntKind.bits, IntKind.signed]
  omega
theorem u32_mod (x : Int) : IntKind.u32.wrap x = x % 4294967296 := by simp [IntKind.wrap, IntKind.bits, IntKind.signed]
theorem u8_mod (x : Int) : IntKind.u8.wrap x = x % 256 := by simp [IntKind.wrap, IntKind.bits, IntKind.signed]
theorem lit16 (x : Int) (w : World) (h0 : 0 ≤ x) (h1 : x ≤ 65535) : Calls Try.prog 36 #[.int .u16 x] w fun e w' => e = .returned (.int .i64 x) ∧ w = w' := by
  go_enter Try.func36, Try.ntmps36
  go_wp2
  go_ret
  exact ⟨rfl, rfl⟩
theorem lit32 (x : Int) (w : World) (h0 : 0 ≤ x) (h1 : x ≤ 4294967295) : Calls Try.prog 35 #[.int .u32 x] w fun e w' => e = .returned (.int .i64 x) ∧ w = w' := by
  go_enter Try.func35, Try.ntmps35
  go_wp2
  go_ret
  exact ⟨rfl, rfl⟩
theorem from16_any (a b : Int) (w : World) : Calls Try.prog 34 #[.int .u16 a, .int .u16 b, .int .i64 32768] w fun e w' => e = .returned (.int .i64 (far16 a b)) ∧ w = w' := by
  have hd : 0 ≤ IntKind.u16.wrap (b - a) ∧ IntKind.u16.wrap (b - a) ≤ 65535 := by rw [u16_mod]; omega
  obtain ⟨h0, h1⟩ := hd
  have HF : Hid (far16 a b = if 32768 ≤ IntKind.u16.wrap (b - a) then IntKind.u16.wrap (b - a) - 65536 else IntKind.u16.wrap (b - a)) := Lib.hid (by rw [u16_mod]; rfl)
  go_enter Try.func34, Try.ntmps34
  go_wp2_with (go_at_call 36; refine (lit16 _ _ (by omega) (by omega)).mono ?_; rintro e w' ⟨rfl, rfl⟩)
  all_goals
    go_ret
    refine ⟨ret_int ?_, rfl⟩
    rw [HF.out]
    first | rw [if_pos (by assumption)] | rw [if_neg (by omega)]
theorem from32_any (a b : Int) (w : World) : Calls Try.prog 33 #[.int .u32 a, .int .u32 b, .int .i64 2147483648] w fun e w' => e = .returned (.int .i64 (far32 a b)) ∧ w = w' := by
  have hd : 0 ≤ (b - a) % 4294967296 ∧ (b - a) % 4294967296 ≤ 4294967295 := by omega
  obtain ⟨h0, h1⟩ := hd
  have HF : Hid (far32 a b = if 2147483648 ≤ (b - a) % 4294967296 then (b - a) % 4294967296 - 4294967296 else (b - a) % 4294967296) := Lib.hid rfl
  go_enter Try.func33, Try.ntmps33
  go_wp2_with (go_at_call 35; refine (lit32 _ _ (by omega) (by omega)).mono ?_; rintro e w' ⟨rfl, rfl⟩)
  all_goals
    go_ret
    refine ⟨ret_int ?_, rfl⟩
    rw [HF.out]
    first | rw [if_pos (by assumption)] | rw [if_neg (by omega)]
theorem From16_any (a b : Int) (w : World) : Calls Try.prog 30 #[.int .u16 a, .int .u16 b] w fun e w' => e = .returned (.int .i64 (far16 a b)) ∧ w = w' := by
  obtain ⟨h0, h1⟩ := far16_bd a b
  go_enter Try.func30, Try.ntmps30
  go_wp2_with (go_at_call 34; refine (from16_any _ _ _).mono ?_; rintro e w' ⟨rfl, rfl⟩)
  go_ret
  exact ⟨rfl, rfl⟩
theorem From32_any (a b : Int) (w : World) : Calls Try.prog 29 #[.int .u32 a, .int .u32 b] w fun e w' => e = .returned (.int .i64 (far32 a b)) ∧ w = w' := by
  obtain ⟨h0, h1⟩ := far32_bd a b
  go_enter Try.func29, Try.ntmps29
  go_wp2_with (go_at_call 33; refine (from32_any _ _ _).mono ?_; rintro e w' ⟨rfl, rfl⟩)
  go_ret
  exact ⟨rfl, rfl⟩
theorem Less16_any (a b : Int) (w : World) : Calls Try.prog 20 #[.int .u16 a, .int .u16 b] w fun e w' => e = .returned (.bool (decide (0 < far16 a b))) ∧ w = w' := by
  go_enter Try.func20, Try.ntmps20
  go_wp2_with (go_at_call 30; refine (From16_any _ _ _).mono ?_; rintro e w' ⟨rfl, rfl⟩)
  go_ret
  exact ⟨rfl, rfl⟩
theorem Less32_any (a b : Int) (w : World) : Calls Try.prog 19 #[.int .u32 a, .int .u32 b] w fun e w' => e = .returned (.bool (decide (0 < far32 a b))) ∧ w = w' := by
  go_enter Try.func19, Try.ntmps19
  go_wp2_with (go_at_call 29; refine (From32_any _ _ _).mono ?_; rintro e w' ⟨rfl, rfl⟩)
  go_ret
  exact ⟨rfl, rfl⟩
theorem Near16_any (l x : Int) (w : World) (l0 : -1152921504606846976 ≤ l) (l1 : l ≤ 1152921504606846976) :
    Calls Try.prog 31 #[.int .i64 l, .int .u16 x] w fun e w' => e = .returned (.int .i64 (near16 l x)) ∧ w = w' := by
  have hb := far16_bd l x
  have HF : Hid (far16 (IntKind.u16.wrap l) x = far16 l x) := Lib.hid (by rw [u16_mod, far16_rest])
  have HN : Hid (near16 l x = l + far16 l x) := Lib.hid rfl
  go_enter Try.func31, Try.ntmps31
  go_wp2_with (go_at_call 34; (with_reducible refine (from16_any _ _ _).mono ?_); rintro e w' ⟨rfl, rfl⟩; rw [HF.out])
  go_ret
  exact ⟨ret_int (by rw [HN.out]), rfl⟩
theorem tmod_cases (x m : Int) : (0 ≤ x ∧ x.tmod m = x % m) ∨ (x < 0 ∧ x.tmod m = -((-x) % m)) := by
  by_cases h : 0 ≤ x
  · exact .inl ⟨h, Int.tmod_eq_emod_of_nonneg h⟩
  · refine .inr ⟨by omega, ?_⟩
    rw [← Int.tmod_eq_emod_of_nonneg (by omega), Int.neg_tmod, Int.neg_neg]
theorem refFrom16 (a b : Int) (w : World) (a0 : 0 ≤ a) (a1 : a ≤ 65535) (b0 : 0 ≤ b) (b1 : b ≤ 65535) :
    Calls Try.prog 27 #[.int .i64 a, .int .i64 b, .int .i64 65536] w fun e w' => e = .returned (.int .i64 (far16 a b)) ∧ w = w' := by
  have HF : Hid (far16 a b = if b - a < -32768 then b - a + 65536 else if 32768 ≤ b - a then b - a - 65536 else b - a) := Lib.hid (by unfold far16; split <;> split <;> (try split) <;> omega)
  go_enter Try.func27, Try.ntmps27
  go_wp2
  all_goals
    go_ret
    refine ⟨ret_int ?_, rfl⟩
    rw [HF.out]
    repeat' (first | omega | split)
theorem refFrom32 (a b : Int) (w : World) (a0 : 0 ≤ a) (a1 : a ≤ 4294967295) (b0 : 0 ≤ b) (b1 : b ≤ 4294967295) :
    Calls Try.prog 27 #[.int .i64 a, .int .i64 b, .int .i64 4294967296] w fun e w' => e = .returned (.int .i64 (far32 a b)) ∧ w = w' := by
  have HF : Hid (far32 a b = if b - a < -2147483648 then b - a + 4294967296 else if 2147483648 ≤ b - a then b - a - 4294967296 else b - a) := Lib.hid (by unfold far32; split <;> split <;> (try split) <;> omega)
  go_enter Try.func27, Try.ntmps27
  go_wp2
  all_goals
    go_ret
    refine ⟨ret_int ?_, rfl⟩
    rw [HF.out]
    repeat' (first | omega | split)
theorem rest (x : Int) (w : World) (x0 : -1152921504606846976 ≤ x) (x1 : x ≤ 1152921504606846976) :
    Calls Try.prog 32 #[.int .i64 x, .int .i64 65536] w fun e w' => e = .returned (.int .i64 (x % 65536)) ∧ w = w' := by
  have hc := tmod_cases x 65536
  have h0 : -65536 < x.tmod 65536 := by omega
  have h1 : x.tmod 65536 < 65536 := by omega
  have hc := Lib.hid hc
  go_enter Try.func32, Try.ntmps32
  go_wp2
  all_goals
    go_ret
    refine ⟨ret_int ?_, rfl⟩
    have := hc.out
    omega
theorem refRest16 (x : Int) (w : World) (x0 : -1152921504606846976 ≤ x) (x1 : x ≤ 1152921504606846976) :
    Calls Try.prog 28 #[.int .i64 x, .int .i64 65536] w fun e w' => e = .returned (.int .i64 (x % 65536)) ∧ w = w' := by
  have hc := tmod_cases x 65536
  have h0 : -65536 < x.tmod 65536 := by omega
  have h1 : x.tmod 65536 < 65536 := by omega
  have hc := Lib.hid hc
  go_enter Try.func28, Try.ntmps28
  go_wp2
  all_goals
    go_ret
    refine ⟨ret_int ?_, rfl⟩
    have := hc.out
    omega
theorem refRest32 (x : Int) (w : World) (x0 : -1152921504606846976 ≤ x) (x1 : x ≤ 1152921504606846976) :
    Calls Try.prog 28 #[.int .i64 x, .int .i64 4294967296] w fun e w' => e = .returned (.int .i64 (x % 4294967296)) ∧ w = w' := by
  have hc := tmod_cases x 4294967296
  have h0 : -4294967296 < x.tmod 4294967296 := by omega
  have h1 : x.tmod 4294967296 < 4294967296 := by omega
  have hc := Lib.hid hc
  go_enter Try.func28, Try.ntmps28
  go_wp2
  all_goals
    go_ret
    refine ⟨ret_int ?_, rfl⟩
    have := hc.out
    omega
theorem refRest8 (x : Int) (w : World) (x0 : -1152921504606846976 ≤ x) (x1 : x ≤ 1152921504606846976) :
    Calls Try.prog 28 #[.int .i64 x, .int .i64 256] w fun e w' => e = .returned (.int .i64 (x % 256)) ∧ w = w' := by
  have hc := tmod_cases x 256
  have h0 : -256 < x.tmod 256 := by omega
  have h1 : x.tmod 256 < 256 := by omega
  have hc := Lib.hid hc
  go_enter Try.func28, Try.ntmps28
  go_wp2
  all_goals
    go_ret
    refine ⟨ret_int ?_, rfl⟩
    have := hc.out
    omega
theorem refNear16 (l x : Int) (w : World) (l0 : -1152921504606846976 ≤ l) (l1 : l ≤ 1152921504606846976) (x0 : 0 ≤ x) (x1 : x ≤ 65535) :
    Calls Try.prog 26 #[.int .i64 l, .int .i64 x, .int .i64 65536] w fun e w' => e = .returned (.int .i64 (near16 l x)) ∧ w = w' := by
  have hb := far16_bd l x
  have HF : Hid (far16 (l % 65536) x = far16 l x) := Lib.hid (far16_rest l x)
  have HN : Hid (near16 l x = l + far16 l x) := Lib.hid rfl
  go_enter Try.func26, Try.ntmps26
  go_wp2_with (first
    | (go_at_call 32; (with_reducible refine (rest _ _ (by omega) (by omega)).mono ?_); rintro e w' ⟨rfl, rfl⟩)
    | (go_at_call 27; (with_reducible refine (refFrom16 _ _ _ (by omega) (by omega) (by omega) (by omega)).mono ?_); rintro e w' ⟨rfl, rfl⟩; rw [HF.out]))
  go_ret
  exact ⟨ret_int (by rw [HN.out]), rfl⟩
end Go.Proofs.Ytidpkmabcndknaa
