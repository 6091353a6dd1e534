/- What the functions of package serial compute, as plain numbers. Conditions: the numbers fit their kinds. -/
import Derived.Test.YthdcpdojkmdmeaaProg
import Derived.WalkKit
import Derived.Lib.Hide
namespace Go.Proofs.Ythdcpdojkmdmeaa
open Go.RowKit

/-- How far it is from a number of 16 bits to another one. -/
def far16 (a b : Int) : Int := if 32768 ≤ (b - a) % 65536 then (b - a) % 65536 - 65536 else (b - a) % 65536
/-- How far it is from a number of 32 bits to another one. -/
def far32 (a b : Int) : Int := if 2147483648 ≤ (b - a) % 4294967296 then (b - a) % 4294967296 - 4294967296 else (b - a) % 4294967296

theorem u16_mod (n : Int) : IntKind.u16.wrap n = n % 65536 := by simp [IntKind.wrap, IntKind.bits, IntKind.signed]
theorem u32_mod (n : Int) : IntKind.u32.wrap n = n % 4294967296 := by rw [IntKind.wrap_u32]
theorem ret_int {k : IntKind} {a b : Int} (h : a = b) : Ending.returned (.int k a) = .returned (.int k b) := by rw [h]
theorem ret_bool {a b : Bool} (h : a = b) : Ending.returned (.bool a) = .returned (.bool b) := by rw [h]
theorem far16_bd (a b : Int) : -32768 ≤ far16 a b ∧ far16 a b ≤ 32767 := by unfold far16; split <;> omega
theorem far32_bd (a b : Int) : -2147483648 ≤ far32 a b ∧ far32 a b ≤ 2147483647 := by unfold far32; split <;> omega

theorem lit16 (x : Int) (w : World) (h0 : 0 ≤ x) (h1 : x ≤ 65535) : Calls Try.prog 23 #[.int .u16 x] w fun e w' => e = .returned (.int .i64 x) ∧ w = w' := by
  go_enter Try.func23, Try.ntmps23
  go_wp2
  go_ret
  exact ⟨rfl, rfl⟩
theorem lit32 (x : Int) (w : World) (h0 : 0 ≤ x) (h1 : x ≤ 4294967295) : Calls Try.prog 24 #[.int .u32 x] w fun e w' => e = .returned (.int .i64 x) ∧ w = w' := by
  go_enter Try.func24, Try.ntmps24
  go_wp2
  go_ret
  exact ⟨rfl, rfl⟩

theorem from16_any (a b : Int) (w : World) : Calls Try.prog 20 #[.int .u16 a, .int .u16 b, .int .i64 32768] w fun e w' => e = .returned (.int .i64 (far16 a b)) ∧ w = w' := by
  have hd : 0 ≤ IntKind.u16.wrap (b - a) ∧ IntKind.u16.wrap (b - a) ≤ 65535 := by rw [u16_mod]; omega
  obtain ⟨h0, h1⟩ := hd
  have HF : Hid (far16 a b = if 32768 ≤ IntKind.u16.wrap (b - a) then IntKind.u16.wrap (b - a) - 65536 else IntKind.u16.wrap (b - a)) := Lib.hid (by rw [u16_mod]; rfl)
  go_enter Try.func20, Try.ntmps20
  go_wp2_with (go_at_call 23; refine (lit16 _ _ (by omega) (by omega)).mono ?_; rintro e w' ⟨rfl, rfl⟩)
  all_goals
    go_ret
    refine ⟨ret_int ?_, rfl⟩
    rw [HF.out]
    first | rw [if_pos (by assumption)] | rw [if_neg (by omega)]
theorem from32_any (a b : Int) (w : World) : Calls Try.prog 21 #[.int .u32 a, .int .u32 b, .int .i64 2147483648] w fun e w' => e = .returned (.int .i64 (far32 a b)) ∧ w = w' := by
  have hd : 0 ≤ (b - a) % 4294967296 ∧ (b - a) % 4294967296 ≤ 4294967295 := by omega
  obtain ⟨h0, h1⟩ := hd
  have HF : Hid (far32 a b = if 2147483648 ≤ (b - a) % 4294967296 then (b - a) % 4294967296 - 4294967296 else (b - a) % 4294967296) := Lib.hid rfl
  go_enter Try.func21, Try.ntmps21
  go_wp2_with (go_at_call 24; refine (lit32 _ _ (by omega) (by omega)).mono ?_; rintro e w' ⟨rfl, rfl⟩)
  all_goals
    go_ret
    refine ⟨ret_int ?_, rfl⟩
    rw [HF.out]
    first | rw [if_pos (by assumption)] | rw [if_neg (by omega)]

theorem From16_any (a b : Int) (w : World) : Calls Try.prog 13 #[.int .u16 a, .int .u16 b] w fun e w' => e = .returned (.int .i64 (far16 a b)) ∧ w = w' := by
  obtain ⟨h0, h1⟩ := far16_bd a b
  go_enter Try.func13, Try.ntmps13
  go_wp2_with (go_at_call 20; refine (from16_any _ _ _).mono ?_; rintro e w' ⟨rfl, rfl⟩)
  go_ret
  exact ⟨rfl, rfl⟩
theorem From32_any (a b : Int) (w : World) : Calls Try.prog 14 #[.int .u32 a, .int .u32 b] w fun e w' => e = .returned (.int .i64 (far32 a b)) ∧ w = w' := by
  obtain ⟨h0, h1⟩ := far32_bd a b
  go_enter Try.func14, Try.ntmps14
  go_wp2_with (go_at_call 21; refine (from32_any _ _ _).mono ?_; rintro e w' ⟨rfl, rfl⟩)
  go_ret
  exact ⟨rfl, rfl⟩
theorem Less16_any (a b : Int) (w : World) : Calls Try.prog 15 #[.int .u16 a, .int .u16 b] w fun e w' => e = .returned (.bool (decide (0 < far16 a b))) ∧ w = w' := by
  go_enter Try.func15, Try.ntmps15
  go_wp2_with (go_at_call 13; refine (From16_any _ _ _).mono ?_; rintro e w' ⟨rfl, rfl⟩)
  go_ret
  exact ⟨rfl, rfl⟩
theorem Less32_any (a b : Int) (w : World) : Calls Try.prog 16 #[.int .u32 a, .int .u32 b] w fun e w' => e = .returned (.bool (decide (0 < far32 a b))) ∧ w = w' := by
  go_enter Try.func16, Try.ntmps16
  go_wp2_with (go_at_call 14; refine (From32_any _ _ _).mono ?_; rintro e w' ⟨rfl, rfl⟩)
  go_ret
  exact ⟨rfl, rfl⟩
theorem Near16_any (l x : Int) (w : World) (h0 : -1152921504606846976 ≤ l) (h1 : l ≤ 1152921504606846976) :
    Calls Try.prog 17 #[.int .i64 l, .int .u16 x] w fun e w' => e = .returned (.int .i64 (l + far16 (IntKind.u16.wrap l) x)) ∧ w = w' := by
  obtain ⟨h2, h3⟩ := far16_bd (IntKind.u16.wrap l) x
  go_enter Try.func17, Try.ntmps17
  go_wp2_with (go_at_call 20; refine (from16_any _ _ _).mono ?_; rintro e w' ⟨rfl, rfl⟩)
  go_ret
  exact ⟨rfl, rfl⟩
theorem Near32_any (l x : Int) (w : World) (h0 : -1152921504606846976 ≤ l) (h1 : l ≤ 1152921504606846976) :
    Calls Try.prog 19 #[.int .i64 l, .int .u32 x] w fun e w' => e = .returned (.int .i64 (l + far32 (l % 4294967296) x)) ∧ w = w' := by
  obtain ⟨h2, h3⟩ := far32_bd (l % 4294967296) x
  go_enter Try.func19, Try.ntmps19
  go_wp2_with (go_at_call 21; refine (from32_any _ _ _).mono ?_; rintro e w' ⟨rfl, rfl⟩)
  go_ret
  exact ⟨rfl, rfl⟩
end Go.Proofs.Ythdcpdojkmdmeaa
