/- How far it is between two numbers of 16 bits, as the program computes it. Conditions: none. -/
import Derived.Test.YtfcocnmghmhflaaBits
import Derived.Test.YtfcocnmghmhflaaMem
import Derived.Lib.Hide
import Derived.Test.YtfcocnmghmhflaaProg
namespace Go.Proofs.Ytfcocnmghmhflaa
set_option linter.unusedSimpArgs false
set_option linter.unusedVariables false
open Go.RowKit

/-- How far it is from a number of 16 bits to another one. -/
def far16 (a b : Int) : Int := if 32768 ≤ (b - a) % 65536 then (b - a) % 65536 - 65536 else (b - a) % 65536
theorem far16_bd (a b : Int) : -32768 ≤ far16 a b ∧ far16 a b ≤ 32767 := by unfold far16; split <;> omega
theorem lit16 (x : Int) (w : World) (h0 : 0 ≤ x) (h1 : x ≤ 65535) : Calls Try.prog 16 #[.int .u16 x] w fun e w' => e = .returned (.int .i64 x) ∧ w = w' := by
  go_enter Try.func16, Try.ntmps16
  go_wp2
  go_ret
  exact ⟨rfl, rfl⟩
theorem from16_any (a b : Int) (w : World) : Calls Try.prog 15 #[.int .u16 a, .int .u16 b, .int .i64 32768] w fun e w' => e = .returned (.int .i64 (far16 a b)) ∧ w = w' := by
  have hd : 0 ≤ IntKind.u16.wrap (b - a) ∧ IntKind.u16.wrap (b - a) ≤ 65535 := by rw [u16_mod]; omega
  obtain ⟨h0, h1⟩ := hd
  have HF : Hid (far16 a b = if 32768 ≤ IntKind.u16.wrap (b - a) then IntKind.u16.wrap (b - a) - 65536 else IntKind.u16.wrap (b - a)) := Lib.hid (by rw [u16_mod]; rfl)
  go_enter Try.func15, Try.ntmps15
  go_wp2_with (go_at_call 16; refine (lit16 _ _ (by omega) (by omega)).mono ?_; rintro e w' ⟨rfl, rfl⟩)
  all_goals
    go_ret
    refine ⟨ret_int ?_, rfl⟩
    rw [HF.out]
    first | rw [if_pos (by assumption)] | rw [if_neg (by omega)]
theorem From16_any (a b : Int) (w : World) : Calls Try.prog 14 #[.int .u16 a, .int .u16 b] w fun e w' => e = .returned (.int .i64 (far16 a b)) ∧ w = w' := by
  obtain ⟨h0, h1⟩ := far16_bd a b
  go_enter Try.func14, Try.ntmps14
  go_wp2_with (go_at_call 15; refine (from16_any _ _ _).mono ?_; rintro e w' ⟨rfl, rfl⟩)
  go_ret
  exact ⟨rfl, rfl⟩
end Go.Proofs.Ytfcocnmghmhflaa
