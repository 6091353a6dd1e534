/- The law SerialOne, walked. -/
import Derived.Test.YthdcpdojkmdmeaaLaws
namespace Go.Proofs.Ythdcpdojkmdmeaa
open Go.RowKit
theorem cases16 (a b : Int) (a0 : 0 ≤ a) (a1 : a ≤ 65535) (b0 : 0 ≤ b) (b1 : b ≤ 65535) :
    (a = b ∧ far16 a b = 0) ∨ ((a == b) = false ∧ (a != b) = true ∧ (b == a) = false ∧ IntKind.u16.wrap (b - a) = 32768) ∨
    ((a == b) = false ∧ (a != b) = true ∧ (IntKind.u16.wrap (b - a) != 32768) = true ∧ 0 < far16 a b ∧ ¬ 0 < far16 b a) ∨
    ((a == b) = false ∧ (a != b) = true ∧ (IntKind.u16.wrap (b - a) != 32768) = true ∧ ¬ 0 < far16 a b ∧ 0 < far16 b a) := by
  rw [u16_mod]
  simp only [beq_eq_false_iff_ne, bne_iff_ne]
  unfold far16
  split <;> split <;> omega
theorem cases32 (a b : Int) (a0 : 0 ≤ a) (a1 : a ≤ 4294967295) (b0 : 0 ≤ b) (b1 : b ≤ 4294967295) :
    (a = b ∧ far32 a b = 0) ∨ ((a == b) = false ∧ (a != b) = true ∧ (b == a) = false ∧ (b - a) % 4294967296 = 2147483648) ∨
    ((a == b) = false ∧ (a != b) = true ∧ ((b - a) % 4294967296 != 2147483648) = true ∧ 0 < far32 a b ∧ ¬ 0 < far32 b a) ∨
    ((a == b) = false ∧ (a != b) = true ∧ ((b - a) % 4294967296 != 2147483648) = true ∧ ¬ 0 < far32 a b ∧ 0 < far32 b a) := by
  simp only [beq_eq_false_iff_ne, bne_iff_ne]
  unfold far32
  split <;> split <;> omega
set_option maxHeartbeats 2000000 in
theorem one_walk (a b c d : Int) (w : World) (a0 : 0 ≤ a) (a1 : a ≤ 65535) (b0 : 0 ≤ b) (b1 : b ≤ 65535) (c0 : 0 ≤ c) (c1 : c ≤ 4294967295) (d0 : 0 ≤ d) (d1 : d ≤ 4294967295) :
    Calls Try.prog 5 #[.int .u16 a, .int .u16 b, .int .u32 c, .int .u32 d] w fun e w' => e = .returned (.bool true) ∧ w = w' := by
  have e1 : far16 a (IntKind.u16.wrap (a + 1)) = 1 := by rw [u16_mod]; unfold far16; split <;> omega
  have e2 : far16 (IntKind.u16.wrap (a + 1)) a = -1 := by rw [u16_mod]; unfold far16; split <;> omega
  have e3 : far32 c ((c + 1) % 4294967296) = 1 := by unfold far32; split <;> omega
  have e4 : far32 ((c + 1) % 4294967296) c = -1 := by unfold far32; split <;> omega
  rcases cases16 a b a0 a1 b0 b1 with ⟨rfl, h1⟩ | ⟨h1, h2, h3, h4⟩ | ⟨h1, h2, h3, h4, h5⟩ | ⟨h1, h2, h3, h4, h5⟩
  all_goals rcases cases32 c d c0 c1 d0 d1 with ⟨rfl, g1⟩ | ⟨g1, g2, g3, g4⟩ | ⟨g1, g2, g3, g4, g5⟩ | ⟨g1, g2, g3, g4, g5⟩
  all_goals
    go_enter Try.func5, Try.ntmps5
    go_wp2_with (first
      | (go_at_call 11; (with_reducible refine (awake_any _).mono ?_); rintro e w' ⟨rfl, rfl⟩)
      | (go_at_call 13; (with_reducible refine (From16_any _ _ _).mono ?_); rintro e w' ⟨rfl, rfl⟩)
      | (go_at_call 14; (with_reducible refine (From32_any _ _ _).mono ?_); rintro e w' ⟨rfl, rfl⟩)
      | (go_at_call 15; (with_reducible refine (Less16_any _ _ _).mono ?_); rintro e w' ⟨rfl, rfl⟩)
      | (go_at_call 16; (with_reducible refine (Less32_any _ _ _).mono ?_); rintro e w' ⟨rfl, rfl⟩))
    all_goals
      go_ret
      exact ⟨rfl, rfl⟩
end Go.Proofs.Ythdcpdojkmdmeaa
