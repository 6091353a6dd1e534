/- The law SerialFollows, walked: a loop over a slice of numbers of 16 bits. -/
import Derived.Test.YthdcpdojkmdmeaaLaws
namespace Go.Proofs.Ythdcpdojkmdmeaa
open Go.RowKit
theorem far16_step (n z : Int) (h0 : -32768 ≤ z) (h1 : z ≤ 32767) : far16 (IntKind.u16.wrap n) (IntKind.u16.wrap (n + z)) = z := by
  rw [u16_mod, u16_mod]; unfold far16; split <;> omega
theorem far32_step (n z : Int) (h0 : -32768 ≤ z) (h1 : z ≤ 32767) : far32 (n % 4294967296) ((n + z) % 4294967296) = z := by
  unfold far32; split <;> omega
theorem follows_walk (x : Int) (A : Option Addr) (len cap : Nat) (z : Nat → Int) (w : World) (x0 : 0 ≤ x) (x1 : x ≤ 4294967295) (hl : len ≤ 9223372036854775807)
    (hz : ∀ i, i < len → ∃ b o, A = some ⟨b, o, none⟩ ∧ w.cell? ⟨b, o + i, none⟩ = some (.int .i16 (z i)) ∧ -32768 ≤ z i ∧ z i ≤ 32767) :
    Calls Try.prog 7 #[.int .u32 x, .slice A len cap] w fun e w' => e = .returned (.bool true) ∧ w = w' := by
  by_cases hlen : 300 < len
  · clear hz
    go_enter Try.func7, Try.ntmps7
    go_wp2_with (go_at_call 11; (with_reducible refine (awake_any _).mono ?_); rintro e w' ⟨rfl, rfl⟩)
    go_ret
    exact ⟨rfl, rfl⟩
  have HZ := Lib.hid hz
  clear hz
  go_enter Try.func7, Try.ntmps7
  go_wp2_with (go_at_call 11; (with_reducible refine (awake_any _).mono ?_); rintro e w' ⟨rfl, rfl⟩)
  go_loop [6, 7, 8, 9] (fun now a b i => ∃ (k : Nat) (n : Int), k ≤ len ∧ -32768 * k ≤ n - x ∧ n - x ≤ 32767 * k ∧ i = .int .i64 k ∧ now = .int .i64 n ∧ a = .int .i64 n ∧ b = .int .i64 n) (fun _ _ _ i => len - (intOf i).toNat)
  case atStart => exact ⟨0, x, by omega, by omega, by omega, rfl, rfl, rfl, rfl⟩
  case round =>
    obtain ⟨k, n, hk, n0, n1, rfl, rfl, rfl, rfl⟩ := hrel
    by_cases hlt : k < len
    · obtain ⟨b, o, rfl, hc, z0, z1⟩ := HZ.out k hlt
      generalize z k = zk at *
      have e1 := far16_step n zk z0 z1
      have e2 := far32_step n zk z0 z1
      go_wp2_with (first
        | (go_at_call 17; (with_reducible refine (Near16_any _ _ _ (by omega) (by omega)).mono ?_); rintro e w' ⟨rfl, rfl⟩)
        | (go_at_call 19; (with_reducible refine (Near32_any _ _ _ (by omega) (by omega)).mono ?_); rintro e w' ⟨rfl, rfl⟩))
      go_round
      case rel => exact ⟨k + 1, n + zk, by omega, by omega, by omega, by go_num, rfl, rfl, rfl⟩
      case measure => simp [intOf]; omega
    · go_wp2
      go_ret
      exact ⟨rfl, rfl⟩
end Go.Proofs.Ythdcpdojkmdmeaa
