/- How far it is between two numbers of 16 bits, as the program and as the reference compute it. No condition. -/
import Derived.Test.YtbfmcnidghjajaaPlain
import Derived.Test.YtbfmcnidghjajaaBits
import Derived.Test.YtbfmcnidghjajaaMem
namespace Go.Proofs.Ytbfmcnidghjajaa
set_option linter.unusedSimpArgs false
set_option linter.unusedVariables false
open Go.RowKit
theorem lit16 (x : Int) (w : World) (h0 : 0 ≤ x) (h1 : x ≤ 65535) : Calls Try.prog 25 #[.int .u16 x] w fun e w' => e = .returned (.int .i64 x) ∧ w = w' := by
  go_enter Try.func25, Try.ntmps25
  go_wp2
  go_ret
  exact ⟨rfl, rfl⟩
theorem from16_any (a b : Int) (w : World) : Calls Try.prog 22 #[.int .u16 a, .int .u16 b, .int .i64 32768] w fun e w' => e = .returned (.int .i64 (far16 a b)) ∧ w = w' := by
  have hd : 0 ≤ IntKind.u16.wrap (b - a) ∧ IntKind.u16.wrap (b - a) ≤ 65535 := by rw [u16_mod]; omega
  obtain ⟨h0, h1⟩ := hd
  have HF : Hid (far16 a b = if 32768 ≤ IntKind.u16.wrap (b - a) then IntKind.u16.wrap (b - a) - 65536 else IntKind.u16.wrap (b - a)) := Lib.hid (by rw [u16_mod]; rfl)
  go_enter Try.func22, Try.ntmps22
  go_wp2_with (go_at_call 25; refine (lit16 _ _ (by omega) (by omega)).mono ?_; rintro e w' ⟨rfl, rfl⟩)
  all_goals
    go_ret
    refine ⟨ret_int ?_, rfl⟩
    rw [HF.out]
    first | rw [if_pos (by assumption)] | rw [if_neg (by omega)]
theorem Near16_any (l x : Int) (w : World) (l0 : -1152921504606846976 ≤ l) (l1 : l ≤ 1152921504606846976) :
    Calls Try.prog 18 #[.int .i64 l, .int .u16 x] w fun e w' => e = .returned (.int .i64 (near16 l x)) ∧ w = w' := by
  have hb := far16_bd l x
  have HF : Hid (far16 (IntKind.u16.wrap l) x = far16 l x) := Lib.hid (by rw [u16_mod, far16_rest])
  have HN : Hid (near16 l x = l + far16 l x) := Lib.hid rfl
  go_enter Try.func18, Try.ntmps18
  go_wp2_with (go_at_call 22; (with_reducible refine (from16_any _ _ _).mono ?_); rintro e w' ⟨rfl, rfl⟩; rw [HF.out])
  go_ret
  exact ⟨ret_int (by rw [HN.out]), rfl⟩
theorem tmod_cases (x m : Int) : (0 ≤ x ∧ x.tmod m = x % m) ∨ (x < 0 ∧ x.tmod m = -((-x) % m)) := by
  by_cases h : 0 ≤ x
  · exact .inl ⟨h, Int.tmod_eq_emod_of_nonneg h⟩
  · refine .inr ⟨by omega, ?_⟩
    rw [← Int.tmod_eq_emod_of_nonneg (by omega), Int.neg_tmod, Int.neg_neg]
theorem refFrom16 (a b : Int) (w : World) (a0 : 0 ≤ a) (a1 : a ≤ 65535) (b0 : 0 ≤ b) (b1 : b ≤ 65535) :
    Calls Try.prog 23 #[.int .i64 a, .int .i64 b, .int .i64 65536] w fun e w' => e = .returned (.int .i64 (far16 a b)) ∧ w = w' := by
  have HF : Hid (far16 a b = if b - a < -32768 then b - a + 65536 else if 32768 ≤ b - a then b - a - 65536 else b - a) := Lib.hid (by unfold far16; split <;> split <;> (try split) <;> omega)
  go_enter Try.func23, Try.ntmps23
  go_wp2
  all_goals
    go_ret
    refine ⟨ret_int ?_, rfl⟩
    rw [HF.out]
    repeat' (first | omega | split)
theorem refRest16 (x : Int) (w : World) (x0 : -1152921504606846976 ≤ x) (x1 : x ≤ 1152921504606846976) :
    Calls Try.prog 24 #[.int .i64 x, .int .i64 65536] w fun e w' => e = .returned (.int .i64 (x % 65536)) ∧ w = w' := by
  have hc := tmod_cases x 65536
  have h0 : -65536 < x.tmod 65536 := by omega
  have h1 : x.tmod 65536 < 65536 := by omega
  have hc := Lib.hid hc
  go_enter Try.func24, Try.ntmps24
  go_wp2
  all_goals
    go_ret
    refine ⟨ret_int ?_, rfl⟩
    have := hc.out
    omega
theorem refNear16 (l x : Int) (w : World) (l0 : -1152921504606846976 ≤ l) (l1 : l ≤ 1152921504606846976) (x0 : 0 ≤ x) (x1 : x ≤ 65535) :
    Calls Try.prog 20 #[.int .i64 l, .int .i64 x, .int .i64 65536] w fun e w' => e = .returned (.int .i64 (near16 l x)) ∧ w = w' := by
  have hb := far16_bd l x
  have HF : Hid (far16 (l % 65536) x = far16 l x) := Lib.hid (far16_rest l x)
  have HN : Hid (near16 l x = l + far16 l x) := Lib.hid rfl
  go_enter Try.func20, Try.ntmps20
  go_wp2_with (first
    | (go_at_call 24; (with_reducible refine (refRest16 _ _ (by omega) (by omega)).mono ?_); rintro e w' ⟨rfl, rfl⟩)
    | (go_at_call 23; (with_reducible refine (refFrom16 _ _ _ (by omega) (by omega) (by omega) (by omega)).mono ?_); rintro e w' ⟨rfl, rfl⟩; rw [HF.out]))
  go_ret
  exact ⟨ret_int (by rw [HN.out]), rfl⟩
end Go.Proofs.Ytbfmcnidghjajaa
