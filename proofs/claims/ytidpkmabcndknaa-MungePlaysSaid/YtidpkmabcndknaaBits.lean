/- Bits of small unsigned numbers, as plain arithmetic. No condition. -/
import Derived.WalkKit
namespace Go.Proofs.Ytidpkmabcndknaa
set_option linter.unusedSimpArgs false
set_option linter.unusedVariables false

theorem u16_mod (x : Int) : IntKind.u16.wrap x = x % 65536 := by simp [IntKind.wrap, IntKind.bits, IntKind.signed]
theorem i64_same (x : Int) (h0 : 0 ≤ x) (h1 : x < 65536) : IntKind.i64.wrap x = x := by
  simp [IntKind.wrap, IntKind.bits, IntKind.signed]
  omega
theorem ofInt16 (a : Nat) (ha : a < 65536) : (BitVec.ofInt 16 (a : Int)).toNat = a := by
  rw [BitVec.toNat_ofInt]
  omega
theorem u16_wrap_nat (a : Nat) (ha : a < 65536) : IntKind.u16.wrap (a : Int) = a := by
  simp [IntKind.wrap, IntKind.bits, IntKind.signed]
  omega
theorem bits_and_u16 (a b : Nat) (ha : a < 65536) (hb : b < 65536) : bits .and .u16 (a : Int) (b : Int) = ((a &&& b : Nat) : Int) := by
  show IntKind.u16.wrap ((BitVec.ofInt 16 (a : Int) &&& BitVec.ofInt 16 (b : Int)).toNat : Int) = _
  rw [BitVec.toNat_and, ofInt16 a ha, ofInt16 b hb]
  exact u16_wrap_nat _ (Nat.lt_of_le_of_lt Nat.and_le_left ha)
theorem bits_or_u16 (a b : Nat) (ha : a < 65536) (hb : b < 65536) : bits .or .u16 (a : Int) (b : Int) = ((a ||| b : Nat) : Int) := by
  show IntKind.u16.wrap ((BitVec.ofInt 16 (a : Int) ||| BitVec.ofInt 16 (b : Int)).toNat : Int) = _
  rw [BitVec.toNat_or, ofInt16 a ha, ofInt16 b hb]
  exact u16_wrap_nat _ (Nat.or_lt_two_pow (n := 16) ha hb)
theorem and_one_u16 (x : Int) (h0 : 0 ≤ x) (h1 : x < 65536) : bits .and .u16 x 1 = x % 2 := by
  have := bits_and_u16 x.toNat 1 (by omega) (by omega)
  rw [Nat.and_one_is_mod, show ((x.toNat : Nat) : Int) = x by omega] at this
  rw [show ((1 : Nat) : Int) = 1 from rfl] at this
  rw [this]
  omega
/-- A bit of a sum of a higher part, the bit's place, and a lower part. -/
theorem or_bit (m i : Nat) (h : m / 2 ^ i % 2 = 0) : m ||| 2 ^ i = m + 2 ^ i := by
  have hr : m % 2 ^ i < 2 ^ i := Nat.mod_lt _ (Nat.two_pow_pos i)
  have hm : m = 2 ^ i * (2 * (m / 2 ^ i / 2)) + m % 2 ^ i := by
    have h1 := Nat.div_add_mod m (2 ^ i)
    have h2 := Nat.div_add_mod (m / 2 ^ i) 2
    rw [h, Nat.add_zero] at h2
    rw [h2]
    exact h1.symm
  generalize m % 2 ^ i = r at *
  generalize m / 2 ^ i / 2 = q at *
  clear h
  subst hm
  rw [show 2 ^ i * (2 * q) + r + 2 ^ i = 2 ^ i * (2 * q + 1) + r by rw [Nat.mul_add, Nat.mul_one]; omega]
  apply Nat.eq_of_testBit_eq
  intro j
  rw [Nat.testBit_or, Nat.testBit_two_pow, Nat.testBit_two_pow_mul_add _ hr, Nat.testBit_two_pow_mul_add _ hr]
  by_cases hj : j < i
  · rw [if_pos hj, if_pos hj]
    simp
    omega
  · rw [if_neg hj, if_neg hj]
    by_cases e : i = j
    · subst e
      simp [Nat.testBit_zero, Nat.mul_add_mod]
    · obtain ⟨d, hd⟩ : ∃ d, j - i = d + 1 := ⟨j - i - 1, by omega⟩
      rw [hd, Nat.testBit_succ, Nat.testBit_succ, show 2 * q / 2 = q by omega, show (2 * q + 1) / 2 = q by omega]
      simp [e]
theorem or_bit_set (m i : Nat) (h : m / 2 ^ i % 2 = 1) : m ||| 2 ^ i = m := by
  apply Nat.eq_of_testBit_eq
  intro j
  rw [Nat.testBit_or, Nat.testBit_two_pow]
  by_cases e : i = j
  · subst e
    have : m.testBit i = true := by rw [Nat.testBit_eq_decide_div_mod_eq]; simp [h]
    simp [this]
  · simp [e]
/-- A bit is set: by arithmetic. -/
theorem or_place (m : Int) (n : Nat) (h0 : 0 ≤ m) (h1 : m < 65536) (hn : n ≤ 15) : bits .or .u16 m (IntKind.u16.wrap (2 ^ n)) = if m / 2 ^ n % 2 = 0 then m + 2 ^ n else m := by
  obtain ⟨M, rfl⟩ := Int.eq_ofNat_of_zero_le h0
  have hp : 2 ^ n < 65536 := Nat.lt_of_le_of_lt (Nat.pow_le_pow_right (by decide) hn) (by decide)
  rw [show ((2 : Int) ^ n) = ((2 ^ n : Nat) : Int) by simp, u16_wrap_nat _ hp, bits_or_u16 _ _ (by omega) hp]
  have e : ((M : Int) / ((2 ^ n : Nat) : Int) % 2) = ((M / 2 ^ n % 2 : Nat) : Int) := by simp
  rw [e]
  by_cases h : M / 2 ^ n % 2 = 0
  · rw [if_pos (by omega), or_bit _ _ h]; simp
  · rw [if_neg (by omega), or_bit_set _ _ (by omega)]
end Go.Proofs.Ytidpkmabcndknaa
