/- Bits of unsigned numbers of 64 bits, as plain numbers. No condition. -/
import Derived.WalkKit
import Derived.Test.YtbfmcnidghjajaaPlain
namespace Go.Proofs.Ytbfmcnidghjajaa
set_option linter.unusedSimpArgs false
set_option linter.unusedVariables false

theorem u64_mod (x : Int) : IntKind.u64.wrap x = x % 2 ^ 64 := by simp [IntKind.wrap, IntKind.bits, IntKind.signed]
theorem ofInt64 (a : Nat) : (BitVec.ofInt 64 (a : Int)).toNat = a % 2 ^ 64 := by
  rw [BitVec.toNat_ofInt]
  omega
theorem u64_wrap_nat (a : Nat) (ha : a < 2 ^ 64) : IntKind.u64.wrap (a : Int) = a := by
  rw [u64_mod]
  omega
theorem bits_and_u64 (a b : Nat) (ha : a < 2 ^ 64) (hb : b < 2 ^ 64) : bits .and .u64 (a : Int) (b : Int) = ((a &&& b : Nat) : Int) := by
  show IntKind.u64.wrap ((BitVec.ofInt 64 (a : Int) &&& BitVec.ofInt 64 (b : Int)).toNat : Int) = _
  rw [BitVec.toNat_and, ofInt64, ofInt64, Nat.mod_eq_of_lt ha, Nat.mod_eq_of_lt hb]
  exact u64_wrap_nat _ (Nat.lt_of_le_of_lt Nat.and_le_left ha)
theorem bits_or_u64 (a b : Nat) (ha : a < 2 ^ 64) (hb : b < 2 ^ 64) : bits .or .u64 (a : Int) (b : Int) = ((a ||| b : Nat) : Int) := by
  show IntKind.u64.wrap ((BitVec.ofInt 64 (a : Int) ||| BitVec.ofInt 64 (b : Int)).toNat : Int) = _
  rw [BitVec.toNat_or, ofInt64, ofInt64, Nat.mod_eq_of_lt ha, Nat.mod_eq_of_lt hb]
  exact u64_wrap_nat _ (Nat.or_lt_two_pow (n := 64) ha hb)
theorem two_pow_int (n : Nat) : ((2 : Int) ^ n) = ((2 ^ n : Nat) : Int) := by simp
/-- A bit that is asked for. -/
theorem bit_asked (s n : Nat) (hs : s < 2 ^ 64) : (bits .and .u64 ((s : Int) / 2 ^ n) 1 == 1) = s.testBit n := by
  have e : ((s : Int) / 2 ^ n) = ((s / 2 ^ n : Nat) : Int) := by rw [two_pow_int]; simp
  have hlt : s / 2 ^ n < 2 ^ 64 := Nat.lt_of_le_of_lt (Nat.div_le_self _ _) hs
  have := bits_and_u64 (s / 2 ^ n) 1 hlt (by decide)
  rw [show ((1 : Nat) : Int) = 1 from rfl] at this
  rw [e, this, Nat.and_one_is_mod, Nat.testBit_eq_decide_div_mod_eq]
  rw [Bool.eq_iff_iff]
  simp
  omega
/-- Bits that are moved on, and the first one set. -/
theorem bit_moved (s d : Nat) (hs : s < 2 ^ 64) (hd : 1 ≤ d) : bits .or .u64 (IntKind.u64.wrap ((s : Int) * 2 ^ d)) 1 = (shlN s d : Int) := by
  have e : IntKind.u64.wrap ((s : Int) * 2 ^ d) = ((s * 2 ^ d % 2 ^ 64 : Nat) : Int) := by
    rw [u64_mod, two_pow_int, ← Int.natCast_mul, show ((2 : Int) ^ 64) = ((2 ^ 64 : Nat) : Int) by simp, ← Int.natCast_emod]
  have := bits_or_u64 (s * 2 ^ d % 2 ^ 64) 1 (Nat.mod_lt _ (by decide)) (by decide)
  rw [show ((1 : Nat) : Int) = 1 from rfl] at this
  rw [e, this]
  unfold shlN
  rw [Nat.shiftLeft_eq]
theorem bit_moved_far (s d : Nat) (hs : s < 2 ^ 64) (hd : 64 ≤ d) : bits .or .u64 (IntKind.u64.wrap ((s : Int) * 2 ^ 64)) 1 = (shlN s d : Int) := by
  rw [bit_moved s 64 hs (by omega)]
  unfold shlN
  rw [Nat.shiftLeft_eq, Nat.shiftLeft_eq]
  have h1 : s * 2 ^ 64 % 2 ^ 64 = 0 := Nat.mul_mod_left _ _
  have h2 : s * 2 ^ d % 2 ^ 64 = 0 := by
    obtain ⟨k, rfl⟩ : ∃ k, d = 64 + k := ⟨d - 64, by omega⟩
    rw [Nat.pow_add, Nat.mul_comm (2 ^ 64), ← Nat.mul_assoc]
    exact Nat.mul_mod_left _ _
  rw [h1, h2]
theorem bit_set (s n : Nat) (hs : s < 2 ^ 64) (hn : n < 64) : bits .or .u64 (s : Int) (IntKind.u64.wrap (2 ^ n)) = (orN s n : Int) := by
  have hp : 2 ^ n < 2 ^ 64 := Nat.pow_lt_pow_right (by decide) hn
  rw [two_pow_int, u64_wrap_nat _ hp, bits_or_u64 _ _ hs hp]
  rfl
end Go.Proofs.Ytbfmcnidghjajaa
