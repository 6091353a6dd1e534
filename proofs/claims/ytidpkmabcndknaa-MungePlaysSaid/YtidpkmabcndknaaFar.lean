/- How far it is between two numbers that go round; no program in sight. -/
namespace Go.Proofs.Ytidpkmabcndknaa
set_option linter.unusedSimpArgs false
set_option linter.unusedVariables false
/-- How far it is from a number of 16 bits to another one. -/
def far16 (a b : Int) : Int := if 32768 ≤ (b - a) % 65536 then (b - a) % 65536 - 65536 else (b - a) % 65536
theorem far16_bd (a b : Int) : -32768 ≤ far16 a b ∧ far16 a b ≤ 32767 := by unfold far16; split <;> omega
theorem far16_mod (a b : Int) : (a + far16 a b) % 65536 = b % 65536 := by unfold far16; split <;> omega
theorem far16_rest (a b : Int) : far16 (a % 65536) b = far16 a b := by unfold far16; split <;> split <;> omega
theorem far16_of (a d : Int) (h0 : -32768 ≤ d) (h1 : d ≤ 32767) : far16 a ((a + d) % 65536) = d := by unfold far16; split <;> omega
theorem far16_of' (a b d : Int) (h0 : -32768 ≤ d) (h1 : d ≤ 32767) (hb : (b - a - d) % 65536 = 0) : far16 a b = d := by unfold far16; split <;> omega
/-- The number nearest to one that goes on. -/
def near16 (l x : Int) : Int := l + far16 l x
theorem near16_bd (l x : Int) : l - 32768 ≤ near16 l x ∧ near16 l x ≤ l + 32767 := by have := far16_bd l x; unfold near16; omega
theorem near16_mod (l x : Int) : near16 l x % 65536 = x % 65536 := far16_mod l x
theorem near16_of (l y x : Int) (h0 : -32768 ≤ y - l) (h1 : y - l ≤ 32767) (hx : (x - y) % 65536 = 0) : near16 l x = y := by
  unfold near16
  rw [far16_of' l x (y - l) h0 h1 (by omega)]
  omega
def far32 (a b : Int) : Int := if 2147483648 ≤ (b - a) % 4294967296 then (b - a) % 4294967296 - 4294967296 else (b - a) % 4294967296
theorem far32_bd (a b : Int) : -2147483648 ≤ far32 a b ∧ far32 a b ≤ 2147483647 := by unfold far32; split <;> omega
end Go.Proofs.Ytidpkmabcndknaa
