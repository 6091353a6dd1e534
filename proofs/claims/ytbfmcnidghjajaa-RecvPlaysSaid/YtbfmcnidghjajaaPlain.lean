/- Which packets came: the program's state, and all numbers that came; no program in sight. -/
import Derived.Test.YtbfmcnidghjajaaFar
namespace Go.Proofs.Ytbfmcnidghjajaa
set_option linter.unusedSimpArgs false
set_option linter.unusedVariables false
/-- The program's state. -/
structure Tr where
  on : Bool
  base : Int
  high : Int
  got : Int
  seen : Nat
deriving DecidableEq
def shlN (s d : Nat) : Nat := (s <<< d) % 2 ^ 64 ||| 1
def orN (s b : Nat) : Nat := s ||| 2 ^ b
theorem shlN_lt (s d : Nat) : shlN s d < 2 ^ 64 := Nat.or_lt_two_pow (Nat.mod_lt _ (by decide)) (by decide)
theorem orN_lt (s b : Nat) (h : s < 2 ^ 64) (hb : b < 64) : orN s b < 2 ^ 64 := Nat.or_lt_two_pow h (Nat.pow_lt_pow_right (by decide) hb)
theorem testBit_one (i : Nat) : Nat.testBit 1 i = decide (i = 0) := by
  have := Nat.testBit_two_pow (n := 0) (m := i)
  simpa [eq_comm] using this
theorem shlN_bit (s d i : Nat) : (shlN s d).testBit i = (decide (i = 0) || (decide (i < 64) && decide (d ≤ i) && s.testBit (i - d))) := by
  unfold shlN
  rw [Nat.testBit_or, Nat.testBit_mod_two_pow, Nat.testBit_shiftLeft, testBit_one]
  cases decide (i = 0) <;> simp [Bool.and_assoc]
theorem orN_bit (s b i : Nat) : (orN s b).testBit i = (s.testBit i || decide (b = i)) := by
  unfold orN
  rw [Nat.testBit_or, Nat.testBit_two_pow]
def takeF (t : Tr) (x : Int) : Tr × Int × Int :=
  if t.on then
    if t.high < near16 t.high x then (⟨true, t.base, near16 t.high x, t.got + 1, shlN t.seen (near16 t.high x - t.high).toNat⟩, near16 t.high x, 0)
    else if 64 ≤ t.high - near16 t.high x then (t, near16 t.high x, 3)
    else if t.seen.testBit (t.high - near16 t.high x).toNat then (t, near16 t.high x, 2)
    else (⟨true, min t.base (near16 t.high x), t.high, t.got + 1, orN t.seen (t.high - near16 t.high x).toNat⟩, near16 t.high x, 1)
  else (⟨true, x, x, 1, 1⟩, x, 0)
def lostF (t : Tr) : Int := if t.on then t.high - t.base + 1 - t.got else 0
/-- The numbers of the last 64 that didn't come, of the first ones of them. -/
def missTo (t : Tr) : Nat → List Int
  | 0 => []
  | i + 1 => missTo t i ++ (if t.base ≤ t.high - (63 - i : Int) ∧ t.seen.testBit (63 - i) = false then [t.high - (63 - i : Int)] else [])
def missF (t : Tr) : List Int := if t.on then missTo t 64 else []
theorem missTo_length (t : Tr) (i : Nat) : (missTo t i).length ≤ i := by
  induction i with
  | zero => simp [missTo]
  | succ i ih => unfold missTo; rw [List.length_append]; split <;> simp <;> omega
/-- Numbers that are few enough to be reckoned with. -/
structure Tr.Small (t : Tr) (B : Int) : Prop where
  h0 : -B ≤ t.high
  h1 : t.high ≤ B
  b0 : -B ≤ t.base
  b1 : t.base ≤ B
  g0 : 0 ≤ t.got
  g1 : t.got ≤ B
  s1 : t.seen < 2 ^ 64
theorem takeF_small {t : Tr} {B x : Int} (h : t.Small B) (x0 : 0 ≤ x) (x1 : x < 65536) (hB : 0 ≤ B) : (takeF t x).1.Small (B + 65536) := by
  obtain ⟨a1, a2, a3, a4, a5, a6, a7⟩ := h
  have hn := near16_bd t.high x
  unfold takeF
  split
  · split
    · exact ⟨by dsimp; omega, by dsimp; omega, by dsimp; omega, by dsimp; omega, by dsimp; omega, by dsimp; omega, shlN_lt _ _⟩
    · split
      · exact ⟨by dsimp; omega, by dsimp; omega, by dsimp; omega, by dsimp; omega, by dsimp; omega, by dsimp; omega, a7⟩
      · split
        · exact ⟨by dsimp; omega, by dsimp; omega, by dsimp; omega, by dsimp; omega, by dsimp; omega, by dsimp; omega, a7⟩
        · exact ⟨by dsimp; omega, by dsimp; omega, by dsimp; omega, by dsimp; omega, by dsimp; omega, by dsimp; omega, orN_lt _ _ a7 (by omega)⟩
  · exact ⟨by dsimp; omega, by dsimp; omega, by dsimp; omega, by dsimp; omega, by dsimp; omega, by dsimp; omega, by dsimp; decide⟩

/-! ### All numbers that came -/
def highTo (x : Int) (l : List Int) : Int := l.foldl (fun a b => if a < b then b else a) x
def baseTo (x : Int) (l : List Int) : Int := l.foldl (fun a b => if b < a then b else a) x
def highF (l : List Int) : Int := highTo (l.headD 0) l
def baseF (l : List Int) : Int := baseTo (l.headD 0) l
def refTakeF (l : List Int) (s : Int) : List Int × Int × Int :=
  if l = [] then ([s], s, 0)
  else if highF l < near16 (highF l) s then (l ++ [near16 (highF l) s], near16 (highF l) s, 0)
  else if near16 (highF l) s < highF l - 63 then (l, near16 (highF l) s, 3)
  else if near16 (highF l) s ∈ l then (l, near16 (highF l) s, 2)
  else (l ++ [near16 (highF l) s], near16 (highF l) s, 1)
def refLostF (l : List Int) : Int := if l = [] then 0 else highF l - baseF l + 1 - l.length
def refMissTo (l : List Int) : Nat → List Int
  | 0 => []
  | i + 1 => refMissTo l i ++ (if baseF l ≤ highF l - 63 + i ∧ highF l - 63 + i ∉ l then [highF l - 63 + i] else [])
def refMissF (l : List Int) : List Int := if l = [] then [] else refMissTo l 64
theorem highTo_snoc (x : Int) (l : List Int) (y : Int) : highTo x (l ++ [y]) = if highTo x l < y then y else highTo x l := by unfold highTo; rw [List.foldl_append]; rfl
theorem baseTo_snoc (x : Int) (l : List Int) (y : Int) : baseTo x (l ++ [y]) = if y < baseTo x l then y else baseTo x l := by unfold baseTo; rw [List.foldl_append]; rfl
theorem highF_snoc (l : List Int) (y : Int) (h : l ≠ []) : highF (l ++ [y]) = if highF l < y then y else highF l := by
  cases l with
  | nil => exact absurd rfl h
  | cons a l => exact highTo_snoc a (a :: l) y
theorem baseF_snoc (l : List Int) (y : Int) (h : l ≠ []) : baseF (l ++ [y]) = if y < baseF l then y else baseF l := by
  cases l with
  | nil => exact absurd rfl h
  | cons a l => exact baseTo_snoc a (a :: l) y
/-- The state says what came. -/
structure Says (t : Tr) (l : List Int) : Prop where
  on : t.on = !l.isEmpty
  off : l = [] → t = ⟨false, 0, 0, 0, 0⟩
  high : l ≠ [] → t.high = highF l
  base : l ≠ [] → t.base = baseF l
  got : t.got = l.length
  le : ∀ x ∈ l, x ≤ t.high
  ge : ∀ x ∈ l, t.base ≤ x
  bit : l ≠ [] → ∀ i : Nat, i < 64 → (t.seen.testBit i = true ↔ t.high - i ∈ l)
theorem says_nil : Says ⟨false, 0, 0, 0, 0⟩ [] := ⟨rfl, fun _ => rfl, fun h => absurd rfl h, fun h => absurd rfl h, rfl, by simp, by simp, fun h => absurd rfl h⟩
theorem says_take {t : Tr} {l : List Int} (h : Says t l) (s : Int) : Says (takeF t s).1 (refTakeF l s).1 ∧ (takeF t s).2 = (refTakeF l s).2 := by
  by_cases hl : l = []
  · subst hl
    rw [h.off rfl]
    refine ⟨⟨rfl, fun h => (by cases h), fun _ => ?_, fun _ => ?_, rfl, ?_, ?_, ?_⟩, rfl⟩
    · show s = highF [s]; simp [highF, highTo]
    · show s = baseF [s]; simp [baseF, baseTo]
    · show ∀ x ∈ [s], x ≤ s; simp
    · show ∀ x ∈ [s], s ≤ x; simp
    · intro _ i _
      show Nat.testBit 1 i = true ↔ s - i ∈ [s]
      rw [testBit_one]
      simp
      omega
  · have hon : t.on = true := by
      rw [h.on]
      cases l with
      | nil => exact absurd rfl hl
      | cons a l => rfl
    have e1 := h.high hl
    have e2 := h.base hl
    unfold takeF refTakeF
    rw [if_pos hon, if_neg hl, ← e1]
    generalize near16 t.high s = y at *
    by_cases c1 : t.high < y
    · rw [if_pos c1, if_pos c1]
      refine ⟨⟨by simp, fun h => (by simp at h), fun _ => ?_, fun _ => ?_, ?_, ?_, ?_, ?_⟩, rfl⟩
      · show y = _
        rw [highF_snoc l y hl, ← e1, if_pos c1]
      · show t.base = _
        rw [baseF_snoc l y hl, ← e2, if_neg]
        have := h.le; have := h.ge
        cases l with
        | nil => exact absurd rfl hl
        | cons a l =>
          have q1 := h.le a (by simp)
          have q2 := h.ge a (by simp)
          omega
      · show t.got + 1 = _
        rw [h.got]; simp
      · intro x hx
        rw [List.mem_append] at hx
        rcases hx with hx | hx
        · have := h.le x hx; show x ≤ y; omega
        · simp at hx; show x ≤ y; omega
      · intro x hx
        rw [List.mem_append] at hx
        rcases hx with hx | hx
        · exact h.ge x hx
        · simp at hx
          subst hx
          show t.base ≤ x
          cases l with
          | nil => exact absurd rfl hl
          | cons a l =>
            have q1 := h.le a (by simp)
            have q2 := h.ge a (by simp)
            omega
      · intro _ i hi
        show (shlN t.seen (y - t.high).toNat).testBit i = true ↔ y - i ∈ l ++ [y]
        rw [shlN_bit, List.mem_append]
        by_cases hz : i = 0
        · subst hz; simp
        · by_cases hd : (y - t.high).toNat ≤ i
          · have := h.bit hl (i - (y - t.high).toNat) (by omega)
            rw [show t.high - ((i - (y - t.high).toNat : Nat) : Int) = y - i by omega] at this
            rw [← this]
            simp [hz, hi, hd]
            omega
          · have hno : y - (i : Int) ∉ l := fun hm => by have := h.le _ hm; omega
            simp [hz, hd, hno]
            omega
    · rw [if_neg c1, if_neg c1]
      by_cases c2 : 64 ≤ t.high - y
      · rw [if_pos c2, if_pos (show y < t.high - 63 by omega)]
        exact ⟨h, rfl⟩
      · rw [if_neg c2, if_neg (show ¬ y < t.high - 63 by omega)]
        have hb := h.bit hl (t.high - y).toNat (by omega)
        rw [show t.high - ((t.high - y).toNat : Int) = y by omega] at hb
        by_cases c3 : y ∈ l
        · rw [if_pos (hb.2 c3), if_pos c3]
          exact ⟨h, rfl⟩
        · rw [if_neg (fun q => c3 (hb.1 q)), if_neg c3]
          refine ⟨⟨by simp, fun h => (by simp at h), fun _ => ?_, fun _ => ?_, ?_, ?_, ?_, ?_⟩, rfl⟩
          · show t.high = _
            rw [highF_snoc l y hl, ← e1, if_neg c1]
          · show min t.base y = _
            rw [baseF_snoc l y hl, ← e2]
            split <;> omega
          · show t.got + 1 = _
            rw [h.got]; simp
          · intro x hx
            rw [List.mem_append] at hx
            rcases hx with hx | hx
            · exact h.le x hx
            · simp at hx; show x ≤ t.high; omega
          · intro x hx
            rw [List.mem_append] at hx
            rcases hx with hx | hx
            · have := h.ge x hx; show min t.base y ≤ x; omega
            · simp at hx; show min t.base y ≤ x; omega
          · intro _ i hi
            show (orN t.seen (t.high - y).toNat).testBit i = true ↔ t.high - i ∈ l ++ [y]
            rw [orN_bit, List.mem_append, ← h.bit hl i hi]
            simp
            constructor
            · rintro (q | q)
              · exact .inl q
              · right; omega
            · rintro (q | q)
              · exact .inl q
              · right; omega
theorem says_lost {t : Tr} {l : List Int} (h : Says t l) : lostF t = refLostF l := by
  unfold lostF refLostF
  by_cases hl : l = []
  · subst hl; rw [h.off rfl]; rfl
  · rw [if_neg hl, h.on, ← h.high hl, ← h.base hl, h.got]
    cases l with
    | nil => exact absurd rfl hl
    | cons a l => rfl
theorem says_miss {t : Tr} {l : List Int} (h : Says t l) : missF t = refMissF l := by
  unfold missF refMissF
  by_cases hl : l = []
  · subst hl; rw [h.off rfl]; rfl
  · rw [if_neg hl, h.on]
    have : ∀ i, i ≤ 64 → missTo t i = refMissTo l i := by
      intro i
      induction i with
      | zero => intro _; rfl
      | succ i ih =>
        intro hi
        unfold missTo refMissTo
        rw [ih (by omega)]
        congr 1
        have hb := h.bit hl (63 - i) (by omega)
        rw [show t.high - ((63 - i : Nat) : Int) = highF l - 63 + i by rw [← h.high hl]; omega] at hb
        have hx : t.high - (63 - i : Int) = highF l - 63 + i := by rw [← h.high hl]; omega
        rw [hx, h.base hl]
        congr 1
        rw [eq_iff_iff]
        have : (t.seen.testBit (63 - i) = false) ↔ highF l - 63 + i ∉ l := by
          rw [← hb]; simp
        rw [this]
    cases l with
    | nil => exact absurd rfl hl
    | cons a l => exact this 64 (Nat.le_refl _)
end Go.Proofs.Ytbfmcnidghjajaa
