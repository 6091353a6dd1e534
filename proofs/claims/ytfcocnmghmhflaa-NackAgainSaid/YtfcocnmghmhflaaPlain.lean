/- What pairs of packets ask for, and how packets are packed into pairs; no program in sight. -/
namespace Go.Proofs.Ytfcocnmghmhflaa
set_option linter.unusedSimpArgs false
set_option linter.unusedVariables false
/-- The packets behind a first one, of the first bits of a mask. -/
def bitsF (p m : Int) : Nat → List Int
  | 0 => []
  | k + 1 => bitsF p m k ++ (if m / 2 ^ k % 2 = 1 then [(p + k + 1) % 65536] else [])
/-- The packets of pairs. -/
def listF (ps : List (Int × Int)) : List Int := ps.flatMap fun p => p.1 :: bitsF p.1 p.2 16
theorem bitsF_length (p m : Int) (k : Nat) : (bitsF p m k).length ≤ k := by
  induction k with
  | zero => simp [bitsF]
  | succ k ih =>
    unfold bitsF
    rw [List.length_append]
    split <;> simp <;> omega
theorem listF_append (ps qs : List (Int × Int)) : listF (ps ++ qs) = listF ps ++ listF qs := by simp [listF]
theorem listF_length (ps : List (Int × Int)) : (listF ps).length ≤ 17 * ps.length := by
  induction ps with
  | nil => simp [listF]
  | cons p ps ih =>
    have := bitsF_length p.1 p.2 16
    simp [listF] at ih ⊢
    omega
theorem listF_step (ps : List (Int × Int)) (k : Nat) (hk : k < ps.length) : listF (ps.take (k + 1)) = listF (ps.take k) ++ ((ps.getD k (0, 0)).1 :: bitsF (ps.getD k (0, 0)).1 (ps.getD k (0, 0)).2 16) := by
  rw [List.take_add_one, listF_append]
  congr 1
  simp [listF, List.getD, hk]
theorem bitsF_mem (p m : Int) (k : Nat) : ∀ x ∈ bitsF p m k, 0 ≤ x ∧ x < 65536 := by
  induction k with
  | zero => simp [bitsF]
  | succ k ih =>
    intro x hx
    unfold bitsF at hx
    rw [List.mem_append] at hx
    rcases hx with hx | hx
    · exact ih x hx
    · split at hx
      · simp at hx
        subst hx
        omega
      · simp at hx
theorem listF_mem (ps : List (Int × Int)) (h : ∀ p ∈ ps, 0 ≤ p.1 ∧ p.1 < 65536) : ∀ x ∈ listF ps, 0 ≤ x ∧ x < 65536 := by
  intro x hx
  simp only [listF, List.mem_flatMap] at hx
  obtain ⟨p, hp, hx⟩ := hx
  rcases List.mem_cons.1 hx with rfl | hx
  · exact h p hp
  · exact bitsF_mem _ _ _ x hx
end Go.Proofs.Ytfcocnmghmhflaa
