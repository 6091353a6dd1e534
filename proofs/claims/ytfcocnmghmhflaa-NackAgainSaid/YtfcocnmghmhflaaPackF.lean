/- How packets are packed into pairs; no program in sight. -/
import Derived.Test.YtfcocnmghmhflaaPlain
namespace Go.Proofs.Ytfcocnmghmhflaa
set_option linter.unusedSimpArgs false
set_option linter.unusedVariables false
/-- The last pair, with the packet that is d behind its first one. -/
def addBit (m d : Int) : Int := if 0 < d ∧ m / 2 ^ (d - 1).toNat % 2 = 0 then m + 2 ^ (d - 1).toNat else m
/-- One packet more. -/
def packStep (out : List (Int × Int)) (s : Int) : List (Int × Int) :=
  match out.getLast? with
  | none => out ++ [(s, 0)]
  | some (p, m) => if (s - p) % 65536 ≤ 16 then out.dropLast ++ [(p, addBit m ((s - p) % 65536))] else out ++ [(s, 0)]
def packF (ss : List Int) : List (Int × Int) := ss.foldl packStep []
theorem packF_step (ss : List Int) (k : Nat) (hk : k < ss.length) : packF (ss.take (k + 1)) = packStep (packF (ss.take k)) (ss.getD k 0) := by
  rw [List.take_add_one, packF, List.foldl_append]
  simp [packF, List.getD, hk]
theorem packStep_nil (s : Int) : packStep [] s = [(s, 0)] := rfl
theorem packStep_far (out : List (Int × Int)) (p m s : Int) (h : ¬ (s - p) % 65536 ≤ 16) : packStep (out ++ [(p, m)]) s = out ++ [(p, m)] ++ [(s, 0)] := by
  simp [packStep, h]
theorem packStep_near (out : List (Int × Int)) (p m s : Int) (h : (s - p) % 65536 ≤ 16) : packStep (out ++ [(p, m)]) s = out ++ [(p, addBit m ((s - p) % 65536))] := by
  simp [packStep, h]
theorem packStep_length (out : List (Int × Int)) (s : Int) : out.length ≤ (packStep out s).length ∧ (packStep out s).length ≤ out.length + 1 := by
  rcases List.eq_nil_or_concat out with rfl | ⟨l, ⟨p, m⟩, rfl⟩
  · simp [packStep]
  · rw [List.concat_eq_append]
    by_cases h : (s - p) % 65536 ≤ 16
    · rw [packStep_near _ _ _ _ h]; simp
    · rw [packStep_far _ _ _ _ h]; simp
theorem packF_length (ss : List Int) : (packF ss).length ≤ ss.length := by
  have : ∀ (ss : List Int) (out : List (Int × Int)), (ss.foldl packStep out).length ≤ out.length + ss.length := by
    intro ss
    induction ss with
    | nil => intro out; simp
    | cons s ss ih =>
      intro out
      have h1 := ih (packStep out s)
      have h2 := (packStep_length out s).2
      simp only [List.foldl_cons, List.length_cons]
      omega
  simpa [packF] using this ss []
theorem addBit_bd (m d : Int) (h0 : 0 ≤ m) (h1 : m < 65536) (h2 : d ≤ 16) : 0 ≤ addBit m d ∧ addBit m d < 65536 := by
  unfold addBit
  split
  · rename_i h
    obtain ⟨hd, hz⟩ := h
    generalize hj : (d - 1).toNat = j at *
    have hj16 : j < 16 := by omega
    have e := Int.emod_add_mul_ediv m (2 ^ j)
    clear h2 hd hj
    have hp : (0 : Int) < 2 ^ j := Int.pow_pos (by decide)
    have hr := Int.emod_lt_of_pos m hp
    have hr0 := Int.emod_nonneg m (Int.ne_of_gt hp)
    -- m = 2^j * (2q) + r, so that m + 2^j stays below 2^16
    have hq : m / 2 ^ j = 2 * (m / 2 ^ j / 2) := by omega
    generalize m / 2 ^ j / 2 = q at *
    rw [hq] at e
    generalize m % 2 ^ j = r at *
    have hcase : j = 0 ∨ j = 1 ∨ j = 2 ∨ j = 3 ∨ j = 4 ∨ j = 5 ∨ j = 6 ∨ j = 7 ∨ j = 8 ∨ j = 9 ∨ j = 10 ∨ j = 11 ∨ j = 12 ∨ j = 13 ∨ j = 14 ∨ j = 15 := by omega
    rcases hcase with rfl | rfl | rfl | rfl | rfl | rfl | rfl | rfl | rfl | rfl | rfl | rfl | rfl | rfl | rfl | rfl <;> simp at e hr hp ⊢ <;> omega
  · exact ⟨h0, h1⟩
/-- All pairs are of 16 bits. -/
def Fits (ps : List (Int × Int)) : Prop := ∀ p ∈ ps, 0 ≤ p.1 ∧ p.1 < 65536 ∧ 0 ≤ p.2 ∧ p.2 < 65536
theorem packStep_fits (out : List (Int × Int)) (s : Int) (h : Fits out) (h0 : 0 ≤ s) (h1 : s < 65536) : Fits (packStep out s) := by
  rcases List.eq_nil_or_concat out with rfl | ⟨l, ⟨p, m⟩, rfl⟩
  · intro q hq
    simp [packStep] at hq
    subst hq
    simp; omega
  · rw [List.concat_eq_append] at *
    have hp := h (p, m) (by simp)
    by_cases hn : (s - p) % 65536 ≤ 16
    · rw [packStep_near _ _ _ _ hn]
      intro q hq
      rw [List.mem_append] at hq
      rcases hq with hq | hq
      · exact h q (by simp [hq])
      · simp at hq
        subst hq
        have := addBit_bd m ((s - p) % 65536) hp.2.2.1 hp.2.2.2 hn
        exact ⟨hp.1, hp.2.1, this.1, this.2⟩
    · rw [packStep_far _ _ _ _ hn]
      intro q hq
      rw [List.mem_append] at hq
      rcases hq with hq | hq
      · exact h q hq
      · simp at hq
        subst hq
        simp; omega
theorem packF_fits (ss : List Int) (h : ∀ s ∈ ss, 0 ≤ s ∧ s < 65536) : Fits (packF ss) := by
  have : ∀ (ss : List Int) (out : List (Int × Int)), (∀ s ∈ ss, 0 ≤ s ∧ s < 65536) → Fits out → Fits (ss.foldl packStep out) := by
    intro ss
    induction ss with
    | nil => intro out _ h; exact h
    | cons s ss ih =>
      intro out hs ho
      have := hs s (by simp)
      exact ih _ (fun x hx => hs x (by simp [hx])) (packStep_fits out s ho this.1 this.2)
  exact this ss [] h (by intro p hp; simp at hp)
end Go.Proofs.Ytfcocnmghmhflaa
