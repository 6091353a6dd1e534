/- How many slots are used: plain laws. No program in sight. -/
import Derived.Test.YtdedbiacelgleaaRefW
import Derived.Test.YtdedbiacelgleaaLowW
namespace Go.Proofs.Ytdedbiacelgleaa
set_option linter.unusedSimpArgs false
set_option linter.unusedVariables false
open Go.RowKit

def cntU (l : List Sl) : Nat := (l.filter Sl.used).length
theorem cnt_cons (s : Sl) (l : List Sl) : cntU (s :: l) = (if s.used then 1 else 0) + cntU l := by
  unfold cntU
  rw [List.filter_cons]
  cases s.used <;> simp <;> omega
theorem cnt_set (l : List Sl) (i : Nat) (hi : i < l.length) (s : Sl) : cntU (l.set i s) + (if l[i].used then 1 else 0) = cntU l + (if s.used then 1 else 0) := by
  induction l generalizing i with
  | nil => simp at hi
  | cons a l ih =>
    cases i with
    | zero =>
      simp only [List.set_cons_zero, List.getElem_cons_zero, cnt_cons]
      omega
    | succ i =>
      simp only [List.set_cons_succ, List.getElem_cons_succ, cnt_cons]
      have := ih i (by simpa using hi)
      omega
theorem refs_take (l : List Sl) (k : Nat) (hk : k ≤ l.length) : (usedRefs l k).length = cntU (l.take k) := by
  induction k with
  | zero => simp [usedRefs, cntU]
  | succ k ih =>
    have hk' : k < l.length := by omega
    rw [usedRefs_succ l k hk', List.length_append, ih (by omega), List.take_add_one, List.getElem?_eq_getElem hk']
    unfold cntU
    rw [List.filter_append, List.length_append]
    have key : ∀ (s : Sl), ((if s.used then [((k : Int), s.turn)] else []) : List (Int × Int)).length = (List.filter Sl.used (some s).toList).length := by
      intro s
      cases e : s.used <;> simp [e]
    rw [key]
theorem refs_cnt (l : List Sl) : (usedRefs l l.length).length = cntU l := by
  rw [refs_take l l.length (Nat.le_refl _), List.take_length]
theorem live_take {l : List Sl} {i : Nat} (hi : i < l.length) (hf : l[i].used = false) (x : Value) (t : Int) : (usedRefs (l.set i ⟨x, t, true⟩) (l.set i ⟨x, t, true⟩).length).length = (usedRefs l l.length).length + 1 := by
  rw [refs_cnt, refs_cnt]
  have := cnt_set l i hi ⟨x, t, true⟩
  rw [hf] at this
  simpa using this
theorem live_free {l : List Sl} {i : Nat} (hi : i < l.length) (hf : l[i].used = true) (x : Value) (t : Int) : (usedRefs (l.set i ⟨x, t, false⟩) (l.set i ⟨x, t, false⟩).length).length + 1 = (usedRefs l l.length).length := by
  rw [refs_cnt, refs_cnt]
  have := cnt_set l i hi ⟨x, t, false⟩
  rw [hf] at this
  simpa using this
theorem refs_pre (l : List Sl) (k d : Nat) (h : k + d ≤ l.length) : ∃ r, usedRefs l (k + d) = usedRefs l k ++ r := by
  induction d with
  | zero => exact ⟨[], by simp⟩
  | succ d ih =>
    obtain ⟨r, e⟩ := ih (by omega)
    rw [← Nat.add_assoc, usedRefs_succ l (k + d) (by omega), e, List.append_assoc]
    exact ⟨_, rfl⟩
/-- The next slot that is used stands next in Refs. -/
theorem refs_next {l : List Sl} {k : Nat} (hk : k < l.length) (hu : l[k].used = true) : (usedRefs l k).length < (usedRefs l l.length).length ∧ (usedRefs l l.length).getD (usedRefs l k).length (0, 0) = ((k : Int), l[k].turn) := by
  obtain ⟨r, e⟩ := refs_pre l (k + 1) (l.length - (k + 1)) (by omega)
  rw [show k + 1 + (l.length - (k + 1)) = l.length by omega, usedRefs_succ l k hk, hu] at e
  simp only [if_true] at e
  rw [e]
  constructor
  · simp
  · rw [List.append_assoc, List.getD_eq_getElem?_getD, List.getElem?_append_right (Nat.le_refl _)]
    simp
end Go.Proofs.Ytdedbiacelgleaa
