/- Plain laws on slots that are used again. No program in sight. -/
import Derived.Test.YtdedbiacelgleaaBase
namespace Go.Proofs.Ytdedbiacelgleaa
set_option linter.unusedSimpArgs false
set_option linter.unusedVariables false
/-- The lowest slot that is free, or none is. -/
theorem first_free (l : List Sl) : (∃ i, ∃ hi : i < l.length, l[i].used = false ∧ ∀ j, j < i → ∀ h : j < l.length, l[j].used = true) ∨ (∀ j, ∀ h : j < l.length, l[j].used = true) := by
  induction l with
  | nil => right; intro j h; simp at h
  | cons s l ih =>
    cases hs : s.used with
    | false => exact .inl ⟨0, by simp, by simpa using hs, fun j hj => by omega⟩
    | true =>
      rcases ih with ⟨i, hi, h1, h2⟩ | h
      · refine .inl ⟨i + 1, by simpa using hi, by simpa using h1, fun j hj h => ?_⟩
        cases j with
        | zero => simpa using hs
        | succ j => simpa using h2 j (by omega) (by simpa using h)
      · refine .inr fun j hj => ?_
        cases j with
        | zero => simpa using hs
        | succ j => simpa using h j (by simpa using hj)
/-- What was told, what is there, what is gone. -/
structure Inv (l : List Sl) (told : List (Int × Int)) (has : List Int) (gone : List Bool) (k : Nat) : Prop where
  lh : has.length = told.length
  lg : gone.length = told.length
  lt : told.length ≤ k
  turn : ∀ s ∈ l, 0 ≤ s.turn ∧ s.turn ≤ k
  ne : ∀ i j, i < j → j < told.length → told.getD i (0, 0) ≠ told.getD j (0, 0)
  is : ∀ j, j < told.length → ∃ i : Nat, ∃ hi : i < l.length, (told.getD j (0, 0)).1 = i ∧ (told.getD j (0, 0)).2 ≤ l[i].turn ∧
    (gone.getD j false = false → l[i].used = true ∧ l[i].turn = (told.getD j (0, 0)).2 ∧ l[i].x = .int .i64 (has.getD j 0)) ∧
    (gone.getD j false = true → ¬ (l[i].used = true ∧ l[i].turn = (told.getD j (0, 0)).2))
theorem getD_push {α : Type} (l : List α) (x d : α) (j : Nat) : (l ++ [x]).getD j d = if j < l.length then l.getD j d else if j = l.length then x else d := by
  rw [List.getD_eq_getElem?_getD, List.getD_eq_getElem?_getD]
  by_cases h : j < l.length
  · rw [if_pos h, List.getElem?_append_left h]
  · rw [if_neg h, List.getElem?_append_right (by omega)]
    by_cases e : j = l.length
    · subst e; simp
    · rw [if_neg e, List.getElem?_eq_none (by simp; omega)]; rfl
theorem getD_set {α : Type} (l : List α) (x d : α) (i j : Nat) : (l.set i x).getD j d = if i = j ∧ j < l.length then x else l.getD j d := by
  rw [List.getD_eq_getElem?_getD, List.getD_eq_getElem?_getD, List.getElem?_set]
  by_cases e : i = j
  · subst e
    by_cases h : i < l.length
    · simp [h]
    · simp [h]
  · simp [e]
theorem inv_start (z : Value) (n : Nat) : Inv (List.replicate n (sl0 z)) [] [] [] 0 :=
  ⟨rfl, rfl, by simp, fun s hs => by rw [List.eq_of_mem_replicate hs]; exact ⟨by simp [sl0], by simp [sl0]⟩, fun i j _ h => by simp at h, fun j h => by simp at h⟩
theorem Inv.more {l : List Sl} {told : List (Int × Int)} {has : List Int} {gone : List Bool} {k : Nat} (h : Inv l told has gone k) : Inv l told has gone (k + 1) :=
  ⟨h.lh, h.lg, by have := h.lt; omega, fun s hs => by have := h.turn s hs; omega, h.ne, h.is⟩
theorem Inv.here {l : List Sl} {told : List (Int × Int)} {has : List Int} {gone : List Bool} {k : Nat} (h : Inv l told has gone k) {j : Nat} (hj : j < told.length) (hg : gone.getD j false = false) :
    ∃ i, atF l (told.getD j (0, 0)).1 (told.getD j (0, 0)).2 = some i ∧ ∀ hi : i < l.length, l[i].x = .int .i64 (has.getD j 0) := by
  obtain ⟨i, hi, e1, e2, e3, e4⟩ := h.is j hj
  obtain ⟨q1, q2, q3⟩ := e3 hg
  exact ⟨i, by rw [e1, ← q2]; exact atF_of hi q1, fun _ => q3⟩
theorem Inv.stale {l : List Sl} {told : List (Int × Int)} {has : List Int} {gone : List Bool} {k : Nat} (h : Inv l told has gone k) {j : Nat} (hj : j < told.length) (hg : gone.getD j false = true) :
    atF l (told.getD j (0, 0)).1 (told.getD j (0, 0)).2 = none := by
  obtain ⟨i, hi, e1, e2, e3, e4⟩ := h.is j hj
  cases ha : atF l (told.getD j (0, 0)).1 (told.getD j (0, 0)).2 with
  | none => rfl
  | some i' =>
    obtain ⟨q1, q2, q3, q4⟩ := atF_some ha
    have : i' = i := by omega
    subst this
    exact absurd ⟨q3, q4⟩ (e4 hg)
theorem Inv.take {l : List Sl} {told : List (Int × Int)} {has : List Int} {gone : List Bool} {k : Nat} (h : Inv l told has gone k) {i : Nat} (hi : i < l.length) (hf : l[i].used = false) (x : Int) :
    (∀ j, j < told.length → told.getD j (0, 0) ≠ ((i : Int), l[i].turn + 1)) ∧ Inv (l.set i ⟨.int .i64 x, l[i].turn + 1, true⟩) (told ++ [((i : Int), l[i].turn + 1)]) (has ++ [x]) (gone ++ [false]) (k + 1) := by
  have hne : ∀ j, j < told.length → told.getD j (0, 0) ≠ ((i : Int), l[i].turn + 1) := by
    intro j hj e
    obtain ⟨i', hi', e1, e2, _⟩ := h.is j hj
    rw [e] at e1 e2
    have e1' : (i : Int) = i' := e1
    have : i = i' := by omega
    subst this
    have e2' : l[i].turn + 1 ≤ l[i].turn := e2
    omega
  have hti := h.turn l[i] (by simp)
  refine ⟨hne, ⟨by simp [h.lh], by simp [h.lg], by have := h.lt; simp; omega, ?_, ?_, ?_⟩⟩
  · intro s hs
    rcases List.mem_or_eq_of_mem_set hs with q | q
    · have := h.turn s q; omega
    · subst q; show 0 ≤ l[i].turn + 1 ∧ l[i].turn + 1 ≤ ((k + 1 : Nat) : Int); omega
  · intro a b hab hb
    have hb' : b < told.length + 1 := by simpa using hb
    rw [getD_push, getD_push, if_pos (by omega)]
    by_cases e : b < told.length
    · rw [if_pos e]; exact h.ne a b hab e
    · rw [if_neg e, if_pos (by omega)]
      exact hne a (by omega)
  · intro j hj
    have hj' : j < told.length + 1 := by simpa using hj
    rw [getD_push, getD_push, getD_push]
    by_cases e : j < told.length
    · rw [if_pos e, if_pos (by rw [h.lg]; exact e), if_pos (by rw [h.lh]; exact e)]
      obtain ⟨i', hi', e1, e2, e3, e4⟩ := h.is j e
      refine ⟨i', by simpa using hi', e1, ?_⟩
      rw [List.getElem_set]
      by_cases q : i = i'
      · subst q
        rw [if_pos rfl]
        refine ⟨by show _ ≤ l[i].turn + 1; omega, fun hg => ?_, fun _ => ?_⟩
        · have := (e3 hg).1; rw [hf] at this; cases this
        · rintro ⟨_, q2⟩
          have q2' : l[i].turn + 1 = (told.getD j (0, 0)).2 := q2
          omega
      · rw [if_neg q]
        exact ⟨e2, e3, e4⟩
    · have ej : j = told.length := by omega
      rw [if_neg e, if_pos ej, if_neg (by rw [h.lg]; exact e), if_pos (by rw [h.lg]; exact ej), if_neg (by rw [h.lh]; exact e), if_pos (by rw [h.lh]; exact ej)]
      refine ⟨i, by simpa using hi, rfl, ?_⟩
      rw [List.getElem_set, if_pos rfl]
      exact ⟨Int.le_refl _, fun _ => ⟨rfl, rfl, rfl⟩, fun hh => by cases hh⟩
theorem Inv.free {l : List Sl} {told : List (Int × Int)} {has : List Int} {gone : List Bool} {k : Nat} (h : Inv l told has gone k) {j i : Nat} (hj : j < told.length) (hg : gone.getD j false = false)
    (ha : atF l (told.getD j (0, 0)).1 (told.getD j (0, 0)).2 = some i) (z : Value) : Inv (l.set i ⟨z, (told.getD j (0, 0)).2, false⟩) told has (gone.set j true) k := by
  obtain ⟨q1, hi, q3, q4⟩ := atF_some ha
  have hti := h.turn l[i] (by simp)
  refine ⟨h.lh, by rw [List.length_set]; exact h.lg, h.lt, ?_, h.ne, ?_⟩
  · intro s hs
    rcases List.mem_or_eq_of_mem_set hs with q | q
    · exact h.turn s q
    · subst q; show 0 ≤ (told.getD j (0, 0)).2 ∧ (told.getD j (0, 0)).2 ≤ (k : Int); omega
  · intro a ha'
    obtain ⟨i', hi', e1, e2, e3, e4⟩ := h.is a ha'
    rw [getD_set]
    by_cases e : j = a
    · subst e
      rw [if_pos ⟨rfl, by rw [h.lg]; exact hj⟩]
      have : i = i' := by omega
      subst this
      refine ⟨i, by simpa using hi, q1, ?_⟩
      rw [List.getElem_set, if_pos rfl]
      exact ⟨Int.le_refl _, (fun hh => by cases hh), (fun _ hh => by cases hh.1)⟩
    · rw [if_neg (by omega)]
      refine ⟨i', by simpa using hi', e1, ?_⟩
      rw [List.getElem_set]
      by_cases q : i = i'
      · subst q
        rw [if_pos rfl]
        refine ⟨by show _ ≤ (told.getD j (0, 0)).2; omega, fun hga => ?_, (fun _ hh => by cases hh.1)⟩
        exfalso
        obtain ⟨_, p2, _⟩ := e3 hga
        have he : told.getD j (0, 0) = told.getD a (0, 0) := by
          apply Prod.ext
          · omega
          · omega
        rcases Nat.lt_or_gt_of_ne e with hl | hl
        · exact h.ne j a hl ha' he
        · exact h.ne a j hl hj he.symm
      · rw [if_neg q]
        exact ⟨e2, e3, e4⟩
theorem gone_set {gone : List Bool} {j : Nat} (h : gone.getD j false = true) : gone.set j true = gone := by
  apply List.ext_getElem?
  intro i
  rw [List.getElem?_set]
  by_cases e : j = i
  · subst e
    rw [if_pos rfl]
    split
    · rename_i hl
      rw [List.getD_eq_getElem?_getD, List.getElem?_eq_getElem hl] at h
      rw [List.getElem?_eq_getElem hl]
      simpa using h.symm
    · rename_i hl
      rw [List.getElem?_eq_none (by omega)]
  · rw [if_neg e]
end Go.Proofs.Ytdedbiacelgleaa
