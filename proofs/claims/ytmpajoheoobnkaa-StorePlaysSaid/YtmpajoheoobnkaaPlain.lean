/- Packets that are kept: plain laws of the rows. No program in sight. -/
import Derived.Test.YtmpajoheoobnkaaState
namespace Go.Proofs.Ytmpajoheoobnkaa
set_option linter.unusedSimpArgs false
set_option linter.unusedVariables false
open Go.RowKit

/-- The last n. -/
def lastN (n : Nat) (L : List Pk) : List Pk := L.drop (L.length - n)
theorem lastN_length (n : Nat) (L : List Pk) : (lastN n L).length = min L.length n := by
  unfold lastN
  rw [List.length_drop]
  omega
theorem addK_lastN {n : Nat} (hn : 1 ≤ n) (L : List Pk) (p : Pk) : addK n (lastN n L) p = lastN n (L ++ [p]) := by
  have hl := lastN_length n L
  unfold addK
  by_cases h : (lastN n L).length = n
  · rw [if_pos h]
    unfold lastN at *
    have hle : n ≤ L.length := by omega
    rw [List.tail_drop, List.length_append, List.length_singleton, List.drop_append_of_le_length (by omega)]
    congr 2
    omega
  · rw [if_neg h]
    have hlt : L.length < n := by omega
    unfold lastN
    rw [List.length_append, List.length_singleton, show L.length - n = 0 by omega, show L.length + 1 - n = 0 by omega]
    rfl
theorem lastN_nil (n : Nat) : lastN n [] = [] := by simp [lastN]
theorem lastF_none {K : List Pk} {x : Int} (h : ∀ p ∈ K, p.1 ≠ x) : lastF K x = none := by
  cases q : lastF K x with
  | none => rfl
  | some j =>
    obtain ⟨hj, e⟩ := lastF_lt q
    exact absurd e (h _ (List.getElem_mem hj))
theorem lastF_mem {K : List Pk} {x : Int} (h : ∃ p ∈ K, p.1 = x) : (lastF K x).isSome = true := by
  induction K with
  | nil => obtain ⟨p, hp, _⟩ := h; simp at hp
  | cons a K ih =>
    unfold lastF
    cases q : lastF K x with
    | some j => rfl
    | none =>
      obtain ⟨p, hp, e⟩ := h
      rcases List.mem_cons.1 hp with rfl | hp
      · rw [if_pos e]; rfl
      · have := ih ⟨p, hp, e⟩
        rw [q] at this
        cases this
/-- One that no other of its number follows is the last. -/
theorem lastF_at {K : List Pk} {x : Int} {j : Nat} (hj : j < K.length) (h1 : K[j].1 = x) (h2 : ∀ i (hi : i < K.length), j < i → K[i].1 ≠ x) : lastF K x = some j := by
  induction K generalizing j with
  | nil => simp at hj
  | cons a K ih =>
    unfold lastF
    cases j with
    | zero =>
      have : lastF K x = none := lastF_none (fun p hp => by
        obtain ⟨i, hi, e⟩ := List.getElem_of_mem hp
        have := h2 (i + 1) (by simpa using hi) (by omega)
        rw [← e]
        simpa using this)
      rw [this]
      simp only [List.getElem_cons_zero] at h1
      rw [if_pos h1]
    | succ j =>
      have : lastF K x = some j := ih (by simpa using hj) (by simpa using h1) (fun i hi hlt => by
        have := h2 (i + 1) (by simpa using hi) (by omega)
        simpa using this)
      rw [this]
theorem lastN_get {n : Nat} {L : List Pk} {i : Nat} (h : i < (lastN n L).length) (h2 : L.length - n + i < L.length) : (lastN n L)[i] = L[L.length - n + i] := by
  simp [lastN]
theorem mem_lastN {n : Nat} {L : List Pk} {p : Pk} (h : p ∈ lastN n L) : p ∈ L := List.mem_of_mem_drop h
/-- What is found of a row whose number x stands at i alone (of those behind). -/
theorem lastF_lastN {n : Nat} {L : List Pk} {x : Int} {i : Nat} (hi : i < L.length) (h1 : L[i].1 = x) (h2 : ∀ k (hk : k < L.length), i < k → L[k].1 ≠ x) (h : L.length - n ≤ i) :
    ∃ j, lastF (lastN n L) x = some j ∧ ∀ hj : j < (lastN n L).length, (lastN n L)[j] = L[i] := by
  have hl := lastN_length n L
  have e : L.length - n + (i - (L.length - n)) = i := by omega
  refine ⟨i - (L.length - n), lastF_at (by omega) ?_ ?_, ?_⟩
  · rw [lastN_get (by omega) (by omega)]
    simp only [e, h1]
  · intro k hk hlt
    rw [lastN_get hk (by omega)]
    exact h2 _ _ (by omega)
  · intro hj
    rw [lastN_get hj (by omega)]
    simp only [e]
theorem lastF_gone {n : Nat} {L : List Pk} {x : Int} (h : ∀ k (hk : k < L.length), L.length - n ≤ k → L[k].1 ≠ x) : lastF (lastN n L) x = none := by
  refine lastF_none (fun p hp => ?_)
  obtain ⟨i, hi, e⟩ := List.getElem_of_mem hp
  have hl := lastN_length n L
  rw [← e, lastN_get hi (by omega)]
  exact h _ (by omega) (by omega)
/-- The packets of the law StoreTwice. -/
def twiceL (a b : List Int) (k : Nat) : List Pk := [(9, a), (9, b)] ++ (List.range k).map fun i => (((100 + i : Nat) : Int), a)
theorem twice_length (a b : List Int) (k : Nat) : (twiceL a b k).length = k + 2 := by simp [twiceL]
theorem twice_succ (a b : List Int) (k : Nat) : twiceL a b (k + 1) = twiceL a b k ++ [(((100 + k : Nat) : Int), a)] := by
  unfold twiceL
  rw [List.range_succ, List.map_append, ← List.append_assoc]
  rfl
theorem twice_get (a b : List Int) (k i : Nat) (hi : i < (twiceL a b k).length) (h : 2 ≤ i) : (twiceL a b k)[i].1 ≠ 9 := by
  match i, h with
  | i + 2, _ =>
    simp [twiceL]
    omega
theorem twice_found {a b : List Int} {n k : Nat} (hn : 1 ≤ n) (h : k < n) : ∃ j, lastF (lastN n (twiceL a b k)) 9 = some j ∧ ∀ hj : j < (lastN n (twiceL a b k)).length, (lastN n (twiceL a b k))[j] = (9, b) := by
  have hl := twice_length a b k
  obtain ⟨j, h1, h2⟩ := lastF_lastN (n := n) (L := twiceL a b k) (x := 9) (i := 1) (by omega) rfl (fun q hq hlt => twice_get a b k q hq (by omega)) (by omega)
  exact ⟨j, h1, fun hj => (h2 hj).trans rfl⟩
theorem twice_none {a b : List Int} {n k : Nat} (h : n ≤ k) : lastF (lastN n (twiceL a b k)) 9 = none :=
  lastF_gone (fun q hq hle => twice_get a b k q hq (by have := twice_length a b k; omega))
/-- The packets of the law StoreLasts. -/
def seqI (f : Int) (i : Nat) : Int := IntKind.u16.wrap (f + (i : Int))
theorem seqI_mod (f : Int) (i : Nat) : seqI f i = (f + i) % 65536 := by
  unfold seqI
  first | rfl | (simp [IntKind.wrap, IntKind.bits, IntKind.signed])
theorem seqI_ne {f : Int} {i k : Nat} (hi : i < 65536) (hk : k < 65536) (h : i ≠ k) : seqI f i ≠ seqI f k := by
  rw [seqI_mod, seqI_mod]
  omega
def lastsL (f : Int) (z : Nat → List Int) (k : Nat) : List Pk := (List.range k).map fun i => (seqI f i, z i)
theorem lasts_length (f : Int) (z : Nat → List Int) (k : Nat) : (lastsL f z k).length = k := by simp [lastsL]
theorem lasts_succ (f : Int) (z : Nat → List Int) (k : Nat) : lastsL f z (k + 1) = lastsL f z k ++ [(seqI f k, z k)] := by
  unfold lastsL
  rw [List.range_succ, List.map_append]
  rfl
theorem lasts_get (f : Int) (z : Nat → List Int) (k i : Nat) (hi : i < (lastsL f z k).length) : (lastsL f z k)[i] = (seqI f i, z i) := by simp [lastsL]
theorem lasts_found {f : Int} {z : Nat → List Int} {n k i : Nat} (hk : k ≤ 1000) (hi : i < k) (h : k - n ≤ i) : ∃ j, lastF (lastN n (lastsL f z k)) (seqI f i) = some j ∧ ∀ hj : j < (lastN n (lastsL f z k)).length, (lastN n (lastsL f z k))[j] = (seqI f i, z i) := by
  have hl := lasts_length f z k
  obtain ⟨j, h1, h2⟩ := lastF_lastN (n := n) (L := lastsL f z k) (x := seqI f i) (i := i) (by omega) (by rw [lasts_get]) (fun q hq hlt => by rw [lasts_get]; exact seqI_ne (by omega) (by omega) (by omega)) (by omega)
  exact ⟨j, h1, fun hj => (h2 hj).trans (lasts_get f z k i (by omega))⟩
theorem lasts_gone {f : Int} {z : Nat → List Int} {n k i : Nat} (hk : k ≤ 1000) (hi : i < 65536) (h : i < k - n) : lastF (lastN n (lastsL f z k)) (seqI f i) = none :=
  lastF_gone (fun q hq hle => by have := lasts_length f z k; rw [lasts_get]; exact seqI_ne (by omega) (by omega) (by omega))
theorem lasts_before {f x : Int} {z : Nat → List Int} {n k : Nat} (hk : k ≤ 1000) (hx : x = (f - 1) % 65536) : lastF (lastN n (lastsL f z k)) x = none :=
  lastF_gone (fun q hq hle => by have := lasts_length f z k; rw [lasts_get, hx]; simp only [seqI_mod]; omega)
/-- The packets of a row that is told by a function. -/
def rowL (q : Nat → Int) (z : Nat → List Int) (k : Nat) : List Pk := (List.range k).map fun i => (q i, z i)
theorem row_length (q : Nat → Int) (z : Nat → List Int) (k : Nat) : (rowL q z k).length = k := by simp [rowL]
theorem row_succ (q : Nat → Int) (z : Nat → List Int) (k : Nat) : rowL q z (k + 1) = rowL q z k ++ [(q k, z k)] := by
  unfold rowL
  rw [List.range_succ, List.map_append]
  rfl
theorem row_last {q : Nat → Int} {z : Nat → List Int} {n k : Nat} (hn : 1 ≤ n) : (lastF (lastN n (rowL q z (k + 1))) (q k)).isSome = true := by
  refine lastF_mem ⟨(q k, z k), ?_, rfl⟩
  rw [row_succ, ← addK_lastN hn]
  unfold addK
  split <;> simp
theorem row_none {q : Nat → Int} {z : Nat → List Int} {n k : Nat} {x : Int} (h : ∀ i, i < k → q i ≠ x) : lastF (lastN n (rowL q z k)) x = none :=
  lastF_none (fun p hp => by
    have := mem_lastN hp
    unfold rowL at this
    obtain ⟨i, hi, rfl⟩ := List.mem_map.1 this
    exact h i (List.mem_range.1 hi))
end Go.Proofs.Ytmpajoheoobnkaa
