/- What is packed of packets that rise, and what is listed again; no program in sight. -/
import Derived.Test.YtfcocnmghmhflaaPackF
namespace Go.Proofs.Ytfcocnmghmhflaa
set_option linter.unusedSimpArgs false
set_option linter.unusedVariables false
theorem pow_pos2 (e : Nat) : (0 : Int) < 2 ^ e := Int.pow_pos (by decide)
theorem packF_snoc (L : List Int) (x : Int) : packF (L ++ [x]) = packStep (packF L) x := by simp [packF]
theorem div_small (m : Int) (e i : Nat) (h0 : 0 ≤ m) (h1 : m < 2 ^ e) (hi : e ≤ i) : m / 2 ^ i = 0 := by
  apply Int.ediv_eq_zero_of_lt h0
  refine Int.lt_of_lt_of_le h1 ?_
  have : (2 : Nat) ^ e ≤ 2 ^ i := Nat.pow_le_pow_right (by decide) hi
  have e1 : ((2 : Int) ^ e) = ((2 ^ e : Nat) : Int) := by simp
  have e2 : ((2 : Int) ^ i) = ((2 ^ i : Nat) : Int) := by simp
  rw [e1, e2]
  exact_mod_cast this
theorem bitsF_high (p m : Int) (e j : Nat) (h0 : 0 ≤ m) (h1 : m < 2 ^ e) : bitsF p m (e + j) = bitsF p m e := by
  induction j with
  | zero => rfl
  | succ j ih =>
    rw [← Nat.add_assoc]
    show bitsF p m (e + j) ++ _ = _
    rw [ih, div_small m e (e + j) h0 h1 (by omega)]
    simp
theorem bit_low (m : Int) (e i : Nat) (hi : i < e) : (m + 2 ^ e) / 2 ^ i % 2 = m / 2 ^ i % 2 := by
  obtain ⟨j, rfl⟩ : ∃ j, e = i + (j + 1) := ⟨e - i - 1, by omega⟩
  rw [Int.pow_add, Int.add_mul_ediv_left _ _ (Int.ne_of_gt (pow_pos2 i)), Int.pow_succ]
  omega
theorem bitsF_low (p m : Int) (e j : Nat) (hj : j ≤ e) : bitsF p (m + 2 ^ e) j = bitsF p m j := by
  induction j with
  | zero => rfl
  | succ j ih =>
    show bitsF p (m + 2 ^ e) j ++ _ = bitsF p m j ++ _
    rw [ih (by omega), bit_low m e j (by omega)]
theorem bit_here (m : Int) (e : Nat) (h : m / 2 ^ e % 2 = 0) : (m + 2 ^ e) / 2 ^ e % 2 = 1 := by
  have : (m + 2 ^ e) = m + 2 ^ e * 1 := by rw [Int.mul_one]
  rw [this, Int.add_mul_ediv_left _ _ (Int.ne_of_gt (pow_pos2 e))]
  omega
theorem bitsF_top (p m : Int) (e j : Nat) (h0 : 0 ≤ m) (h1 : m < 2 ^ e) : bitsF p (m + 2 ^ e) (e + 1 + j) = bitsF p m (e + 1 + j) ++ [(p + e + 1) % 65536] := by
  have hz : m / 2 ^ e = 0 := div_small m e e h0 h1 (Nat.le_refl _)
  rw [bitsF_high _ _ (e + 1) j (by have := pow_pos2 e; omega) (by rw [Int.pow_succ]; omega)]
  rw [Nat.add_assoc, bitsF_high p m e _ h0 h1]
  show bitsF p (m + 2 ^ e) e ++ _ = _
  rw [bitsF_low _ _ _ _ (Nat.le_refl _), if_pos (bit_here m e (by rw [hz]; rfl))]
theorem listF_last (Q : List (Int × Int)) (p m : Int) : listF (Q ++ [(p, m)]) = listF Q ++ (p :: bitsF p m 16) := by simp [listF]
theorem bitsF_none (p : Int) (k : Nat) : bitsF p 0 k = [] := by
  have := bitsF_high p 0 0 k (by omega) (by decide)
  rw [Nat.zero_add] at this
  exact this
/-- Packets that rise, packed: the last pair's first one, how many pairs. -/
def Risen (L : List Int) (now last : Int) (n : Nat) : Prop :=
  ∃ (Q : List (Int × Int)) (m : Int) (d : Nat), packF L = Q ++ [(last, m)] ∧ Q.length + 1 = n ∧ listF (packF L) = L ∧ 0 ≤ m ∧ m < 2 ^ d ∧ (now - last) % 65536 = d ∧ d ≤ 16
theorem risen_one (x : Int) : Risen [x] x x 1 := by
  refine ⟨[], 0, 0, rfl, rfl, ?_, by omega, by decide, by omega, by omega⟩
  show x :: bitsF x 0 16 ++ [] = _
  rw [bitsF_none]
  rfl
theorem risen_far {L : List Int} {now last : Int} {n : Nat} (h : Risen L now last n) (x : Int) (hf : 16 < (x - last) % 65536) : Risen (L ++ [x]) x x (n + 1) := by
  obtain ⟨Q, m, d, hp, hn, hl, _⟩ := h
  have e : packF (L ++ [x]) = Q ++ [(last, m)] ++ [(x, 0)] := by
    rw [packF_snoc, hp]
    exact packStep_far Q last m x (by omega)
  refine ⟨Q ++ [(last, m)], 0, 0, e, by simp [hn], ?_, by omega, by decide, by omega, by omega⟩
  rw [e, listF_last, ← hp, hl, bitsF_none]
theorem risen_near {L : List Int} {now last : Int} {n : Nat} (h : Risen L now last n) (s x : Int) (hs : 0 ≤ s) (hs2 : s ≤ 255) (hx : x = (now + s + 1) % 65536) (hf : (x - last) % 65536 ≤ 16) : Risen (L ++ [x]) x last n := by
  obtain ⟨Q, m, d, hp, hn, hl, m0, m1, hd, hd16⟩ := h
  have hd' : (x - last) % 65536 = (d : Int) + s + 1 := by omega
  obtain ⟨e, he⟩ : ∃ e : Nat, (d : Int) + s = e := ⟨(d + s).toNat, by omega⟩
  have hme : m < 2 ^ e := by
    refine Int.lt_of_lt_of_le m1 ?_
    have : (2 : Nat) ^ d ≤ 2 ^ e := Nat.pow_le_pow_right (by decide) (by omega)
    have e1 : ((2 : Int) ^ d) = ((2 ^ d : Nat) : Int) := by simp
    have e2 : ((2 : Int) ^ e) = ((2 ^ e : Nat) : Int) := by simp
    rw [e1, e2]
    exact_mod_cast this
  have hd2 : (x - last) % 65536 = (e : Int) + 1 := by omega
  have hab : addBit m ((x - last) % 65536) = m + 2 ^ e := by
    rw [hd2]
    unfold addBit
    rw [show ((e : Int) + 1 - 1).toNat = e by omega, if_pos ⟨by omega, by rw [div_small m e e m0 hme (Nat.le_refl _)]; rfl⟩]
  have ep : packF (L ++ [x]) = Q ++ [(last, m + 2 ^ e)] := by
    rw [packF_snoc, hp, packStep_near Q last m x hf, hab]
  refine ⟨Q, m + 2 ^ e, e + 1, ep, hn, ?_, by have := pow_pos2 e; omega, by rw [Int.pow_succ]; omega, by rw [hd2]; omega, by omega⟩
  rw [ep, listF_last]
  obtain ⟨j, hj⟩ : ∃ j, 16 = e + 1 + j := ⟨16 - (e + 1), by omega⟩
  rw [hj, bitsF_top last m e j m0 hme, ← hj]
  have hl2 := hl
  rw [hp, listF_last] at hl2
  have hxx : (last + (e : Int) + 1) % 65536 = x := by omega
  rw [hxx, ← hl2]
  simp
theorem risen_eq {L : List Int} {now last : Int} {n : Nat} (h : Risen L now last n) : (packF L).length = n ∧ listF (packF L) = L := by
  obtain ⟨Q, m, d, hp, hn, hl, _⟩ := h
  exact ⟨by rw [hp]; simp [hn], hl⟩

/-! ### Pairs that are listed and packed again -/
theorem bit_other (m : Int) (e i : Nat) (h0 : 0 ≤ m) (h : m / 2 ^ e % 2 = 0) (hi : i ≠ e) : (m + 2 ^ e) / 2 ^ i % 2 = m / 2 ^ i % 2 := by
  rcases Nat.lt_or_gt_of_ne hi with hl | hg
  · exact bit_low m e i hl
  · obtain ⟨j, rfl⟩ : ∃ j, i = e + 1 + j := ⟨i - e - 1, by omega⟩
    have key : (m + 2 ^ e) / 2 ^ (e + 1) = m / 2 ^ (e + 1) := by
      rw [Int.pow_succ, ← Int.ediv_ediv_of_nonneg (Int.le_of_lt (pow_pos2 e)), ← Int.ediv_ediv_of_nonneg (Int.le_of_lt (pow_pos2 e))]
      have : (m + 2 ^ e) = m + 2 ^ e * 1 := by rw [Int.mul_one]
      rw [this, Int.add_mul_ediv_left _ _ (Int.ne_of_gt (pow_pos2 e))]
      omega
    rw [Int.pow_add, ← Int.ediv_ediv_of_nonneg (Int.le_of_lt (pow_pos2 _)), ← Int.ediv_ediv_of_nonneg (Int.le_of_lt (pow_pos2 _)), key]
theorem bitsF_iff (p m v : Int) (k : Nat) : v ∈ bitsF p m k ↔ ∃ i : Nat, i < k ∧ m / 2 ^ i % 2 = 1 ∧ v = (p + i + 1) % 65536 := by
  induction k with
  | zero => simp [bitsF]
  | succ k ih =>
    unfold bitsF
    rw [List.mem_append, ih]
    constructor
    · rintro (⟨i, h1, h2, h3⟩ | h)
      · exact ⟨i, by omega, h2, h3⟩
      · split at h
        · rename_i hb
          simp at h
          exact ⟨k, by omega, hb, h⟩
        · simp at h
    · rintro ⟨i, h1, h2, h3⟩
      by_cases hik : i = k
      · subst hik
        right
        rw [if_pos h2]
        simp [h3]
      · left
        exact ⟨i, by omega, h2, h3⟩
theorem addBit_near (m : Int) (e : Nat) : addBit m ((e : Int) + 1) = if m / 2 ^ e % 2 = 0 then m + 2 ^ e else m := by
  unfold addBit
  rw [show ((e : Int) + 1 - 1).toNat = e by omega]
  by_cases h : m / 2 ^ e % 2 = 0
  · rw [if_pos ⟨by omega, h⟩, if_pos h]
  · rw [if_neg (by intro hh; exact h hh.2), if_neg h]
theorem bits_add (p m v : Int) (e : Nat) (h0 : 0 ≤ m) (he : e < 16) : v ∈ bitsF p (addBit m ((e : Int) + 1)) 16 ↔ v ∈ bitsF p m 16 ∨ v = (p + e + 1) % 65536 := by
  rw [addBit_near, bitsF_iff, bitsF_iff]
  by_cases h : m / 2 ^ e % 2 = 0
  · rw [if_pos h]
    constructor
    · rintro ⟨i, h1, h2, h3⟩
      by_cases hi : i = e
      · subst hi; exact .inr h3
      · rw [bit_other m e i h0 h hi] at h2
        exact .inl ⟨i, h1, h2, h3⟩
    · rintro (⟨i, h1, h2, h3⟩ | h3)
      · have hi : i ≠ e := by rintro rfl; omega
        exact ⟨i, h1, by rw [bit_other m e i h0 h hi]; exact h2, h3⟩
      · exact ⟨e, he, bit_here m e h, h3⟩
  · rw [if_neg h]
    constructor
    · exact .inl
    · rintro (h3 | h3)
      · exact h3
      · exact ⟨e, he, by omega, h3⟩
theorem packStep_mem (out : List (Int × Int)) (s v : Int) (hf : Fits out) (s0 : 0 ≤ s) (s1 : s < 65536) : v ∈ listF (packStep out s) ↔ v ∈ listF out ∨ v = s := by
  rcases List.eq_nil_or_concat out with rfl | ⟨l, ⟨p, m⟩, rfl⟩
  · rw [packStep_nil]
    show v ∈ s :: bitsF s 0 16 ++ [] ↔ _
    rw [bitsF_none]
    simp [listF]
  · rw [List.concat_eq_append] at *
    obtain ⟨p0, p1, m0, m1⟩ := hf (p, m) (by simp)
    dsimp only at p0 p1 m0 m1
    by_cases hn : (s - p) % 65536 ≤ 16
    · rw [packStep_near _ _ _ _ hn, listF_last, listF_last]
      by_cases hz : (s - p) % 65536 = 0
      · have : s = p := by omega
        subst this
        rw [hz, show addBit m 0 = m by simp [addBit]]
        constructor
        · exact .inl
        · rintro (h | rfl)
          · exact h
          · simp
      · obtain ⟨e, he⟩ : ∃ e : Nat, (s - p) % 65536 = (e : Int) + 1 := ⟨((s - p) % 65536 - 1).toNat, by omega⟩
        have hs : (p + (e : Int) + 1) % 65536 = s := by omega
        rw [he]
        simp only [List.mem_append, List.mem_cons, bits_add p m v e m0 (by omega), hs, or_assoc]
    · rw [packStep_far _ _ _ _ hn, listF_last, bitsF_none]
      simp
theorem packF_mem (L : List Int) (v : Int) (h : ∀ s ∈ L, 0 ≤ s ∧ s < 65536) : v ∈ listF (packF L) ↔ v ∈ L := by
  have : ∀ (L : List Int) (out : List (Int × Int)), Fits out → (∀ s ∈ L, 0 ≤ s ∧ s < 65536) → (v ∈ listF (L.foldl packStep out) ↔ v ∈ listF out ∨ v ∈ L) := by
    intro L
    induction L with
    | nil => intro out _ _; simp
    | cons s L ih =>
      intro out hf hs
      obtain ⟨s0, s1⟩ := hs s (by simp)
      rw [List.foldl_cons, ih _ (packStep_fits out s hf s0 s1) (fun x hx => hs x (by simp [hx])), packStep_mem out s v hf s0 s1]
      simp [or_assoc]
  rw [packF, this L [] (by intro p hp; simp at hp) h]
  simp [listF]
theorem addBit_twice (m d : Int) (hd : 0 ≤ d) : addBit (addBit m d) d = addBit m d := by
  by_cases hz : d = 0
  · subst hz; simp [addBit]
  · obtain ⟨e, rfl⟩ : ∃ e : Nat, d = (e : Int) + 1 := ⟨(d - 1).toNat, by omega⟩
    rw [addBit_near m e]
    by_cases h : m / 2 ^ e % 2 = 0
    · rw [if_pos h, addBit_near, if_neg (by rw [bit_here m e h]; omega)]
    · rw [if_neg h, addBit_near, if_neg h]
theorem packStep_twice (out : List (Int × Int)) (s : Int) : packStep (packStep out s) s = packStep out s := by
  have key : ∀ O : List (Int × Int), packStep (O ++ [(s, 0)]) s = O ++ [(s, 0)] := by
    intro O
    rw [packStep_near _ _ _ _ (by omega), show (s - s) % 65536 = 0 by omega]
    simp [addBit]
  rcases List.eq_nil_or_concat out with rfl | ⟨l, ⟨p, m⟩, rfl⟩
  · rw [packStep_nil]; exact key []
  · rw [List.concat_eq_append]
    by_cases hn : (s - p) % 65536 ≤ 16
    · rw [packStep_near _ _ _ _ hn, packStep_near _ _ _ _ hn, addBit_twice _ _ (by omega)]
    · rw [packStep_far _ _ _ _ hn, key]
theorem packF_twice (L : List Int) : packF (L.flatMap fun v => [v, v]) = packF L := by
  have : ∀ (L : List Int) (out : List (Int × Int)), (L.flatMap fun v => [v, v]).foldl packStep out = L.foldl packStep out := by
    intro L
    induction L with
    | nil => intro out; rfl
    | cons s L ih =>
      intro out
      show ((s :: s :: (L.flatMap fun v => [v, v]))).foldl packStep out = _
      rw [List.foldl_cons, List.foldl_cons, packStep_twice, List.foldl_cons]
      exact ih _
  exact this L []

/-! ### The packets of one pair -/
/-- How many of the first bits are set. -/
def popF (m : Int) : Nat → Int
  | 0 => 0
  | k + 1 => popF m k + m / 2 ^ k % 2
theorem bitsF_pop (p m : Int) (k : Nat) : ((bitsF p m k).length : Int) = popF m k := by
  induction k with
  | zero => rfl
  | succ k ih =>
    unfold bitsF popF
    rw [List.length_append, ← ih]
    by_cases h : m / 2 ^ k % 2 = 1
    · rw [if_pos h, h]; simp
    · rw [if_neg h, show m / 2 ^ k % 2 = 0 by omega]; simp
theorem popF_bd (m : Int) (k : Nat) : 0 ≤ popF m k ∧ popF m k ≤ k := by
  induction k with
  | zero => simp [popF]
  | succ k ih =>
    unfold popF
    omega
/-- Where the bits that are set stand, from 1 on. -/
def placesF (m : Int) : Nat → List Int
  | 0 => []
  | k + 1 => placesF m k ++ (if m / 2 ^ k % 2 = 1 then [(k : Int) + 1] else [])
theorem bitsF_places (p m : Int) (k : Nat) : bitsF p m k = (placesF m k).map fun d => (p + d) % 65536 := by
  induction k with
  | zero => rfl
  | succ k ih =>
    unfold bitsF placesF
    rw [List.map_append, ih]
    split <;> simp [Int.add_assoc]
theorem placesF_mem (m : Int) (k : Nat) : ∀ d ∈ placesF m k, 1 ≤ d ∧ d ≤ k := by
  induction k with
  | zero => simp [placesF]
  | succ k ih =>
    intro d hd
    unfold placesF at hd
    rw [List.mem_append] at hd
    rcases hd with hd | hd
    · have := ih d hd; omega
    · split at hd
      · simp at hd; omega
      · simp at hd
theorem placesF_rise (m : Int) (k : Nat) : (placesF m k).Pairwise (· < ·) := by
  induction k with
  | zero => simp [placesF]
  | succ k ih =>
    unfold placesF
    rw [List.pairwise_append]
    refine ⟨ih, by split <;> simp, ?_⟩
    intro a ha b hb
    have := placesF_mem m k a ha
    split at hb
    · simp at hb; omega
    · simp at hb
/-- The packets of one pair rise, from 1 to 16 behind the first one. -/
theorem within (p m : Int) (hp : 0 ≤ p) (hp2 : p < 65536) (i : Nat) (h1 : 1 ≤ i) (hi : i < (p :: bitsF p m 16).length) :
    ((p :: bitsF p m 16).getD i 0 - p) % 65536 ≤ 16 ∧ ((p :: bitsF p m 16).getD (i - 1) 0 - p) % 65536 < ((p :: bitsF p m 16).getD i 0 - p) % 65536 := by
  rw [bitsF_places] at *
  have hm := placesF_mem m 16
  have hr := placesF_rise m 16
  generalize placesF m 16 = D at *
  simp only [List.length_cons, List.length_map] at hi
  obtain ⟨j, rfl⟩ : ∃ j, i = j + 1 := ⟨i - 1, by omega⟩
  have hj : j < D.length := by omega
  have e1 : (p :: D.map fun d => (p + d) % 65536).getD (j + 1) 0 = (p + D[j]) % 65536 := by
    simp [List.getD, hj]
  have b1 := hm D[j] (List.getElem_mem hj)
  rw [e1, Nat.add_sub_cancel]
  refine ⟨by omega, ?_⟩
  cases j with
  | zero =>
    have e2 : (p :: D.map fun d => (p + d) % 65536).getD 0 0 = p := rfl
    rw [e2]
    omega
  | succ j =>
    have e2 : (p :: D.map fun d => (p + d) % 65536).getD (j + 1) 0 = (p + D[j]) % 65536 := by
      simp [List.getD, show j < D.length by omega]
    have b2 := hm (D[j]'(by omega)) (List.getElem_mem _)
    have lt := List.pairwise_iff_getElem.1 hr j (j + 1) (by omega) hj (by omega)
    rw [e2]
    omega
end Go.Proofs.Ytfcocnmghmhflaa
