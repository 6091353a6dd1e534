/- What follows of which packets came, law by law; no program in sight. -/
import Derived.Test.YtbfmcnidghjajaaPlain
namespace Go.Proofs.Ytbfmcnidghjajaa
set_option linter.unusedSimpArgs false
set_option linter.unusedVariables false
def tr0 : Tr := ⟨false, 0, 0, 0, 0⟩
/-- What takeF says, way by way. -/
theorem takeF_off {t : Tr} (h : t.on = false) (s : Int) : takeF t s = (⟨true, s, s, 1, 1⟩, s, 0) := by unfold takeF; rw [if_neg (by simp [h])]
theorem takeF_new {t : Tr} (h : t.on = true) {s y : Int} (hy : near16 t.high s = y) (c : t.high < y) : takeF t s = (⟨true, t.base, y, t.got + 1, shlN t.seen (y - t.high).toNat⟩, y, 0) := by
  unfold takeF; rw [if_pos h, hy, if_pos c]
theorem takeF_old {t : Tr} (h : t.on = true) {s y : Int} (hy : near16 t.high s = y) (c : 64 ≤ t.high - y) : takeF t s = (t, y, 3) := by
  unfold takeF; rw [if_pos h, hy, if_neg (by omega), if_pos c]
theorem takeF_again {t : Tr} (h : t.on = true) {s y : Int} (hy : near16 t.high s = y) (c : ¬ t.high < y) (c2 : t.high - y < 64) (hb : t.seen.testBit (t.high - y).toNat = true) : takeF t s = (t, y, 2) := by
  unfold takeF; rw [if_pos h, hy, if_neg c, if_neg (by omega), if_pos hb]
theorem takeF_late {t : Tr} (h : t.on = true) {s y : Int} (hy : near16 t.high s = y) (c : ¬ t.high < y) (c2 : t.high - y < 64) (hb : t.seen.testBit (t.high - y).toNat = false) :
    takeF t s = (⟨true, min t.base y, t.high, t.got + 1, orN t.seen (t.high - y).toNat⟩, y, 1) := by
  unfold takeF; rw [if_pos h, hy, if_neg c, if_neg (by omega), if_neg (by simp [hb])]
theorem takeF_ways (t : Tr) (h : t.on = true) (s : Int) :
    (t.high < near16 t.high s ∧ takeF t s = (⟨true, t.base, near16 t.high s, t.got + 1, shlN t.seen (near16 t.high s - t.high).toNat⟩, near16 t.high s, 0)) ∨
    (¬ t.high < near16 t.high s ∧ 64 ≤ t.high - near16 t.high s ∧ takeF t s = (t, near16 t.high s, 3)) ∨
    (¬ t.high < near16 t.high s ∧ t.high - near16 t.high s < 64 ∧ t.seen.testBit (t.high - near16 t.high s).toNat = true ∧ takeF t s = (t, near16 t.high s, 2)) ∨
    (¬ t.high < near16 t.high s ∧ t.high - near16 t.high s < 64 ∧ t.seen.testBit (t.high - near16 t.high s).toNat = false ∧ takeF t s = (⟨true, min t.base (near16 t.high s), t.high, t.got + 1, orN t.seen (t.high - near16 t.high s).toNat⟩, near16 t.high s, 1)) := by
  by_cases c1 : t.high < near16 t.high s
  · exact .inl ⟨c1, takeF_new h rfl c1⟩
  · by_cases c2 : 64 ≤ t.high - near16 t.high s
    · exact .inr (.inl ⟨c1, c2, takeF_old h rfl c2⟩)
    · cases c3 : t.seen.testBit (t.high - near16 t.high s).toNat with
      | true => exact .inr (.inr (.inl ⟨c1, by omega, rfl, takeF_again h rfl c1 (by omega) c3⟩))
      | false => exact .inr (.inr (.inr ⟨c1, by omega, rfl, takeF_late h rfl c1 (by omega) c3⟩))
/-- Told again at once: there already, and nothing changes. -/
theorem once (t : Tr) (h0 : t.on = false → t.got = 0) (s : Int) (s0 : 0 ≤ s) (s1 : s < 65536) :
    let u := (takeF t s).1; let x := (takeF t s).2.1; let a := (takeF t s).2.2
    ((a = 3 ∨ a = 2) ∧ u = t ∧ takeF u s = (t, x, a) ∨ (a = 0 ∨ a = 1) ∧ takeF u s = (u, x, 2) ∧ u.got = t.got + 1) ∧ x % 65536 = s ∧ u.on = true := by
  intro u x a
  by_cases hon : t.on = true
  · have hx := near16_mod t.high s
    rcases takeF_ways t hon s with ⟨c1, e⟩ | ⟨c1, c2, e⟩ | ⟨c1, c2, c3, e⟩ | ⟨c1, c2, c3, e⟩ <;> (show _ ∧ _ ∧ _; simp only [u, x, a]; rw [e]; dsimp only)
    · refine ⟨.inr ⟨.inl rfl, ?_, rfl⟩, by omega, rfl⟩
      refine takeF_again rfl (near16_of _ _ _ (by dsimp only; omega) (by dsimp only; omega) (by omega)) (by dsimp; omega) (by dsimp; omega) ?_
      dsimp
      rw [shlN_bit]
      simp
    · exact ⟨.inl ⟨.inl rfl, rfl, e⟩, by omega, hon⟩
    · exact ⟨.inl ⟨.inr rfl, rfl, e⟩, by omega, hon⟩
    · refine ⟨.inr ⟨.inr rfl, ?_, rfl⟩, by omega, rfl⟩
      refine takeF_again rfl rfl c1 c2 ?_
      dsimp
      rw [orN_bit]
      simp
  · have hof : t.on = false := by simpa using hon
    simp only [u, x, a]
    rw [takeF_off hof]
    dsimp only
    refine ⟨.inr ⟨.inl rfl, ?_, by rw [h0 hof]; rfl⟩, by omega, rfl⟩
    exact takeF_again rfl (near16_of _ _ _ (by dsimp only; omega) (by dsimp only; omega) (by omega)) (by dsimp; omega) (by dsimp; omega) (by dsimp; simp [testBit_one])
/-- One behind the other, so many. -/
structure Ord (t : Tr) (f : Int) (i : Nat) : Prop where
  on : t.on = true
  base : t.base = f
  high : t.high = f + i - 1
  got : t.got = i
  bit : ∀ j : Nat, j < 64 → j < i → t.seen.testBit j = true
theorem ord_one (f : Int) : takeF tr0 f = (⟨true, f, f, 1, 1⟩, f, 0) ∧ Ord ⟨true, f, f, 1, 1⟩ f 1 :=
  ⟨takeF_off rfl f, rfl, rfl, by dsimp; omega, rfl, fun j _ h => by
    obtain rfl : j = 0 := by omega
    show Nat.testBit 1 0 = true
    simp [testBit_one]⟩
theorem ord_step {t : Tr} {f : Int} {i : Nat} (h : Ord t f i) (s : Int) (hs : (s - (f + i)) % 65536 = 0) :
    takeF t s = (⟨true, t.base, f + i, t.got + 1, shlN t.seen 1⟩, f + i, 0) ∧ Ord ⟨true, t.base, f + i, t.got + 1, shlN t.seen 1⟩ f (i + 1) := by
  have e := h.high
  have hn : near16 t.high s = f + i := near16_of _ _ _ (by omega) (by omega) hs
  constructor
  · have := takeF_new h.on hn (by omega)
    rw [show (f + i - t.high).toNat = 1 by omega] at this
    exact this
  · refine ⟨rfl, h.base, by dsimp; omega, by dsimp; rw [h.got]; (try simp), fun j hj hi => ?_⟩
    dsimp
    rw [shlN_bit]
    cases j with
    | zero => simp
    | succ j =>
      have := h.bit j (by omega) (by omega)
      simp [this, hj]
theorem ord_lost {t : Tr} {f : Int} {i : Nat} (h : Ord t f i) : lostF t = 0 := by
  unfold lostF
  rw [if_pos h.on, h.base, h.high, h.got]
  omega
theorem missTo_nil (t : Tr) (h : ∀ j : Nat, j < 64 → t.base ≤ t.high - j → t.seen.testBit j = true) : ∀ i, i ≤ 64 → missTo t i = [] := by
  intro i
  induction i with
  | zero => intro _; rfl
  | succ i ih =>
    intro hi
    unfold missTo
    rw [ih (by omega), if_neg]
    · rfl
    · rintro ⟨h1, h2⟩
      have := h (63 - i) (by omega) (by omega)
      rw [this] at h2
      cases h2
theorem ord_miss {t : Tr} {f : Int} {i : Nat} (h : Ord t f i) : missF t = [] := by
  unfold missF
  rw [if_pos h.on]
  refine missTo_nil t (fun j hj hb => h.bit j hj ?_) 64 (Nat.le_refl _)
  have := h.base; have := h.high
  omega
theorem miss_off {t : Tr} (h : t.on = false) : missF t = [] := by unfold missF; rw [if_neg (by simp [h])]
/-- Those that miss: where they are, and that none came. -/
theorem missTo_iff (t : Tr) (i : Nat) (hi : i ≤ 64) (x : Int) : x ∈ missTo t i ↔ t.base ≤ x ∧ t.high - 63 ≤ x ∧ x < t.high - 63 + i ∧ t.seen.testBit (t.high - x).toNat = false := by
  induction i with
  | zero =>
    simp only [missTo, List.not_mem_nil, false_iff]
    omega
  | succ i ih =>
    unfold missTo
    rw [List.mem_append, ih (by omega)]
    by_cases hx : x = t.high - (63 - i : Int)
    · subst hx
      have e : (t.high - (t.high - (63 - i : Int))).toNat = 63 - i := by omega
      rw [e]
      constructor
      · rintro (h | h)
        · omega
        · split at h
          · rename_i q; exact ⟨q.1, by omega, by omega, q.2⟩
          · simp at h
      · rintro ⟨h1, h2, h3, h4⟩
        right
        rw [if_pos ⟨h1, h4⟩]
        simp
    · constructor
      · rintro (⟨h1, h2, h3, h4⟩ | h)
        · exact ⟨h1, h2, by omega, h4⟩
        · split at h
          · simp at h; omega
          · simp at h
      · rintro ⟨h1, h2, h3, h4⟩
        left
        exact ⟨h1, h2, by omega, h4⟩
theorem missF_iff (t : Tr) (hon : t.on = true) (x : Int) : x ∈ missF t ↔ t.base ≤ x ∧ t.high - 63 ≤ x ∧ x ≤ t.high ∧ t.seen.testBit (t.high - x).toNat = false := by
  unfold missF
  rw [if_pos hon, missTo_iff t 64 (Nat.le_refl _)]
  constructor <;> (rintro ⟨h1, h2, h3, h4⟩; exact ⟨h1, h2, by omega, h4⟩)
/-- One that misses, told late. -/
theorem miss_take (t : Tr) (hon : t.on = true) (x : Int) (hx : x ∈ missF t) (s : Int) (hs : (s - x) % 65536 = 0) :
    takeF t s = (⟨true, t.base, t.high, t.got + 1, orN t.seen (t.high - x).toNat⟩, x, 1) := by
  obtain ⟨h1, h2, h3, h4⟩ := (missF_iff t hon x).1 hx
  have := takeF_late hon (near16_of t.high x s (by omega) (by omega) hs) (by omega) (by omega) h4
  rw [this, Int.min_eq_left h1]
/-- What every step keeps. -/
structure Fine (t : Tr) : Prop where
  off : t.on = false → t = tr0
  got : t.on = true → 1 ≤ t.got
  le : t.on = true → t.base ≤ t.high
theorem fine_zero : Fine tr0 := ⟨fun _ => rfl, fun h => (by cases h), fun h => (by cases h)⟩
theorem fine_take {t : Tr} (h : Fine t) (s : Int) : Fine (takeF t s).1 ∧ (takeF t s).1.on = true ∧ 0 ≤ (takeF t s).2.2 ∧ (takeF t s).2.2 ≤ 3 ∧ ((takeF t s).2.2 = 0 → (takeF t s).1.high = (takeF t s).2.1) ∧ ((takeF t s).2.2 ≠ 0 → (takeF t s).2.1 ≤ (takeF t s).1.high) := by
  by_cases hon : t.on = true
  · have hg := h.got hon
    have hl := h.le hon
    rcases takeF_ways t hon s with ⟨c1, e⟩ | ⟨c1, c2, e⟩ | ⟨c1, c2, c3, e⟩ | ⟨c1, c2, c3, e⟩ <;> rw [e] <;> dsimp only
    · exact ⟨⟨fun q => (by cases q), fun _ => by dsimp; omega, fun _ => by dsimp; omega⟩, rfl, by omega, by omega, fun _ => rfl, fun q => absurd rfl q⟩
    · exact ⟨h, hon, by omega, by omega, fun q => (by omega), fun _ => by omega⟩
    · exact ⟨h, hon, by omega, by omega, fun q => (by omega), fun _ => by omega⟩
    · exact ⟨⟨fun q => (by cases q), fun _ => by dsimp; omega, fun _ => by dsimp; omega⟩, rfl, by omega, by omega, fun q => (by omega), fun _ => by omega⟩
  · have hof : t.on = false := by simpa using hon
    rw [takeF_off hof]
    exact ⟨⟨fun q => (by cases q), fun _ => by dsimp; omega, fun _ => by dsimp; omega⟩, rfl, by dsimp; omega, by dsimp; omega, fun _ => rfl, fun q => absurd rfl q⟩

/-! ### One behind the other, but for some -/
/-- Those that came of the first k; those that are gone. -/
def cameF (f : Int) (g : List Bool) : Nat → List Int
  | 0 => [f]
  | k + 1 => cameF f g k ++ (if g.getD k false then [] else [f + k + 1])
def goneF (f : Int) (g : List Bool) : Nat → List Int
  | 0 => []
  | k + 1 => goneF f g k ++ (if g.getD k false then [f + k + 1] else [])
theorem cameF_iff (f : Int) (g : List Bool) (k : Nat) (x : Int) : x ∈ cameF f g k ↔ x = f ∨ ∃ i : Nat, i < k ∧ g.getD i false = false ∧ x = f + i + 1 := by
  induction k with
  | zero => simp [cameF]
  | succ k ih =>
    unfold cameF
    rw [List.mem_append, ih]
    constructor
    · rintro ((h | ⟨i, h1, h2, h3⟩) | h)
      · exact .inl h
      · exact .inr ⟨i, by omega, h2, h3⟩
      · split at h
        · simp at h
        · rename_i q
          simp at h
          exact .inr ⟨k, by omega, by simpa using q, h⟩
    · rintro (h | ⟨i, h1, h2, h3⟩)
      · exact .inl (.inl h)
      · by_cases hik : i = k
        · subst hik
          right
          rw [if_neg (by rw [h2]; simp)]
          simp [h3]
        · exact .inl (.inr ⟨i, by omega, h2, h3⟩)
theorem goneF_iff (f : Int) (g : List Bool) (k : Nat) (x : Int) : x ∈ goneF f g k ↔ ∃ i : Nat, i < k ∧ g.getD i false = true ∧ x = f + i + 1 := by
  induction k with
  | zero => simp [goneF]
  | succ k ih =>
    unfold goneF
    rw [List.mem_append, ih]
    constructor
    · rintro (⟨i, h1, h2, h3⟩ | h)
      · exact ⟨i, by omega, h2, h3⟩
      · split at h
        · rename_i q
          simp at h
          exact ⟨k, by omega, by simpa using q, h⟩
        · simp at h
    · rintro ⟨i, h1, h2, h3⟩
      by_cases hik : i = k
      · subst hik
        right
        rw [if_pos h2]
        simp [h3]
      · exact .inl ⟨i, by omega, h2, h3⟩
theorem came_gone (f : Int) (g : List Bool) (k : Nat) : (cameF f g k).length + (goneF f g k).length = k + 1 := by
  induction k with
  | zero => rfl
  | succ k ih =>
    unfold cameF goneF
    rw [List.length_append, List.length_append]
    split <;> simp <;> omega
theorem goneF_rise (f : Int) (g : List Bool) (k : Nat) : (goneF f g k).Pairwise (· < ·) := by
  induction k with
  | zero => simp [goneF]
  | succ k ih =>
    unfold goneF
    rw [List.pairwise_append]
    refine ⟨ih, by split <;> simp, ?_⟩
    intro a ha b hb
    obtain ⟨i, h1, _, h3⟩ := (goneF_iff f g k a).1 ha
    split at hb
    · simp at hb; omega
    · simp at hb
theorem missTo_rise (t : Tr) (k : Nat) (hk : k ≤ 64) : (missTo t k).Pairwise (· < ·) := by
  induction k with
  | zero => simp [missTo]
  | succ k ih =>
    unfold missTo
    rw [List.pairwise_append]
    refine ⟨ih (by omega), by split <;> simp, ?_⟩
    intro a ha b hb
    have := (missTo_iff t k (by omega) a).1 ha
    split at hb
    · simp at hb; omega
    · simp at hb
/-- Two rows that rise and have the same members are one. -/
theorem rise_ext : ∀ (l m : List Int), l.Pairwise (· < ·) → m.Pairwise (· < ·) → (∀ x, x ∈ l ↔ x ∈ m) → l = m
  | [], [], _, _, _ => rfl
  | [], b :: m, _, _, h => absurd ((h b).2 (by simp)) (by simp)
  | a :: l, [], _, _, h => absurd ((h a).1 (by simp)) (by simp)
  | a :: l, b :: m, hl, hm, h => by
    rw [List.pairwise_cons] at hl hm
    have hab : a = b := by
      rcases List.mem_cons.1 ((h a).1 (by simp)) with q | q
      · exact q
      · rcases List.mem_cons.1 ((h b).2 (by simp)) with r | r
        · exact r.symm
        · have := hm.1 a q; have := hl.1 b r; omega
    subst hab
    rw [rise_ext l m hl.2 hm.2]
    intro x
    have := h x
    constructor
    · intro q
      rcases List.mem_cons.1 (this.1 (by simp [q])) with r | r
      · subst r; have := hl.1 x q; omega
      · exact r
    · intro q
      rcases List.mem_cons.1 (this.2 (by simp [q])) with r | r
      · subst r; have := hm.1 x q; omega
      · exact r
/-- The state of those that came. -/
structure Gaps (t : Tr) (f : Int) (l : List Int) (h : Int) : Prop where
  on : t.on = true
  base : t.base = f
  high : t.high = h
  le : f ≤ h
  got : t.got = l.length
  bit : ∀ i : Nat, i < 64 → (t.seen.testBit i = true ↔ h - i ∈ l)
theorem gaps_one (f : Int) : Gaps ⟨true, f, f, 1, 1⟩ f [f] f := ⟨rfl, rfl, rfl, by omega, rfl, fun i _ => by rw [testBit_one]; simp; omega⟩
/-- One ahead of all. -/
theorem gaps_new {t : Tr} {f h : Int} {l : List Int} (g : Gaps t f l h) (y s : Int) (hy : h < y) (hy2 : y ≤ h + 1000) (hl : ∀ x ∈ l, x ≤ h) (hs : (s - y) % 65536 = 0) :
    takeF t s = (⟨true, f, y, t.got + 1, shlN t.seen (y - h).toNat⟩, y, 0) ∧ Gaps ⟨true, f, y, t.got + 1, shlN t.seen (y - h).toNat⟩ f (l ++ [y]) y := by
  have e := g.high
  have := g.le
  constructor
  · have := takeF_new g.on (near16_of t.high y s (by omega) (by omega) hs) (by omega)
    rw [g.base, e] at this
    exact this
  · refine ⟨rfl, rfl, rfl, by omega, by dsimp; rw [g.got]; simp, fun i hi => ?_⟩
    dsimp
    rw [shlN_bit, List.mem_append]
    by_cases hz : i = 0
    · subst hz; simp
    · by_cases hd : (y - h).toNat ≤ i
      · have q := g.bit (i - (y - h).toNat) (by omega)
        rw [show h - ((i - (y - h).toNat : Nat) : Int) = y - i by omega] at q
        rw [← q]
        simp [hz, hi, hd]
        omega
      · have hno : y - (i : Int) ∉ l := fun hm => by have := hl _ hm; omega
        simp [hz, hd, hno]
        omega
theorem gaps_late {t : Tr} {f h : Int} {l : List Int} (g : Gaps t f l h) (y s : Int) (h0 : f ≤ y) (h1 : y ≤ h) (h2 : h - y < 64) (hn : y ∉ l) (hs : (s - y) % 65536 = 0) :
    takeF t s = (⟨true, f, h, t.got + 1, orN t.seen (h - y).toNat⟩, y, 1) ∧ Gaps ⟨true, f, h, t.got + 1, orN t.seen (h - y).toNat⟩ f (l ++ [y]) h := by
  have e := g.high
  have hb : t.seen.testBit (h - y).toNat = false := by
    have := g.bit (h - y).toNat (by omega)
    rw [show h - ((h - y).toNat : Int) = y by omega] at this
    cases hq : t.seen.testBit (h - y).toNat with
    | false => rfl
    | true => exact absurd (this.1 hq) hn
  constructor
  · have := takeF_late g.on (near16_of t.high y s (by omega) (by omega) hs) (by omega) (by omega) (by rw [e]; exact hb)
    rw [g.base, e, Int.min_eq_left h0] at this
    exact this
  · refine ⟨rfl, rfl, rfl, g.le, by dsimp; rw [g.got]; simp, fun i hi => ?_⟩
    dsimp
    rw [orN_bit, List.mem_append, ← g.bit i hi]
    simp
    constructor
    · rintro (q | q)
      · exact .inl q
      · right; omega
    · rintro (q | q)
      · exact .inl q
      · right; omega
theorem gaps_miss {t : Tr} {f h : Int} {l : List Int} (g : Gaps t f l h) (x : Int) : x ∈ missF t ↔ f ≤ x ∧ h - 63 ≤ x ∧ x ≤ h ∧ x ∉ l := by
  rw [missF_iff t g.on, g.base, g.high]
  constructor
  · rintro ⟨h1, h2, h3, h4⟩
    refine ⟨h1, h2, h3, fun hm => ?_⟩
    have := (g.bit (h - x).toNat (by omega)).2 (by rw [show h - ((h - x).toNat : Int) = x by omega]; exact hm)
    rw [this] at h4
    cases h4
  · rintro ⟨h1, h2, h3, h4⟩
    refine ⟨h1, h2, h3, ?_⟩
    cases hq : t.seen.testBit (h - x).toNat with
    | false => rfl
    | true =>
      have := (g.bit (h - x).toNat (by omega)).1 hq
      rw [show h - ((h - x).toNat : Int) = x by omega] at this
      exact absurd this h4
theorem gaps_lost {t : Tr} {f h : Int} {l : List Int} (g : Gaps t f l h) : lostF t = h - f + 1 - l.length := by
  unfold lostF
  rw [if_pos g.on, g.base, g.high, g.got]
/-- All came but those that are gone: they miss. -/
theorem gaps_all {t : Tr} {f : Int} {g : List Bool} {n : Nat} (hn : n ≤ 60) (h : Gaps t f (cameF f g n ++ [f + n + 1]) (f + n + 1)) : missF t = goneF f g n ∧ lostF t = (goneF f g n).length := by
  constructor
  · have hm : missF t = missTo t 64 := by unfold missF; rw [if_pos h.on]
    refine rise_ext _ _ (by rw [hm]; exact missTo_rise t 64 (Nat.le_refl _)) (goneF_rise f g n) (fun x => ?_)
    rw [gaps_miss h, goneF_iff, List.mem_append, cameF_iff]
    constructor
    · rintro ⟨h1, h2, h3, h4⟩
      simp only [not_or, List.mem_singleton] at h4
      obtain ⟨⟨h5, h6⟩, h7⟩ := h4
      refine ⟨(x - f - 1).toNat, by omega, ?_, by omega⟩
      cases hq : g.getD (x - f - 1).toNat false with
      | true => rfl
      | false => exact absurd ⟨(x - f - 1).toNat, by omega, hq, by omega⟩ h6
    · rintro ⟨i, h1, h2, h3⟩
      refine ⟨by omega, by omega, by omega, ?_⟩
      simp only [not_or, List.mem_singleton]
      refine ⟨⟨by omega, ?_⟩, by omega⟩
      rintro ⟨j, h4, h5, h6⟩
      obtain rfl : j = i := by omega
      rw [h2] at h5
      cases h5
  · rw [gaps_lost h, List.length_append]
    have := came_gone f g n
    simp only [List.length_singleton]
    omega
/-- When those that were gone came late, none misses. -/
theorem gaps_none {t : Tr} {f : Int} {g : List Bool} {n : Nat} (h : Gaps t f (cameF f g n ++ [f + n + 1] ++ goneF f g n) (f + n + 1)) : missF t = [] ∧ lostF t = 0 := by
  constructor
  · apply List.eq_nil_iff_forall_not_mem.2
    intro x hx
    obtain ⟨h1, h2, h3, h4⟩ := (gaps_miss h x).1 hx
    apply h4
    rw [List.mem_append, List.mem_append, cameF_iff, goneF_iff]
    by_cases q1 : x = f
    · exact .inl (.inl (.inl q1))
    · by_cases q2 : x = f + n + 1
      · exact .inl (.inr (by simp [q2]))
      · cases hq : g.getD (x - f - 1).toNat false with
        | true => exact .inr ⟨(x - f - 1).toNat, by omega, hq, by omega⟩
        | false => exact .inl (.inl (.inr ⟨(x - f - 1).toNat, by omega, hq, by omega⟩))
  · rw [gaps_lost h, List.length_append, List.length_append]
    have := came_gone f g n
    simp only [List.length_singleton]
    omega
end Go.Proofs.Ytbfmcnidghjajaa
