/- Packets that are kept: plain laws, and what the store holds in memory. -/
import Derived.Test.YtmpajoheoobnkaaMapIs
import Derived.Test.YtmpajoheoobnkaaVia
import Derived.Laws.CopyOwn
import Derived.Laws.BytesArg
import Derived.Deep.OwnRows
import Derived.Deep.QuietTactic
import Derived.StillTailTactics
import Derived.WalkLawsBesides
import Derived.IntWalk
import Derived.Outline
namespace Go.Proofs.Ytmpajoheoobnkaa
set_option linter.unusedSimpArgs false
set_option linter.unusedVariables false
open Go.RowKit
abbrev Pk := Int × List Int
/-- The last packet of a number: which one. -/
def lastF : List Pk → Int → Option Nat
  | [], _ => none
  | p :: K, x => match lastF K x with | some j => some (j + 1) | none => if p.1 = x then some 0 else none
theorem lastF_lt {K : List Pk} {x : Int} {j : Nat} (h : lastF K x = some j) : ∃ hj : j < K.length, K[j].1 = x := by
  induction K generalizing j with
  | nil => cases h
  | cons p K ih =>
    unfold lastF at h
    split at h
    · rename_i i q
      cases h
      obtain ⟨hj, e⟩ := ih q
      exact ⟨by simpa using hj, by simpa using e⟩
    · split at h
      · rename_i e; cases h; exact ⟨by simp, by simpa using e⟩
      · cases h
theorem lastF_push (K : List Pk) (p : Pk) (x : Int) : lastF (K ++ [p]) x = if p.1 = x then some K.length else lastF K x := by
  induction K with
  | nil => simp [lastF]
  | cons a K ih =>
    rw [List.cons_append, lastF, ih]
    by_cases h : p.1 = x
    · rw [if_pos h, if_pos h]; rfl
    · rw [if_neg h, if_neg h]; rfl
/-- What an add leaves. -/
def addK (n : Nat) (K : List Pk) (p : Pk) : List Pk := if K.length = n then K.tail ++ [p] else K ++ [p]
theorem addK_length {n t : Nat} {K : List Pk} {p : Pk} (h : K.length = min t n) (hn : 1 ≤ n) : (addK n K p).length = min (t + 1) n := by
  unfold addK
  split
  · rw [List.length_append, List.length_tail, List.length_singleton]; omega
  · rw [List.length_append, List.length_singleton]; omega
def posF (n t : Nat) (K : List Pk) (x : Int) : Option Value := (lastF K x).map fun j => .int .i64 (((t - K.length + j) % n : Nat) : Int)
theorem pos_inj {n b i j : Nat} (hi : i < n) (hj : j < n) (h : (b + i) % n = (b + j) % n) : i = j := by
  have h1 := Nat.div_add_mod (b + i) n
  have h2 := Nat.div_add_mod (b + j) n
  rw [h] at h1
  have h3 : n * ((b + i) / n) + j = n * ((b + j) / n) + i := by omega
  rcases Nat.lt_trichotomy ((b + i) / n) ((b + j) / n) with q | q | q
  · have : n * ((b + i) / n) + n ≤ n * ((b + j) / n) := by
      calc n * ((b + i) / n) + n = n * ((b + i) / n + 1) := by rw [Nat.mul_add, Nat.mul_one]
        _ ≤ n * ((b + j) / n) := Nat.mul_le_mul_left _ q
    omega
  · rw [q] at h3; omega
  · have : n * ((b + j) / n) + n ≤ n * ((b + i) / n) := by
      calc n * ((b + j) / n) + n = n * ((b + j) / n + 1) := by rw [Nat.mul_add, Nat.mul_one]
        _ ≤ n * ((b + i) / n) := Nat.mul_le_mul_left _ q
    omega
/-- The map behind an add of a new packet, where there was room. -/
theorem posF_push {n t : Nat} {K : List Pk} {p : Pk} (h : K.length = min t n) (hl : K.length < n) (y : Int) :
    (if y = p.1 then some (.int .i64 ((t % n : Nat) : Int)) else posF n t K y) = posF n (t + 1) (addK n K p) y := by
  have e : addK n K p = K ++ [p] := by unfold addK; rw [if_neg (by omega)]
  have ht : t = K.length := by omega
  unfold posF
  rw [e, lastF_push]
  by_cases q : y = p.1
  · rw [if_pos q, if_pos q.symm]
    simp only [Option.map_some, List.length_append, List.length_singleton]
    congr 4
    omega
  · rw [if_neg q, if_neg (fun r => q r.symm)]
    simp only [List.length_append, List.length_singleton]
    congr 1
    funext j
    congr 4
    omega
/-- .. where the oldest one goes: what is left of the map without it. -/
def evictF (n t : Nat) (K : List Pk) (x : Int) : Option Value := posF n (t + 1) K x
theorem evict_keep {n t : Nat} {p : Pk} {K : List Pk} (h : K.length + 1 = n) (ht : n ≤ t) (hx : lastF K p.1 ≠ none) (y : Int) : posF n t (p :: K) y = posF n t K y ∧ posF n t (p :: K) p.1 = posF n t K p.1 := by
  have key : ∀ y, (lastF K y ≠ none ∨ y ≠ p.1) → posF n t (p :: K) y = posF n t K y := by
    intro y hy
    unfold posF
    rw [lastF]
    cases q : lastF K y with
    | none =>
      have : ¬ p.1 = y := by rcases hy with r | r; exact absurd q r; exact fun s => r s.symm
      rw [if_neg this]; rfl
    | some j =>
      simp only [Option.map_some, List.length_cons]
      congr 4
      omega
  exact ⟨key y (by by_cases q : y = p.1; exact .inl (q ▸ hx); exact .inr q), key p.1 (.inl hx)⟩
theorem evict_drop {n t : Nat} {p : Pk} {K : List Pk} (h : K.length + 1 = n) (ht : n ≤ t) (hx : lastF K p.1 = none) (y : Int) : (if y = p.1 then none else posF n t (p :: K) y) = posF n t K y := by
  by_cases q : y = p.1
  · subst q
    rw [if_pos rfl]
    unfold posF
    rw [hx]
    rfl
  · rw [if_neg q]
    unfold posF
    rw [lastF]
    cases r : lastF K y with
    | none => rw [if_neg (fun s => q s.symm)]; rfl
    | some j =>
      simp only [Option.map_some, List.length_cons]
      congr 4
      omega
theorem evict_push {n t : Nat} {p p0 : Pk} {K : List Pk} (h : K.length + 1 = n) (ht : n ≤ t) (y : Int) :
    (if y = p.1 then some (.int .i64 ((t % n : Nat) : Int)) else posF n t K y) = posF n (t + 1) (addK n (p0 :: K) p) y := by
  have e : addK n (p0 :: K) p = K ++ [p] := by unfold addK; rw [if_pos (by simpa using h)]; rfl
  unfold posF
  rw [e, lastF_push]
  by_cases q : y = p.1
  · rw [if_pos q, if_pos q.symm]
    simp only [Option.map_some, List.length_append, List.length_singleton]
    congr 4
    rw [show t + 1 - (K.length + 1) + K.length = t by omega]
  · rw [if_neg q, if_neg (fun r => q r.symm)]
    simp only [List.length_append, List.length_singleton]
    congr 1
    funext j
    congr 4
    omega
/-- An entry of the ring. -/
structure RE where
  q : Int
  v : Value
instance : Inhabited RE := ⟨⟨0, .slice none 0 0⟩⟩
def re0 : RE := ⟨0, .slice none 0 0⟩
def cellsR : List RE → List Value
  | [] => []
  | r :: l => .int .u16 r.q :: r.v :: cellsR l
theorem cellsR_length (l : List RE) : (cellsR l).length = l.length * 2 := by
  induction l with
  | nil => rfl
  | cons s l ih => simp [cellsR, ih]; omega
theorem cellsR_get (l : List RE) (i : Nat) (hi : i < l.length) : (cellsR l)[i * 2]? = some (.int .u16 l[i].q) ∧ (cellsR l)[i * 2 + 1]? = some l[i].v := by
  induction l generalizing i with
  | nil => simp at hi
  | cons s l ih =>
    cases i with
    | zero => simp [cellsR]
    | succ i =>
      have := ih i (by simpa using hi)
      rw [show (i + 1) * 2 = i * 2 + 2 by omega]
      simpa [cellsR] using this
theorem cellsR_set (l : List RE) (i : Nat) (hi : i < l.length) (r : RE) : (((cellsR l).set (i * 2) (.int .u16 r.q)).set (i * 2 + 1) r.v) = cellsR (l.set i r) := by
  induction l generalizing i with
  | nil => simp at hi
  | cons a l ih =>
    cases i with
    | zero => simp [cellsR]
    | succ i =>
      have := ih i (by simpa using hi)
      rw [show (i + 1) * 2 = i * 2 + 2 by omega]
      simpa [cellsR] using this
/-- Bytes of their own. -/
def BytesAt (w : World) (E : Nat) (v : Value) (zs : List Int) : Prop :=
  ∃ g, v = .slice (some ⟨g, 0, none⟩) zs.length zs.length ∧ E ≤ g ∧ w.heap[g]? = some (.cells (zs.map (Value.int .u8)).toArray 5 (0, 0))
theorem BytesAt.kept {w w' : World} {E : Nat} {v : Value} {zs : List Int} (h : BytesAt w E v zs) (hb : ∀ g c, E ≤ g → w.heap[g]? = some (.cells c 5 (0, 0)) → w'.heap[g]? = some (.cells c 5 (0, 0))) : BytesAt w' E v zs := by
  obtain ⟨g, h1, h2, h3⟩ := h
  exact ⟨g, h1, h2, hb g _ h2 h3⟩
theorem bytes_ints {w : World} {E : Nat} {zs : List Int} {A : Option Addr} {n c : Nat} (h : BytesAt w E (.slice A n c) zs) : IntsAt w A .u8 zs ∧ n = zs.length ∧ c = zs.length ∧ ∃ g, A = some ⟨g, 0, none⟩ ∧ E ≤ g ∧ g < w.heap.size := by
  obtain ⟨g, h1, h2, h3⟩ := h
  simp only [Value.slice.injEq] at h1
  obtain ⟨rfl, rfl, rfl⟩ := h1
  refine ⟨fun i hi => ⟨g, 0, rfl, blk_lt h3, ?_⟩, rfl, rfl, g, rfl, h2, blk_lt h3⟩
  rw [(blk_facts h3).1, Nat.zero_add]
  simp [List.getD, hi]
/-- The store: S its block, R the ring's, M the map's; t packets were added, K are kept. -/
structure StoreAt (w : World) (S R M B E n t m : Nat) (K : List Pk) (rg : List RE) : Prop where
  s : w.heap[S]? = some (.cells #[.slice (some ⟨R, 0, none⟩) n n, .int .i64 ((t % n : Nat) : Int), .int .i64 (K.length : Nat), .map (some M)] 48 (0, 0))
  r : w.heap[R]? = some (.cells (cellsR rg).toArray 50 (0, 0))
  rl : rg.length = n
  rw : ∀ x ∈ rg, 0 ≤ x.q ∧ x.q ≤ 65535 ∧ ∃ A k c, x.v = .slice A k c
  map : MapIs w Try.prog 29 .u16 M m (posF n t K)
  kl : K.length = min t n
  ent : ∀ j (hj : j < K.length), ∃ re, rg[(t - K.length + j) % n]? = some re ∧ re.q = K[j].1 ∧ BytesAt w E re.v K[j].2
  bS : B ≤ S
  bR : B ≤ R
  bM : B ≤ M
  bw : B ≤ w.heap.size
  ew : E ≤ w.heap.size
structure Moved (S R B : Nat) (w w' : World) : Prop where
  below : Below B w w'
  size : w.heap.size ≤ w'.heap.size
  other : ∀ (j : Nat) (c : Array Value) (t : TypeId), w.heap[j]? = some (.cells c t (0, 0)) → j ≠ S → j ≠ R → w'.heap[j]? = some (.cells c t (0, 0))
theorem Moved.refl (S R B : Nat) (w : World) : Moved S R B w w := ⟨Below.refl _ _, Nat.le_refl _, fun _ _ _ h _ _ => h⟩
theorem Moved.trans {S R B : Nat} {a b c : World} (h : Moved S R B a b) (k : Moved S R B b c) : Moved S R B a c :=
  ⟨h.below.trans k.below, Nat.le_trans h.size k.size, fun j x t hj h1 h2 => k.other j x t (h.other j x t hj h1 h2) h1 h2⟩
theorem Moved.of {S R B : Nat} {w w' : World} (h : Below w.heap.size w w') (hB : B ≤ w.heap.size) : Moved S R B w w' :=
  ⟨h.mono hB, h.size, fun j c t hj _ _ => heap_below h (blk_lt hj) hj⟩
theorem Moved.call {S R B : Nat} {a w w' : World} (h : Moved S R B a w) (hb : Below w.heap.size w w') (hB : B ≤ w.heap.size) : Moved S R B a w' := h.trans (.of hb hB)
theorem moved_alloc {S R B : Nat} {a w : World} {o : Obj} (hB : B ≤ w.heap.size) (h : Moved S R B a w) : Moved S R B a (w.alloc o) := h.call (Below.alloc (Below.refl _ _) (Nat.le_refl _) o) hB
theorem Moved.drewN {S R B : Nat} {a w : World} (h : Moved S R B a w) (n : Nat) : Moved S R B a (w.drewN n) := ⟨below_drewN h.below n, h.size, h.other⟩
theorem Moved.drew {S R B : Nat} {a w : World} (h : Moved S R B a w) : Moved S R B a w.drew := ⟨h.below.drew, h.size, h.other⟩
theorem moved_set {S R B : Nat} {a w : World} {p : Addr} {v : Value} (hp : p.block = S ∨ p.block = R) (hB : B ≤ p.block) (h : Moved S R B a w) : Moved S R B a (w.setCell p v) :=
  ⟨h.below.setCell hB v, by rw [size_set]; exact h.size, fun i c t hi h1 h2 => heap_set_other' (by rcases hp with q | q <;> rw [q] <;> assumption) (h.other i c t hi h1 h2)⟩
theorem moved_map {S R B M n : Nat} {a w w' : World} {P : Program} {k : TypeId} {q : IntKind} {f : Int → Option Value} (h : Moved S R B a w) (hm : MapIs w P k q M n f) (hg : w.grownBy w' (some M)) (hB : B ≤ M) (hs : B ≤ w.heap.size) : Moved S R B a w' :=
  ⟨h.below.grown hg hs (fun k hk => by cases hk; exact hB), Nat.le_trans h.size hg.size, fun i c t hi h1 h2 => by
    have h3 := h.other i c t hi h1 h2
    exact (hg.block i (blk_lt h3) (fun q => hm.not_cells h3 (by cases q; rfl))).trans h3⟩
section
variable {w w' : World} {S R M B E n t m : Nat} {K : List Pk} {rg : List RE}
theorem StoreAt.below (h : StoreAt w S R M B E n t m K rg) (hb : Below w.heap.size w w') : StoreAt w' S R M B E n t m K rg :=
  ⟨heap_below hb (blk_lt h.s) h.s, heap_below hb (blk_lt h.r) h.r, h.rl, h.rw, h.map.below hb, h.kl, fun j hj => by
    obtain ⟨re, h1, h2, h3⟩ := h.ent j hj
    exact ⟨re, h1, h2, h3.kept fun g c _ hg => heap_below hb (blk_lt hg) hg⟩, h.bS, h.bR, h.bM, Nat.le_trans h.bw hb.size, Nat.le_trans h.ew hb.size⟩
theorem StoreAt.alloc (h : StoreAt w S R M B E n t m K rg) (o : Obj) : StoreAt (w.alloc o) S R M B E n t m K rg := h.below (Below.alloc (Below.refl _ _) (Nat.le_refl _) o)
theorem StoreAt.drewN (h : StoreAt w S R M B E n t m K rg) (k : Nat) : StoreAt (w.drewN k) S R M B E n t m K rg := h.below (below_drewN (Below.refl _ _) k)
theorem StoreAt.drew (h : StoreAt w S R M B E n t m K rg) : StoreAt w.drew S R M B E n t m K rg := h.below (Below.refl _ _).drew
theorem StoreAt.mono (h : StoreAt w S R M B E n t m K rg) {m' : Nat} (hm : m ≤ m') : StoreAt w S R M B E n t m' K rg := ⟨h.s, h.r, h.rl, h.rw, h.map.mono hm, h.kl, h.ent, h.bS, h.bR, h.bM, h.bw, h.ew⟩
/-- A write to a block that is none of the store's. -/
theorem StoreAt.set (h : StoreAt w S R M B E n t m K rg) {p : Addr} {u : Value} (h1 : p.block ≠ S) (h2 : p.block ≠ R) (h3 : p.block ≠ M) (h4 : p.block < E) : StoreAt (w.setCell p u) S R M B E n t m K rg :=
  ⟨heap_set_other' (Ne.symm h1) h.s, heap_set_other' (Ne.symm h2) h.r, h.rl, h.rw, h.map.set (Ne.symm h3) u, h.kl, fun j hj => by
    obtain ⟨re, q1, q2, q3⟩ := h.ent j hj
    exact ⟨re, q1, q2, q3.kept fun g c hE hg => heap_set_other' (by omega) hg⟩, h.bS, h.bR, h.bM, by rw [size_set]; exact h.bw, by rw [size_set]; exact h.ew⟩
theorem StoreAt.raise (h : StoreAt w S R M B E n t m [] rg) {E' : Nat} (hE : E' ≤ w.heap.size) : StoreAt w S R M B E' n t m [] rg :=
  ⟨h.s, h.r, h.rl, h.rw, h.map, h.kl, fun j hj => by simp at hj, h.bS, h.bR, h.bM, h.bw, hE⟩
end
/-- The ring's cells. -/
theorem ring_cells {w : World} {R i : Nat} {l : List RE} {t : TypeId} (hL : w.heap[R]? = some (.cells (cellsR l).toArray t (0, 0))) (hi : i < l.length) :
    w.cell? ⟨R, i * 2, none⟩ = some (.int .u16 l[i].q) ∧ w.cell? ⟨R, i * 2 + 1, none⟩ = some l[i].v := by
  obtain ⟨h1, h2⟩ := cellsR_get l i hi
  refine ⟨?_, ?_⟩ <;> rw [(blk_facts hL).1] <;> simpa
theorem made_one (z : Value) (n : Nat) : (madeCells #[z] n).toList = List.replicate n z := by
  apply List.ext_getElem
  · simp [madeCells]
  · intro i h1 h2
    simp [madeCells, Nat.mod_one]
theorem made_cells2 (a b : Value) (n : Nat) : madeCells #[a, b] (n * 2) = ((List.replicate n [a, b]).flatten).toArray := by
  apply Array.toList_inj.1
  simp only [madeCells, Array.toList_map, Array.toList_range]
  induction n with
  | zero => rfl
  | succ n ih =>
    rw [show (n + 1) * 2 = n * 2 + 2 by omega, List.range_add, List.map_append, ih, List.replicate_succ', List.flatten_append]
    simp [List.range_succ, Nat.add_mod, Nat.mul_mod_left]
theorem made_ring (n : Nat) : madeCells #[.int .u16 0, .slice none 0 0] (n * 2) = (cellsR (List.replicate n re0)).toArray := by
  rw [made_cells2]
  congr 1
  induction n with
  | zero => rfl
  | succ n ih => simp [List.replicate_succ, cellsR, ih, re0]
end Go.Proofs.Ytmpajoheoobnkaa
