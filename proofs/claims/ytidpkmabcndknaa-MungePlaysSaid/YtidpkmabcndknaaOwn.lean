/- What a slice that the call itself made holds, behind an append, behind a call, behind writes elsewhere. No condition. -/
import Derived.Test.YtidpkmabcndknaaMem
import Derived.WalkKit
import Derived.Deep.Fields
namespace Go.Proofs.Ytidpkmabcndknaa
set_option linter.unusedSimpArgs false
set_option linter.unusedVariables false
open Go.RowKit

section
variable {w w' wa : World} {B : Nat} {e : TypeId} {s : Nat} {v v' : Value} {n : Nat} {xs : List Value} {g : Nat} {c : Array Value} {t : TypeId} {f : Nat × Nat}

theorem own_ge (h : w.ownsRow B e s v n xs) : ∀ k, v.ownBlock = some k → B ≤ k := fun k hk => (h.lt k hk).1
theorem own_ne (h : w.ownsRow B e s v n xs) (hb : w.heap[g]? = some (.cells c t f)) (ht : t ≠ e) : v.ownBlock ≠ some g := by
  intro hv
  rcases h.2 with ⟨rfl, _⟩ | ⟨g', cap, cur, rfl, _, hh, _⟩
  · simp [Value.ownBlock] at hv
  · simp only [Value.ownBlock, Option.some.injEq] at hv
    subst hv
    rw [hh] at hb
    simp only [Option.some.injEq, Obj.cells.injEq] at hb
    exact ht hb.2.1.symm
/-- A block of another type behind an append to the call's own slice. -/
theorem block_grown (h : w.ownsRow B e s v n xs) (hg : w.grownBy w' v.ownBlock) (hb : w.heap[g]? = some (.cells c t f)) (ht : t ≠ e) : w'.heap[g]? = some (.cells c t f) :=
  (hg.block g (lt_of_block hb) (fun e => own_ne h hb ht e.symm)).trans hb
/-- What lies below stays behind an append to the call's own slice. -/
theorem below_grown {w0 : World} (hB : Below B w0 w) (hs : B ≤ w.heap.size) (h : w.ownsRow B e s v n xs) (hg : w.grownBy w' v.ownBlock) : Below B w0 w' :=
  hB.grown hg hs (own_ge h)
/-- A call that turns nothing that was there leaves what is owned. -/
theorem own_below (h : w.ownsRow B e s v n xs) (hb : Below w.heap.size w w') : w'.ownsRow B e s v n xs := by
  refine h.kept (row := none) ⟨hb.os, hb.tape, hb.output, hb.size, fun k hk _ => hb.block k hk⟩ ?_
  by_cases e : v.ownBlock = none
  · exact .inl e
  · exact .inr e
theorem own_mono {B' : Nat} (h : w.ownsRow B e s v n xs) (hb : B' ≤ B) : w.ownsRow B' e s v n xs := by
  refine ⟨h.1, h.2.imp id ?_⟩
  rintro ⟨g, cap, cur, h1, h2, h3⟩
  exact ⟨g, cap, cur, h1, Nat.le_trans hb h2, h3⟩
/-- An append to another row of the call's own leaves what is owned. -/
theorem own_kept {row : Option Nat} (h : w.ownsRow B e s v n xs) (hg : w.grownBy w' row) (hne : v.ownBlock = none ∨ v.ownBlock ≠ row) : w'.ownsRow B e s v n xs := h.kept hg hne
theorem own_other {e2 : TypeId} {s2 n2 B2 : Nat} {v2 : Value} {xs2 : List Value} (h : w.ownsRow B e s v n xs) (h2 : w.ownsRow B2 e2 s2 v2 n2 xs2) (hg : w.grownBy w' v2.ownBlock) (ht : e ≠ e2) : w'.ownsRow B e s v n xs := by
  refine h.kept hg ?_
  rcases h.2 with ⟨rfl, _⟩ | ⟨g', cap, cur, rfl, _, hh, _⟩
  · exact .inl rfl
  · exact .inr (fun e3 => own_ne h2 hh ht e3.symm)
theorem own_set_other (h : w.ownsRow B e s v n xs) {a : Addr} {u : Value} (hb : w.heap[a.block]? = some (.cells c t f)) (ht : t ≠ e) : (w.setCell a u).ownsRow B e s v n xs :=
  ownsRow_setCell_other h (own_ne h hb ht) u
theorem own_alloc {o : Obj} (h : w.ownsRow B e s v n xs) : (w.alloc o).ownsRow B e s v n xs := h.alloc o
/-- The shape of what is owned: nothing, or a row at its head. -/
theorem own_shape (h : w.ownsRow B e s v n xs) : (v = .slice none 0 0 ∧ n = 0 ∧ xs = []) ∨ ∃ g cap, v = .slice (some ⟨g, 0, none⟩) n cap ∧ B ≤ g ∧ g < w.heap.size ∧ n ≤ cap ∧ cap ≤ maxLen := by
  rcases h.2 with ⟨h1, h2⟩ | ⟨g, cap, cur, h1, h2, h3, h4, h5, _⟩
  · exact .inl ⟨h1, h2, List.eq_nil_of_length_eq_zero (by rw [h.1, h2]; simp)⟩
  · exact .inr ⟨g, cap, h1, h2, lt_of_block h3, h4, h5⟩
theorem own_slice (h : w.ownsRow B e s v n xs) : ∃ A cap, v = .slice A n cap := by
  rcases own_shape h with ⟨h1, h2, _⟩ | ⟨g, cap, h1, _⟩
  · exact ⟨none, 0, by rw [h1, h2]⟩
  · exact ⟨_, _, h1⟩
/-- A cell of what is owned. -/
theorem own_cell {A : Option Addr} {cap : Nat} (h : w.ownsRow B e s (.slice A n cap) n xs) {i j : Nat} (hi : i < n) (hj : j < s) :
    ∃ b, A = some ⟨b, 0, none⟩ ∧ B ≤ b ∧ b < w.heap.size ∧ w.cell? ⟨b, 0 + i * s + j, none⟩ = xs[i * s + j]? ∧ (∀ k, w.frozen? ⟨b, k, none⟩ = false) := by
  rcases own_shape h with ⟨h1, h2, _⟩ | ⟨g, cap', h1, hB, hlt, _⟩
  · omega
  · simp only [Value.slice.injEq] at h1
    obtain ⟨rfl, _, rfl⟩ := h1
    refine ⟨g, rfl, hB, hlt, ?_, fun k => h.frozenAt k⟩
    rw [Nat.zero_add]
    refine h.cellAt _ ?_
    calc i * s + j < i * s + s := by omega
      _ = (i + 1) * s := by rw [Nat.add_mul, Nat.one_mul]
      _ ≤ n * s := Nat.mul_le_mul_right _ hi
end

/-- The cells of a block that has just been laid. -/
theorem new_cells {w : World} {l : List Value} {t : TypeId} {n : Nat} (hn : n = w.heap.size) : ∀ j u, l[j]? = some u → (w.alloc (.cells l.toArray t)).cell? ((⟨n, 0, none⟩ : Addr).add j) = some u := by
  subst hn
  intro j u h
  rw [Addr.add_lit, Nat.zero_add, cell_of_row _ w.heap.size j l.toArray t (0, 0) (heap_alloc_new w _ _ rfl)]
  simpa using h
theorem one_cells {l : List Value} (h : l.all (fun u => u.oneCell') = true) : ∀ u ∈ l, u.oneCell' = true := by simpa using h
/-- Of a call's arguments: a slice's numbers, at their cells. -/
def IntsAt (w : World) (A : Option Addr) (k : IntKind) (zs : List Int) : Prop :=
  ∀ i, i < zs.length → ∃ b o, A = some ⟨b, o, none⟩ ∧ b < w.heap.size ∧ w.cell? ⟨b, o + i, none⟩ = some (.int k (zs.getD i 0))
/-- Pairs of numbers, at their cells. -/
def PairsAt (w : World) (A : Option Addr) (k : IntKind) (ps : List (Int × Int)) : Prop :=
  ∀ i, i < ps.length → ∃ b o, A = some ⟨b, o, none⟩ ∧ b < w.heap.size ∧ w.cell? ⟨b, o + i * 2, none⟩ = some (.int k (ps.getD i (0, 0)).1) ∧ w.cell? ⟨b, o + i * 2 + 1, none⟩ = some (.int k (ps.getD i (0, 0)).2)
def pairCells (k : IntKind) (ps : List (Int × Int)) : List Value := ps.flatMap fun p => [.int k p.1, .int k p.2]

theorem pairCells_length (k : IntKind) (ps : List (Int × Int)) : (pairCells k ps).length = ps.length * 2 := by
  induction ps with
  | nil => rfl
  | cons p ps ih => simp [pairCells] at *; omega
theorem pairCells_append (k : IntKind) (ps qs : List (Int × Int)) : pairCells k (ps ++ qs) = pairCells k ps ++ pairCells k qs := by simp [pairCells]
theorem pairCells_get (k : IntKind) (ps : List (Int × Int)) (i : Nat) (hi : i < ps.length) :
    (pairCells k ps)[i * 2]? = some (.int k (ps.getD i (0, 0)).1) ∧ (pairCells k ps)[i * 2 + 1]? = some (.int k (ps.getD i (0, 0)).2) := by
  induction ps generalizing i with
  | nil => simp at hi
  | cons p ps ih =>
    cases i with
    | zero => simp [pairCells]
    | succ i =>
      have := ih i (by simpa using hi)
      rw [show (i + 1) * 2 = i * 2 + 1 + 1 by omega]
      simpa [pairCells] using this
theorem pairCells_set (k : IntKind) (ps : List (Int × Int)) (p m m' : Int) : (pairCells k (ps ++ [(p, m)])).set (ps.length * 2 + 1) (.int k m') = pairCells k (ps ++ [(p, m')]) := by
  induction ps with
  | nil => simp [pairCells]
  | cons q ps ih =>
    rw [show (q :: ps).length * 2 + 1 = ps.length * 2 + 1 + 1 + 1 by simp; omega]
    simpa [pairCells] using ih
/-- The last pair of what is owned: where it lies, and what a write to its second number leaves. -/
theorem own_last {w : World} {B : Nat} {e : TypeId} {v : Value} {k : IntKind} {ps : List (Int × Int)} {p m : Int} (h : w.ownsRow B e 2 v (ps ++ [(p, m)]).length (pairCells k (ps ++ [(p, m)]))) :
    ∃ g cap, v = .slice (some ⟨g, 0, none⟩) (ps.length + 1) cap ∧ B ≤ g ∧ g < w.heap.size ∧ w.cell? ⟨g, ps.length * 2, none⟩ = some (.int k p) ∧ w.cell? ⟨g, ps.length * 2 + 1, none⟩ = some (.int k m) ∧ (∀ j, w.frozen? ⟨g, j, none⟩ = false) ∧
      ∀ m', (w.setCell ⟨g, ps.length * 2 + 1, none⟩ (.int k m')).ownsRow B e 2 (.slice (some ⟨g, 0, none⟩) (ps.length + 1) cap) (ps ++ [(p, m')]).length (pairCells k (ps ++ [(p, m')])) := by
  have hl : (ps ++ [(p, m)]).length = ps.length + 1 := by simp
  have hl2 : ∀ m', (ps ++ [(p, m')]).length = ps.length + 1 := by simp
  obtain ⟨q1, q2⟩ := pairCells_get k (ps ++ [(p, m)]) ps.length (by simp)
  rw [hl] at h
  rcases own_shape h with ⟨_, h', _⟩ | ⟨g, cap, rfl, h2, h3, h4, h5⟩
  · omega
  · refine ⟨g, cap, rfl, h2, h3, ?_, ?_, fun j => h.frozenAt j, fun m' => ?_⟩
    · rw [h.cellAt _ (by omega), q1]; simp
    · rw [h.cellAt _ (by omega), q2]; simp
    · rw [hl2, ← pairCells_set k ps p m m']
      exact (h.stored _ _).1
theorem ints_own {w : World} {B : Nat} {e : TypeId} {A : Option Addr} {n cap : Nat} {k : IntKind} {zs : List Int} (h : w.ownsRow B e 1 (.slice A n cap) n (zs.map (Value.int k))) : IntsAt w A k zs := by
  intro i hi
  have hn : zs.length = n := by have := h.1; simpa using this
  obtain ⟨b, hA, _, hb, hc, _⟩ := own_cell h (i := i) (j := 0) (by omega) (by omega)
  refine ⟨b, 0, hA, hb, ?_⟩
  simp only [Nat.mul_one, Nat.add_zero] at hc
  rw [hc]
  simp [List.getD, hi]
theorem pairs_own {w : World} {B : Nat} {e : TypeId} {A : Option Addr} {n cap : Nat} {k : IntKind} {ps : List (Int × Int)} (h : w.ownsRow B e 2 (.slice A n cap) n (pairCells k ps)) : PairsAt w A k ps := by
  intro i hi
  have hn : ps.length = n := by have := h.1; rw [pairCells_length] at this; omega
  obtain ⟨b, hA, _, hb, hc, _⟩ := own_cell h (i := i) (j := 0) (by omega) (by omega)
  obtain ⟨b', hA', _, _, hc', _⟩ := own_cell h (i := i) (j := 1) (by omega) (by omega)
  rw [hA] at hA'
  simp only [Option.some.injEq, Addr.mk.injEq] at hA'
  obtain ⟨rfl, _⟩ := hA'
  obtain ⟨h1, h2⟩ := pairCells_get k ps i hi
  exact ⟨b, 0, hA, hb, by simpa [h1] using hc, by simpa [h2] using hc'⟩
/-- Read behind a call as ahead of it. -/
theorem IntsAt.below {w w' : World} {B : Nat} {A : Option Addr} {k : IntKind} {zs : List Int} (h : IntsAt w A k zs) (hB : B = w.heap.size) (hb : Below B w w') : IntsAt w' A k zs := by
  subst hB
  intro i hi
  obtain ⟨b, o, hA, hlt, hc⟩ := h i hi
  exact ⟨b, o, hA, Nat.lt_of_lt_of_le hlt hb.size, (hb.cell (p := ⟨b, o + i, none⟩) hlt).trans hc⟩
theorem PairsAt.below {w w' : World} {B : Nat} {A : Option Addr} {k : IntKind} {ps : List (Int × Int)} (h : PairsAt w A k ps) (hB : B = w.heap.size) (hb : Below B w w') : PairsAt w' A k ps := by
  subst hB
  intro i hi
  obtain ⟨b, o, hA, hlt, hc, hd⟩ := h i hi
  exact ⟨b, o, hA, Nat.lt_of_lt_of_le hlt hb.size, (hb.cell (p := ⟨b, o + i * 2, none⟩) hlt).trans hc, (hb.cell (p := ⟨b, o + i * 2 + 1, none⟩) hlt).trans hd⟩
/-- What is owned and not empty: a row at its head, cell by cell. -/
theorem own_row {w : World} {B : Nat} {e : TypeId} {s : Nat} {v : Value} {n : Nat} {xs : List Value} (h : w.ownsRow B e s v n xs) (hn : 0 < n) :
    ∃ g cap, v = .slice (some ⟨g, 0, none⟩) n cap ∧ B ≤ g ∧ g < w.heap.size ∧ ∀ j, j < n * s → w.cell? ⟨g, j, none⟩ = xs[j]? := by
  rcases own_shape h with ⟨_, h', _⟩ | ⟨g, cap, rfl, h2, h3, _⟩
  · omega
  · exact ⟨g, cap, rfl, h2, h3, fun j hj => h.cellAt j hj⟩
/-- Numbers that have just been laid. -/
theorem ints_new {w : World} {zs : List Int} {k : IntKind} {t : TypeId} {n : Nat} (hn : n = w.heap.size) : IntsAt (w.alloc (.cells (zs.map (Value.int k)).toArray t)) (some ⟨n, 0, none⟩) k zs := by
  subst hn
  intro i hi
  refine ⟨w.heap.size, 0, rfl, by simp, ?_⟩
  have := new_cells (w := w) (l := zs.map (Value.int k)) (t := t) rfl i (.int k (zs.getD i 0)) (by simp [List.getD, hi])
  rwa [Addr.add_lit] at this
/-- What is owned lies in no block below the base. -/
theorem own_far {w : World} {B : Nat} {e : TypeId} {s : Nat} {v : Value} {n : Nat} {xs : List Value} {b : Nat} (h : w.ownsRow B e s v n xs) (hb : b < B) : v.ownBlock ≠ some b := by
  intro hv
  have := own_ge h b hv
  omega
/-- The numbers of a slice that came in, as a list. -/
theorem list_of (len : Nat) (f : Nat → Int) : ∃ l : List Int, l.length = len ∧ ∀ i, i < len → l.getD i 0 = f i :=
  ⟨(List.range len).map f, by simp, fun i hi => by simp [List.getD, hi]⟩
theorem pairs_of (len : Nat) (f : Nat → Int × Int) : ∃ l : List (Int × Int), l.length = len ∧ ∀ i, i < len → l.getD i (0, 0) = f i :=
  ⟨(List.range len).map f, by simp, fun i hi => by simp [List.getD, hi]⟩
end Go.Proofs.Ytidpkmabcndknaa
