/- Slices of the call's own, of Refs, numbers and marks: their cells, what a store leaves; the arena beside them. No program in sight. -/
import Derived.Test.YtdedbiacelgleaaPlain
namespace Go.Proofs.Ytdedbiacelgleaa
set_option linter.unusedSimpArgs false
set_option linter.unusedVariables false
open Go.RowKit
theorem refCells_get (r : List (Int × Int)) (i : Nat) (hi : i < r.length) : (refCells r)[i * 2]? = some (.int .i64 (r.getD i (0, 0)).1) ∧ (refCells r)[i * 2 + 1]? = some (.int .u32 (r.getD i (0, 0)).2) := by
  induction r generalizing i with
  | nil => simp at hi
  | cons p r ih =>
    cases i with
    | zero => simp [refCells]
    | succ i =>
      have := ih i (by simpa using hi)
      rw [show (i + 1) * 2 = i * 2 + 1 + 1 by omega]
      simpa [refCells] using this
section
variable {w w' : World} {B : Nat} {A : Option Addr} {n cap : Nat}
theorem own_ref {r : List (Int × Int)} (h : w.ownsRow B 31 2 (.slice A n cap) n (refCells r)) {j : Nat} (hj : j < n) :
    ∃ b, A = some ⟨b, 0, none⟩ ∧ B ≤ b ∧ b < w.heap.size ∧ w.cell? ⟨b, j * 2, none⟩ = some (.int .i64 (r.getD j (0, 0)).1) ∧ w.cell? ⟨b, j * 2 + 1, none⟩ = some (.int .u32 (r.getD j (0, 0)).2) := by
  have hr : r.length = n := by have := h.1; rw [refCells_length] at this; omega
  obtain ⟨b, hA, hB, hb, hc, _⟩ := own_cell h (i := j) (j := 0) hj (by omega)
  obtain ⟨b', hA', _, _, hc', _⟩ := own_cell h (i := j) (j := 1) hj (by omega)
  rw [hA] at hA'
  simp only [Option.some.injEq, Addr.mk.injEq] at hA'
  obtain ⟨rfl, _⟩ := hA'
  obtain ⟨h1, h2⟩ := refCells_get r j (by omega)
  exact ⟨b, hA, hB, hb, by simpa [h1] using hc, by simpa [h2] using hc'⟩
theorem own_int {e : TypeId} {k : IntKind} {r : List Int} (h : w.ownsRow B e 1 (.slice A n cap) n (r.map (Value.int k))) {j : Nat} (hj : j < n) :
    ∃ b, A = some ⟨b, 0, none⟩ ∧ B ≤ b ∧ b < w.heap.size ∧ w.cell? ⟨b, j, none⟩ = some (.int k (r.getD j 0)) ∧ w.frozen? ⟨b, j, none⟩ = false ∧
      ∀ x, (w.setCell ⟨b, j, none⟩ (.int k x)).ownsRow B e 1 (.slice A n cap) n ((r.set j x).map (Value.int k)) := by
  have hr : r.length = n := by have := h.1; simpa using this
  rcases own_shape h with ⟨_, h', _⟩ | ⟨g, cap', h1, h2, h3, h4, h5⟩
  · omega
  · simp only [Value.slice.injEq] at h1
    obtain ⟨rfl, _, rfl⟩ := h1
    refine ⟨g, rfl, h2, h3, ?_, h.frozenAt j, fun x => ?_⟩
    · rw [h.cellAt j (by omega)]
      simp [List.getD, hr, hj]
    · rw [List.map_set]
      exact (h.stored _ _).1
theorem own_boo {e : TypeId} {r : List Bool} (h : w.ownsRow B e 1 (.slice A n cap) n (r.map Value.bool)) {j : Nat} (hj : j < n) :
    ∃ b, A = some ⟨b, 0, none⟩ ∧ B ≤ b ∧ b < w.heap.size ∧ w.cell? ⟨b, j, none⟩ = some (.bool (r.getD j false)) ∧ w.frozen? ⟨b, j, none⟩ = false ∧
      ∀ x, (w.setCell ⟨b, j, none⟩ (.bool x)).ownsRow B e 1 (.slice A n cap) n ((r.set j x).map Value.bool) := by
  have hr : r.length = n := by have := h.1; simpa using this
  rcases own_shape h with ⟨_, h', _⟩ | ⟨g, cap', h1, h2, h3, h4, h5⟩
  · omega
  · simp only [Value.slice.injEq] at h1
    obtain ⟨rfl, _, rfl⟩ := h1
    refine ⟨g, rfl, h2, h3, ?_, h.frozenAt j, fun x => ?_⟩
    · rw [h.cellAt j (by omega)]
      simp [List.getD, hr, hj]
    · rw [List.map_set]
      exact (h.stored _ _).1
/-- The arena behind an append to another row, and behind a store to one. -/
theorem At.grown {P L : Nat} {tP tL : TypeId} {l : List Sl} {live : Int} {e : TypeId} {s m : Nat} {v : Value} {xs : List Value} (hA : At w P L tP tL l live) (h : w.ownsRow B e s v m xs) (hg : w.grownBy w' v.ownBlock) (h1 : tP ≠ e) (h2 : tL ≠ e) : At w' P L tP tL l live :=
  ⟨block_grown h hg hA.p h1, block_grown h hg hA.l h2, hA.ne⟩
theorem At.stored {P L : Nat} {tP tL : TypeId} {l : List Sl} {live : Int} {e : TypeId} {s m g j : Nat} {xs : List Value} {u : Value} (hA : At w P L tP tL l live) (h : w.ownsRow B e s (.slice (some ⟨g, 0, none⟩) n cap) m xs) (h1 : tP ≠ e) (h2 : tL ≠ e) : At (w.setCell ⟨g, j, none⟩ u) P L tP tL l live :=
  hA.set (fun q => own_ne h hA.p h1 (by simp [Value.ownBlock, q])) (fun q => own_ne h hA.l h2 (by simp [Value.ownBlock, q])) u
theorem own_stored {e e2 : TypeId} {s s2 m2 cap2 g j : Nat} {v : Value} {xs xs2 : List Value} {m : Nat} {u : Value} (h : w.ownsRow B e s v m xs) (h2 : w.ownsRow B e2 s2 (.slice (some ⟨g, 0, none⟩) m2 cap2) m2 xs2) (ht : e2 ≠ e) : (w.setCell ⟨g, j, none⟩ u).ownsRow B e s v m xs := by
  rcases h2.2 with ⟨h1, _⟩ | ⟨g', cap', cur, h1, h3, h4, _⟩
  · cases h1
  · simp only [Value.slice.injEq, Option.some.injEq, Addr.mk.injEq] at h1
    obtain ⟨⟨rfl, _⟩, _, rfl⟩ := h1
    exact own_set_other h h4 ht
theorem own_drewN {e : TypeId} {s m : Nat} {v : Value} {xs : List Value} (h : w.ownsRow B e s v m xs) (k : Nat) : (w.drewN k).ownsRow B e s v m xs := h
end
/-- An act that came in. -/
structure ActV where
  kd : Int
  x : Int
  wh : Int
  rs : Int
  rt : Int
instance : Inhabited ActV := ⟨⟨0, 0, 0, 0, 0⟩⟩
def ActAt (w : World) (A : Option Addr) (i : Nat) (v : ActV) : Prop :=
  ∃ b o, A = some ⟨b, o, none⟩ ∧ b < w.heap.size ∧ w.cell? ⟨b, o + i * 5, none⟩ = some (.int .i64 v.kd) ∧ w.cell? ⟨b, o + i * 5 + 1, none⟩ = some (.int .i64 v.x) ∧ w.cell? ⟨b, o + i * 5 + 2, none⟩ = some (.int .i64 v.wh) ∧
    w.cell? ⟨b, o + i * 5 + 3, none⟩ = some (.int .i64 v.rs) ∧ w.cell? ⟨b, o + i * 5 + 4, none⟩ = some (.int .u32 v.rt) ∧ -9223372036854775808 ≤ v.wh ∧ v.wh ≤ 9223372036854775807
end Go.Proofs.Ytdedbiacelgleaa
