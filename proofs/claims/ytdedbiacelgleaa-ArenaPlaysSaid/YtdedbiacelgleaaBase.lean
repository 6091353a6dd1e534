/- Slots that are used again: plain laws, and what a block of slots holds. -/
import Derived.Test.YtdedbiacelgleaaOwn
import Derived.Test.YtdedbiacelgleaaVia
import Derived.Deep.OwnRows
import Derived.Laws.MakeOwn
namespace Go.Proofs.Ytdedbiacelgleaa
set_option linter.unusedSimpArgs false
set_option linter.unusedVariables false
open Go.RowKit
/-- A slot: what stands there, whose turn it is, whether it is used. -/
structure Sl where
  x : Value
  turn : Int
  used : Bool
def sl0 (z : Value) : Sl := ⟨z, 0, false⟩
instance : Inhabited Sl := ⟨sl0 (.int .i64 0)⟩
def cellsF : List Sl → List Value
  | [] => []
  | s :: l => s.x :: .int .u32 s.turn :: .bool s.used :: cellsF l
theorem cellsF_length (l : List Sl) : (cellsF l).length = l.length * 3 := by
  induction l with
  | nil => rfl
  | cons s l ih => simp [cellsF, ih]; omega
theorem cellsF_get (l : List Sl) (i : Nat) (hi : i < l.length) :
    (cellsF l)[i * 3]? = some l[i].x ∧ (cellsF l)[i * 3 + 1]? = some (.int .u32 l[i].turn) ∧ (cellsF l)[i * 3 + 2]? = some (.bool l[i].used) := by
  induction l generalizing i with
  | nil => simp at hi
  | cons s l ih =>
    cases i with
    | zero => simp [cellsF]
    | succ i =>
      have := ih i (by simpa using hi)
      rw [show (i + 1) * 3 = i * 3 + 3 by omega]
      simpa [cellsF] using this
theorem cellsF_set (l : List Sl) (i : Nat) (hi : i < l.length) (s : Sl) :
    ((((cellsF l).set (i * 3 + 1) (.int .u32 s.turn)).set (i * 3) s.x).set (i * 3 + 2) (.bool s.used)) = cellsF (l.set i s) := by
  induction l generalizing i with
  | nil => simp at hi
  | cons a l ih =>
    cases i with
    | zero => simp [cellsF]
    | succ i =>
      have := ih i (by simpa using hi)
      rw [show (i + 1) * 3 = i * 3 + 3 by omega]
      simpa [cellsF] using this
theorem cellsF_set2 (l : List Sl) (i : Nat) (hi : i < l.length) (x : Value) (u : Bool) :
    (((cellsF l).set (i * 3) x).set (i * 3 + 2) (.bool u)) = cellsF (l.set i ⟨x, l[i].turn, u⟩) := by
  rw [← cellsF_set l i hi]
  congr 2
  apply List.ext_getElem?
  intro j
  rw [List.getElem?_set]
  split
  · rename_i h
    subst h
    split
    · exact (cellsF_get l i hi).2.1
    · rename_i h2
      rw [cellsF_length] at h2
      omega
  · rfl
/-- What a block of slots reads. -/
theorem slot_cells {w : World} {L i : Nat} {l : List Sl} {t : TypeId} (hL : w.heap[L]? = some (.cells (cellsF l).toArray t (0, 0))) (hi : i < l.length) :
    w.cell? ⟨L, i * 3, none⟩ = some l[i].x ∧ w.cell? ⟨L, i * 3 + 1, none⟩ = some (.int .u32 l[i].turn) ∧ w.cell? ⟨L, i * 3 + 2, none⟩ = some (.bool l[i].used) := by
  obtain ⟨h1, h2, h3⟩ := cellsF_get l i hi
  refine ⟨?_, ?_, ?_⟩ <;> rw [(blk_facts hL).1] <;> simpa
theorem made_cells (a b c : Value) (n : Nat) : madeCells #[a, b, c] (n * 3) = ((List.replicate n [a, b, c]).flatten).toArray := by
  apply Array.toList_inj.1
  simp only [madeCells, Array.toList_map, Array.toList_range]
  induction n with
  | zero => rfl
  | succ n ih =>
    rw [show (n + 1) * 3 = n * 3 + 3 by omega, List.range_add, List.map_append, ih, List.replicate_succ', List.flatten_append]
    simp [List.range_succ, Nat.add_mod, Nat.mul_mod_left]
theorem made_slots (z : Value) (n : Nat) : madeCells #[z, .int .u32 0, .bool false] (n * 3) = (cellsF (List.replicate n (sl0 z))).toArray := by
  rw [made_cells]
  congr 1
  induction n with
  | zero => rfl
  | succ n ih => simp [List.replicate_succ, cellsF, ih, sl0]
/-- Slots in memory: the arena's block P, the slots' block L. -/
structure At (w : World) (P L : Nat) (tP tL : TypeId) (l : List Sl) (live : Int) : Prop where
  p : w.heap[P]? = some (.cells #[.slice (some ⟨L, 0, none⟩) l.length l.length, .int .i64 live] tP (0, 0))
  l : w.heap[L]? = some (.cells (cellsF l).toArray tL (0, 0))
  ne : P ≠ L
/-- All blocks but two are as they were. -/
structure Turned (P L : Nat) (w w' : World) : Prop where
  os : w'.os = w.os
  tape : w'.tape = w.tape
  output : w'.output = w.output
  size : w.heap.size ≤ w'.heap.size
  block : ∀ j, j < w.heap.size → j ≠ P → j ≠ L → w'.heap[j]? = w.heap[j]?
theorem Turned.refl (P L : Nat) (w : World) : Turned P L w w := ⟨rfl, rfl, rfl, Nat.le_refl _, fun _ _ _ _ => rfl⟩
theorem Turned.of {P L : Nat} {w w' : World} (h : Below w.heap.size w w') : Turned P L w w' := ⟨h.os, h.tape, h.output, h.size, fun j hj _ _ => h.block j hj⟩
theorem Turned.trans {P L : Nat} {a b c : World} (h : Turned P L a b) (k : Turned P L b c) : Turned P L a c :=
  ⟨k.os.trans h.os, k.tape.trans h.tape, k.output.trans h.output, Nat.le_trans h.size k.size, fun j hj h1 h2 => (k.block j (Nat.lt_of_lt_of_le hj h.size) h1 h2).trans (h.block j hj h1 h2)⟩
theorem Turned.alloc {P L : Nat} {a w : World} (h : Turned P L a w) (o : Obj) : Turned P L a (w.alloc o) := h.trans (.of (Below.alloc (Below.refl _ _) (Nat.le_refl _) o))
theorem Turned.drewN {P L : Nat} {a w : World} (h : Turned P L a w) (n : Nat) : Turned P L a (w.drewN n) := ⟨h.os, h.tape, h.output, h.size, h.block⟩
theorem Turned.drew {P L : Nat} {a w : World} (h : Turned P L a w) : Turned P L a w.drew := ⟨h.os, h.tape, h.output, h.size, h.block⟩
theorem Turned.set {P L : Nat} {a w : World} (h : Turned P L a w) (p : Addr) (hp : p.block = P ∨ p.block = L ∨ a.heap.size ≤ p.block) (v : Value) : Turned P L a (w.setCell p v) :=
  ⟨h.os, h.tape, h.output, by rw [size_set]; exact h.size, fun j hj h1 h2 => (heap_set_other w p v j (by rcases hp with q | q | q <;> omega)).trans (h.block j hj h1 h2)⟩
theorem turned_set {P L : Nat} {a w : World} {p : Addr} {v : Value} (hp : p.block = P ∨ p.block = L ∨ a.heap.size ≤ p.block) (h : Turned P L a w) : Turned P L a (w.setCell p v) := h.set p hp v
theorem Turned.call {P L : Nat} {a w w' : World} (h : Turned P L a w) (hb : Below w.heap.size w w') : Turned P L a w' := h.trans (.of hb)
theorem turned_below {P L B : Nat} {w0 w w' : World} (hB : Below B w0 w) (h : Turned P L w w') (hP : B ≤ P) (hL : B ≤ L) (hs : B ≤ w.heap.size) : Below B w0 w' :=
  hB.trans ⟨h.os, h.tape, h.output, h.size, fun j hj => h.block j (by omega) (by omega) (by omega)⟩
theorem turned_block {P L g : Nat} {w w' : World} {c : Array Value} {t : TypeId} (h : Turned P L w w') (hb : w.heap[g]? = some (.cells c t (0, 0))) (h1 : g ≠ P) (h2 : g ≠ L) : w'.heap[g]? = some (.cells c t (0, 0)) :=
  (h.block g (blk_lt hb) h1 h2).trans hb
theorem turned_own {P L : Nat} {w w' : World} {B : Nat} {e : TypeId} {s n : Nat} {v : Value} {xs : List Value} {l : List Sl} {live : Int} {tP tL : TypeId} (ht : Turned P L w w') (h : w.ownsRow B e s v n xs) (ha : At w P L tP tL l live) (hP : tP ≠ e) (hL : tL ≠ e) : w'.ownsRow B e s v n xs := by
  refine ⟨h.1, h.2.imp id ?_⟩
  rintro ⟨g, cap, cur, h1, h2, h3, h4⟩
  refine ⟨g, cap, cur, h1, h2, ?_, h4⟩
  rw [ht.block g (lt_of_block h3) (fun q => by subst q; have := ha.p.symm.trans h3; simp at this; exact hP (by simp_all)) (fun q => by subst q; have := ha.l.symm.trans h3; simp at this; exact hL this.2)]
  exact h3
theorem At.below {w w' : World} {P L : Nat} {tP tL : TypeId} {l : List Sl} {live : Int} (h : At w P L tP tL l live) (hb : Below w.heap.size w w') : At w' P L tP tL l live :=
  ⟨(hb.block P (blk_lt h.p)).trans h.p, (hb.block L (blk_lt h.l)).trans h.l, h.ne⟩
theorem At.alloc {w : World} {P L : Nat} {tP tL : TypeId} {l : List Sl} {live : Int} (h : At w P L tP tL l live) (o : Obj) : At (w.alloc o) P L tP tL l live := ⟨heap_alloc_old' h.p, heap_alloc_old' h.l, h.ne⟩
theorem At.drewN {w : World} {P L : Nat} {tP tL : TypeId} {l : List Sl} {live : Int} (h : At w P L tP tL l live) (n : Nat) : At (w.drewN n) P L tP tL l live := ⟨h.p, h.l, h.ne⟩
theorem At.set {w : World} {P L : Nat} {tP tL : TypeId} {l : List Sl} {live : Int} (h : At w P L tP tL l live) {p : Addr} (h1 : P ≠ p.block) (h2 : L ≠ p.block) (v : Value) : At (w.setCell p v) P L tP tL l live := ⟨heap_set_other' h1 h.p, heap_set_other' h2 h.l, h.ne⟩
theorem at_set {w : World} {P L : Nat} {tP tL : TypeId} {l : List Sl} {live : Int} {p : Addr} {v : Value} (h1 : P ≠ p.block) (h2 : L ≠ p.block) (h : At w P L tP tL l live) : At (w.setCell p v) P L tP tL l live := h.set h1 h2 v
/-- A used slot: which one. -/
def atF (l : List Sl) (sl tn : Int) : Option Nat := if h : 0 ≤ sl ∧ sl.toNat < l.length then (if l[sl.toNat].used = true ∧ l[sl.toNat].turn = tn then some sl.toNat else none) else none
theorem atF_some {l : List Sl} {sl tn : Int} {i : Nat} (h : atF l sl tn = some i) : sl = i ∧ ∃ hi : i < l.length, l[i].used = true ∧ l[i].turn = tn := by
  unfold atF at h
  split at h
  · rename_i hc
    split at h
    · rename_i hd
      cases h
      exact ⟨by omega, hc.2, hd⟩
    · cases h
  · cases h
theorem atF_none {l : List Sl} {sl tn : Int} (h : atF l sl tn = none) : sl < 0 ∨ (l.length : Int) ≤ sl ∨ ∃ i : Nat, sl = i ∧ ∃ hi : i < l.length, l[i].used = false ∨ (l[i].used = true ∧ l[i].turn ≠ tn) := by
  unfold atF at h
  by_cases h1 : sl < 0
  · exact .inl h1
  by_cases h2 : (l.length : Int) ≤ sl
  · exact .inr (.inl h2)
  right; right
  rw [dif_pos ⟨by omega, by omega⟩] at h
  split at h
  · cases h
  · rename_i hc
    refine ⟨sl.toNat, by omega, by omega, ?_⟩
    cases hu : l[sl.toNat].used with
    | false => exact .inl rfl
    | true => exact .inr ⟨rfl, fun q => hc ⟨hu, q⟩⟩
theorem atF_of {l : List Sl} {i : Nat} (hi : i < l.length) (hu : l[i].used = true) : atF l i l[i].turn = some i := by
  unfold atF
  rw [dif_pos ⟨by omega, by simpa using hi⟩]
  simp [hu]
/-- The cells of Refs. -/
def refCells (r : List (Int × Int)) : List Value := r.flatMap fun p => [.int .i64 p.1, .int .u32 p.2]
/-- The Refs of the slots that are used, of the first k ones. -/
def usedRefs (l : List Sl) : Nat → List (Int × Int)
  | 0 => []
  | k + 1 => usedRefs l k ++ (match l[k]? with | some s => if s.used then [((k : Int), s.turn)] else [] | none => [])
theorem usedRefs_succ (l : List Sl) (k : Nat) (h : k < l.length) : usedRefs l (k + 1) = usedRefs l k ++ (if l[k].used then [((k : Int), l[k].turn)] else []) := by
  rw [usedRefs, List.getElem?_eq_getElem h]
theorem usedRefs_le (l : List Sl) (k : Nat) : (usedRefs l k).length ≤ k := by
  induction k with
  | zero => simp [usedRefs]
  | succ k ih =>
    unfold usedRefs
    rw [List.length_append]
    split
    · split <;> simp <;> omega
    · simp; omega
theorem refCells_length (r : List (Int × Int)) : (refCells r).length = r.length * 2 := by
  induction r with
  | nil => rfl
  | cons p r ih => simp [refCells] at *; omega
end Go.Proofs.Ytdedbiacelgleaa
