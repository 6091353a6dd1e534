/- Small laws on memory: what a call that made memory left as it was; a block that is known whole. No program in sight. -/
import Derived.Test.YtidpkmabcndknaaProg
import Derived.WalkKit
import Derived.BigQuiet
import Derived.Lib.Hide
import Derived.Handy
import Derived.Deep.Light
import Derived.Deep.RegionHeld3
import Derived.Deep.DeepCutAuto
namespace Go.Proofs.Ytidpkmabcndknaa
set_option linter.unusedSimpArgs false
set_option linter.unusedVariables false
open Go.RowKit

theorem ret_int {k : IntKind} {a b : Int} (h : a = b) : Ending.returned (.int k a) = .returned (.int k b) := by rw [h]
theorem ret_bool {a b : Bool} (h : a = b) : Ending.returned (.bool a) = .returned (.bool b) := by rw [h]
theorem ret_is {a b : Value} (h : a = b) : Ending.returned a = .returned b := by rw [h]

theorem below_next {w W w1 : World} (h : Below w.heap.size w W) (hb : Below W.heap.size W w1) : Below w.heap.size w w1 := h.trans (hb.mono h.size)
theorem below_drewN {B : Nat} {a w : World} (h : Below B a w) (n : Nat) : Below B a (w.drewN n) := ⟨h.os, h.tape, h.output, h.size, h.block⟩
theorem below_base {B : Nat} {w W w1 : World} (h : Below B w W) (hb : Below W.heap.size W w1) (hB : B ≤ W.heap.size) : Below B w w1 := h.trans (hb.mono hB)

@[go_sem] theorem arr_get_2 (x0 x1 x2 : Value) (l : List Value) : (List.toArray (x0 :: x1 :: x2 :: l))[2]? = some x2 := rfl
@[go_sem] theorem arr_get_3 (x0 x1 x2 x3 : Value) (l : List Value) : (List.toArray (x0 :: x1 :: x2 :: x3 :: l))[3]? = some x3 := rfl
@[go_sem] theorem arr_get_4 (x0 x1 x2 x3 x4 : Value) (l : List Value) : (List.toArray (x0 :: x1 :: x2 :: x3 :: x4 :: l))[4]? = some x4 := rfl
@[go_sem] theorem arr_get_5 (x0 x1 x2 x3 x4 x5 : Value) (l : List Value) : (List.toArray (x0 :: x1 :: x2 :: x3 :: x4 :: x5 :: l))[5]? = some x5 := rfl
@[go_sem] theorem arr_get_6 (x0 x1 x2 x3 x4 x5 x6 : Value) (l : List Value) : (List.toArray (x0 :: x1 :: x2 :: x3 :: x4 :: x5 :: x6 :: l))[6]? = some x6 := rfl
@[go_sem] theorem arr_get_7 (x0 x1 x2 x3 x4 x5 x6 x7 : Value) (l : List Value) : (List.toArray (x0 :: x1 :: x2 :: x3 :: x4 :: x5 :: x6 :: x7 :: l))[7]? = some x7 := rfl
@[go_sem] theorem arr_get_8 (x0 x1 x2 x3 x4 x5 x6 x7 x8 : Value) (l : List Value) : (List.toArray (x0 :: x1 :: x2 :: x3 :: x4 :: x5 :: x6 :: x7 :: x8 :: l))[8]? = some x8 := rfl
@[go_sem] theorem arr_get_9 (x0 x1 x2 x3 x4 x5 x6 x7 x8 x9 : Value) (l : List Value) : (List.toArray (x0 :: x1 :: x2 :: x3 :: x4 :: x5 :: x6 :: x7 :: x8 :: x9 :: l))[9]? = some x9 := rfl
@[go_sem] theorem arr_get_10 (x0 x1 x2 x3 x4 x5 x6 x7 x8 x9 x10 : Value) (l : List Value) : (List.toArray (x0 :: x1 :: x2 :: x3 :: x4 :: x5 :: x6 :: x7 :: x8 :: x9 :: x10 :: l))[10]? = some x10 := rfl
@[go_sem] theorem arr_get_11 (x0 x1 x2 x3 x4 x5 x6 x7 x8 x9 x10 x11 : Value) (l : List Value) : (List.toArray (x0 :: x1 :: x2 :: x3 :: x4 :: x5 :: x6 :: x7 :: x8 :: x9 :: x10 :: x11 :: l))[11]? = some x11 := rfl
@[go_sem] theorem arr_get_12 (x0 x1 x2 x3 x4 x5 x6 x7 x8 x9 x10 x11 x12 : Value) (l : List Value) : (List.toArray (x0 :: x1 :: x2 :: x3 :: x4 :: x5 :: x6 :: x7 :: x8 :: x9 :: x10 :: x11 :: x12 :: l))[12]? = some x12 := rfl
@[go_sem] theorem arr_get_13 (x0 x1 x2 x3 x4 x5 x6 x7 x8 x9 x10 x11 x12 x13 : Value) (l : List Value) : (List.toArray (x0 :: x1 :: x2 :: x3 :: x4 :: x5 :: x6 :: x7 :: x8 :: x9 :: x10 :: x11 :: x12 :: x13 :: l))[13]? = some x13 := rfl
/-- A block that is known whole reads as it is written, may be written, and lies in the heap. -/
theorem blk_facts {w : World} {g : Nat} {cs : Array Value} {t : TypeId} (h : w.heap[g]? = some (.cells cs t (0, 0))) :
    (∀ j, w.cell? ⟨g, j, none⟩ = cs[j]?) ∧ (∀ j, w.frozen? ⟨g, j, none⟩ = false) ∧ g < w.heap.size := by
  refine ⟨fun j => ?_, fun j => ?_, ?_⟩
  · simp [World.cell?, h]
  · simp [World.frozen?, h]
  · rcases Nat.lt_or_ge g w.heap.size with h1 | h1
    · exact h1
    · rw [Array.getElem?_eq_none h1] at h; cases h
theorem blk_cell {w : World} {g : Nat} {cs : Array Value} {t : TypeId} {v : Value} (h : w.heap[g]? = some (.cells cs t (0, 0))) (j : Nat) (hv : cs[j]? = some v) : w.cell? ⟨g, j, none⟩ = some v :=
  ((blk_facts h).1 j).trans hv
theorem blk_free {w : World} {g : Nat} {cs : Array Value} {t : TypeId} (h : w.heap[g]? = some (.cells cs t (0, 0))) : ∀ j, w.frozen? ⟨g, j, none⟩ = false := (blk_facts h).2.1
theorem blk_lt {w : World} {g : Nat} {cs : Array Value} {t : TypeId} (h : w.heap[g]? = some (.cells cs t (0, 0))) : g < w.heap.size := (blk_facts h).2.2
theorem blk1 {w : World} {g : Nat} {t : TypeId} {v0 : Value} (h : w.heap[g]? = some (.cells #[v0] t (0, 0))) : w.cell? ⟨g, 0, none⟩ = some v0 ∧ (∀ j, w.frozen? ⟨g, j, none⟩ = false) ∧ g < w.heap.size :=
  ⟨blk_cell h 0 rfl, blk_free h, blk_lt h⟩
theorem blk2 {w : World} {g : Nat} {t : TypeId} {v0 v1 : Value} (h : w.heap[g]? = some (.cells #[v0, v1] t (0, 0))) : w.cell? ⟨g, 0, none⟩ = some v0 ∧ w.cell? ⟨g, 1, none⟩ = some v1 ∧ (∀ j, w.frozen? ⟨g, j, none⟩ = false) ∧ g < w.heap.size :=
  ⟨blk_cell h 0 rfl, blk_cell h 1 rfl, blk_free h, blk_lt h⟩
theorem blk3 {w : World} {g : Nat} {t : TypeId} {v0 v1 v2 : Value} (h : w.heap[g]? = some (.cells #[v0, v1, v2] t (0, 0))) : w.cell? ⟨g, 0, none⟩ = some v0 ∧ w.cell? ⟨g, 1, none⟩ = some v1 ∧ w.cell? ⟨g, 2, none⟩ = some v2 ∧ (∀ j, w.frozen? ⟨g, j, none⟩ = false) ∧ g < w.heap.size :=
  ⟨blk_cell h 0 rfl, blk_cell h 1 rfl, blk_cell h 2 rfl, blk_free h, blk_lt h⟩
theorem blk4 {w : World} {g : Nat} {t : TypeId} {v0 v1 v2 v3 : Value} (h : w.heap[g]? = some (.cells #[v0, v1, v2, v3] t (0, 0))) : w.cell? ⟨g, 0, none⟩ = some v0 ∧ w.cell? ⟨g, 1, none⟩ = some v1 ∧ w.cell? ⟨g, 2, none⟩ = some v2 ∧ w.cell? ⟨g, 3, none⟩ = some v3 ∧ (∀ j, w.frozen? ⟨g, j, none⟩ = false) ∧ g < w.heap.size :=
  ⟨blk_cell h 0 rfl, blk_cell h 1 rfl, blk_cell h 2 rfl, blk_cell h 3 rfl, blk_free h, blk_lt h⟩
theorem blk5 {w : World} {g : Nat} {t : TypeId} {v0 v1 v2 v3 v4 : Value} (h : w.heap[g]? = some (.cells #[v0, v1, v2, v3, v4] t (0, 0))) : w.cell? ⟨g, 0, none⟩ = some v0 ∧ w.cell? ⟨g, 1, none⟩ = some v1 ∧ w.cell? ⟨g, 2, none⟩ = some v2 ∧ w.cell? ⟨g, 3, none⟩ = some v3 ∧ w.cell? ⟨g, 4, none⟩ = some v4 ∧ (∀ j, w.frozen? ⟨g, j, none⟩ = false) ∧ g < w.heap.size :=
  ⟨blk_cell h 0 rfl, blk_cell h 1 rfl, blk_cell h 2 rfl, blk_cell h 3 rfl, blk_cell h 4 rfl, blk_free h, blk_lt h⟩
theorem blk6 {w : World} {g : Nat} {t : TypeId} {v0 v1 v2 v3 v4 v5 : Value} (h : w.heap[g]? = some (.cells #[v0, v1, v2, v3, v4, v5] t (0, 0))) : w.cell? ⟨g, 0, none⟩ = some v0 ∧ w.cell? ⟨g, 1, none⟩ = some v1 ∧ w.cell? ⟨g, 2, none⟩ = some v2 ∧ w.cell? ⟨g, 3, none⟩ = some v3 ∧ w.cell? ⟨g, 4, none⟩ = some v4 ∧ w.cell? ⟨g, 5, none⟩ = some v5 ∧ (∀ j, w.frozen? ⟨g, j, none⟩ = false) ∧ g < w.heap.size :=
  ⟨blk_cell h 0 rfl, blk_cell h 1 rfl, blk_cell h 2 rfl, blk_cell h 3 rfl, blk_cell h 4 rfl, blk_cell h 5 rfl, blk_free h, blk_lt h⟩
theorem blk7 {w : World} {g : Nat} {t : TypeId} {v0 v1 v2 v3 v4 v5 v6 : Value} (h : w.heap[g]? = some (.cells #[v0, v1, v2, v3, v4, v5, v6] t (0, 0))) : w.cell? ⟨g, 0, none⟩ = some v0 ∧ w.cell? ⟨g, 1, none⟩ = some v1 ∧ w.cell? ⟨g, 2, none⟩ = some v2 ∧ w.cell? ⟨g, 3, none⟩ = some v3 ∧ w.cell? ⟨g, 4, none⟩ = some v4 ∧ w.cell? ⟨g, 5, none⟩ = some v5 ∧ w.cell? ⟨g, 6, none⟩ = some v6 ∧ (∀ j, w.frozen? ⟨g, j, none⟩ = false) ∧ g < w.heap.size :=
  ⟨blk_cell h 0 rfl, blk_cell h 1 rfl, blk_cell h 2 rfl, blk_cell h 3 rfl, blk_cell h 4 rfl, blk_cell h 5 rfl, blk_cell h 6 rfl, blk_free h, blk_lt h⟩
theorem blk8 {w : World} {g : Nat} {t : TypeId} {v0 v1 v2 v3 v4 v5 v6 v7 : Value} (h : w.heap[g]? = some (.cells #[v0, v1, v2, v3, v4, v5, v6, v7] t (0, 0))) : w.cell? ⟨g, 0, none⟩ = some v0 ∧ w.cell? ⟨g, 1, none⟩ = some v1 ∧ w.cell? ⟨g, 2, none⟩ = some v2 ∧ w.cell? ⟨g, 3, none⟩ = some v3 ∧ w.cell? ⟨g, 4, none⟩ = some v4 ∧ w.cell? ⟨g, 5, none⟩ = some v5 ∧ w.cell? ⟨g, 6, none⟩ = some v6 ∧ w.cell? ⟨g, 7, none⟩ = some v7 ∧ (∀ j, w.frozen? ⟨g, j, none⟩ = false) ∧ g < w.heap.size :=
  ⟨blk_cell h 0 rfl, blk_cell h 1 rfl, blk_cell h 2 rfl, blk_cell h 3 rfl, blk_cell h 4 rfl, blk_cell h 5 rfl, blk_cell h 6 rfl, blk_cell h 7 rfl, blk_free h, blk_lt h⟩
theorem blk9 {w : World} {g : Nat} {t : TypeId} {v0 v1 v2 v3 v4 v5 v6 v7 v8 : Value} (h : w.heap[g]? = some (.cells #[v0, v1, v2, v3, v4, v5, v6, v7, v8] t (0, 0))) : w.cell? ⟨g, 0, none⟩ = some v0 ∧ w.cell? ⟨g, 1, none⟩ = some v1 ∧ w.cell? ⟨g, 2, none⟩ = some v2 ∧ w.cell? ⟨g, 3, none⟩ = some v3 ∧ w.cell? ⟨g, 4, none⟩ = some v4 ∧ w.cell? ⟨g, 5, none⟩ = some v5 ∧ w.cell? ⟨g, 6, none⟩ = some v6 ∧ w.cell? ⟨g, 7, none⟩ = some v7 ∧ w.cell? ⟨g, 8, none⟩ = some v8 ∧ (∀ j, w.frozen? ⟨g, j, none⟩ = false) ∧ g < w.heap.size :=
  ⟨blk_cell h 0 rfl, blk_cell h 1 rfl, blk_cell h 2 rfl, blk_cell h 3 rfl, blk_cell h 4 rfl, blk_cell h 5 rfl, blk_cell h 6 rfl, blk_cell h 7 rfl, blk_cell h 8 rfl, blk_free h, blk_lt h⟩
theorem blk10 {w : World} {g : Nat} {t : TypeId} {v0 v1 v2 v3 v4 v5 v6 v7 v8 v9 : Value} (h : w.heap[g]? = some (.cells #[v0, v1, v2, v3, v4, v5, v6, v7, v8, v9] t (0, 0))) : w.cell? ⟨g, 0, none⟩ = some v0 ∧ w.cell? ⟨g, 1, none⟩ = some v1 ∧ w.cell? ⟨g, 2, none⟩ = some v2 ∧ w.cell? ⟨g, 3, none⟩ = some v3 ∧ w.cell? ⟨g, 4, none⟩ = some v4 ∧ w.cell? ⟨g, 5, none⟩ = some v5 ∧ w.cell? ⟨g, 6, none⟩ = some v6 ∧ w.cell? ⟨g, 7, none⟩ = some v7 ∧ w.cell? ⟨g, 8, none⟩ = some v8 ∧ w.cell? ⟨g, 9, none⟩ = some v9 ∧ (∀ j, w.frozen? ⟨g, j, none⟩ = false) ∧ g < w.heap.size :=
  ⟨blk_cell h 0 rfl, blk_cell h 1 rfl, blk_cell h 2 rfl, blk_cell h 3 rfl, blk_cell h 4 rfl, blk_cell h 5 rfl, blk_cell h 6 rfl, blk_cell h 7 rfl, blk_cell h 8 rfl, blk_cell h 9 rfl, blk_free h, blk_lt h⟩
theorem blk11 {w : World} {g : Nat} {t : TypeId} {v0 v1 v2 v3 v4 v5 v6 v7 v8 v9 v10 : Value} (h : w.heap[g]? = some (.cells #[v0, v1, v2, v3, v4, v5, v6, v7, v8, v9, v10] t (0, 0))) : w.cell? ⟨g, 0, none⟩ = some v0 ∧ w.cell? ⟨g, 1, none⟩ = some v1 ∧ w.cell? ⟨g, 2, none⟩ = some v2 ∧ w.cell? ⟨g, 3, none⟩ = some v3 ∧ w.cell? ⟨g, 4, none⟩ = some v4 ∧ w.cell? ⟨g, 5, none⟩ = some v5 ∧ w.cell? ⟨g, 6, none⟩ = some v6 ∧ w.cell? ⟨g, 7, none⟩ = some v7 ∧ w.cell? ⟨g, 8, none⟩ = some v8 ∧ w.cell? ⟨g, 9, none⟩ = some v9 ∧ w.cell? ⟨g, 10, none⟩ = some v10 ∧ (∀ j, w.frozen? ⟨g, j, none⟩ = false) ∧ g < w.heap.size :=
  ⟨blk_cell h 0 rfl, blk_cell h 1 rfl, blk_cell h 2 rfl, blk_cell h 3 rfl, blk_cell h 4 rfl, blk_cell h 5 rfl, blk_cell h 6 rfl, blk_cell h 7 rfl, blk_cell h 8 rfl, blk_cell h 9 rfl, blk_cell h 10 rfl, blk_free h, blk_lt h⟩
theorem blk12 {w : World} {g : Nat} {t : TypeId} {v0 v1 v2 v3 v4 v5 v6 v7 v8 v9 v10 v11 : Value} (h : w.heap[g]? = some (.cells #[v0, v1, v2, v3, v4, v5, v6, v7, v8, v9, v10, v11] t (0, 0))) : w.cell? ⟨g, 0, none⟩ = some v0 ∧ w.cell? ⟨g, 1, none⟩ = some v1 ∧ w.cell? ⟨g, 2, none⟩ = some v2 ∧ w.cell? ⟨g, 3, none⟩ = some v3 ∧ w.cell? ⟨g, 4, none⟩ = some v4 ∧ w.cell? ⟨g, 5, none⟩ = some v5 ∧ w.cell? ⟨g, 6, none⟩ = some v6 ∧ w.cell? ⟨g, 7, none⟩ = some v7 ∧ w.cell? ⟨g, 8, none⟩ = some v8 ∧ w.cell? ⟨g, 9, none⟩ = some v9 ∧ w.cell? ⟨g, 10, none⟩ = some v10 ∧ w.cell? ⟨g, 11, none⟩ = some v11 ∧ (∀ j, w.frozen? ⟨g, j, none⟩ = false) ∧ g < w.heap.size :=
  ⟨blk_cell h 0 rfl, blk_cell h 1 rfl, blk_cell h 2 rfl, blk_cell h 3 rfl, blk_cell h 4 rfl, blk_cell h 5 rfl, blk_cell h 6 rfl, blk_cell h 7 rfl, blk_cell h 8 rfl, blk_cell h 9 rfl, blk_cell h 10 rfl, blk_cell h 11 rfl, blk_free h, blk_lt h⟩
/-- All that the walk asks of a block that is known whole. -/
theorem blk_all {w : World} {g : Nat} {cs : Array Value} {t : TypeId} (h : w.heap[g]? = some (.cells cs t (0, 0))) :
    w.heap[g]? = some (.cells cs t (0, 0)) ∧ (∀ j, w.cell? ⟨g, j, none⟩ = cs[j]?) ∧ (∀ j, w.frozen? ⟨g, j, none⟩ = false) ∧ g < w.heap.size := ⟨h, blk_facts h⟩
theorem heap_alloc_new (w : World) (o : Obj) (i : Nat) (h : i = w.heap.size) : (w.alloc o).heap[i]? = some o := by
  show (w.heap.push o)[i]? = _
  rw [Array.getElem?_push, if_pos h]
theorem heap_alloc_old (w : World) (o : Obj) (i : Nat) (h : i < w.heap.size) : (w.alloc o).heap[i]? = w.heap[i]? := by
  show (w.heap.push o)[i]? = _
  rw [Array.getElem?_push, if_neg (by omega)]
theorem heap_drew_at (w : World) (i : Nat) : w.drew.heap[i]? = w.heap[i]? := rfl
theorem heap_drewN_at (w : World) (n i : Nat) : (w.drewN n).heap[i]? = w.heap[i]? := rfl
theorem heap_set_other (w : World) (p : Addr) (v : Value) (i : Nat) (h : i ≠ p.block) : (w.setCell p v).heap[i]? = w.heap[i]? := Below.heap_setCell w p v i h
theorem heap_set_same {w : World} {g : Nat} {cs : Array Value} {t : TypeId} (j : Nat) (v : Value) (h : w.heap[g]? = some (.cells cs t (0, 0))) :
    (w.setCell ⟨g, j, none⟩ v).heap[g]? = some (.cells (cs.setIfInBounds j v) t (0, 0)) := by
  simp [World.setCell, Array.getElem?_modify, h]
/-- A block that is written whole. -/
theorem heap_set_row2 {w : World} {g : Nat} {cs : Array Value} {t : TypeId} {v0 v1 : Value} (h : w.heap[g]? = some (.cells cs t (0, 0))) (hs : cs.size = 2) :
    ((w.setCell ⟨g, 0, none⟩ v0).setCell ⟨g, 1, none⟩ v1).heap[g]? = some (.cells #[v0, v1] t (0, 0)) := by
  have key := (heap_set_same 1 v1 (heap_set_same 0 v0 h))
  obtain ⟨l⟩ := cs
  simp only [List.setIfInBounds_toArray] at key
  match l, hs with
  | [a0, a1], _ => exact key
theorem heap_set_row3 {w : World} {g : Nat} {cs : Array Value} {t : TypeId} {v0 v1 v2 : Value} (h : w.heap[g]? = some (.cells cs t (0, 0))) (hs : cs.size = 3) :
    (((w.setCell ⟨g, 0, none⟩ v0).setCell ⟨g, 1, none⟩ v1).setCell ⟨g, 2, none⟩ v2).heap[g]? = some (.cells #[v0, v1, v2] t (0, 0)) := by
  have key := (heap_set_same 2 v2 (heap_set_same 1 v1 (heap_set_same 0 v0 h)))
  obtain ⟨l⟩ := cs
  simp only [List.setIfInBounds_toArray] at key
  match l, hs with
  | [a0, a1, a2], _ => exact key
theorem heap_set_row4 {w : World} {g : Nat} {cs : Array Value} {t : TypeId} {v0 v1 v2 v3 : Value} (h : w.heap[g]? = some (.cells cs t (0, 0))) (hs : cs.size = 4) :
    ((((w.setCell ⟨g, 0, none⟩ v0).setCell ⟨g, 1, none⟩ v1).setCell ⟨g, 2, none⟩ v2).setCell ⟨g, 3, none⟩ v3).heap[g]? = some (.cells #[v0, v1, v2, v3] t (0, 0)) := by
  have key := (heap_set_same 3 v3 (heap_set_same 2 v2 (heap_set_same 1 v1 (heap_set_same 0 v0 h))))
  obtain ⟨l⟩ := cs
  simp only [List.setIfInBounds_toArray] at key
  match l, hs with
  | [a0, a1, a2, a3], _ => exact key
theorem heap_set_row5 {w : World} {g : Nat} {cs : Array Value} {t : TypeId} {v0 v1 v2 v3 v4 : Value} (h : w.heap[g]? = some (.cells cs t (0, 0))) (hs : cs.size = 5) :
    (((((w.setCell ⟨g, 0, none⟩ v0).setCell ⟨g, 1, none⟩ v1).setCell ⟨g, 2, none⟩ v2).setCell ⟨g, 3, none⟩ v3).setCell ⟨g, 4, none⟩ v4).heap[g]? = some (.cells #[v0, v1, v2, v3, v4] t (0, 0)) := by
  have key := (heap_set_same 4 v4 (heap_set_same 3 v3 (heap_set_same 2 v2 (heap_set_same 1 v1 (heap_set_same 0 v0 h)))))
  obtain ⟨l⟩ := cs
  simp only [List.setIfInBounds_toArray] at key
  match l, hs with
  | [a0, a1, a2, a3, a4], _ => exact key
theorem heap_set_row8 {w : World} {g : Nat} {cs : Array Value} {t : TypeId} {v0 v1 v2 v3 v4 v5 v6 v7 : Value} (h : w.heap[g]? = some (.cells cs t (0, 0))) (hs : cs.size = 8) :
    ((((((((w.setCell ⟨g, 0, none⟩ v0).setCell ⟨g, 1, none⟩ v1).setCell ⟨g, 2, none⟩ v2).setCell ⟨g, 3, none⟩ v3).setCell ⟨g, 4, none⟩ v4).setCell ⟨g, 5, none⟩ v5).setCell ⟨g, 6, none⟩ v6).setCell ⟨g, 7, none⟩ v7).heap[g]? = some (.cells #[v0, v1, v2, v3, v4, v5, v6, v7] t (0, 0)) := by
  have key := (heap_set_same 7 v7 (heap_set_same 6 v6 (heap_set_same 5 v5 (heap_set_same 4 v4 (heap_set_same 3 v3 (heap_set_same 2 v2 (heap_set_same 1 v1 (heap_set_same 0 v0 h))))))))
  obtain ⟨l⟩ := cs
  simp only [List.setIfInBounds_toArray] at key
  match l, hs with
  | [a0, a1, a2, a3, a4, a5, a6, a7], _ => exact key
theorem heap_set_row11 {w : World} {g : Nat} {cs : Array Value} {t : TypeId} {v0 v1 v2 v3 v4 v5 v6 v7 v8 v9 v10 : Value} (h : w.heap[g]? = some (.cells cs t (0, 0))) (hs : cs.size = 11) :
    (((((((((((w.setCell ⟨g, 0, none⟩ v0).setCell ⟨g, 1, none⟩ v1).setCell ⟨g, 2, none⟩ v2).setCell ⟨g, 3, none⟩ v3).setCell ⟨g, 4, none⟩ v4).setCell ⟨g, 5, none⟩ v5).setCell ⟨g, 6, none⟩ v6).setCell ⟨g, 7, none⟩ v7).setCell ⟨g, 8, none⟩ v8).setCell ⟨g, 9, none⟩ v9).setCell ⟨g, 10, none⟩ v10).heap[g]? = some (.cells #[v0, v1, v2, v3, v4, v5, v6, v7, v8, v9, v10] t (0, 0)) := by
  have key := (heap_set_same 10 v10 (heap_set_same 9 v9 (heap_set_same 8 v8 (heap_set_same 7 v7 (heap_set_same 6 v6 (heap_set_same 5 v5 (heap_set_same 4 v4 (heap_set_same 3 v3 (heap_set_same 2 v2 (heap_set_same 1 v1 (heap_set_same 0 v0 h)))))))))))
  obtain ⟨l⟩ := cs
  simp only [List.setIfInBounds_toArray] at key
  match l, hs with
  | [a0, a1, a2, a3, a4, a5, a6, a7, a8, a9, a10], _ => exact key
theorem size_alloc (w : World) (o : Obj) : (w.alloc o).heap.size = w.heap.size + 1 := by
  show (w.heap.push o).size = _
  simp
theorem size_set (w : World) (p : Addr) (v : Value) : (w.setCell p v).heap.size = w.heap.size := by simp [World.setCell]
theorem size_drew (w : World) : w.drew.heap.size = w.heap.size := rfl
theorem size_drewN (w : World) (n : Nat) : (w.drewN n).heap.size = w.heap.size := rfl
theorem res_cell_tmp {P : Program} {fn : Func} {p u : Tmp} {ty : TypeId} {tmps : Array Value} {w : World} {g : Nat} {t : TypeId} {cs : Array Value} {d : TypeDesc} (h : fn.results = #[.cell p ty, .tmp u])
    (hp : tmps.getD p undef = .pointer (some ⟨g, 0, none⟩)) (hg : w.heap[g]? = some (.cells cs t (0, 0)))
    (hu : P.underlying ty = some d) (hd : (match d with | .struct _ | .array _ _ => true | _ => false) = true) (hi : (P.info? ty).map (·.size) = some cs.size) :
    (results fn tmps).run P w = .ok (.tuple #[.agg cs, tmps.getD u undef]) w := by
  rw [results_cell_tmp h, hp]
  simp [asAddr, run_loadVar_row w g t ty cs (0, 0) d hg hu hd hi, Result.andThen]
theorem res_cell_tmp2 {P : Program} {fn : Func} {p u v : Tmp} {ty : TypeId} {tmps : Array Value} {w : World} {g : Nat} {t : TypeId} {cs : Array Value} {d : TypeDesc} (h : fn.results = #[.cell p ty, .tmp u, .tmp v])
    (hp : tmps.getD p undef = .pointer (some ⟨g, 0, none⟩)) (hg : w.heap[g]? = some (.cells cs t (0, 0)))
    (hu : P.underlying ty = some d) (hd : (match d with | .struct _ | .array _ _ => true | _ => false) = true) (hi : (P.info? ty).map (·.size) = some cs.size) :
    (results fn tmps).run P w = .ok (.tuple #[.agg cs, tmps.getD u undef, tmps.getD v undef]) w := by
  have hp' : tmps[p]?.getD undef = .pointer (some ⟨g, 0, none⟩) := by simpa using hp
  simp [results, h, hp', asAddr, run_loadVar_row w g t ty cs (0, 0) d hg hu hd hi]
theorem res_cell {P : Program} {fn : Func} {p : Tmp} {ty : TypeId} {tmps : Array Value} {w : World} {g : Nat} {t : TypeId} {cs : Array Value} {d : TypeDesc} (h : fn.results = #[.cell p ty])
    (hp : tmps.getD p undef = .pointer (some ⟨g, 0, none⟩)) (hg : w.heap[g]? = some (.cells cs t (0, 0)))
    (hu : P.underlying ty = some d) (hd : (match d with | .struct _ | .array _ _ => true | _ => false) = true) (hi : (P.info? ty).map (·.size) = some cs.size) :
    (results fn tmps).run P w = .ok (.agg cs) w := results_cell_row h tmps w g t cs (0, 0) d hp hg hu hd hi
theorem res_cells2 {P : Program} {fn : Func} {p q : Tmp} {ty ty' : TypeId} {tmps : Array Value} {w : World} {g g' : Nat} {t t' : TypeId} {cs cs' : Array Value} {d d' : TypeDesc} (h : fn.results = #[.cell p ty, .cell q ty'])
    (hp : tmps.getD p undef = .pointer (some ⟨g, 0, none⟩)) (hg : w.heap[g]? = some (.cells cs t (0, 0))) (hq : tmps.getD q undef = .pointer (some ⟨g', 0, none⟩)) (hg' : w.heap[g']? = some (.cells cs' t' (0, 0)))
    (hu : P.underlying ty = some d) (hd : (match d with | .struct _ | .array _ _ => true | _ => false) = true) (hi : (P.info? ty).map (·.size) = some cs.size)
    (hu' : P.underlying ty' = some d') (hd' : (match d' with | .struct _ | .array _ _ => true | _ => false) = true) (hi' : (P.info? ty').map (·.size) = some cs'.size) :
    (results fn tmps).run P w = .ok (.tuple #[.agg cs, .agg cs']) w := by
  have hp' : tmps[p]?.getD undef = .pointer (some ⟨g, 0, none⟩) := by simpa using hp
  have hq' : tmps[q]?.getD undef = .pointer (some ⟨g', 0, none⟩) := by simpa using hq
  simp [results, h, hp', hq', asAddr, run_loadVar_row w g t ty cs (0, 0) d hg hu hd hi, run_loadVar_row w g' t' ty' cs' (0, 0) d' hg' hu' hd' hi']
theorem res_cells2_tmp {P : Program} {fn : Func} {p q u : Tmp} {ty ty' : TypeId} {tmps : Array Value} {w : World} {g g' : Nat} {t t' : TypeId} {cs cs' : Array Value} {d d' : TypeDesc} (h : fn.results = #[.cell p ty, .cell q ty', .tmp u])
    (hp : tmps.getD p undef = .pointer (some ⟨g, 0, none⟩)) (hg : w.heap[g]? = some (.cells cs t (0, 0))) (hq : tmps.getD q undef = .pointer (some ⟨g', 0, none⟩)) (hg' : w.heap[g']? = some (.cells cs' t' (0, 0)))
    (hu : P.underlying ty = some d) (hd : (match d with | .struct _ | .array _ _ => true | _ => false) = true) (hi : (P.info? ty).map (·.size) = some cs.size)
    (hu' : P.underlying ty' = some d') (hd' : (match d' with | .struct _ | .array _ _ => true | _ => false) = true) (hi' : (P.info? ty').map (·.size) = some cs'.size) :
    (results fn tmps).run P w = .ok (.tuple #[.agg cs, .agg cs', tmps.getD u undef]) w := by
  have hp' : tmps[p]?.getD undef = .pointer (some ⟨g, 0, none⟩) := by simpa using hp
  have hq' : tmps[q]?.getD undef = .pointer (some ⟨g', 0, none⟩) := by simpa using hq
  simp [results, h, hp', hq', asAddr, run_loadVar_row w g t ty cs (0, 0) d hg hu hd hi, run_loadVar_row w g' t' ty' cs' (0, 0) d' hg' hu' hd' hi']
section
variable {P : Program} {fn : Func} {R : Ending → World → Prop} {a : Act} {w : World} {p q u v : Tmp} {ty ty' : TypeId} {g g' : Nat} {d d' : TypeDesc}
theorem ret_cell (h : fn.results = #[.cell p ty]) (hp : a.tmps.getD p undef = .pointer (some ⟨g, 0, none⟩)) (hu : P.underlying ty = some d) (hd : (match d with | .struct _ | .array _ _ => true | _ => false) = true) (hz : a.defers = [])
    (key : ∃ cs t, w.heap[g]? = some (.cells cs t (0, 0)) ∧ (P.info? ty).map (·.size) = some cs.size ∧ R (.returned (.agg cs)) w) : bodyPost P fn R .ret a w := by
  obtain ⟨cs, t, h1, h2, h3⟩ := key
  exact bodyPost_ret (res_cell h hp h1 hu hd h2) hz h3
theorem ret_cell_tmp (h : fn.results = #[.cell p ty, .tmp u]) (hp : a.tmps.getD p undef = .pointer (some ⟨g, 0, none⟩)) (hu : P.underlying ty = some d) (hd : (match d with | .struct _ | .array _ _ => true | _ => false) = true) (hz : a.defers = [])
    (key : ∃ cs t, w.heap[g]? = some (.cells cs t (0, 0)) ∧ (P.info? ty).map (·.size) = some cs.size ∧ R (.returned (.tuple #[.agg cs, a.tmps.getD u undef])) w) : bodyPost P fn R .ret a w := by
  obtain ⟨cs, t, h1, h2, h3⟩ := key
  exact bodyPost_ret (res_cell_tmp h hp h1 hu hd h2) hz h3
theorem ret_cell_tmp2 (h : fn.results = #[.cell p ty, .tmp u, .tmp v]) (hp : a.tmps.getD p undef = .pointer (some ⟨g, 0, none⟩)) (hu : P.underlying ty = some d) (hd : (match d with | .struct _ | .array _ _ => true | _ => false) = true) (hz : a.defers = [])
    (key : ∃ cs t, w.heap[g]? = some (.cells cs t (0, 0)) ∧ (P.info? ty).map (·.size) = some cs.size ∧ R (.returned (.tuple #[.agg cs, a.tmps.getD u undef, a.tmps.getD v undef])) w) : bodyPost P fn R .ret a w := by
  obtain ⟨cs, t, h1, h2, h3⟩ := key
  exact bodyPost_ret (res_cell_tmp2 h hp h1 hu hd h2) hz h3
theorem ret_cells2 (h : fn.results = #[.cell p ty, .cell q ty']) (hp : a.tmps.getD p undef = .pointer (some ⟨g, 0, none⟩)) (hq : a.tmps.getD q undef = .pointer (some ⟨g', 0, none⟩))
    (hu : P.underlying ty = some d) (hd : (match d with | .struct _ | .array _ _ => true | _ => false) = true) (hu' : P.underlying ty' = some d') (hd' : (match d' with | .struct _ | .array _ _ => true | _ => false) = true) (hz : a.defers = [])
    (key : ∃ cs t cs' t', w.heap[g]? = some (.cells cs t (0, 0)) ∧ (P.info? ty).map (·.size) = some cs.size ∧ w.heap[g']? = some (.cells cs' t' (0, 0)) ∧ (P.info? ty').map (·.size) = some cs'.size ∧ R (.returned (.tuple #[.agg cs, .agg cs'])) w) : bodyPost P fn R .ret a w := by
  obtain ⟨cs, t, cs', t', h1, h2, h3, h4, h5⟩ := key
  exact bodyPost_ret (res_cells2 h hp h1 hq h3 hu hd h2 hu' hd' h4) hz h5
theorem ret_cells2_tmp (h : fn.results = #[.cell p ty, .cell q ty', .tmp u]) (hp : a.tmps.getD p undef = .pointer (some ⟨g, 0, none⟩)) (hq : a.tmps.getD q undef = .pointer (some ⟨g', 0, none⟩))
    (hu : P.underlying ty = some d) (hd : (match d with | .struct _ | .array _ _ => true | _ => false) = true) (hu' : P.underlying ty' = some d') (hd' : (match d' with | .struct _ | .array _ _ => true | _ => false) = true) (hz : a.defers = [])
    (key : ∃ cs t cs' t', w.heap[g]? = some (.cells cs t (0, 0)) ∧ (P.info? ty).map (·.size) = some cs.size ∧ w.heap[g']? = some (.cells cs' t' (0, 0)) ∧ (P.info? ty').map (·.size) = some cs'.size ∧ R (.returned (.tuple #[.agg cs, .agg cs', a.tmps.getD u undef])) w) : bodyPost P fn R .ret a w := by
  obtain ⟨cs, t, cs', t', h1, h2, h3, h4, h5⟩ := key
  exact bodyPost_ret (res_cells2_tmp h hp h1 hq h3 hu hd h2 hu' hd' h4) hz h5
end
theorem heap_below {B : Nat} {w w' : World} {i : Nat} {o : Obj} (hb : Below B w w') (hi : i < B) (h : w.heap[i]? = some o) : w'.heap[i]? = some o := (hb.block i hi).trans h
theorem lt_alloc (w : World) (o : Obj) : w.heap.size < (w.alloc o).heap.size := by rw [size_alloc]; omega
theorem heap_alloc_old' {w : World} {o o' : Obj} {i : Nat} (h : w.heap[i]? = some o') : (w.alloc o).heap[i]? = some o' := by
  rw [heap_alloc_old]
  · exact h
  · rcases Nat.lt_or_ge i w.heap.size with h1 | h1
    · exact h1
    · rw [Array.getElem?_eq_none h1] at h; cases h
theorem heap_set_other' {w : World} {p : Addr} {v : Value} {i : Nat} {o : Obj} (hn : i ≠ p.block) (h : w.heap[i]? = some o) : (w.setCell p v).heap[i]? = some o := (heap_set_other w p v i hn).trans h
end Go.Proofs.Ytidpkmabcndknaa
