/- What a call left of a block that was there ahead of it; no program in sight. -/
import Derived.Test.YtidpkmabcndknaaMem
namespace Go.Proofs.Ytidpkmabcndknaa
set_option linter.unusedSimpArgs false
set_option linter.unusedVariables false
open Go.RowKit
/-- The world behind a call, told by the world ahead of it. -/
structure Via (u v : World) : Prop where
  h : Below u.heap.size u v
theorem heap_via {u v : World} {i : Nat} {o : Obj} (h : Via u v) (hi : i < u.heap.size) (hu : u.heap[i]? = some o) : v.heap[i]? = some o := (h.h.block i hi).trans hu
theorem via_size {u v : World} (h : Via u v) : u.heap.size ≤ v.heap.size := h.h.size
theorem cells_below {u w : World} {n g : Nat} {cs : Array Value} (hb : Below n u w) (hz : g < n) (hc : ∀ j, u.cell? ⟨g, j, none⟩ = cs[j]?) : ∀ j, w.cell? ⟨g, j, none⟩ = cs[j]? := fun j => (hb.cell (p := ⟨g, j, none⟩) hz).trans (hc j)
theorem keep1 {u w : World} {n g0 : Nat} {s0 : Array Value} (z0 : g0 < n) (c0 : ∀ j, u.cell? ⟨g0, j, none⟩ = s0[j]?) (hb : Below n u w) :
    (∀ j, w.cell? ⟨g0, j, none⟩ = s0[j]?) ∧ Below n u w := ⟨cells_below hb z0 c0, hb⟩
theorem keep2 {u w : World} {n g0 g1 : Nat} {s0 s1 : Array Value} (z0 : g0 < n) (c0 : ∀ j, u.cell? ⟨g0, j, none⟩ = s0[j]?) (z1 : g1 < n) (c1 : ∀ j, u.cell? ⟨g1, j, none⟩ = s1[j]?) (hb : Below n u w) :
    (∀ j, w.cell? ⟨g0, j, none⟩ = s0[j]?) ∧ (∀ j, w.cell? ⟨g1, j, none⟩ = s1[j]?) ∧ Below n u w := ⟨cells_below hb z0 c0, cells_below hb z1 c1, hb⟩
theorem keep3 {u w : World} {n g0 g1 g2 : Nat} {s0 s1 s2 : Array Value} (z0 : g0 < n) (c0 : ∀ j, u.cell? ⟨g0, j, none⟩ = s0[j]?) (z1 : g1 < n) (c1 : ∀ j, u.cell? ⟨g1, j, none⟩ = s1[j]?) (z2 : g2 < n) (c2 : ∀ j, u.cell? ⟨g2, j, none⟩ = s2[j]?) (hb : Below n u w) :
    (∀ j, w.cell? ⟨g0, j, none⟩ = s0[j]?) ∧ (∀ j, w.cell? ⟨g1, j, none⟩ = s1[j]?) ∧ (∀ j, w.cell? ⟨g2, j, none⟩ = s2[j]?) ∧ Below n u w := ⟨cells_below hb z0 c0, cells_below hb z1 c1, cells_below hb z2 c2, hb⟩
theorem keep4 {u w : World} {n g0 g1 g2 g3 : Nat} {s0 s1 s2 s3 : Array Value} (z0 : g0 < n) (c0 : ∀ j, u.cell? ⟨g0, j, none⟩ = s0[j]?) (z1 : g1 < n) (c1 : ∀ j, u.cell? ⟨g1, j, none⟩ = s1[j]?) (z2 : g2 < n) (c2 : ∀ j, u.cell? ⟨g2, j, none⟩ = s2[j]?) (z3 : g3 < n) (c3 : ∀ j, u.cell? ⟨g3, j, none⟩ = s3[j]?) (hb : Below n u w) :
    (∀ j, w.cell? ⟨g0, j, none⟩ = s0[j]?) ∧ (∀ j, w.cell? ⟨g1, j, none⟩ = s1[j]?) ∧ (∀ j, w.cell? ⟨g2, j, none⟩ = s2[j]?) ∧ (∀ j, w.cell? ⟨g3, j, none⟩ = s3[j]?) ∧ Below n u w := ⟨cells_below hb z0 c0, cells_below hb z1 c1, cells_below hb z2 c2, cells_below hb z3 c3, hb⟩
end Go.Proofs.Ytidpkmabcndknaa
