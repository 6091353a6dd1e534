/- Slices of numbers and of pairs that came in, as lists. No condition. -/
import Derived.Test.YtidpkmabcndknaaLift
import Derived.Test.YtidpkmabcndknaaOwn
namespace Go.Proofs.Ytidpkmabcndknaa
set_option linter.unusedSimpArgs false
set_option linter.unusedVariables false
open Go.ChangeShapes Go.WideShapes Go.ChangeAt Go.RowKit

/-- A nil slice has no room. -/
theorem none_cap {H : Type} {enc : TypeId × Value → H} {P : Program} {w : World} {base : Nat} {spare : Nat → Bool} {held : Bool} {t e : TypeId} {A : Option Addr} {len cap : Nat} {d : DataW H} {ps : List MemPlace} (ht : P.underlying t = some (.slice e))
    (h : DataW.Trod enc P w base spare held t (.slice A len cap) d ps) : A = none → cap = 0 := by
  rintro rfl
  obtain ⟨fuel, hf⟩ := h
  have hf' : DataW.trod enc P w base spare held fuel t [.slice none len cap] = some (d, ps) := hf
  rcases Go.Deep.open_slice ht hf' with ⟨h1, _⟩ | ⟨a, len, cap, mm, n, D, Pl, h1, _⟩
  · simp at h1
    exact h1.2
  · simp at h1
/-- A struct's cell that is a slice. -/
theorem leaf_slice {H : Type} {enc : TypeId × Value → H} {P : Program} {w : World} {base : Nat} {spare : Nat → Bool} {held : Bool} {cs : List Value} {l : List TypeId} (h : LeafAt enc P w base spare held cs l) {i : Nat} {u e : TypeId} (hu : l[i]? = some u) (hk : P.underlying u = some (.slice e)) :
    ∃ (A : Option Addr) (len cap : Nat) (d : DataW H) (ps : List MemPlace), cs[i]? = some (.slice A len cap) ∧ DataW.Trod enc P w base spare held u (.slice A len cap) d ps := by
  obtain ⟨c, y, m, h1, h2⟩ := h i u hu
  rcases Go.Deep.open_slice hk h2 with ⟨h3, _⟩ | ⟨a, len, cap, mm, n, D, Pl, h3, _⟩
  · simp at h3
    subst h3
    exact ⟨none, 0, 0, y.1, y.2, h1, m, h2⟩
  · simp at h3
    subst h3
    exact ⟨some a, len, cap, y.1, y.2, h1, m, h2⟩
theorem open_list {H : Type} {enc : TypeId × Value → H} {P : Program} {w : World} {base : Nat} {spare : Nat → Bool} {held : Bool} {e : TypeId} {k : IntKind} {A : Option Addr} {len : Nat} (he : P.underlying e = some (.int k))
    (h : ∀ i, i < len → ∃ (b o : Nat) (cs : List Value), A = some ⟨b, o, none⟩ ∧ b < w.heap.size ∧ cs.length = 1 ∧ (∀ (j : Nat) (u : Value), cs[j]? = some u → w.cell? ⟨b, o + i * 1 + j, none⟩ = some u) ∧
        ∃ n x, DataW.trod enc P w base spare held n e cs = some x) :
    ∃ zs : List Int, zs.length = len ∧ IntsAt w A k zs ∧ ∀ z ∈ zs, (Lit.int k z).wf = true := by
  obtain ⟨z, hz⟩ := ints_fn he h
  obtain ⟨l, hl, hg⟩ := list_of len z
  refine ⟨l, hl, fun i hi => ?_, fun x hx => ?_⟩
  · obtain ⟨b, o, hA, hb, hc, _⟩ := hz i (by omega)
    exact ⟨b, o, hA, hb, by rw [hg i (by omega)]; exact hc⟩
  · obtain ⟨i, hi, rfl⟩ := List.getElem_of_mem hx
    obtain ⟨_, _, _, _, _, hw⟩ := hz i (by omega)
    have := hg i (by omega)
    rw [List.getD_eq_getElem?_getD, List.getElem?_eq_getElem hi] at this
    simp only [Option.getD_some] at this
    rw [this]
    exact hw

theorem open_bools {H : Type} {enc : TypeId × Value → H} {P : Program} {w : World} {base : Nat} {spare : Nat → Bool} {held : Bool} {e : TypeId} {A : Option Addr} {len : Nat} (he : P.underlying e = some .bool)
    (h : ∀ i, i < len → ∃ (b o : Nat) (cs : List Value), A = some ⟨b, o, none⟩ ∧ b < w.heap.size ∧ cs.length = 1 ∧ (∀ (j : Nat) (u : Value), cs[j]? = some u → w.cell? ⟨b, o + i * 1 + j, none⟩ = some u) ∧
        ∃ n x, DataW.trod enc P w base spare held n e cs = some x) :
    ∃ zs : List Bool, zs.length = len ∧ ∀ i, i < zs.length → ∃ b o, A = some ⟨b, o, none⟩ ∧ b < w.heap.size ∧ w.cell? ⟨b, o + i, none⟩ = some (.bool (zs.getD i false)) := by
  obtain ⟨z, hz⟩ : ∃ z : Nat → Bool, ∀ i, i < len → ∃ b o, A = some ⟨b, o, none⟩ ∧ b < w.heap.size ∧ w.cell? ⟨b, o + i, none⟩ = some (.bool (z i)) := by
    refine Go.Deep.choose_lt (p := fun i (x : Bool) => ∃ b o, A = some ⟨b, o, none⟩ ∧ b < w.heap.size ∧ w.cell? ⟨b, o + i, none⟩ = some (.bool x)) (fun i hi => ?_)
    obtain ⟨b, o, cs, hA, hb, _, hc, n, x, hx⟩ := h i hi
    obtain ⟨z, rfl, _⟩ := DataW.trod_bool he hx
    exact ⟨z, b, o, hA, hb, by simpa using hc 0 _ rfl⟩
  refine ⟨(List.range len).map z, by simp, fun i hi => ?_⟩
  have hi' : i < len := by simpa using hi
  obtain ⟨b, o, hA, hb, hc⟩ := hz i hi'
  refine ⟨b, o, hA, hb, ?_⟩
  rw [hc]
  simp [List.getD, hi']

theorem open_pairs {H : Type} {enc : TypeId × Value → H} {P : Program} {w : World} {base : Nat} {spare : Nat → Bool} {held : Bool} {e u : TypeId} {k : IntKind} {A : Option Addr} {len : Nat} (hl : leavesOf P 3 e = some [u, u]) (hu : P.underlying u = some (.int k))
    (h : ∀ i, i < len → ∃ (b o : Nat) (cs : List Value), A = some ⟨b, o, none⟩ ∧ b < w.heap.size ∧ cs.length = 2 ∧ (∀ (j : Nat) (u : Value), cs[j]? = some u → w.cell? ⟨b, o + i * 2 + j, none⟩ = some u) ∧
        ∃ n x, DataW.trod enc P w base spare held n e cs = some x) :
    ∃ ps : List (Int × Int), ps.length = len ∧ PairsAt w A k ps ∧ ∀ p ∈ ps, (Lit.int k p.1).wf = true ∧ (Lit.int k p.2).wf = true := by
  obtain ⟨z, hz⟩ : ∃ z : Nat → Int × Int, ∀ i, i < len → ∃ b o, A = some ⟨b, o, none⟩ ∧ b < w.heap.size ∧ w.cell? ⟨b, o + i * 2, none⟩ = some (.int k (z i).1) ∧ w.cell? ⟨b, o + i * 2 + 1, none⟩ = some (.int k (z i).2) ∧ (Lit.int k (z i).1).wf = true ∧ (Lit.int k (z i).2).wf = true := by
    refine Go.Deep.choose_lt (p := fun i (x : Int × Int) => ∃ b o, A = some ⟨b, o, none⟩ ∧ b < w.heap.size ∧ w.cell? ⟨b, o + i * 2, none⟩ = some (.int k x.1) ∧ w.cell? ⟨b, o + i * 2 + 1, none⟩ = some (.int k x.2) ∧ (Lit.int k x.1).wf = true ∧ (Lit.int k x.2).wf = true) (fun i hi => ?_)
    obtain ⟨b, o, cs, hA, hb, _, hc, n, x, hx⟩ := h i hi
    obtain ⟨_, L⟩ := leaves 3 e [u, u] hl n cs x hx
    obtain ⟨a0, e0, w0⟩ := leaf_int L (i := 0) rfl hu
    obtain ⟨a1, e1, w1⟩ := leaf_int L (i := 1) rfl hu
    exact ⟨(a0, a1), b, o, hA, hb, hc 0 _ e0, hc 1 _ e1, w0, w1⟩
  obtain ⟨l, hl, hg⟩ := pairs_of len z
  refine ⟨l, hl, fun i hi => ?_, fun x hx => ?_⟩
  · obtain ⟨b, o, hA, hb, hc, hd, _⟩ := hz i (by omega)
    exact ⟨b, o, hA, hb, by rw [hg i (by omega)]; exact hc, by rw [hg i (by omega)]; exact hd⟩
  · obtain ⟨i, hi, rfl⟩ := List.getElem_of_mem hx
    obtain ⟨_, _, _, _, _, _, hw⟩ := hz i (by omega)
    have := hg i (by omega)
    rw [List.getD_eq_getElem?_getD, List.getElem?_eq_getElem hi] at this
    simp only [Option.getD_some] at this
    rw [this]
    exact hw
end Go.Proofs.Ytidpkmabcndknaa
