/- A slice of the call's own that is cut at its head and appended to at its end. No program in sight. -/
import Derived.Test.YtlncekdoaddifaaOwn
import Derived.ArgAppend
namespace Go.Proofs.Ytlncekdoaddifaa
set_option linter.unusedSimpArgs false
set_option linter.unusedVariables false
open Go.RowKit
/-- The value v holds xs, in a block of the call's own, or is nil. -/
def QRow (w : World) (B : Nat) (e : TypeId) (v : Value) (xs : List Value) : Prop :=
  (v = .slice none 0 0 ∧ xs = []) ∨ ∃ g off cap cur, v = .slice (some ⟨g, off, none⟩) xs.length cap ∧ B ≤ g ∧ w.heap[g]? = some (.cells cur e (0, 0)) ∧ xs.length ≤ cap ∧ cap ≤ maxLen ∧ off + cap ≤ cur.size ∧ ∀ j, j < xs.length → cur[off + j]? = xs[j]?
section
variable {w w' : World} {B : Nat} {e : TypeId} {v : Value} {xs : List Value}
theorem qrow_nil (w : World) (B : Nat) (e : TypeId) : QRow w B e (.slice none 0 0) [] := .inl ⟨rfl, rfl⟩
theorem qrow_own {n : Nat} (h : w.ownsRow B e 1 v n xs) : QRow w B e v xs := by
  have hl : xs.length = n := by have := h.1; omega
  subst hl
  rcases h.2 with ⟨h1, h2⟩ | ⟨g, cap, cur, h1, h2, h3, h4, h5, h6, h7⟩
  · exact .inl ⟨by rw [h1], List.eq_nil_of_length_eq_zero h2⟩
  · refine .inr ⟨g, 0, cap, cur, h1, h2, h3, h4, h5, by omega, fun j hj => ?_⟩
    rw [← h7, List.getElem?_take_of_lt (by omega), Array.getElem?_toList, Nat.zero_add]
theorem QRow.slice (h : QRow w B e v xs) : ∃ A cap, v = .slice A xs.length cap := by
  rcases h with ⟨h1, h2⟩ | ⟨g, off, cap, cur, h1, _⟩
  · subst h2; exact ⟨none, 0, h1⟩
  · exact ⟨_, _, h1⟩
theorem QRow.kept (h : QRow w B e v xs) (hb : ∀ g, v.ownBlock = some g → w'.heap[g]? = w.heap[g]?) : QRow w' B e v xs := by
  rcases h with h | ⟨g, off, cap, cur, h1, h2, h3, h4⟩
  · exact .inl h
  · exact .inr ⟨g, off, cap, cur, h1, h2, (hb g (by rw [h1]; rfl)).trans h3, h4⟩
theorem QRow.block (h : QRow w B e v xs) {g : Nat} (hg : v.ownBlock = some g) : B ≤ g ∧ g < w.heap.size ∧ ∃ cur, w.heap[g]? = some (.cells cur e (0, 0)) := by
  rcases h with ⟨h, _⟩ | ⟨g', off, cap, cur, h1, h2, h3, _⟩
  · rw [h] at hg; cases hg
  · rw [h1] at hg
    simp only [Value.ownBlock, Option.some.injEq] at hg
    subst hg
    exact ⟨h2, blk_lt h3, cur, h3⟩
theorem QRow.ne (h : QRow w B e v xs) {g : Nat} {c : Array Value} {t : TypeId} (hb : w.heap[g]? = some (.cells c t (0, 0))) (ht : t ≠ e) : v.ownBlock ≠ some g := by
  intro hv
  obtain ⟨_, _, cur, h⟩ := h.block hv
  rw [h] at hb
  simp only [Option.some.injEq, Obj.cells.injEq] at hb
  exact ht hb.2.1.symm
theorem QRow.below (h : QRow w B e v xs) (hb : Below w.heap.size w w') : QRow w' B e v xs := h.kept (fun g hg => hb.block g (h.block hg).2.1)
theorem QRow.alloc (h : QRow w B e v xs) (o : Obj) : QRow (w.alloc o) B e v xs := h.kept (fun g hg => heap_alloc_old w o g (h.block hg).2.1)
theorem QRow.drewN (h : QRow w B e v xs) (n : Nat) : QRow (w.drewN n) B e v xs := h.kept (fun g hg => rfl)
theorem QRow.drew (h : QRow w B e v xs) : QRow w.drew B e v xs := h.kept (fun g hg => rfl)
theorem qrow_set {p : Addr} {u : Value} {c : Array Value} {t : TypeId} (hb : w.heap[p.block]? = some (.cells c t (0, 0))) (ht : t ≠ e) (h : QRow w B e v xs) : QRow (w.setCell p u) B e v xs :=
  h.kept (fun g hg => heap_set_other w p u g (fun q => by subst q; exact h.ne hb ht hg))
theorem QRow.mono {B' : Nat} (h : QRow w B e v xs) (hb : B' ≤ B) : QRow w B' e v xs := by
  rcases h with h | ⟨g, off, cap, cur, h1, h2, h3⟩
  · exact .inl h
  · exact .inr ⟨g, off, cap, cur, h1, Nat.le_trans hb h2, h3⟩
/-- An element of it. -/
theorem qrow_cell {A : Option Addr} {n cap : Nat} (h : QRow w B e (.slice A n cap) xs) {j : Nat} (hj : j < xs.length) :
    ∃ g off, A = some ⟨g, off, none⟩ ∧ B ≤ g ∧ g < w.heap.size ∧ w.cell? ⟨g, off + j, none⟩ = xs[j]? ∧ w.frozen? ⟨g, off + j, none⟩ = false := by
  rcases h with ⟨h1, h2⟩ | ⟨g, off, cap', cur, h1, h2, h3, h4, h5, h6, h7⟩
  · subst h2; simp at hj
  · simp only [Value.slice.injEq] at h1
    exact ⟨g, off, h1.1, h2, blk_lt h3, ((blk_facts h3).1 _).trans (h7 j hj), (blk_facts h3).2.1 _⟩
theorem qrow_len {A : Option Addr} {n cap : Nat} (h : QRow w B e (.slice A n cap) xs) : n = xs.length ∧ n ≤ cap ∧ cap ≤ maxLen := by
  rcases h with ⟨h1, h2⟩ | ⟨g, off, cap', cur, h1, h2, h3, h4, h5, _⟩
  · simp only [Value.slice.injEq] at h1
    obtain ⟨_, rfl, rfl⟩ := h1
    subst h2
    exact ⟨rfl, by omega, by unfold maxLen; omega⟩
  · simp only [Value.slice.injEq] at h1
    obtain ⟨_, rfl, rfl⟩ := h1
    exact ⟨rfl, h4, h5⟩
/-- Cut at its head. -/
theorem qrow_tail {g off n cap : Nat} {x : Value} (h : QRow w B e (.slice (some ⟨g, off, none⟩) n cap) (x :: xs)) (off' : Nat) (ho : cap = 1 ∧ off' = off ∨ cap ≠ 1 ∧ off' = off + 1) :
    QRow w B e (.slice (some ⟨g, off', none⟩) xs.length (cap - 1)) xs := by
  rcases h with ⟨h1, _⟩ | ⟨g', o', cap', cur, h1, h2, h3, h4, h5, h6, h7⟩
  · cases h1
  · simp only [Value.slice.injEq, Option.some.injEq, Addr.mk.injEq] at h1
    obtain ⟨⟨rfl, rfl, _⟩, rfl, rfl⟩ := h1
    rw [List.length_cons] at h4
    refine .inr ⟨g, off', cap - 1, cur, rfl, h2, h3, by omega, by omega, by omega, fun j hj => ?_⟩
    have := h7 (j + 1) (by simp; omega)
    rw [List.getElem?_cons_succ] at this
    rw [← this]
    congr 1
    rcases ho with ⟨q1, _⟩ | ⟨_, rfl⟩
    · omega
    · omega
end
/-- An append of one element, at the operation. -/
theorem wpList_append_q {P : Program} (w : World) {ops : Array Oper} {rest : List Oper} {o : Oper} {a : Act} {Q : Exit → Act → World → Prop}
    (hg : o.guard = none) (s x : Operand) (t : TypeId) (hop : o.op = Op.call { callee := Callee.builtin Builtin.append, args := #[s, x], argTypes := #[t, t] })
    (B : Nat) (e : TypeId) (i : TypeInfo) (z : Value) (bytes : Nat) (h1 : P.underlying t = some (.slice e)) (h2 : P.info? e = some i) (h3 : i.zero = some z) (h4 : i.size = 1) (h5 : i.bytes = bytes) (h6 : z.cells.size = 1)
    (v : Value) (xs : List Value) (hs : a.eval s = v) (hq : QRow w B e v xs) (ad : Addr) (c : Nat) (u : Value) (hx : a.eval x = .slice (some ad) 1 c) (hc : w.cell? (ad.add 0) = some u) (h1c : u.oneCell' = true)
    (b1 : xs.length + 1 ≤ maxLen) (b2 : (xs.length + 1) * bytes ≤ 140737488355328) (hB : B ≤ w.heap.size)
    (hK : ∀ v' w', QRow w' B e v' (xs ++ [u]) → w.grownBy w' v.ownBlock → wpList P ops Q rest (a.put o.dst v') w') :
    wpList P ops Q (o :: rest) a w := by
  have hnews : ∀ j y, [u][j]? = some y → w.cell? (ad.add j) = some y := by
    intro j y h
    cases j with
    | zero => simp at h; subst h; exact hc
    | succ j => simp at h
  have hone : ∀ y ∈ [u], y.oneCell' = true := by intro y hy; simp at hy; subst hy; exact h1c
  have hq0 := hq
  rcases hq with ⟨rfl, rfl⟩ | ⟨g, off, cap, cur, rfl, hg1, hg2, hg3, hg4, hg5, hg6⟩
  · refine wpList_append_grows w hg s x t hop e i z 1 bytes h1 h2 h3 h4 h5 h6 (by omega) none 0 0 [] hs (fun _ => ⟨rfl, rfl⟩) rfl (fun b h => by cases h) ad 1 c [u] hx rfl hnews hone (by omega) (by unfold maxLen; omega) (by simpa using b2) (fun v' w' q1 q2 => ?_)
    exact hK v' w' (QRow.mono (qrow_own q1) hB) q2
  · refine wpList_append_arg w hg s x t hop e i z 1 bytes h1 h2 h3 h4 h5 h6 (by omega) g off xs.length cap xs hs (by omega) (fun j y h => ?_) ad 1 c [u] hx rfl hnews hone (fun hr j hj => ?_) b1 b2 (fun hr => ?_) (fun hr v' w' q1 q2 => ?_)
    · have hj : j < xs.length := (List.getElem?_eq_some_iff.1 h).1
      exact (((blk_facts hg2).1 _).trans (hg6 j hj)).trans h
    · have hj0 : j = 0 := by simpa using hj
      subst hj0
      refine ⟨?_, (blk_facts hg2).2.1 _⟩
      rw [(blk_facts hg2).1, Array.getElem?_eq_getElem (by omega)]
      rfl
    · refine hK _ _ ?_ ?_
      · have e1 : w.setCells g (off + xs.length * 1) [u] = w.setCell ⟨g, off + xs.length, none⟩ u := by simp [World.setCells]
        rw [e1]
        refine .inr ⟨g, off, cap, cur.setIfInBounds (off + xs.length) u, by simp, hg1, heap_set_same _ _ hg2, by simpa using hr, hg4, by simpa using hg5, fun j hj => ?_⟩
        rw [List.length_append, List.length_singleton] at hj
        rw [Array.getElem?_setIfInBounds]
        by_cases q : j < xs.length
        · rw [if_neg (by omega), List.getElem?_append_left q]
          exact hg6 j q
        · have : j = xs.length := by omega
          subst this
          rw [if_pos rfl, if_pos (by omega)]
          simp
      · have e1 : w.setCells g (off + xs.length * 1) [u] = w.setCell ⟨g, off + xs.length, none⟩ u := by simp [World.setCells]
        rw [e1]
        exact ⟨rfl, rfl, rfl, by simp [World.setCell], fun k hk hne => heap_set_other w _ u k (fun q => hne (by rw [q]; rfl))⟩
    · exact hK v' w' (QRow.mono (qrow_own q1) hB) ⟨q2.os, q2.tape, q2.output, q2.size, fun k hk _ => q2.block k hk (by simp)⟩
end Go.Proofs.Ytlncekdoaddifaa
