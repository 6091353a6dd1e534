/- The reference's rows in memory. -/
import Derived.Test.YtlncekdoaddifaaActs
import Derived.Test.YtlncekdoaddifaaSrc
import Derived.ArgAppend
namespace Go.Proofs.Ytlncekdoaddifaa
set_option linter.unusedSimpArgs false
set_option linter.unusedVariables false
open Go.RowKit

theorem info53 : (Try.prog.info? 53).map (fun i => (i.zero, i.size, i.bytes)) = some (some (.agg #[.int .u64 0, .string ⟨#[]⟩, .bool false]), 3, 32) := by kernel_rfl
def pCells (p : En) : List Value := [.int .u64 p.id, .string p.ans, .bool p.done]
def dCells : List En → List Value
  | [] => []
  | p :: L => .int .u64 p.id :: .string p.ans :: .bool p.done :: dCells L
theorem dCells_length (L : List En) : (dCells L).length = L.length * 3 := by
  induction L with
  | nil => rfl
  | cons p L ih => simp [dCells, ih]; omega
theorem dCells_append (K L : List En) : dCells (K ++ L) = dCells K ++ dCells L := by
  induction K with
  | nil => rfl
  | cons p K ih => simp [dCells, ih]
theorem dCells_one (L : List En) : ∀ u ∈ dCells L, u.oneCell' = true := by
  induction L with
  | nil => intro u hu; simp [dCells] at hu
  | cons p L ih =>
    intro u hu
    simp only [dCells, List.mem_cons] at hu
    rcases hu with rfl | rfl | rfl | hu
    · rfl
    · rfl
    · rfl
    · exact ih u hu
theorem dCells_get (L : List En) (i : Nat) (hi : i < L.length) : (dCells L)[i * 3]? = some (.int .u64 L[i].id) ∧ (dCells L)[i * 3 + 1]? = some (.string L[i].ans) ∧ (dCells L)[i * 3 + 2]? = some (.bool L[i].done) := by
  induction L generalizing i with
  | nil => simp at hi
  | cons p L ih =>
    cases i with
    | zero => simp [dCells]
    | succ i =>
      have := ih i (by simpa using hi)
      rw [show (i + 1) * 3 = i * 3 + 3 by omega]
      simpa [dCells] using this
theorem dCells_set (L : List En) (i : Nat) (hi : i < L.length) (p : En) : (((dCells L).set (i * 3) (.int .u64 p.id)).set (i * 3 + 1) (.string p.ans)).set (i * 3 + 2) (.bool p.done) = dCells (L.set i p) := by
  induction L generalizing i with
  | nil => simp at hi
  | cons a L ih =>
    cases i with
    | zero => simp [dCells]
    | succ i =>
      have := ih i (by simpa using hi)
      rw [show (i + 1) * 3 = i * 3 + 3 by omega]
      simpa [dCells] using this
/-- A row of the reference in memory. -/
def DAt (w : World) (A : Option Addr) (c : Nat) (L : List En) : Prop :=
  (L = [] ∧ A = none ∧ c = 0) ∨ ∃ b o cur, A = some ⟨b, o, none⟩ ∧ w.heap[b]? = some (.cells cur 53 (0, 0)) ∧ L.length ≤ c ∧ c ≤ maxLen ∧ o + c * 3 ≤ cur.size ∧ ∀ j u, (dCells L)[j]? = some u → cur[o + j]? = some u
theorem DAt.below {w w' : World} {A : Option Addr} {c : Nat} {L : List En} (h : DAt w A c L) (hb : Below w.heap.size w w') : DAt w' A c L := by
  rcases h with h | ⟨b, o, cur, h1, h2, h3⟩
  · exact .inl h
  · exact .inr ⟨b, o, cur, h1, heap_below hb (blk_lt h2) h2, h3⟩
theorem DAt.moved {w w' : World} {T B : Nat} {cs : Array Value} {A : Option Addr} {c : Nat} {L : List En} (h : DAt w A c L) (hs : w.heap[T]? = some (.cells cs 50 (0, 0))) (hm : Moved T B w w') (hq : ∀ (g : Nat) (cc : Array Value), w.heap[g]? = some (.cells cc 53 (0, 0)) → g ≠ T → w'.heap[g]? = some (.cells cc 53 (0, 0))) : DAt w' A c L := by
  rcases h with h | ⟨b, o, cur, h1, h2, h3⟩
  · exact .inl h
  · exact .inr ⟨b, o, cur, h1, hq b cur h2 (fun e => by subst e; rw [h2] at hs; simp at hs), h3⟩
theorem DAt.src {w : World} {A : Option Addr} {c : Nat} {L : List En} (h : DAt w A c L) : SrcAt w A L.length c (dCells L) := by
  rcases h with ⟨rfl, rfl, rfl⟩ | ⟨b, o, cur, rfl, h2, _, _, _, h3⟩
  · exact ⟨fun _ => ⟨rfl, rfl⟩, fun ad h => by cases h⟩
  · refine ⟨fun h => (by cases h), fun ad h j u hj => ?_⟩
    cases h
    rw [Addr.add_lit, (blk_facts h2).1]
    exact h3 j u hj
/-- The same, in a block of the call's own. -/
def DOwn (w : World) (B : Nat) (A : Option Addr) (c : Nat) (L : List En) : Prop := DAt w A c L ∧ ∀ b o, A = some ⟨b, o, none⟩ → B ≤ b
theorem dat_own {w : World} {B : Nat} {A : Option Addr} {n cap : Nat} {L : List En} (h : w.ownsRow B 53 3 (.slice A n cap) n (dCells L)) : DOwn w B A cap L ∧ n = L.length := by
  have hn : n = L.length := by
    have := h.1
    rw [dCells_length] at this
    omega
  refine ⟨?_, hn⟩
  rcases h.2 with ⟨h1, h2⟩ | ⟨g, cap', cur, h1, hb, h3, h4, h5, h6⟩
  · simp only [Value.slice.injEq] at h1
    refine ⟨.inl ⟨List.eq_nil_of_length_eq_zero (by omega), h1.1, h1.2.2⟩, fun b o q => ?_⟩
    rw [h1.1] at q
    cases q
  · simp only [Value.slice.injEq] at h1
    obtain ⟨rfl, _, rfl⟩ := h1
    refine ⟨.inr ⟨g, 0, cur, rfl, h3, by omega, h5, by omega, fun j u hj => ?_⟩, fun b o q => by cases q; exact hb⟩
    have hjl : j < n * 3 := by
      have := (List.getElem?_eq_some_iff.1 hj).1
      rw [dCells_length] at this
      omega
    rw [Nat.zero_add, ← hj, ← h6.2, List.getElem?_take_of_lt hjl, Array.getElem?_toList]
theorem DOwn.below {w w' : World} {B : Nat} {A : Option Addr} {c : Nat} {L : List En} (h : DOwn w B A c L) (hb : Below w.heap.size w w') : DOwn w' B A c L := ⟨h.1.below hb, h.2⟩
theorem DOwn.alloc {w : World} {B : Nat} {A : Option Addr} {c : Nat} {L : List En} (h : DOwn w B A c L) (o : Obj) : DOwn (w.alloc o) B A c L := h.below (Below.alloc (Below.refl _ _) (Nat.le_refl _) o)
/-- Cut at its head. -/
theorem down_tail {w : World} {B g o c : Nat} {p : En} {L : List En} (h : DOwn w B (some ⟨g, o, none⟩) c (p :: L)) (hc : c ≠ 1) : DOwn w B (some ⟨g, o + 3, none⟩) (c - 1) L := by
  refine ⟨?_, fun b o' q => h.2 b o (by cases q; rfl)⟩
  rcases h.1 with ⟨h1, _, _⟩ | ⟨b, o', cur, h1, h2, h3, h4, h5, h6⟩
  · cases h1
  · cases h1
    rw [List.length_cons] at h3
    refine .inr ⟨_, _, cur, rfl, h2, by omega, by omega, by omega, fun j u hj => ?_⟩
    have := h6 (j + 3) u (by simpa [dCells] using hj)
    rw [← this]
    congr 1
    omega
theorem down_nil {w : World} {B g o : Nat} {p : En} {L : List En} (h : DOwn w B (some ⟨g, o, none⟩) 1 (p :: L)) : L = [] ∧ DOwn w B (some ⟨g, o, none⟩) 0 [] := by
  rcases h.1 with ⟨h1, _, _⟩ | ⟨b, o', cur, h1, h2, h3, h4, h5, h6⟩
  · cases h1
  · cases h1
    rw [List.length_cons] at h3
    refine ⟨List.eq_nil_of_length_eq_zero (by omega), .inr ⟨_, _, cur, rfl, h2, by simp, by unfold maxLen; omega, by omega, fun j u hj => by simp [dCells] at hj⟩, fun b o' q => h.2 b o (by cases q; rfl)⟩
/-- An append of one element to it. -/
theorem wpList_append_d {P : Program} (w : World) {ops : Array Oper} {rest : List Oper} {o : Oper} {a : Act} {Q : Exit → Act → World → Prop}
    (hg : o.guard = none) (s x : Operand) (t : TypeId) (hop : o.op = Op.call { callee := Callee.builtin Builtin.append, args := #[s, x], argTypes := #[t, t] })
    (B : Nat) (i : TypeInfo) (z : Value) (h1 : P.underlying t = some (.slice 53)) (h2 : P.info? 53 = some i) (h3 : i.zero = some z) (h4 : i.size = 3) (h5 : i.bytes = 32) (h6 : z.cells.size = 3)
    (A : Option Addr) (cap m : Nat) (L : List En) (p : En) (hm : m = L.length) (hs : a.eval s = .slice A m cap) (hq : DOwn w B A cap L) (ad : Addr) (c : Nat) (hx : a.eval x = .slice (some ad) 1 c)
    (hn : ∀ j y, (pCells p)[j]? = some y → w.cell? (ad.add j) = some y) (hl : L.length ≤ 1000000) (hB : B ≤ w.heap.size) (w0 : World) (hw0 : Below B w0 w)
    (hK : ∀ A' c' w', DOwn w' B A' c' (L ++ [p]) → Below B w0 w' → (∀ (g : Nat) (cs : Array Value) (t : TypeId), t ≠ 53 → w.heap[g]? = some (.cells cs t (0, 0)) → w'.heap[g]? = some (.cells cs t (0, 0))) → wpList P ops Q rest (a.put o.dst (.slice A' (m + 1) c')) w') :
    wpList P ops Q (o :: rest) a w := by
  subst hm
  have hone : ∀ u ∈ pCells p, u.oneCell' = true := by
    intro u hu
    simp [pCells] at hu
    rcases hu with rfl | rfl | rfl <;> rfl
  have hcat : dCells L ++ pCells p = dCells (L ++ [p]) := by rw [dCells_append]; rfl
  have fin : ∀ v' w', w'.ownsRow w.heap.size 53 3 v' (L.length + 1) (dCells L ++ pCells p) → w.grownBy w' none → wpList P ops Q rest (a.put o.dst v') w' := by
    intro v' w' q1 q2
    rw [hcat] at q1
    obtain ⟨A', c', rfl⟩ := own_slice q1
    obtain ⟨h7, _⟩ := dat_own q1
    refine hK A' c' w' ⟨h7.1, fun b o' e => Nat.le_trans hB (h7.2 b o' e)⟩ (hw0.trans ⟨q2.os, q2.tape, q2.output, q2.size, fun k hk => q2.block k (by omega) (by simp)⟩) (fun g cs t _ hg => (q2.block g (blk_lt hg) (by simp)).trans hg)
  rcases hq.1 with ⟨rfl, rfl, rfl⟩ | ⟨b, o', cur, rfl, g2, g3, g4, g5, g6⟩
  · refine wpList_append_grows w hg s x t hop 53 i z 3 32 h1 h2 h3 h4 h5 h6 (by omega) none 0 0 [] hs (fun _ => ⟨rfl, rfl⟩) rfl (fun b h => by cases h) ad 1 c (pCells p) hx rfl hn hone (by omega) (by unfold maxLen; omega) (by omega) (fun v' w' q1 q2 => ?_)
    exact fin v' w' (by simpa [dCells] using q1) q2
  · refine wpList_append_arg w hg s x t hop 53 i z 3 32 h1 h2 h3 h4 h5 h6 (by omega) b o' L.length cap (dCells L) hs (dCells_length L) (fun j u h => ((blk_facts g2).1 _).trans (g6 j u h)) ad 1 c (pCells p) hx rfl hn hone (fun hr j hj => ?_) (by unfold maxLen; omega) (by omega) (fun hr => ?_) (fun hr v' w' q1 q2 => fin v' w' q1 q2)
    · have hj0 : j < 3 := by simpa [pCells] using hj
      refine ⟨?_, (blk_facts g2).2.1 _⟩
      rw [(blk_facts g2).1, Array.getElem?_eq_getElem (by omega)]
      rfl
    · have e1 : w.setCells b (o' + L.length * 3) (pCells p) = ((w.setCell ⟨b, o' + L.length * 3, none⟩ (.int .u64 p.id)).setCell ⟨b, o' + L.length * 3 + 1, none⟩ (.string p.ans)).setCell ⟨b, o' + L.length * 3 + 1 + 1, none⟩ (.bool p.done) := by simp [World.setCells, pCells]
      rw [e1]
      have hBb := hq.2 b o' rfl
      refine hK _ _ _ ⟨.inr ⟨b, o', _, rfl, heap_set_same _ _ (heap_set_same _ _ (heap_set_same _ _ g2)), by simpa using hr, g4, by simpa using g5, fun j u hj => ?_⟩, fun b' o2 e => by cases e; exact hBb⟩ (((hw0.setCell (p := ⟨b, _, none⟩) hBb _).setCell (p := ⟨b, _, none⟩) hBb _).setCell (p := ⟨b, _, none⟩) hBb _) (fun g cs t ht hg => ?_)
      · rw [← hcat] at hj
        have hdl := dCells_length L
        simp only [Array.getElem?_setIfInBounds, Array.size_setIfInBounds]
        by_cases q : j < (dCells L).length
        · rw [List.getElem?_append_left q] at hj
          rw [if_neg (by omega), if_neg (by omega), if_neg (by omega)]
          exact g6 j u hj
        · rw [List.getElem?_append_right (by omega)] at hj
          obtain ⟨d, hd⟩ : ∃ d, j - (dCells L).length = d := ⟨_, rfl⟩
          rw [hd] at hj
          match d, hd, hj with
          | 0, hd, hj => rw [if_neg (by omega), if_neg (by omega), if_pos (by omega), if_pos (by omega)]; exact hj
          | 1, hd, hj => rw [if_neg (by omega), if_pos (by omega), if_pos (by omega)]; exact hj
          | 2, hd, hj => rw [if_pos (by omega), if_pos (by omega)]; exact hj
          | d + 3, hd, hj => simp [pCells] at hj
      · have hne : g ≠ b := fun e => by subst e; rw [g2] at hg; simp at hg; exact ht hg.2.symm
        exact heap_set_other' (by exact hne) (heap_set_other' (by exact hne) (heap_set_other' (by exact hne) hg))
end Go.Proofs.Ytlncekdoaddifaa
