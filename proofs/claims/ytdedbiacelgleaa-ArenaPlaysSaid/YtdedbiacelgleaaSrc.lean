/- Appends of a whole slice, nil or not, to a slice that the call itself made. No condition. -/
import Derived.Test.YtdedbiacelgleaaOwn
import Derived.Laws.AppendOwnNone
namespace Go.Proofs.Ytdedbiacelgleaa
set_option linter.unusedSimpArgs false
set_option linter.unusedVariables false
open Go.RowKit

/-- The source: nil, or cells that lie there. -/
def SrcAt (w : World) (A : Option Addr) (m c : Nat) (news : List Value) : Prop :=
  (A = none → m = 0 ∧ c = 0) ∧ ∀ ad, A = some ad → ∀ j u, news[j]? = some u → w.cell? (ad.add j) = some u

theorem wpList_append_src {P : Program} (w : World) {ops : Array Oper} {rest : List Oper} {o : Oper} {a : Act} {Q : Exit → Act → World → Prop} (hgd : o.guard = none) (s x : Operand) (t : TypeId)
    (ho : o.op = .call { callee := .builtin .append, args := #[s, x], argTypes := #[t, t] })
    (base : Nat) (e : TypeId) (i : TypeInfo) (z : Value) (size bytes : Nat) (ht : P.underlying t = some (.slice e)) (hi : P.info? e = some i) (hz : i.zero = some z)
    (hsize : i.size = size) (hby : i.bytes = bytes) (hzs : z.cells.size = size) (hsz : 0 < size)
    (v : Value) (n : Nat) (xs : List Value) (hs : a.eval s = v) (hown : w.ownsRow base e size v n xs)
    (A : Option Addr) (m c : Nat) (news : List Value) (hx : a.eval x = .slice A m c) (hl : news.length = m * size) (hsrc : SrcAt w A m c news) (h1 : ∀ u ∈ news, u.oneCell' = true)
    (h63 : n + m ≤ maxLen) (hbytes : (n + m) * bytes ≤ 140737488355328) (hbase : base ≤ w.heap.size)
    (h : ∀ v' w', w'.ownsRow base e size v' (n + m) (xs ++ news) → w.grownBy w' v.ownBlock → wpList P ops Q rest (a.put o.dst v') w') : wpList P ops Q (o :: rest) a w := by
  cases A with
  | none =>
    obtain ⟨rfl, rfl⟩ := hsrc.1 rfl
    have hn : news = [] := List.eq_nil_of_length_eq_zero (by simpa using hl)
    subst hn
    exact wpList_append_own_none hgd s x t ho base e i size ht hi v n xs hs hown hx (h v w (by simpa using hown) (World.grownBy.refl w _))
  | some ad =>
    exact wpList_append_own w hgd s x t ho base e i z size bytes ht hi hz hsize hby hzs hsz v n xs hs hown ad m c news hx hl (hsrc.2 ad rfl) h1 h63 hbytes hbase (fun v' w' h2 h3 _ => h v' w' h2 h3)

theorem pairCells_at (k : IntKind) (ps : List (Int × Int)) (j : Nat) (u : Value) (h : (pairCells k ps)[j]? = some u) :
    j / 2 < ps.length ∧ u = .int k (if j % 2 = 0 then (ps.getD (j / 2) (0, 0)).1 else (ps.getD (j / 2) (0, 0)).2) := by
  have hj : j < (pairCells k ps).length := (List.getElem?_eq_some_iff.1 h).1
  rw [pairCells_length] at hj
  have hi : j / 2 < ps.length := by omega
  refine ⟨hi, ?_⟩
  obtain ⟨h0, h1⟩ := pairCells_get k ps (j / 2) hi
  rcases Nat.mod_two_eq_zero_or_one j with e | e
  · rw [if_pos e]
    rw [show j / 2 * 2 = j by omega, h] at h0
    simpa using h0
  · rw [if_neg (by omega)]
    rw [show j / 2 * 2 + 1 = j by omega, h] at h1
    simpa using h1
theorem pairs_src {w : World} {A : Option Addr} {k : IntKind} {ps : List (Int × Int)} {c : Nat} (h : PairsAt w A k ps) (hc : A = none → c = 0) : SrcAt w A ps.length c (pairCells k ps) := by
  constructor
  · rintro rfl
    refine ⟨?_, hc rfl⟩
    rcases Nat.eq_zero_or_pos ps.length with h0 | h0
    · exact h0
    · obtain ⟨b, o, hA, _⟩ := h 0 h0
      cases hA
  · rintro ad rfl j u hu
    obtain ⟨hi, rfl⟩ := pairCells_at k ps j u hu
    obtain ⟨b, o, hA, _, h0, h1⟩ := h (j / 2) hi
    simp only [Option.some.injEq] at hA
    subst hA
    rw [Addr.add_lit]
    rcases Nat.mod_two_eq_zero_or_one j with e | e
    · rw [if_pos e, show o + j = o + j / 2 * 2 by omega]; exact h0
    · rw [if_neg (by omega), show o + j = o + j / 2 * 2 + 1 by omega]; exact h1
theorem ints_src {w : World} {A : Option Addr} {k : IntKind} {zs : List Int} {c : Nat} (h : IntsAt w A k zs) (hc : A = none → c = 0) : SrcAt w A zs.length c (zs.map (Value.int k)) := by
  constructor
  · rintro rfl
    refine ⟨?_, hc rfl⟩
    rcases Nat.eq_zero_or_pos zs.length with h0 | h0
    · exact h0
    · obtain ⟨b, o, hA, _⟩ := h 0 h0
      cases hA
  · rintro ad rfl j u hu
    have hi : j < zs.length := by
      have := (List.getElem?_eq_some_iff.1 hu).1
      simpa using this
    obtain ⟨b, o, hA, _, h0⟩ := h j hi
    simp only [Option.some.injEq] at hA
    subst hA
    rw [Addr.add_lit, h0]
    rw [List.getElem?_map, List.getElem?_eq_getElem hi] at hu
    simp only [Option.map_some, Option.some.injEq] at hu
    rw [← hu]
    simp [List.getD, hi]
/-- What the call owns is a source. -/
theorem own_src {w : World} {B : Nat} {e : TypeId} {s : Nat} {A : Option Addr} {n cap : Nat} {xs : List Value} (h : w.ownsRow B e s (.slice A n cap) n xs) : SrcAt w A n cap xs := by
  rcases own_shape h with ⟨h1, h2, h3⟩ | ⟨g, cap', h1, _⟩
  · simp only [Value.slice.injEq] at h1
    obtain ⟨rfl, _, rfl⟩ := h1
    exact ⟨fun _ => ⟨h2, rfl⟩, fun ad h => (by cases h)⟩
  · simp only [Value.slice.injEq] at h1
    obtain ⟨rfl, _, rfl⟩ := h1
    refine ⟨fun h => (by cases h), fun ad hA j u hu => ?_⟩
    simp only [Option.some.injEq] at hA
    subst hA
    rw [Addr.add_lit, Nat.zero_add]
    have hj : j < n * s := by rw [← h.1]; exact (List.getElem?_eq_some_iff.1 hu).1
    rw [h.cellAt j hj, hu]
theorem ints_one (k : IntKind) (zs : List Int) : ∀ u ∈ zs.map (Value.int k), u.oneCell' = true := by
  intro u hu
  obtain ⟨z, _, rfl⟩ := List.mem_map.1 hu
  rfl
theorem pairs_one (k : IntKind) (ps : List (Int × Int)) : ∀ u ∈ pairCells k ps, u.oneCell' = true := by
  intro u hu
  simp only [pairCells, List.mem_flatMap] at hu
  obtain ⟨p, _, hp⟩ := hu
  simp at hp
  rcases hp with rfl | rfl <;> rfl
end Go.Proofs.Ytdedbiacelgleaa
