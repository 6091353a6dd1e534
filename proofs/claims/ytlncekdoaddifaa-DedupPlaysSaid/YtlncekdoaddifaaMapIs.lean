/- A map of integers to whatever, that a call has made, told by what is found at each key. No program in sight. -/
import Derived.Test.YtlncekdoaddifaaOwn
import Derived.Maps.OwnSet
namespace Go.Proofs.Ytlncekdoaddifaa
set_option linter.unusedSimpArgs false
set_option linter.unusedVariables false
open Go.RowKit Go.Maps
/-- How an element reads: as itself. -/
def held (v : Value) : Option (DataW Value × List MemPlace) := some (.held v, [])
/-- Block b is a map of at most n entries, in which f tells what is at each key. -/
structure MapIs (w : World) (P : Program) (k : TypeId) (q : IntKind) (b n : Nat) (f : Int → Option Value) : Prop where
  own : ∃ D : DataW Value, w.ownsMap P k held b n D ∧ ∀ x, (Lit.int q x).wf = true → (f x = none → has D (.int q x) = false) ∧ (∀ v, f x = some v → has D (.int q x) = true ∧ ∀ z, D.atKey (.int q x) z = .held v)
section
variable {w w' : World} {P : Program} {k e t : TypeId} {q : IntKind} {b n : Nat} {f : Int → Option Value}
theorem key_lit {x : Int} : WideAt.IsKeyLit (Lit.int q x) := trivial
theorem MapIs.made (w : World) (P : Program) (k : TypeId) (q : IntKind) : MapIs (w.alloc (.map #[] 0)) P k q w.heap.size 0 (fun _ => none) :=
  ⟨_, World.ownsMap_made w P k held, fun x _ => ⟨fun _ => rfl, fun v h => by cases h⟩⟩
theorem MapIs.congr {g : Int → Option Value} (h : MapIs w P k q b n f) (hg : ∀ x, f x = g x) : MapIs w P k q b n g := by
  obtain rfl : f = g := funext hg
  exact h
theorem MapIs.mono (h : MapIs w P k q b n f) {m : Nat} (hm : n ≤ m) : MapIs w P k q b m f := by
  obtain ⟨D, h1, h2⟩ := h.own
  exact ⟨D, h1.mono hm, h2⟩
theorem MapIs.lt (h : MapIs w P k q b n f) : b < w.heap.size := by
  obtain ⟨D, h1, _⟩ := h.own
  exact h1.lt
theorem MapIs.same (h : MapIs w P k q b n f) (hb : w'.heap[b]? = w.heap[b]?) : MapIs w' P k q b n f := by
  obtain ⟨D, ⟨es, clock, h1, h2⟩, h3⟩ := h.own
  exact ⟨D, ⟨es, clock, hb.trans h1, h2⟩, h3⟩
theorem MapIs.below (h : MapIs w P k q b n f) (hb : Below w.heap.size w w') : MapIs w' P k q b n f := h.same (hb.block b h.lt)
theorem MapIs.alloc (h : MapIs w P k q b n f) (o : Obj) : MapIs (w.alloc o) P k q b n f := h.same (heap_alloc_old w o b h.lt)
theorem MapIs.drewN (h : MapIs w P k q b n f) (m : Nat) : MapIs (w.drewN m) P k q b n f := h.same rfl
theorem MapIs.drew (h : MapIs w P k q b n f) : MapIs w.drew P k q b n f := h.same rfl
theorem MapIs.set (h : MapIs w P k q b n f) {a : Addr} (ha : b ≠ a.block) (u : Value) : MapIs (w.setCell a u) P k q b n f := h.same (heap_set_other w a u b ha)
theorem MapIs.not_cells (h : MapIs w P k q b n f) {g : Nat} {c : Array Value} {t : TypeId} {fz : Nat × Nat} (hg : w.heap[g]? = some (.cells c t fz)) : b ≠ g := by
  rintro rfl
  obtain ⟨D, ⟨es, clock, h1, _⟩, _⟩ := h.own
  rw [hg] at h1
  cases h1
theorem MapIs.grown (h : MapIs w P k q b n f) {row : Option Nat} (hg : w.grownBy w' row) (hne : some b ≠ row) : MapIs w' P k q b n f := h.same (hg.block b h.lt hne)
theorem held_inv {v : Value} {z : DataW Value × List MemPlace} (h : held v = some z) : z = (.held v, []) := by cases h; rfl
/-- What the operations leave. -/
theorem MapIs.put (h : MapIs w P k q b n f) {x : Int} {v : Value} (hx : (Lit.int q x).wf = true) {D : DataW Value} (h1 : w.ownsMap P k held b n D)
    (h2 : ∀ x, (Lit.int q x).wf = true → (f x = none → has D (.int q x) = false) ∧ (∀ v, f x = some v → has D (.int q x) = true ∧ ∀ z, D.atKey (.int q x) z = .held v))
    (hw : w'.ownsMap P k held b (n + 1) (D.put (.int q x) (.held v))) : MapIs w' P k q b (n + 1) (fun y => if y = x then some v else f y) := by
  refine ⟨_, hw, fun y hy => ?_⟩
  by_cases e : y = x
  · subst e
    rw [if_pos rfl]
    refine ⟨(fun h => by cases h), fun u hu => ?_⟩
    cases hu
    exact ⟨has_put_same h1.isMap key_lit _, fun z => atKey_put_same h1.isMap key_lit _ _⟩
  · rw [if_neg e]
    have hne : (Lit.int q y) ≠ (.int q x) := fun h => e (by cases h; rfl)
    rw [has_put_other hne]
    refine ⟨(h2 y hy).1, fun u hu => ⟨((h2 y hy).2 u hu).1, fun z => ?_⟩⟩
    rw [atKey_put_other hne]
    exact ((h2 y hy).2 u hu).2 z
theorem MapIs.del (h : MapIs w P k q b n f) {x : Int} (hx : (Lit.int q x).wf = true) {D : DataW Value}
    (h2 : ∀ x, (Lit.int q x).wf = true → (f x = none → has D (.int q x) = false) ∧ (∀ v, f x = some v → has D (.int q x) = true ∧ ∀ z, D.atKey (.int q x) z = .held v))
    (hw : w'.ownsMap P k held b n (D.del (.int q x))) : MapIs w' P k q b n (fun y => if y = x then none else f y) := by
  refine ⟨_, hw, fun y hy => ?_⟩
  by_cases e : y = x
  · subst e
    rw [if_pos rfl]
    exact ⟨fun _ => has_del_same, fun u hu => by cases hu⟩
  · rw [if_neg e]
    have hne : (Lit.int q y) ≠ (.int q x) := fun h => e (by cases h; rfl)
    rw [has_del_other hne]
    refine ⟨(h2 y hy).1, fun u hu => ⟨((h2 y hy).2 u hu).1, fun z => ?_⟩⟩
    rw [atKey_del_other hne]
    exact ((h2 y hy).2 u hu).2 z
end
/-! At the operations, for the walk. -/
section
variable {P : Program} (w : World) {ops : Array Oper} {rest : List Oper} {o : Oper} {a : Act} {Q : Exit → Act → World → Prop}
theorem wpList_map_look (hg : o.guard = none) (m x : Operand) (t : TypeId) (hop : o.op = Op.lookup t m x true)
    (k e : TypeId) (q : IntKind) (hk : P.underlying k = some (.int q)) (ht : P.underlying t = some (.map k e)) {z : Value} (hz : (zeroValue e).run P w = .ok z w) (b n : Nat) (f : Int → Option Value)
    (hm : a.eval m = .map (some b)) (hown : MapIs w P k q b n f) (y : Int) (hx : a.eval x = .int q y) (hy : (Lit.int q y).wf = true)
    (hK : wpList P ops Q rest (a.put o.dst (.tuple #[(f y).getD z, .bool (f y).isSome])) w) :
    wpList P ops Q (o :: rest) a w := by
  obtain ⟨D, h1, h2⟩ := hown.own
  refine wpList_lookup_own_ok w hg m x t hop k e (int_keyed hk) ht held hz (.held z) [] rfl b n D hm h1 _ (.int q y) hx (keyOf_int_mk hk hy) (fun v ps hv => ?_)
  have hv' := held_inv hv
  cases hf : f y with
  | none =>
    have hh := (h2 y hy).1 hf
    rw [atKey_of_not_has hh] at hv'
    simp only [Prod.mk.injEq, DataW.held.injEq] at hv'
    rw [hh, ← hv'.1]
    rw [hf] at hK
    exact hK
  | some u =>
    obtain ⟨hh, hat⟩ := (h2 y hy).2 u hf
    rw [hat] at hv'
    simp only [Prod.mk.injEq, DataW.held.injEq] at hv'
    rw [hh, ← hv'.1]
    rw [hf] at hK
    exact hK
/-- .. without 'ok'. -/
theorem MapIs.get {w : World} {P : Program} {k e t : TypeId} {q : IntKind} {b n : Nat} {f : Int → Option Value} (h : MapIs w P k q b n f) (hk : P.underlying k = some (.int q)) (ht : P.underlying t = some (.map k e)) {z : Value} (hz : (zeroValue e).run P w = .ok z w) {y : Int} (hy : (Lit.int q y).wf = true) :
    (Instr.lookup t (.map (some b)) (.int q y) false).run P w = .ok ((f y).getD z) w := by
  obtain ⟨D, h1, h2⟩ := h.own
  obtain ⟨v, ps, hrun, hv⟩ := h1.lookup (int_keyed hk) ht hz (zd := .held z) (zp := []) rfl (keyOf_int_mk hk hy)
  have hv' := held_inv hv
  rw [hrun]
  cases hf : f y with
  | none =>
    rw [atKey_of_not_has ((h2 y hy).1 hf)] at hv'
    simp only [Prod.mk.injEq, DataW.held.injEq] at hv'
    rw [← hv'.1]
    rfl
  | some u =>
    rw [((h2 y hy).2 u hf).2] at hv'
    simp only [Prod.mk.injEq, DataW.held.injEq] at hv'
    rw [← hv'.1]
    rfl
theorem wpList_map_get (hg : o.guard = none) (m x : Operand) (t : TypeId) (hop : o.op = Op.lookup t m x false)
    (k e : TypeId) (q : IntKind) (hk : P.underlying k = some (.int q)) (ht : P.underlying t = some (.map k e)) {z : Value} (hz : (zeroValue e).run P w = .ok z w) (b n : Nat) (f : Int → Option Value)
    (hm : a.eval m = .map (some b)) (hown : MapIs w P k q b n f) (y : Int) (hx : a.eval x = .int q y) (hy : (Lit.int q y).wf = true)
    (hK : wpList P ops Q rest (a.put o.dst ((f y).getD z)) w) :
    wpList P ops Q (o :: rest) a w := by
  refine wpList_plain hg fun K' hK' => ?_
  unfold Oper.wp
  simp [execOp, hop, hm, hx, hown.get hk ht hz hy, Result.andThen]
  exact hK' _ _ (by simpa using hK)
theorem wpList_map_put (hg : o.guard = none) (m x v : Operand) (t : TypeId) (hop : o.op = Op.mapUpdate t m x v)
    (k e : TypeId) (q : IntKind) (hk : P.underlying k = some (.int q)) (ht : P.underlying t = some (.map k e)) (b n : Nat) (f : Int → Option Value)
    (hm : a.eval m = .map (some b)) (hown : MapIs w P k q b n f) (hn : n < maxLen) (y : Int) (val : Value) (hx : a.eval x = .int q y) (hv : a.eval v = val) (hy : (Lit.int q y).wf = true)
    (hK : ∀ w', MapIs w' P k q b (n + 1) (fun z => if z = y then some val else f z) → w.grownBy w' (some b) → wpList P ops Q rest (a.put o.dst undef) w') :
    wpList P ops Q (o :: rest) a w := by
  obtain ⟨D, h1, h2⟩ := hown.own
  exact wpList_mapUpdate_own w hg m x v t hop k e (int_keyed hk) ht held b n D hm h1 hn _ val (.int q y) hx hv (keyOf_int_mk hk hy) (.held val) [] rfl (fun w' q1 q2 => hK w' (hown.put hy h1 h2 q1) q2)
theorem wpList_map_del (hg : o.guard = none) (m x : Operand) (t k : TypeId) (hop : o.op = Op.call { callee := Callee.builtin Builtin.delete, args := #[m, x], argTypes := #[t, k] })
    (e : TypeId) (q : IntKind) (hk : P.underlying k = some (.int q)) (ht : P.underlying t = some (.map k e)) (b n : Nat) (f : Int → Option Value)
    (hm : a.eval m = .map (some b)) (hown : MapIs w P k q b n f) (y : Int) (hx : a.eval x = .int q y) (hy : (Lit.int q y).wf = true)
    (hK : ∀ w', MapIs w' P k q b n (fun z => if z = y then none else f z) → w.grownBy w' (some b) → wpList P ops Q rest (a.put o.dst (.tuple #[])) w') :
    wpList P ops Q (o :: rest) a w := by
  obtain ⟨D, h1, h2⟩ := hown.own
  exact wpList_delete_own w hg m x t k hop e (int_keyed hk) ht held b n D hm h1 _ (.int q y) hx (keyOf_int_mk hk hy) (fun w' q1 q2 => hK w' (hown.del hy h2 q1) q2.grown)
theorem wpList_map_look' (hg : o.guard = none) (m x : Operand) (t : TypeId) (hop : o.op = Op.lookup t m x true)
    (k e : TypeId) (q : IntKind) (hk : P.underlying k = some (.int q)) (ht : P.underlying t = some (.map k e)) {z : Value} (hz : (zeroValue e).run P w = .ok z w) (b n : Nat) (f : Int → Option Value)
    (hm : a.eval m = .map (some b)) (hown : MapIs w P k q b n f) (y : Int) (hx : a.eval x = .int q y) (hy : (Lit.int q y).wf = true) (val : Value) (is : Bool) (h1 : (f y).getD z = val) (h2 : (f y).isSome = is)
    (hK : wpList P ops Q rest (a.put o.dst (.tuple #[val, .bool is])) w) :
    wpList P ops Q (o :: rest) a w := by
  subst h1 h2
  exact wpList_map_look w hg m x t hop k e q hk ht hz b n f hm hown y hx hy hK
theorem wpList_map_get' (hg : o.guard = none) (m x : Operand) (t : TypeId) (hop : o.op = Op.lookup t m x false)
    (k e : TypeId) (q : IntKind) (hk : P.underlying k = some (.int q)) (ht : P.underlying t = some (.map k e)) {z : Value} (hz : (zeroValue e).run P w = .ok z w) (b n : Nat) (f : Int → Option Value)
    (hm : a.eval m = .map (some b)) (hown : MapIs w P k q b n f) (y : Int) (hx : a.eval x = .int q y) (hy : (Lit.int q y).wf = true) (val : Value) (h1 : (f y).getD z = val)
    (hK : wpList P ops Q rest (a.put o.dst val) w) :
    wpList P ops Q (o :: rest) a w := by
  subst h1
  exact wpList_map_get w hg m x t hop k e q hk ht hz b n f hm hown y hx hy hK
end
end Go.Proofs.Ytlncekdoaddifaa
