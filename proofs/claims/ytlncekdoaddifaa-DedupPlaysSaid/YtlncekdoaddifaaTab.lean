/- The table of requests, in memory. -/
import Derived.Test.YtlncekdoaddifaaPlain
import Derived.Test.YtlncekdoaddifaaMapIs
import Derived.Test.YtlncekdoaddifaaQueue
import Derived.Test.YtlncekdoaddifaaVia
import Derived.Deep.QuietTactic
import Derived.Outline
import Derived.IntWalk
namespace Go.Proofs.Ytlncekdoaddifaa
set_option linter.unusedSimpArgs false
set_option linter.unusedVariables false
open Go.RowKit
theorem zero55 (w : World) : (zeroValue 55).run Try.prog w = .ok (.agg #[.string ⟨#[]⟩, .bool false]) w := by kernel_rfl
theorem info29 : (Try.prog.info? 29).map (fun i => (i.zero, i.size, i.bytes)) = some (some (.int .u64 0), 1, 8) := by kernel_rfl
def entV (e : En) : Value := .agg #[.string e.ans, .bool e.done]
def mapF (L : List En) (x : Int) : Option Value := (findF L x).map entV
def idsV (L : List En) : List Value := (L.map En.id).map (Value.int .u64)
/-- The table T: its room, its requests' numbers in their order, and its map M of n entries at most. -/
structure TabAt (w : World) (T M B room n : Nat) (L : List En) : Prop where
  row : ∃ v, w.heap[T]? = some (.cells #[.int .i64 room, v, .map (some M)] 50 (0, 0)) ∧ QRow w B 29 v (idsV L)
  map : MapIs w Try.prog 29 .u64 M n (mapF L)
  bT : B ≤ T
  bM : B ≤ M
  bw : B ≤ w.heap.size
/-- What the table's functions turn: the table, its map, its row of numbers; below B nothing. -/
structure Moved (T B : Nat) (w w' : World) : Prop where
  below : Below B w w'
  size : w.heap.size ≤ w'.heap.size
  other : ∀ (j : Nat) (c : Array Value) (t : TypeId), w.heap[j]? = some (.cells c t (0, 0)) → j ≠ T → t ≠ 29 → w'.heap[j]? = some (.cells c t (0, 0))
theorem Moved.refl (T B : Nat) (w : World) : Moved T B w w := ⟨Below.refl _ _, Nat.le_refl _, fun _ _ _ h _ _ => h⟩
theorem Moved.trans {T B : Nat} {a b c : World} (h : Moved T B a b) (k : Moved T B b c) : Moved T B a c :=
  ⟨h.below.trans k.below, Nat.le_trans h.size k.size, fun j x t hj h1 h2 => k.other j x t (h.other j x t hj h1 h2) h1 h2⟩
theorem Moved.of {T B : Nat} {w w' : World} (h : Below w.heap.size w w') (hB : B ≤ w.heap.size) : Moved T B w w' :=
  ⟨h.mono hB, h.size, fun j c t hj _ _ => heap_below h (blk_lt hj) hj⟩
theorem Moved.call {T B : Nat} {a w w' : World} (h : Moved T B a w) (hb : Below w.heap.size w w') (hB : B ≤ w.heap.size) : Moved T B a w' := h.trans (.of hb hB)
theorem Moved.alloc {T B : Nat} {a w : World} (h : Moved T B a w) (hB : B ≤ w.heap.size) (o : Obj) : Moved T B a (w.alloc o) := h.call (Below.alloc (Below.refl _ _) (Nat.le_refl _) o) hB
theorem Moved.drewN {T B : Nat} {a w : World} (h : Moved T B a w) (n : Nat) : Moved T B a (w.drewN n) := ⟨below_drewN h.below n, h.size, h.other⟩
theorem Moved.set {T B : Nat} {a w : World} (h : Moved T B a w) (hB : B ≤ T) (j : Nat) (v : Value) : Moved T B a (w.setCell ⟨T, j, none⟩ v) :=
  ⟨h.below.setCell hB v, by rw [size_set]; exact h.size, fun i c t hi h1 h2 => heap_set_other' h1 (h.other i c t hi h1 h2)⟩
theorem Moved.grownMap {T B M : Nat} {a w w' : World} {n : Nat} {P : Program} {k : TypeId} {q : IntKind} {f : Int → Option Value} (h : Moved T B a w) (hm : MapIs w P k q M n f) (hg : w.grownBy w' (some M)) (hB : B ≤ M) (hs : B ≤ w.heap.size) : Moved T B a w' :=
  ⟨h.below.grown hg hs (fun k hk => by cases hk; exact hB), Nat.le_trans h.size hg.size, fun i c t hi h1 h2 => by
    have h3 := h.other i c t hi h1 h2
    exact (hg.block i (blk_lt h3) (fun q => hm.not_cells h3 (by cases q; rfl))).trans h3⟩
theorem Moved.grownRow {T B : Nat} {a w w' : World} {v : Value} {xs : List Value} (h : Moved T B a w) (hq : QRow w B 29 v xs) (hg : w.grownBy w' v.ownBlock) (hs : B ≤ w.heap.size) : Moved T B a w' :=
  ⟨h.below.grown hg hs (fun k hk => (hq.block hk).1), Nat.le_trans h.size hg.size, fun i c t hi h1 h2 => by
    have h3 := h.other i c t hi h1 h2
    exact (hg.block i (blk_lt h3) (fun q => hq.ne h3 h2 q.symm)).trans h3⟩
theorem moved_alloc {T B : Nat} {a w : World} {o : Obj} (hB : B ≤ w.heap.size) (h : Moved T B a w) : Moved T B a (w.alloc o) := h.alloc hB o
theorem moved_set {T B j : Nat} {a w : World} {v : Value} (hB : B ≤ T) (h : Moved T B a w) : Moved T B a (w.setCell ⟨T, j, none⟩ v) := h.set hB j v
section
variable {w w' : World} {T M B room n : Nat} {L : List En}
theorem TabAt.below (h : TabAt w T M B room n L) (hb : Below w.heap.size w w') : TabAt w' T M B room n L := by
  obtain ⟨v, h1, h2⟩ := h.row
  exact ⟨⟨v, heap_below hb (blk_lt h1) h1, h2.below hb⟩, h.map.below hb, h.bT, h.bM, Nat.le_trans h.bw hb.size⟩
theorem TabAt.alloc (h : TabAt w T M B room n L) (o : Obj) : TabAt (w.alloc o) T M B room n L := h.below (Below.alloc (Below.refl _ _) (Nat.le_refl _) o)
theorem TabAt.drewN (h : TabAt w T M B room n L) (k : Nat) : TabAt (w.drewN k) T M B room n L := h.below (below_drewN (Below.refl _ _) k)
theorem TabAt.lt (h : TabAt w T M B room n L) : T < w.heap.size := by
  obtain ⟨v, h1, h2⟩ := h.row
  exact blk_lt h1
theorem TabAt.mono (h : TabAt w T M B room n L) {m : Nat} (hm : n ≤ m) : TabAt w T M B room m L := ⟨h.row, h.map.mono hm, h.bT, h.bM, h.bw⟩
end
theorem map_ne {w : World} {M T n : Nat} {P : Program} {k : TypeId} {q : IntKind} {f : Int → Option Value} {c : Array Value} {t : TypeId} (hm : MapIs w P k q M n f) (hT : w.heap[T]? = some (.cells c t (0, 0))) : M ≠ T := hm.not_cells hT
theorem map_grown_row {w w' : World} {M n B : Nat} {P : Program} {k e : TypeId} {q : IntKind} {f : Int → Option Value} {v : Value} {xs : List Value} (hm : MapIs w P k q M n f) (hv : QRow w B e v xs) (hg : w.grownBy w' v.ownBlock) : MapIs w' P k q M n f :=
  hm.grown hg (fun h => by
    obtain ⟨_, _, cur, hb⟩ := hv.block h.symm
    exact hm.not_cells hb rfl)
theorem blk_grown_row {w w' : World} {g B : Nat} {e t : TypeId} {c : Array Value} {v : Value} {xs : List Value} (hb : w.heap[g]? = some (.cells c t (0, 0))) (ht : t ≠ e) (hv : QRow w B e v xs) (hg : w.grownBy w' v.ownBlock) : w'.heap[g]? = some (.cells c t (0, 0)) :=
  (hg.block g (blk_lt hb) (fun h => hv.ne hb ht h.symm)).trans hb
theorem blk_grown_map {w w' : World} {g M n : Nat} {t : TypeId} {c : Array Value} {P : Program} {k : TypeId} {q : IntKind} {f : Int → Option Value} (hb : w.heap[g]? = some (.cells c t (0, 0))) (hm : MapIs w P k q M n f) (hg : w.grownBy w' (some M)) : w'.heap[g]? = some (.cells c t (0, 0)) :=
  (hg.block g (blk_lt hb) (fun h => hm.not_cells hb (by cases h; rfl))).trans hb
theorem row_grown_map {w w' : World} {B e M n : Nat} {P : Program} {k : TypeId} {q : IntKind} {f : Int → Option Value} {v : Value} {xs : List Value} (hv : QRow w B e v xs) (hm : MapIs w P k q M n f) (hg : w.grownBy w' (some M)) : QRow w' B e v xs :=
  hv.kept (fun g h => by
    obtain ⟨_, hl, cur, hb⟩ := hv.block h
    exact hg.block g hl (fun q => hm.not_cells hb (by cases q; rfl)))
theorem mapis_set {w : World} {P : Program} {k : TypeId} {q : IntKind} {b n : Nat} {f : Int → Option Value} {a : Addr} {u : Value} (ha : b ≠ a.block) (h : MapIs w P k q b n f) : MapIs (w.setCell a u) P k q b n f := h.set ha u
theorem new_cell0 (w : World) (u : Value) (t : TypeId) : (w.alloc (.cells #[u] t)).cell? ((⟨w.heap.size, 0, none⟩ : Addr).add 0) = some u := new_cells (l := [u]) rfl 0 u rfl
theorem after_push {w W w1 : World} {T M B n : Nat} {room : Int} {f : Int → Option Value} {v v1 u : Value} {ids : List Value} (hT : W.heap[T]? = some (.cells #[.int .i64 room, v, .map (some M)] 50 (0, 0))) (hv : QRow W B 29 v ids) (hM : MapIs W Try.prog 29 .u64 M n f)
    (hMv : Moved T B w W) (hs : B ≤ W.heap.size) (hv1 : QRow w1 B 29 v1 (ids ++ [u])) (hg1 : W.grownBy w1 v.ownBlock) :
    (∃ A cap, v1 = .slice A (ids.length + 1) cap) ∧ w1.heap[T]? = some (.cells #[.int .i64 room, v, .map (some M)] 50 (0, 0)) ∧ MapIs w1 Try.prog 29 .u64 M n f ∧ Moved T B w w1 ∧ W.heap.size ≤ w1.heap.size := by
  obtain ⟨A, cap, e⟩ := hv1.slice
  rw [List.length_append, List.length_singleton] at e
  exact ⟨⟨A, cap, e⟩, blk_grown_row hT (by decide) hv hg1, map_grown_row hM hv hg1, hMv.grownRow hv hg1 hs, hg1.size⟩
theorem after_map {w W w1 : World} {T M B n : Nat} {f : Int → Option Value} {c : Array Value} {v : Value} {ids : List Value} (hT : W.heap[T]? = some (.cells c 50 (0, 0))) (hv : QRow W B 29 v ids) (hM : MapIs W Try.prog 29 .u64 M n f)
    (hMv : Moved T B w W) (hs : B ≤ W.heap.size) (bM : B ≤ M) (hg1 : W.grownBy w1 (some M)) :
    w1.heap[T]? = some (.cells c 50 (0, 0)) ∧ QRow w1 B 29 v ids ∧ Moved T B w w1 ∧ W.heap.size ≤ w1.heap.size :=
  ⟨blk_grown_map hT hM hg1, row_grown_map hv hM hg1, hMv.grownMap hM hg1 bM hs, hg1.size⟩
theorem cell_new {w : World} {u : Value} {t : TypeId} {n : Nat} (hn : n = w.heap.size) : (w.alloc (.cells #[u] t)).cell? ((⟨n, 0, none⟩ : Addr).add 0) = some u := new_cells (l := [u]) hn 0 u rfl
theorem cell_new_drewN {w : World} {u : Value} {t : TypeId} {n k : Nat} (hn : n = w.heap.size) : ((w.alloc (.cells #[u] t)).drewN k).cell? ((⟨n, 0, none⟩ : Addr).add 0) = some u := new_cells (l := [u]) hn 0 u rfl
theorem cell_new_in {w : World} {u : Value} {t : TypeId} {n k : Nat} (hn : n = w.heap.size) : ((w.drewN k).alloc (.cells #[u] t)).cell? ((⟨n, 0, none⟩ : Addr).add 0) = some u := new_cells (l := [u]) (w := w.drewN k) hn 0 u rfl
theorem mapF_push {L : List En} {x : Int} (h : findF L x = none) (y : Int) : (if y = x then some (.agg #[.string ⟨#[]⟩, .bool false]) else mapF L y) = mapF (L ++ [new x]) y := by
  unfold mapF
  rw [findF_push h]
  split <;> rfl
theorem mapF_tail {e : En} {L : List En} (h : ((e :: L).map En.id).Nodup) (y : Int) : (if y = e.id then none else mapF (e :: L) y) = mapF L y := by
  unfold mapF
  rw [findF_tail h y]
  split <;> rfl
theorem mapF_set {L : List En} {x : Int} {e : En} (h : findF L x = some e) (a : ByteArray) (y : Int) : (if y = x then some (.agg #[.string a, .bool true]) else mapF L y) = mapF (setF L x a) y := by
  unfold mapF
  rw [findF_set, h]
  split <;> rfl
theorem idsV_push (L : List En) (x : Int) : idsV (L ++ [new x]) = idsV L ++ [.int .u64 x] := by simp [idsV, new]
theorem idsV_cons (e : En) (L : List En) : idsV (e :: L) = .int .u64 e.id :: idsV L := rfl
theorem idsV_length (L : List En) : (idsV L).length = L.length := by simp [idsV]
theorem idsV_set (L : List En) (x : Int) (a : ByteArray) : idsV (setF L x a) = idsV L := by unfold idsV; rw [set_ids]
/-- What a look finds. -/
def findV (L : List En) (x : Int) : ByteArray × Bool × Bool := match findF L x with | none => (⟨#[]⟩, false, false) | some e => (e.ans, e.done, true)
theorem look_val {L : List En} {x : Int} {a : ByteArray} {d is : Bool} (h : findV L x = (a, d, is)) :
    (mapF L x).getD (.agg #[.string ⟨#[]⟩, .bool false]) = .agg #[.string a, .bool d] ∧ (mapF L x).isSome = is := by
  unfold findV at h
  unfold mapF
  split at h
  · rename_i q
    cases h
    rw [q]
    exact ⟨rfl, rfl⟩
  · rename_i e q
    cases h
    rw [q]
    exact ⟨rfl, rfl⟩
theorem wf_u64 {x : Int} (h0 : 0 ≤ x) (h1 : x ≤ 18446744073709551615) : (Lit.int .u64 x).wf = true := by
  first | exact WalkArith.wf_u64 ⟨h0, h1⟩ | (simp [Lit.wf, IntKind.wrap, IntKind.bits, IntKind.signed]; omega)
end Go.Proofs.Ytlncekdoaddifaa
