/- What Take hands back with names of their own; the laws' awake. -/
import Derived.Test.YtiajgdpceedmlaaTake
namespace Go.Proofs.Ytiajgdpceedmlaa
set_option linter.unusedSimpArgs false
set_option linter.unusedVariables false
open Go.RowKit
theorem take_ex (on : Bool) (f l t : Int) (xf xl : Int) (bg wh ht : Bool) (xt : Int) (sy : Bool) (wf wl wt : Int) (w : World) : Calls Try.prog 10 #[.agg #[.bool on, .int .i64 f, .int .i64 l, .int .i64 t], .agg #[.int .i64 xf, .int .i64 xl, .bool bg, .bool wh, .bool ht, .int .i64 xt, .bool sy], .agg #[.int .i64 wf, .int .i64 wl, .int .i64 wt]] w
      fun e w' => ∃ (on' : Bool) (f' l' t' d : Int), e = .returned (.tuple #[.agg #[.bool on', .int .i64 f', .int .i64 l', .int .i64 t'], .int .i64 d]) ∧ Hid (takeF on f l t xf xl bg wh ht xt sy wf wl wt = (on', f', l', t', d)) ∧ Below w.heap.size w w' :=
  (take_any on f l t xf xl bg wh ht xt sy wf wl wt w).mono fun _ _ ⟨h, hb⟩ => ⟨_, _, _, _, _, h, rfl, hb⟩
set_option maxHeartbeats 1000000 in
theorem awake_any (w : World) : Calls Try.prog 9 #[] w fun e w' => e = .returned (.bool true) ∧ Below w.heap.size w w' := by
  go_enter Try.func9, Try.ntmps9
  have e1 : ofB false 0 0 0 1 = false := rfl
  have e2 : ofB true 0 1 0 1 = true := rfl
  go_wp2_with fail
  (with_reducible refine (asks_any _ _ _ _ _ _ _ _).mono ?_)
  rintro e w1 ⟨rfl, hb⟩
  (try (have g0 := h0; clear h0 f0 c0))
  (try (have g1 := h1; clear h1 f1 c1))
  have hB := below_next (w := w) (by go_grown) hb
  have h0 : w1.heap[w.heap.size]? = some (.cells #[.bool false, .int .i64 0, .int .i64 0, .int .i64 0] 23 (0, 0)) := (hb.block (w.heap.size) (by first | omega | (simp; done) | (simp; omega))).trans (Eq.trans (b := some (Obj.cells _ _ (0, 0))) (by repeat (first | (with_reducible assumption) | (with_reducible apply heap_set_same) | ((with_reducible apply heap_set_other'); (focus (first | omega | (simp; done) | (simp; omega)))) | ((with_reducible apply heap_alloc_new); (focus (first | omega | (simp; done) | (simp; omega)))) | (with_reducible apply heap_alloc_old') | (with_reducible apply (heap_drew_at _ _).trans) | (with_reducible apply (heap_drewN_at _ _ _).trans))) (by exact rfl))
  have h1 : w1.heap[w.heap.size + 1]? = some (.cells #[.int .i64 0, .int .i64 1, .int .i64 2] 27 (0, 0)) := (hb.block (w.heap.size + 1) (by first | omega | (simp; done) | (simp; omega))).trans (Eq.trans (b := some (Obj.cells _ _ (0, 0))) (by repeat (first | (with_reducible assumption) | (with_reducible apply heap_set_same) | ((with_reducible apply heap_set_other'); (focus (first | omega | (simp; done) | (simp; omega)))) | ((with_reducible apply heap_alloc_new); (focus (first | omega | (simp; done) | (simp; omega)))) | (with_reducible apply heap_alloc_old') | (with_reducible apply (heap_drew_at _ _).trans) | (with_reducible apply (heap_drewN_at _ _ _).trans))) (by exact rfl))
  clear hb
  (try clear g0)
  obtain ⟨c0, f0, z0⟩ := blk_facts h0
  (try clear g1)
  obtain ⟨c1, f1, z1⟩ := blk_facts h1
  go_wp2_with fail
  (with_reducible refine (take_any _ _ _ _ _ _ _ _ _ _ _ _ _ _ _).mono ?_)
  rintro e w1 ⟨he, hb⟩
  obtain rfl : e = .returned (.tuple #[.agg #[.bool true, .int .i64 0, .int .i64 1, .int .i64 2], .int .i64 3]) := he.trans (by first | (simp [takeF, ofB]; done) | simp [takeF, ofB, tidF])
  (try (have g0 := h0; clear h0 f0 c0))
  (try (have g1 := h1; clear h1 f1 c1))
  have hB := below_next (w := w) (by go_grown) hb
  have h0 : w1.heap[w.heap.size]? = some (.cells #[.bool false, .int .i64 0, .int .i64 0, .int .i64 0] 23 (0, 0)) := (hb.block (w.heap.size) (by first | omega | (simp; done) | (simp; omega))).trans (Eq.trans (b := some (Obj.cells _ _ (0, 0))) (by repeat (first | (with_reducible assumption) | (with_reducible apply heap_set_same) | ((with_reducible apply heap_set_other'); (focus (first | omega | (simp; done) | (simp; omega)))) | ((with_reducible apply heap_alloc_new); (focus (first | omega | (simp; done) | (simp; omega)))) | (with_reducible apply heap_alloc_old') | (with_reducible apply (heap_drew_at _ _).trans) | (with_reducible apply (heap_drewN_at _ _ _).trans))) (by exact rfl))
  have h1 : w1.heap[w.heap.size + 1]? = some (.cells #[.int .i64 0, .int .i64 1, .int .i64 2] 27 (0, 0)) := (hb.block (w.heap.size + 1) (by first | omega | (simp; done) | (simp; omega))).trans (Eq.trans (b := some (Obj.cells _ _ (0, 0))) (by repeat (first | (with_reducible assumption) | (with_reducible apply heap_set_same) | ((with_reducible apply heap_set_other'); (focus (first | omega | (simp; done) | (simp; omega)))) | ((with_reducible apply heap_alloc_new); (focus (first | omega | (simp; done) | (simp; omega)))) | (with_reducible apply heap_alloc_old') | (with_reducible apply (heap_drew_at _ _).trans) | (with_reducible apply (heap_drewN_at _ _ _).trans))) (by exact rfl))
  clear hb
  (try clear g0)
  obtain ⟨c0, f0, z0⟩ := blk_facts h0
  (try clear g1)
  obtain ⟨c1, f1, z1⟩ := blk_facts h1
  go_wp2_with fail
  (with_reducible refine (take_any _ _ _ _ _ _ _ _ _ _ _ _ _ _ _).mono ?_)
  rintro e w1 ⟨he, hb⟩
  obtain rfl : e = .returned (.tuple #[.agg #[.bool true, .int .i64 0, .int .i64 1, .int .i64 2], .int .i64 2]) := he.trans (by first | (simp [takeF, ofB]; done) | simp [takeF, ofB, tidF])
  (try (have g0 := h0; clear h0 f0 c0))
  (try (have g1 := h1; clear h1 f1 c1))
  have hB := below_next (w := w) (by go_grown) hb
  have h0 : w1.heap[w.heap.size]? = some (.cells #[.bool true, .int .i64 0, .int .i64 1, .int .i64 2] 23 (0, 0)) := (hb.block (w.heap.size) (by first | omega | (simp; done) | (simp; omega))).trans (Eq.trans (b := some (Obj.cells _ _ (0, 0))) (by repeat (first | (with_reducible assumption) | (with_reducible apply heap_set_same) | ((with_reducible apply heap_set_other'); (focus (first | omega | (simp; done) | (simp; omega)))) | ((with_reducible apply heap_alloc_new); (focus (first | omega | (simp; done) | (simp; omega)))) | (with_reducible apply heap_alloc_old') | (with_reducible apply (heap_drew_at _ _).trans) | (with_reducible apply (heap_drewN_at _ _ _).trans))) (by exact rfl))
  have h1 : w1.heap[w.heap.size + 1]? = some (.cells #[.int .i64 0, .int .i64 1, .int .i64 2] 27 (0, 0)) := (hb.block (w.heap.size + 1) (by first | omega | (simp; done) | (simp; omega))).trans (Eq.trans (b := some (Obj.cells _ _ (0, 0))) (by repeat (first | (with_reducible assumption) | (with_reducible apply heap_set_same) | ((with_reducible apply heap_set_other'); (focus (first | omega | (simp; done) | (simp; omega)))) | ((with_reducible apply heap_alloc_new); (focus (first | omega | (simp; done) | (simp; omega)))) | (with_reducible apply heap_alloc_old') | (with_reducible apply (heap_drew_at _ _).trans) | (with_reducible apply (heap_drewN_at _ _ _).trans))) (by exact rfl))
  clear hb
  (try clear g0)
  obtain ⟨c0, f0, z0⟩ := blk_facts h0
  (try clear g1)
  obtain ⟨c1, f1, z1⟩ := blk_facts h1
  go_wp2_with fail
  (with_reducible refine (take_any _ _ _ _ _ _ _ _ _ _ _ _ _ _ _).mono ?_)
  rintro e w1 ⟨he, hb⟩
  obtain rfl : e = .returned (.tuple #[.agg #[.bool true, .int .i64 0, .int .i64 1, .int .i64 2], .int .i64 0]) := he.trans (by first | (simp [takeF, ofB]; done) | simp [takeF, ofB, tidF])
  (try (have g0 := h0; clear h0 f0 c0))
  (try (have g1 := h1; clear h1 f1 c1))
  have hB := below_next (w := w) (by go_grown) hb
  have h0 : w1.heap[w.heap.size]? = some (.cells #[.bool true, .int .i64 0, .int .i64 1, .int .i64 2] 23 (0, 0)) := (hb.block (w.heap.size) (by first | omega | (simp; done) | (simp; omega))).trans (Eq.trans (b := some (Obj.cells _ _ (0, 0))) (by repeat (first | (with_reducible assumption) | (with_reducible apply heap_set_same) | ((with_reducible apply heap_set_other'); (focus (first | omega | (simp; done) | (simp; omega)))) | ((with_reducible apply heap_alloc_new); (focus (first | omega | (simp; done) | (simp; omega)))) | (with_reducible apply heap_alloc_old') | (with_reducible apply (heap_drew_at _ _).trans) | (with_reducible apply (heap_drewN_at _ _ _).trans))) (by exact rfl))
  have h1 : w1.heap[w.heap.size + 1]? = some (.cells #[.int .i64 0, .int .i64 1, .int .i64 2] 27 (0, 0)) := (hb.block (w.heap.size + 1) (by first | omega | (simp; done) | (simp; omega))).trans (Eq.trans (b := some (Obj.cells _ _ (0, 0))) (by repeat (first | (with_reducible assumption) | (with_reducible apply heap_set_same) | ((with_reducible apply heap_set_other'); (focus (first | omega | (simp; done) | (simp; omega)))) | ((with_reducible apply heap_alloc_new); (focus (first | omega | (simp; done) | (simp; omega)))) | (with_reducible apply heap_alloc_old') | (with_reducible apply (heap_drew_at _ _).trans) | (with_reducible apply (heap_drewN_at _ _ _).trans))) (by exact rfl))
  clear hb
  (try clear g0)
  obtain ⟨c0, f0, z0⟩ := blk_facts h0
  (try clear g1)
  obtain ⟨c1, f1, z1⟩ := blk_facts h1
  go_wp2_with fail
  (with_reducible refine (asks_any _ _ _ _ _ _ _ _).mono ?_)
  rintro e w1 ⟨rfl, hb⟩
  (try (have g0 := h0; clear h0 f0 c0))
  (try (have g1 := h1; clear h1 f1 c1))
  have hB := below_next (w := w) (by go_grown) hb
  have h0 : w1.heap[w.heap.size]? = some (.cells #[.bool true, .int .i64 0, .int .i64 1, .int .i64 2] 23 (0, 0)) := (hb.block (w.heap.size) (by first | omega | (simp; done) | (simp; omega))).trans (Eq.trans (b := some (Obj.cells _ _ (0, 0))) (by repeat (first | (with_reducible assumption) | (with_reducible apply heap_set_same) | ((with_reducible apply heap_set_other'); (focus (first | omega | (simp; done) | (simp; omega)))) | ((with_reducible apply heap_alloc_new); (focus (first | omega | (simp; done) | (simp; omega)))) | (with_reducible apply heap_alloc_old') | (with_reducible apply (heap_drew_at _ _).trans) | (with_reducible apply (heap_drewN_at _ _ _).trans))) (by exact rfl))
  have h1 : w1.heap[w.heap.size + 1]? = some (.cells #[.int .i64 0, .int .i64 1, .int .i64 2] 27 (0, 0)) := (hb.block (w.heap.size + 1) (by first | omega | (simp; done) | (simp; omega))).trans (Eq.trans (b := some (Obj.cells _ _ (0, 0))) (by repeat (first | (with_reducible assumption) | (with_reducible apply heap_set_same) | ((with_reducible apply heap_set_other'); (focus (first | omega | (simp; done) | (simp; omega)))) | ((with_reducible apply heap_alloc_new); (focus (first | omega | (simp; done) | (simp; omega)))) | (with_reducible apply heap_alloc_old') | (with_reducible apply (heap_drew_at _ _).trans) | (with_reducible apply (heap_drewN_at _ _ _).trans))) (by exact rfl))
  clear hb
  (try clear g0)
  obtain ⟨c0, f0, z0⟩ := blk_facts h0
  (try clear g1)
  obtain ⟨c1, f1, z1⟩ := blk_facts h1
  go_wp2
  go_ret
  exact ⟨rfl, by go_grown⟩
end Go.Proofs.Ytiajgdpceedmlaa
