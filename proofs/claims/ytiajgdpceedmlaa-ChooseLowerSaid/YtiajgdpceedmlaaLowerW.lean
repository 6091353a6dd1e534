/- The law ChooseLower, walked. -/
import Derived.Test.YtiajgdpceedmlaaSteps
namespace Go.Proofs.Ytiajgdpceedmlaa
set_option linter.unusedSimpArgs false
set_option linter.unusedVariables false
open Go.RowKit
set_option maxRecDepth 100000 in
set_option maxHeartbeats 2000000 in
theorem lower_whole_none (on bg sy : Bool) (f l t xf xl xt wf wl wt : Int) (w : World)  :
    Calls Try.prog 8 #[.agg #[.bool on, .int .i64 f, .int .i64 l, .int .i64 t], .agg #[.int .i64 wf, .int .i64 wl, .int .i64 wt], .agg #[.int .i64 xf, .int .i64 xl, .bool bg, .bool true, .bool false, .int .i64 xt, .bool sy]] w fun e w' => e = .returned (.bool true) ∧ Below w.heap.size w w' := by
  have HT : takeF true f l t f l true true false xt sy wf wl wt = (true, f, l, wt, 1) := by
    unfold takeF tidF ofB
    simp
    try omega
  go_enter Try.func8, Try.ntmps8
  go_wp2_with fail
  (with_reducible refine (awake_any _).mono ?_)
  rintro e w1 ⟨rfl, hb⟩
  (try (have g0 := h0; clear h0 f0 c0))
  (try (have g1 := h1; clear h1 f1 c1))
  (try (have g2 := h2; clear h2 f2 c2))
  have hB := below_next (w := w) (by go_grown) hb
  have h0 : w1.heap[w.heap.size]? = some (.cells #[.bool on, .int .i64 f, .int .i64 l, .int .i64 t] 23 (0, 0)) := (hb.block (w.heap.size) (by first | omega | (simp; done) | (simp; omega))).trans (Eq.trans (b := some (Obj.cells _ _ (0, 0))) (by repeat (first | (with_reducible assumption) | (with_reducible apply heap_set_same) | ((with_reducible apply heap_set_other'); (focus (first | omega | (simp; done) | (simp; omega)))) | ((with_reducible apply heap_alloc_new); (focus (first | omega | (simp; done) | (simp; omega)))) | (with_reducible apply heap_alloc_old') | (with_reducible apply (heap_drew_at _ _).trans) | (with_reducible apply (heap_drewN_at _ _ _).trans))) (by exact rfl))
  have h1 : w1.heap[w.heap.size + 1]? = some (.cells #[.int .i64 wf, .int .i64 wl, .int .i64 wt] 27 (0, 0)) := (hb.block (w.heap.size + 1) (by first | omega | (simp; done) | (simp; omega))).trans (Eq.trans (b := some (Obj.cells _ _ (0, 0))) (by repeat (first | (with_reducible assumption) | (with_reducible apply heap_set_same) | ((with_reducible apply heap_set_other'); (focus (first | omega | (simp; done) | (simp; omega)))) | ((with_reducible apply heap_alloc_new); (focus (first | omega | (simp; done) | (simp; omega)))) | (with_reducible apply heap_alloc_old') | (with_reducible apply (heap_drew_at _ _).trans) | (with_reducible apply (heap_drewN_at _ _ _).trans))) (by exact rfl))
  have h2 : w1.heap[w.heap.size + 1 + 1]? = some (.cells #[.int .i64 xf, .int .i64 xl, .bool bg, .bool true, .bool false, .int .i64 xt, .bool sy] 25 (0, 0)) := (hb.block (w.heap.size + 1 + 1) (by first | omega | (simp; done) | (simp; omega))).trans (Eq.trans (b := some (Obj.cells _ _ (0, 0))) (by repeat (first | (with_reducible assumption) | (with_reducible apply heap_set_same) | ((with_reducible apply heap_set_other'); (focus (first | omega | (simp; done) | (simp; omega)))) | ((with_reducible apply heap_alloc_new); (focus (first | omega | (simp; done) | (simp; omega)))) | (with_reducible apply heap_alloc_old') | (with_reducible apply (heap_drew_at _ _).trans) | (with_reducible apply (heap_drewN_at _ _ _).trans))) (by exact rfl))
  clear hb
  (try clear g0)
  obtain ⟨c0, f0, z0⟩ := blk_facts h0
  (try clear g1)
  obtain ⟨c1, f1, z1⟩ := blk_facts h1
  (try clear g2)
  obtain ⟨c2, f2, z2⟩ := blk_facts h2
  go_wp2_with fail
  (with_reducible refine (take_as HT _).mono ?_)
  rintro e w2 ⟨rfl, hb⟩
  (try (have g0 := h0; clear h0 f0 c0))
  (try (have g1 := h1; clear h1 f1 c1))
  (try (have g2 := h2; clear h2 f2 c2))
  have hB := below_next (w := w) (by go_grown) hb
  have h0 : w2.heap[w.heap.size]? = some (.cells #[.bool true, .int .i64 f, .int .i64 l, .int .i64 t] 23 (0, 0)) := (hb.block (w.heap.size) (by first | omega | (simp; done) | (simp; omega))).trans (Eq.trans (b := some (Obj.cells _ _ (0, 0))) (by repeat (first | (with_reducible assumption) | (with_reducible apply heap_set_same) | ((with_reducible apply heap_set_other'); (focus (first | omega | (simp; done) | (simp; omega)))) | ((with_reducible apply heap_alloc_new); (focus (first | omega | (simp; done) | (simp; omega)))) | (with_reducible apply heap_alloc_old') | (with_reducible apply (heap_drew_at _ _).trans) | (with_reducible apply (heap_drewN_at _ _ _).trans))) (by exact rfl))
  have h1 : w2.heap[w.heap.size + 1]? = some (.cells #[.int .i64 wf, .int .i64 wl, .int .i64 wt] 27 (0, 0)) := (hb.block (w.heap.size + 1) (by first | omega | (simp; done) | (simp; omega))).trans (Eq.trans (b := some (Obj.cells _ _ (0, 0))) (by repeat (first | (with_reducible assumption) | (with_reducible apply heap_set_same) | ((with_reducible apply heap_set_other'); (focus (first | omega | (simp; done) | (simp; omega)))) | ((with_reducible apply heap_alloc_new); (focus (first | omega | (simp; done) | (simp; omega)))) | (with_reducible apply heap_alloc_old') | (with_reducible apply (heap_drew_at _ _).trans) | (with_reducible apply (heap_drewN_at _ _ _).trans))) (by exact rfl))
  have h2 : w2.heap[w.heap.size + 1 + 1]? = some (.cells #[.int .i64 f, .int .i64 l, .bool true, .bool true, .bool false, .int .i64 xt, .bool sy] 25 (0, 0)) := (hb.block (w.heap.size + 1 + 1) (by first | omega | (simp; done) | (simp; omega))).trans (Eq.trans (b := some (Obj.cells _ _ (0, 0))) (by repeat (first | (with_reducible assumption) | (with_reducible apply heap_set_same) | ((with_reducible apply heap_set_other'); (focus (first | omega | (simp; done) | (simp; omega)))) | ((with_reducible apply heap_alloc_new); (focus (first | omega | (simp; done) | (simp; omega)))) | (with_reducible apply heap_alloc_old') | (with_reducible apply (heap_drew_at _ _).trans) | (with_reducible apply (heap_drewN_at _ _ _).trans))) (by exact rfl))
  clear hb
  (try clear g0)
  obtain ⟨c0, f0, z0⟩ := blk_facts h0
  (try clear g1)
  obtain ⟨c1, f1, z1⟩ := blk_facts h1
  (try clear g2)
  obtain ⟨c2, f2, z2⟩ := blk_facts h2
  go_wp2_with fail
  all_goals (go_ret; first | exact ⟨rfl, by go_grown⟩ | (refine ⟨ret_bool ?_, by go_grown⟩; first | (simp; done) | (simp; omega)))
set_option maxRecDepth 100000 in
set_option maxHeartbeats 2000000 in
theorem lower_whole_up (on bg sy : Bool) (f l t xf xl xt wf wl wt : Int) (w : World)  (h : ¬ wt < xt) :
    Calls Try.prog 8 #[.agg #[.bool on, .int .i64 f, .int .i64 l, .int .i64 t], .agg #[.int .i64 wf, .int .i64 wl, .int .i64 wt], .agg #[.int .i64 xf, .int .i64 xl, .bool bg, .bool true, .bool true, .int .i64 xt, .bool sy]] w fun e w' => e = .returned (.bool true) ∧ Below w.heap.size w w' := by
  have HT : takeF true f l t f l true true true xt sy wf wl wt = (true, f, l, wt, 1) := by
    unfold takeF tidF ofB
    simp
    try omega
  go_enter Try.func8, Try.ntmps8
  go_wp2_with fail
  (with_reducible refine (awake_any _).mono ?_)
  rintro e w1 ⟨rfl, hb⟩
  (try (have g0 := h0; clear h0 f0 c0))
  (try (have g1 := h1; clear h1 f1 c1))
  (try (have g2 := h2; clear h2 f2 c2))
  have hB := below_next (w := w) (by go_grown) hb
  have h0 : w1.heap[w.heap.size]? = some (.cells #[.bool on, .int .i64 f, .int .i64 l, .int .i64 t] 23 (0, 0)) := (hb.block (w.heap.size) (by first | omega | (simp; done) | (simp; omega))).trans (Eq.trans (b := some (Obj.cells _ _ (0, 0))) (by repeat (first | (with_reducible assumption) | (with_reducible apply heap_set_same) | ((with_reducible apply heap_set_other'); (focus (first | omega | (simp; done) | (simp; omega)))) | ((with_reducible apply heap_alloc_new); (focus (first | omega | (simp; done) | (simp; omega)))) | (with_reducible apply heap_alloc_old') | (with_reducible apply (heap_drew_at _ _).trans) | (with_reducible apply (heap_drewN_at _ _ _).trans))) (by exact rfl))
  have h1 : w1.heap[w.heap.size + 1]? = some (.cells #[.int .i64 wf, .int .i64 wl, .int .i64 wt] 27 (0, 0)) := (hb.block (w.heap.size + 1) (by first | omega | (simp; done) | (simp; omega))).trans (Eq.trans (b := some (Obj.cells _ _ (0, 0))) (by repeat (first | (with_reducible assumption) | (with_reducible apply heap_set_same) | ((with_reducible apply heap_set_other'); (focus (first | omega | (simp; done) | (simp; omega)))) | ((with_reducible apply heap_alloc_new); (focus (first | omega | (simp; done) | (simp; omega)))) | (with_reducible apply heap_alloc_old') | (with_reducible apply (heap_drew_at _ _).trans) | (with_reducible apply (heap_drewN_at _ _ _).trans))) (by exact rfl))
  have h2 : w1.heap[w.heap.size + 1 + 1]? = some (.cells #[.int .i64 xf, .int .i64 xl, .bool bg, .bool true, .bool true, .int .i64 xt, .bool sy] 25 (0, 0)) := (hb.block (w.heap.size + 1 + 1) (by first | omega | (simp; done) | (simp; omega))).trans (Eq.trans (b := some (Obj.cells _ _ (0, 0))) (by repeat (first | (with_reducible assumption) | (with_reducible apply heap_set_same) | ((with_reducible apply heap_set_other'); (focus (first | omega | (simp; done) | (simp; omega)))) | ((with_reducible apply heap_alloc_new); (focus (first | omega | (simp; done) | (simp; omega)))) | (with_reducible apply heap_alloc_old') | (with_reducible apply (heap_drew_at _ _).trans) | (with_reducible apply (heap_drewN_at _ _ _).trans))) (by exact rfl))
  clear hb
  (try clear g0)
  obtain ⟨c0, f0, z0⟩ := blk_facts h0
  (try clear g1)
  obtain ⟨c1, f1, z1⟩ := blk_facts h1
  (try clear g2)
  obtain ⟨c2, f2, z2⟩ := blk_facts h2
  go_wp2_with fail
  (with_reducible refine (take_as HT _).mono ?_)
  rintro e w2 ⟨rfl, hb⟩
  (try (have g0 := h0; clear h0 f0 c0))
  (try (have g1 := h1; clear h1 f1 c1))
  (try (have g2 := h2; clear h2 f2 c2))
  have hB := below_next (w := w) (by go_grown) hb
  have h0 : w2.heap[w.heap.size]? = some (.cells #[.bool true, .int .i64 f, .int .i64 l, .int .i64 t] 23 (0, 0)) := (hb.block (w.heap.size) (by first | omega | (simp; done) | (simp; omega))).trans (Eq.trans (b := some (Obj.cells _ _ (0, 0))) (by repeat (first | (with_reducible assumption) | (with_reducible apply heap_set_same) | ((with_reducible apply heap_set_other'); (focus (first | omega | (simp; done) | (simp; omega)))) | ((with_reducible apply heap_alloc_new); (focus (first | omega | (simp; done) | (simp; omega)))) | (with_reducible apply heap_alloc_old') | (with_reducible apply (heap_drew_at _ _).trans) | (with_reducible apply (heap_drewN_at _ _ _).trans))) (by exact rfl))
  have h1 : w2.heap[w.heap.size + 1]? = some (.cells #[.int .i64 wf, .int .i64 wl, .int .i64 wt] 27 (0, 0)) := (hb.block (w.heap.size + 1) (by first | omega | (simp; done) | (simp; omega))).trans (Eq.trans (b := some (Obj.cells _ _ (0, 0))) (by repeat (first | (with_reducible assumption) | (with_reducible apply heap_set_same) | ((with_reducible apply heap_set_other'); (focus (first | omega | (simp; done) | (simp; omega)))) | ((with_reducible apply heap_alloc_new); (focus (first | omega | (simp; done) | (simp; omega)))) | (with_reducible apply heap_alloc_old') | (with_reducible apply (heap_drew_at _ _).trans) | (with_reducible apply (heap_drewN_at _ _ _).trans))) (by exact rfl))
  have h2 : w2.heap[w.heap.size + 1 + 1]? = some (.cells #[.int .i64 f, .int .i64 l, .bool true, .bool true, .bool true, .int .i64 xt, .bool sy] 25 (0, 0)) := (hb.block (w.heap.size + 1 + 1) (by first | omega | (simp; done) | (simp; omega))).trans (Eq.trans (b := some (Obj.cells _ _ (0, 0))) (by repeat (first | (with_reducible assumption) | (with_reducible apply heap_set_same) | ((with_reducible apply heap_set_other'); (focus (first | omega | (simp; done) | (simp; omega)))) | ((with_reducible apply heap_alloc_new); (focus (first | omega | (simp; done) | (simp; omega)))) | (with_reducible apply heap_alloc_old') | (with_reducible apply (heap_drew_at _ _).trans) | (with_reducible apply (heap_drewN_at _ _ _).trans))) (by exact rfl))
  clear hb
  (try clear g0)
  obtain ⟨c0, f0, z0⟩ := blk_facts h0
  (try clear g1)
  obtain ⟨c1, f1, z1⟩ := blk_facts h1
  (try clear g2)
  obtain ⟨c2, f2, z2⟩ := blk_facts h2
  go_wp2_with fail
  all_goals (go_ret; first | exact ⟨rfl, by go_grown⟩ | (refine ⟨ret_bool ?_, by go_grown⟩; first | (simp; done) | (simp; omega)))
set_option maxRecDepth 100000 in
set_option maxHeartbeats 2000000 in
theorem lower_whole_over (on bg sy : Bool) (f l t xf xl xt wf wl wt : Int) (w : World)  (h : wt < xt) :
    Calls Try.prog 8 #[.agg #[.bool on, .int .i64 f, .int .i64 l, .int .i64 t], .agg #[.int .i64 wf, .int .i64 wl, .int .i64 wt], .agg #[.int .i64 xf, .int .i64 xl, .bool bg, .bool true, .bool true, .int .i64 xt, .bool sy]] w fun e w' => e = .returned (.bool true) ∧ Below w.heap.size w w' := by
  have HT : takeF true f l t f l true true true xt sy wf wl wt = (true, f, l, wt, 2) := by
    unfold takeF tidF ofB
    simp
    try omega
  go_enter Try.func8, Try.ntmps8
  go_wp2_with fail
  (with_reducible refine (awake_any _).mono ?_)
  rintro e w1 ⟨rfl, hb⟩
  (try (have g0 := h0; clear h0 f0 c0))
  (try (have g1 := h1; clear h1 f1 c1))
  (try (have g2 := h2; clear h2 f2 c2))
  have hB := below_next (w := w) (by go_grown) hb
  have h0 : w1.heap[w.heap.size]? = some (.cells #[.bool on, .int .i64 f, .int .i64 l, .int .i64 t] 23 (0, 0)) := (hb.block (w.heap.size) (by first | omega | (simp; done) | (simp; omega))).trans (Eq.trans (b := some (Obj.cells _ _ (0, 0))) (by repeat (first | (with_reducible assumption) | (with_reducible apply heap_set_same) | ((with_reducible apply heap_set_other'); (focus (first | omega | (simp; done) | (simp; omega)))) | ((with_reducible apply heap_alloc_new); (focus (first | omega | (simp; done) | (simp; omega)))) | (with_reducible apply heap_alloc_old') | (with_reducible apply (heap_drew_at _ _).trans) | (with_reducible apply (heap_drewN_at _ _ _).trans))) (by exact rfl))
  have h1 : w1.heap[w.heap.size + 1]? = some (.cells #[.int .i64 wf, .int .i64 wl, .int .i64 wt] 27 (0, 0)) := (hb.block (w.heap.size + 1) (by first | omega | (simp; done) | (simp; omega))).trans (Eq.trans (b := some (Obj.cells _ _ (0, 0))) (by repeat (first | (with_reducible assumption) | (with_reducible apply heap_set_same) | ((with_reducible apply heap_set_other'); (focus (first | omega | (simp; done) | (simp; omega)))) | ((with_reducible apply heap_alloc_new); (focus (first | omega | (simp; done) | (simp; omega)))) | (with_reducible apply heap_alloc_old') | (with_reducible apply (heap_drew_at _ _).trans) | (with_reducible apply (heap_drewN_at _ _ _).trans))) (by exact rfl))
  have h2 : w1.heap[w.heap.size + 1 + 1]? = some (.cells #[.int .i64 xf, .int .i64 xl, .bool bg, .bool true, .bool true, .int .i64 xt, .bool sy] 25 (0, 0)) := (hb.block (w.heap.size + 1 + 1) (by first | omega | (simp; done) | (simp; omega))).trans (Eq.trans (b := some (Obj.cells _ _ (0, 0))) (by repeat (first | (with_reducible assumption) | (with_reducible apply heap_set_same) | ((with_reducible apply heap_set_other'); (focus (first | omega | (simp; done) | (simp; omega)))) | ((with_reducible apply heap_alloc_new); (focus (first | omega | (simp; done) | (simp; omega)))) | (with_reducible apply heap_alloc_old') | (with_reducible apply (heap_drew_at _ _).trans) | (with_reducible apply (heap_drewN_at _ _ _).trans))) (by exact rfl))
  clear hb
  (try clear g0)
  obtain ⟨c0, f0, z0⟩ := blk_facts h0
  (try clear g1)
  obtain ⟨c1, f1, z1⟩ := blk_facts h1
  (try clear g2)
  obtain ⟨c2, f2, z2⟩ := blk_facts h2
  go_wp2_with fail
  (with_reducible refine (take_as HT _).mono ?_)
  rintro e w2 ⟨rfl, hb⟩
  (try (have g0 := h0; clear h0 f0 c0))
  (try (have g1 := h1; clear h1 f1 c1))
  (try (have g2 := h2; clear h2 f2 c2))
  have hB := below_next (w := w) (by go_grown) hb
  have h0 : w2.heap[w.heap.size]? = some (.cells #[.bool true, .int .i64 f, .int .i64 l, .int .i64 t] 23 (0, 0)) := (hb.block (w.heap.size) (by first | omega | (simp; done) | (simp; omega))).trans (Eq.trans (b := some (Obj.cells _ _ (0, 0))) (by repeat (first | (with_reducible assumption) | (with_reducible apply heap_set_same) | ((with_reducible apply heap_set_other'); (focus (first | omega | (simp; done) | (simp; omega)))) | ((with_reducible apply heap_alloc_new); (focus (first | omega | (simp; done) | (simp; omega)))) | (with_reducible apply heap_alloc_old') | (with_reducible apply (heap_drew_at _ _).trans) | (with_reducible apply (heap_drewN_at _ _ _).trans))) (by exact rfl))
  have h1 : w2.heap[w.heap.size + 1]? = some (.cells #[.int .i64 wf, .int .i64 wl, .int .i64 wt] 27 (0, 0)) := (hb.block (w.heap.size + 1) (by first | omega | (simp; done) | (simp; omega))).trans (Eq.trans (b := some (Obj.cells _ _ (0, 0))) (by repeat (first | (with_reducible assumption) | (with_reducible apply heap_set_same) | ((with_reducible apply heap_set_other'); (focus (first | omega | (simp; done) | (simp; omega)))) | ((with_reducible apply heap_alloc_new); (focus (first | omega | (simp; done) | (simp; omega)))) | (with_reducible apply heap_alloc_old') | (with_reducible apply (heap_drew_at _ _).trans) | (with_reducible apply (heap_drewN_at _ _ _).trans))) (by exact rfl))
  have h2 : w2.heap[w.heap.size + 1 + 1]? = some (.cells #[.int .i64 f, .int .i64 l, .bool true, .bool true, .bool true, .int .i64 xt, .bool sy] 25 (0, 0)) := (hb.block (w.heap.size + 1 + 1) (by first | omega | (simp; done) | (simp; omega))).trans (Eq.trans (b := some (Obj.cells _ _ (0, 0))) (by repeat (first | (with_reducible assumption) | (with_reducible apply heap_set_same) | ((with_reducible apply heap_set_other'); (focus (first | omega | (simp; done) | (simp; omega)))) | ((with_reducible apply heap_alloc_new); (focus (first | omega | (simp; done) | (simp; omega)))) | (with_reducible apply heap_alloc_old') | (with_reducible apply (heap_drew_at _ _).trans) | (with_reducible apply (heap_drewN_at _ _ _).trans))) (by exact rfl))
  clear hb
  (try clear g0)
  obtain ⟨c0, f0, z0⟩ := blk_facts h0
  (try clear g1)
  obtain ⟨c1, f1, z1⟩ := blk_facts h1
  (try clear g2)
  obtain ⟨c2, f2, z2⟩ := blk_facts h2
  go_wp2_with fail
  all_goals (go_ret; first | exact ⟨rfl, by go_grown⟩ | (refine ⟨ret_bool ?_, by go_grown⟩; first | (simp; done) | (simp; omega)))
set_option maxRecDepth 100000 in
set_option maxHeartbeats 2000000 in
theorem lower_less_none (on bg sy : Bool) (f l t xf xl xt wf wl wt : Int) (w : World) (g : wt ≤ t) :
    Calls Try.prog 8 #[.agg #[.bool on, .int .i64 f, .int .i64 l, .int .i64 t], .agg #[.int .i64 wf, .int .i64 wl, .int .i64 wt], .agg #[.int .i64 xf, .int .i64 xl, .bool bg, .bool false, .bool false, .int .i64 xt, .bool sy]] w fun e w' => e = .returned (.bool true) ∧ Below w.heap.size w w' := by
  have HT : takeF true f l t f l true false false xt sy wf wl wt = (true, f, l, wt, 1) := by
    unfold takeF tidF ofB
    simp
    try omega
  go_enter Try.func8, Try.ntmps8
  go_wp2_with fail
  (with_reducible refine (awake_any _).mono ?_)
  rintro e w1 ⟨rfl, hb⟩
  (try (have g0 := h0; clear h0 f0 c0))
  (try (have g1 := h1; clear h1 f1 c1))
  (try (have g2 := h2; clear h2 f2 c2))
  have hB := below_next (w := w) (by go_grown) hb
  have h0 : w1.heap[w.heap.size]? = some (.cells #[.bool on, .int .i64 f, .int .i64 l, .int .i64 t] 23 (0, 0)) := (hb.block (w.heap.size) (by first | omega | (simp; done) | (simp; omega))).trans (Eq.trans (b := some (Obj.cells _ _ (0, 0))) (by repeat (first | (with_reducible assumption) | (with_reducible apply heap_set_same) | ((with_reducible apply heap_set_other'); (focus (first | omega | (simp; done) | (simp; omega)))) | ((with_reducible apply heap_alloc_new); (focus (first | omega | (simp; done) | (simp; omega)))) | (with_reducible apply heap_alloc_old') | (with_reducible apply (heap_drew_at _ _).trans) | (with_reducible apply (heap_drewN_at _ _ _).trans))) (by exact rfl))
  have h1 : w1.heap[w.heap.size + 1]? = some (.cells #[.int .i64 wf, .int .i64 wl, .int .i64 wt] 27 (0, 0)) := (hb.block (w.heap.size + 1) (by first | omega | (simp; done) | (simp; omega))).trans (Eq.trans (b := some (Obj.cells _ _ (0, 0))) (by repeat (first | (with_reducible assumption) | (with_reducible apply heap_set_same) | ((with_reducible apply heap_set_other'); (focus (first | omega | (simp; done) | (simp; omega)))) | ((with_reducible apply heap_alloc_new); (focus (first | omega | (simp; done) | (simp; omega)))) | (with_reducible apply heap_alloc_old') | (with_reducible apply (heap_drew_at _ _).trans) | (with_reducible apply (heap_drewN_at _ _ _).trans))) (by exact rfl))
  have h2 : w1.heap[w.heap.size + 1 + 1]? = some (.cells #[.int .i64 xf, .int .i64 xl, .bool bg, .bool false, .bool false, .int .i64 xt, .bool sy] 25 (0, 0)) := (hb.block (w.heap.size + 1 + 1) (by first | omega | (simp; done) | (simp; omega))).trans (Eq.trans (b := some (Obj.cells _ _ (0, 0))) (by repeat (first | (with_reducible assumption) | (with_reducible apply heap_set_same) | ((with_reducible apply heap_set_other'); (focus (first | omega | (simp; done) | (simp; omega)))) | ((with_reducible apply heap_alloc_new); (focus (first | omega | (simp; done) | (simp; omega)))) | (with_reducible apply heap_alloc_old') | (with_reducible apply (heap_drew_at _ _).trans) | (with_reducible apply (heap_drewN_at _ _ _).trans))) (by exact rfl))
  clear hb
  (try clear g0)
  obtain ⟨c0, f0, z0⟩ := blk_facts h0
  (try clear g1)
  obtain ⟨c1, f1, z1⟩ := blk_facts h1
  (try clear g2)
  obtain ⟨c2, f2, z2⟩ := blk_facts h2
  go_wp2_with fail
  (with_reducible refine (take_as HT _).mono ?_)
  rintro e w2 ⟨rfl, hb⟩
  (try (have g0 := h0; clear h0 f0 c0))
  (try (have g1 := h1; clear h1 f1 c1))
  (try (have g2 := h2; clear h2 f2 c2))
  have hB := below_next (w := w) (by go_grown) hb
  have h0 : w2.heap[w.heap.size]? = some (.cells #[.bool true, .int .i64 f, .int .i64 l, .int .i64 t] 23 (0, 0)) := (hb.block (w.heap.size) (by first | omega | (simp; done) | (simp; omega))).trans (Eq.trans (b := some (Obj.cells _ _ (0, 0))) (by repeat (first | (with_reducible assumption) | (with_reducible apply heap_set_same) | ((with_reducible apply heap_set_other'); (focus (first | omega | (simp; done) | (simp; omega)))) | ((with_reducible apply heap_alloc_new); (focus (first | omega | (simp; done) | (simp; omega)))) | (with_reducible apply heap_alloc_old') | (with_reducible apply (heap_drew_at _ _).trans) | (with_reducible apply (heap_drewN_at _ _ _).trans))) (by exact rfl))
  have h1 : w2.heap[w.heap.size + 1]? = some (.cells #[.int .i64 wf, .int .i64 wl, .int .i64 wt] 27 (0, 0)) := (hb.block (w.heap.size + 1) (by first | omega | (simp; done) | (simp; omega))).trans (Eq.trans (b := some (Obj.cells _ _ (0, 0))) (by repeat (first | (with_reducible assumption) | (with_reducible apply heap_set_same) | ((with_reducible apply heap_set_other'); (focus (first | omega | (simp; done) | (simp; omega)))) | ((with_reducible apply heap_alloc_new); (focus (first | omega | (simp; done) | (simp; omega)))) | (with_reducible apply heap_alloc_old') | (with_reducible apply (heap_drew_at _ _).trans) | (with_reducible apply (heap_drewN_at _ _ _).trans))) (by exact rfl))
  have h2 : w2.heap[w.heap.size + 1 + 1]? = some (.cells #[.int .i64 f, .int .i64 l, .bool true, .bool false, .bool false, .int .i64 xt, .bool sy] 25 (0, 0)) := (hb.block (w.heap.size + 1 + 1) (by first | omega | (simp; done) | (simp; omega))).trans (Eq.trans (b := some (Obj.cells _ _ (0, 0))) (by repeat (first | (with_reducible assumption) | (with_reducible apply heap_set_same) | ((with_reducible apply heap_set_other'); (focus (first | omega | (simp; done) | (simp; omega)))) | ((with_reducible apply heap_alloc_new); (focus (first | omega | (simp; done) | (simp; omega)))) | (with_reducible apply heap_alloc_old') | (with_reducible apply (heap_drew_at _ _).trans) | (with_reducible apply (heap_drewN_at _ _ _).trans))) (by exact rfl))
  clear hb
  (try clear g0)
  obtain ⟨c0, f0, z0⟩ := blk_facts h0
  (try clear g1)
  obtain ⟨c1, f1, z1⟩ := blk_facts h1
  (try clear g2)
  obtain ⟨c2, f2, z2⟩ := blk_facts h2
  go_wp2_with fail
  all_goals (go_ret; first | exact ⟨rfl, by go_grown⟩ | (refine ⟨ret_bool ?_, by go_grown⟩; first | (simp; done) | (simp; omega)))
set_option maxRecDepth 100000 in
set_option maxHeartbeats 2000000 in
theorem lower_less_up (on bg sy : Bool) (f l t xf xl xt wf wl wt : Int) (w : World) (g : wt ≤ t) (h : ¬ wt < xt) :
    Calls Try.prog 8 #[.agg #[.bool on, .int .i64 f, .int .i64 l, .int .i64 t], .agg #[.int .i64 wf, .int .i64 wl, .int .i64 wt], .agg #[.int .i64 xf, .int .i64 xl, .bool bg, .bool false, .bool true, .int .i64 xt, .bool sy]] w fun e w' => e = .returned (.bool true) ∧ Below w.heap.size w w' := by
  have HT : takeF true f l t f l true false true xt sy wf wl wt = (true, f, l, wt, 1) := by
    unfold takeF tidF ofB
    simp
    try omega
  go_enter Try.func8, Try.ntmps8
  go_wp2_with fail
  (with_reducible refine (awake_any _).mono ?_)
  rintro e w1 ⟨rfl, hb⟩
  (try (have g0 := h0; clear h0 f0 c0))
  (try (have g1 := h1; clear h1 f1 c1))
  (try (have g2 := h2; clear h2 f2 c2))
  have hB := below_next (w := w) (by go_grown) hb
  have h0 : w1.heap[w.heap.size]? = some (.cells #[.bool on, .int .i64 f, .int .i64 l, .int .i64 t] 23 (0, 0)) := (hb.block (w.heap.size) (by first | omega | (simp; done) | (simp; omega))).trans (Eq.trans (b := some (Obj.cells _ _ (0, 0))) (by repeat (first | (with_reducible assumption) | (with_reducible apply heap_set_same) | ((with_reducible apply heap_set_other'); (focus (first | omega | (simp; done) | (simp; omega)))) | ((with_reducible apply heap_alloc_new); (focus (first | omega | (simp; done) | (simp; omega)))) | (with_reducible apply heap_alloc_old') | (with_reducible apply (heap_drew_at _ _).trans) | (with_reducible apply (heap_drewN_at _ _ _).trans))) (by exact rfl))
  have h1 : w1.heap[w.heap.size + 1]? = some (.cells #[.int .i64 wf, .int .i64 wl, .int .i64 wt] 27 (0, 0)) := (hb.block (w.heap.size + 1) (by first | omega | (simp; done) | (simp; omega))).trans (Eq.trans (b := some (Obj.cells _ _ (0, 0))) (by repeat (first | (with_reducible assumption) | (with_reducible apply heap_set_same) | ((with_reducible apply heap_set_other'); (focus (first | omega | (simp; done) | (simp; omega)))) | ((with_reducible apply heap_alloc_new); (focus (first | omega | (simp; done) | (simp; omega)))) | (with_reducible apply heap_alloc_old') | (with_reducible apply (heap_drew_at _ _).trans) | (with_reducible apply (heap_drewN_at _ _ _).trans))) (by exact rfl))
  have h2 : w1.heap[w.heap.size + 1 + 1]? = some (.cells #[.int .i64 xf, .int .i64 xl, .bool bg, .bool false, .bool true, .int .i64 xt, .bool sy] 25 (0, 0)) := (hb.block (w.heap.size + 1 + 1) (by first | omega | (simp; done) | (simp; omega))).trans (Eq.trans (b := some (Obj.cells _ _ (0, 0))) (by repeat (first | (with_reducible assumption) | (with_reducible apply heap_set_same) | ((with_reducible apply heap_set_other'); (focus (first | omega | (simp; done) | (simp; omega)))) | ((with_reducible apply heap_alloc_new); (focus (first | omega | (simp; done) | (simp; omega)))) | (with_reducible apply heap_alloc_old') | (with_reducible apply (heap_drew_at _ _).trans) | (with_reducible apply (heap_drewN_at _ _ _).trans))) (by exact rfl))
  clear hb
  (try clear g0)
  obtain ⟨c0, f0, z0⟩ := blk_facts h0
  (try clear g1)
  obtain ⟨c1, f1, z1⟩ := blk_facts h1
  (try clear g2)
  obtain ⟨c2, f2, z2⟩ := blk_facts h2
  go_wp2_with fail
  (with_reducible refine (take_as HT _).mono ?_)
  rintro e w2 ⟨rfl, hb⟩
  (try (have g0 := h0; clear h0 f0 c0))
  (try (have g1 := h1; clear h1 f1 c1))
  (try (have g2 := h2; clear h2 f2 c2))
  have hB := below_next (w := w) (by go_grown) hb
  have h0 : w2.heap[w.heap.size]? = some (.cells #[.bool true, .int .i64 f, .int .i64 l, .int .i64 t] 23 (0, 0)) := (hb.block (w.heap.size) (by first | omega | (simp; done) | (simp; omega))).trans (Eq.trans (b := some (Obj.cells _ _ (0, 0))) (by repeat (first | (with_reducible assumption) | (with_reducible apply heap_set_same) | ((with_reducible apply heap_set_other'); (focus (first | omega | (simp; done) | (simp; omega)))) | ((with_reducible apply heap_alloc_new); (focus (first | omega | (simp; done) | (simp; omega)))) | (with_reducible apply heap_alloc_old') | (with_reducible apply (heap_drew_at _ _).trans) | (with_reducible apply (heap_drewN_at _ _ _).trans))) (by exact rfl))
  have h1 : w2.heap[w.heap.size + 1]? = some (.cells #[.int .i64 wf, .int .i64 wl, .int .i64 wt] 27 (0, 0)) := (hb.block (w.heap.size + 1) (by first | omega | (simp; done) | (simp; omega))).trans (Eq.trans (b := some (Obj.cells _ _ (0, 0))) (by repeat (first | (with_reducible assumption) | (with_reducible apply heap_set_same) | ((with_reducible apply heap_set_other'); (focus (first | omega | (simp; done) | (simp; omega)))) | ((with_reducible apply heap_alloc_new); (focus (first | omega | (simp; done) | (simp; omega)))) | (with_reducible apply heap_alloc_old') | (with_reducible apply (heap_drew_at _ _).trans) | (with_reducible apply (heap_drewN_at _ _ _).trans))) (by exact rfl))
  have h2 : w2.heap[w.heap.size + 1 + 1]? = some (.cells #[.int .i64 f, .int .i64 l, .bool true, .bool false, .bool true, .int .i64 xt, .bool sy] 25 (0, 0)) := (hb.block (w.heap.size + 1 + 1) (by first | omega | (simp; done) | (simp; omega))).trans (Eq.trans (b := some (Obj.cells _ _ (0, 0))) (by repeat (first | (with_reducible assumption) | (with_reducible apply heap_set_same) | ((with_reducible apply heap_set_other'); (focus (first | omega | (simp; done) | (simp; omega)))) | ((with_reducible apply heap_alloc_new); (focus (first | omega | (simp; done) | (simp; omega)))) | (with_reducible apply heap_alloc_old') | (with_reducible apply (heap_drew_at _ _).trans) | (with_reducible apply (heap_drewN_at _ _ _).trans))) (by exact rfl))
  clear hb
  (try clear g0)
  obtain ⟨c0, f0, z0⟩ := blk_facts h0
  (try clear g1)
  obtain ⟨c1, f1, z1⟩ := blk_facts h1
  (try clear g2)
  obtain ⟨c2, f2, z2⟩ := blk_facts h2
  go_wp2_with fail
  all_goals (go_ret; first | exact ⟨rfl, by go_grown⟩ | (refine ⟨ret_bool ?_, by go_grown⟩; first | (simp; done) | (simp; omega)))
set_option maxRecDepth 100000 in
set_option maxHeartbeats 2000000 in
theorem lower_less_over (on bg sy : Bool) (f l t xf xl xt wf wl wt : Int) (w : World) (g : wt ≤ t) (h : wt < xt) :
    Calls Try.prog 8 #[.agg #[.bool on, .int .i64 f, .int .i64 l, .int .i64 t], .agg #[.int .i64 wf, .int .i64 wl, .int .i64 wt], .agg #[.int .i64 xf, .int .i64 xl, .bool bg, .bool false, .bool true, .int .i64 xt, .bool sy]] w fun e w' => e = .returned (.bool true) ∧ Below w.heap.size w w' := by
  have HT : takeF true f l t f l true false true xt sy wf wl wt = (true, f, l, wt, 2) := by
    unfold takeF tidF ofB
    simp
    try omega
  go_enter Try.func8, Try.ntmps8
  go_wp2_with fail
  (with_reducible refine (awake_any _).mono ?_)
  rintro e w1 ⟨rfl, hb⟩
  (try (have g0 := h0; clear h0 f0 c0))
  (try (have g1 := h1; clear h1 f1 c1))
  (try (have g2 := h2; clear h2 f2 c2))
  have hB := below_next (w := w) (by go_grown) hb
  have h0 : w1.heap[w.heap.size]? = some (.cells #[.bool on, .int .i64 f, .int .i64 l, .int .i64 t] 23 (0, 0)) := (hb.block (w.heap.size) (by first | omega | (simp; done) | (simp; omega))).trans (Eq.trans (b := some (Obj.cells _ _ (0, 0))) (by repeat (first | (with_reducible assumption) | (with_reducible apply heap_set_same) | ((with_reducible apply heap_set_other'); (focus (first | omega | (simp; done) | (simp; omega)))) | ((with_reducible apply heap_alloc_new); (focus (first | omega | (simp; done) | (simp; omega)))) | (with_reducible apply heap_alloc_old') | (with_reducible apply (heap_drew_at _ _).trans) | (with_reducible apply (heap_drewN_at _ _ _).trans))) (by exact rfl))
  have h1 : w1.heap[w.heap.size + 1]? = some (.cells #[.int .i64 wf, .int .i64 wl, .int .i64 wt] 27 (0, 0)) := (hb.block (w.heap.size + 1) (by first | omega | (simp; done) | (simp; omega))).trans (Eq.trans (b := some (Obj.cells _ _ (0, 0))) (by repeat (first | (with_reducible assumption) | (with_reducible apply heap_set_same) | ((with_reducible apply heap_set_other'); (focus (first | omega | (simp; done) | (simp; omega)))) | ((with_reducible apply heap_alloc_new); (focus (first | omega | (simp; done) | (simp; omega)))) | (with_reducible apply heap_alloc_old') | (with_reducible apply (heap_drew_at _ _).trans) | (with_reducible apply (heap_drewN_at _ _ _).trans))) (by exact rfl))
  have h2 : w1.heap[w.heap.size + 1 + 1]? = some (.cells #[.int .i64 xf, .int .i64 xl, .bool bg, .bool false, .bool true, .int .i64 xt, .bool sy] 25 (0, 0)) := (hb.block (w.heap.size + 1 + 1) (by first | omega | (simp; done) | (simp; omega))).trans (Eq.trans (b := some (Obj.cells _ _ (0, 0))) (by repeat (first | (with_reducible assumption) | (with_reducible apply heap_set_same) | ((with_reducible apply heap_set_other'); (focus (first | omega | (simp; done) | (simp; omega)))) | ((with_reducible apply heap_alloc_new); (focus (first | omega | (simp; done) | (simp; omega)))) | (with_reducible apply heap_alloc_old') | (with_reducible apply (heap_drew_at _ _).trans) | (with_reducible apply (heap_drewN_at _ _ _).trans))) (by exact rfl))
  clear hb
  (try clear g0)
  obtain ⟨c0, f0, z0⟩ := blk_facts h0
  (try clear g1)
  obtain ⟨c1, f1, z1⟩ := blk_facts h1
  (try clear g2)
  obtain ⟨c2, f2, z2⟩ := blk_facts h2
  go_wp2_with fail
  (with_reducible refine (take_as HT _).mono ?_)
  rintro e w2 ⟨rfl, hb⟩
  (try (have g0 := h0; clear h0 f0 c0))
  (try (have g1 := h1; clear h1 f1 c1))
  (try (have g2 := h2; clear h2 f2 c2))
  have hB := below_next (w := w) (by go_grown) hb
  have h0 : w2.heap[w.heap.size]? = some (.cells #[.bool true, .int .i64 f, .int .i64 l, .int .i64 t] 23 (0, 0)) := (hb.block (w.heap.size) (by first | omega | (simp; done) | (simp; omega))).trans (Eq.trans (b := some (Obj.cells _ _ (0, 0))) (by repeat (first | (with_reducible assumption) | (with_reducible apply heap_set_same) | ((with_reducible apply heap_set_other'); (focus (first | omega | (simp; done) | (simp; omega)))) | ((with_reducible apply heap_alloc_new); (focus (first | omega | (simp; done) | (simp; omega)))) | (with_reducible apply heap_alloc_old') | (with_reducible apply (heap_drew_at _ _).trans) | (with_reducible apply (heap_drewN_at _ _ _).trans))) (by exact rfl))
  have h1 : w2.heap[w.heap.size + 1]? = some (.cells #[.int .i64 wf, .int .i64 wl, .int .i64 wt] 27 (0, 0)) := (hb.block (w.heap.size + 1) (by first | omega | (simp; done) | (simp; omega))).trans (Eq.trans (b := some (Obj.cells _ _ (0, 0))) (by repeat (first | (with_reducible assumption) | (with_reducible apply heap_set_same) | ((with_reducible apply heap_set_other'); (focus (first | omega | (simp; done) | (simp; omega)))) | ((with_reducible apply heap_alloc_new); (focus (first | omega | (simp; done) | (simp; omega)))) | (with_reducible apply heap_alloc_old') | (with_reducible apply (heap_drew_at _ _).trans) | (with_reducible apply (heap_drewN_at _ _ _).trans))) (by exact rfl))
  have h2 : w2.heap[w.heap.size + 1 + 1]? = some (.cells #[.int .i64 f, .int .i64 l, .bool true, .bool false, .bool true, .int .i64 xt, .bool sy] 25 (0, 0)) := (hb.block (w.heap.size + 1 + 1) (by first | omega | (simp; done) | (simp; omega))).trans (Eq.trans (b := some (Obj.cells _ _ (0, 0))) (by repeat (first | (with_reducible assumption) | (with_reducible apply heap_set_same) | ((with_reducible apply heap_set_other'); (focus (first | omega | (simp; done) | (simp; omega)))) | ((with_reducible apply heap_alloc_new); (focus (first | omega | (simp; done) | (simp; omega)))) | (with_reducible apply heap_alloc_old') | (with_reducible apply (heap_drew_at _ _).trans) | (with_reducible apply (heap_drewN_at _ _ _).trans))) (by exact rfl))
  clear hb
  (try clear g0)
  obtain ⟨c0, f0, z0⟩ := blk_facts h0
  (try clear g1)
  obtain ⟨c1, f1, z1⟩ := blk_facts h1
  (try clear g2)
  obtain ⟨c2, f2, z2⟩ := blk_facts h2
  go_wp2_with fail
  all_goals (go_ret; first | exact ⟨rfl, by go_grown⟩ | (refine ⟨ret_bool ?_, by go_grown⟩; first | (simp; done) | (simp; omega)))
set_option maxRecDepth 100000 in
set_option maxHeartbeats 2000000 in
theorem lower_more_none (on bg sy : Bool) (f l t xf xl xt wf wl wt : Int) (w : World) (g : ¬ wt ≤ t) :
    Calls Try.prog 8 #[.agg #[.bool on, .int .i64 f, .int .i64 l, .int .i64 t], .agg #[.int .i64 wf, .int .i64 wl, .int .i64 wt], .agg #[.int .i64 xf, .int .i64 xl, .bool bg, .bool false, .bool false, .int .i64 xt, .bool sy]] w fun e w' => e = .returned (.bool true) ∧ Below w.heap.size w w' := by
  have HT : takeF true f l t f l true false false xt sy wf wl wt = (true, f, l, t, 1) := by
    unfold takeF tidF ofB
    simp
    try omega
  go_enter Try.func8, Try.ntmps8
  go_wp2_with fail
  (with_reducible refine (awake_any _).mono ?_)
  rintro e w1 ⟨rfl, hb⟩
  (try (have g0 := h0; clear h0 f0 c0))
  (try (have g1 := h1; clear h1 f1 c1))
  (try (have g2 := h2; clear h2 f2 c2))
  have hB := below_next (w := w) (by go_grown) hb
  have h0 : w1.heap[w.heap.size]? = some (.cells #[.bool on, .int .i64 f, .int .i64 l, .int .i64 t] 23 (0, 0)) := (hb.block (w.heap.size) (by first | omega | (simp; done) | (simp; omega))).trans (Eq.trans (b := some (Obj.cells _ _ (0, 0))) (by repeat (first | (with_reducible assumption) | (with_reducible apply heap_set_same) | ((with_reducible apply heap_set_other'); (focus (first | omega | (simp; done) | (simp; omega)))) | ((with_reducible apply heap_alloc_new); (focus (first | omega | (simp; done) | (simp; omega)))) | (with_reducible apply heap_alloc_old') | (with_reducible apply (heap_drew_at _ _).trans) | (with_reducible apply (heap_drewN_at _ _ _).trans))) (by exact rfl))
  have h1 : w1.heap[w.heap.size + 1]? = some (.cells #[.int .i64 wf, .int .i64 wl, .int .i64 wt] 27 (0, 0)) := (hb.block (w.heap.size + 1) (by first | omega | (simp; done) | (simp; omega))).trans (Eq.trans (b := some (Obj.cells _ _ (0, 0))) (by repeat (first | (with_reducible assumption) | (with_reducible apply heap_set_same) | ((with_reducible apply heap_set_other'); (focus (first | omega | (simp; done) | (simp; omega)))) | ((with_reducible apply heap_alloc_new); (focus (first | omega | (simp; done) | (simp; omega)))) | (with_reducible apply heap_alloc_old') | (with_reducible apply (heap_drew_at _ _).trans) | (with_reducible apply (heap_drewN_at _ _ _).trans))) (by exact rfl))
  have h2 : w1.heap[w.heap.size + 1 + 1]? = some (.cells #[.int .i64 xf, .int .i64 xl, .bool bg, .bool false, .bool false, .int .i64 xt, .bool sy] 25 (0, 0)) := (hb.block (w.heap.size + 1 + 1) (by first | omega | (simp; done) | (simp; omega))).trans (Eq.trans (b := some (Obj.cells _ _ (0, 0))) (by repeat (first | (with_reducible assumption) | (with_reducible apply heap_set_same) | ((with_reducible apply heap_set_other'); (focus (first | omega | (simp; done) | (simp; omega)))) | ((with_reducible apply heap_alloc_new); (focus (first | omega | (simp; done) | (simp; omega)))) | (with_reducible apply heap_alloc_old') | (with_reducible apply (heap_drew_at _ _).trans) | (with_reducible apply (heap_drewN_at _ _ _).trans))) (by exact rfl))
  clear hb
  (try clear g0)
  obtain ⟨c0, f0, z0⟩ := blk_facts h0
  (try clear g1)
  obtain ⟨c1, f1, z1⟩ := blk_facts h1
  (try clear g2)
  obtain ⟨c2, f2, z2⟩ := blk_facts h2
  go_wp2_with fail
  (with_reducible refine (take_as HT _).mono ?_)
  rintro e w2 ⟨rfl, hb⟩
  (try (have g0 := h0; clear h0 f0 c0))
  (try (have g1 := h1; clear h1 f1 c1))
  (try (have g2 := h2; clear h2 f2 c2))
  have hB := below_next (w := w) (by go_grown) hb
  have h0 : w2.heap[w.heap.size]? = some (.cells #[.bool true, .int .i64 f, .int .i64 l, .int .i64 t] 23 (0, 0)) := (hb.block (w.heap.size) (by first | omega | (simp; done) | (simp; omega))).trans (Eq.trans (b := some (Obj.cells _ _ (0, 0))) (by repeat (first | (with_reducible assumption) | (with_reducible apply heap_set_same) | ((with_reducible apply heap_set_other'); (focus (first | omega | (simp; done) | (simp; omega)))) | ((with_reducible apply heap_alloc_new); (focus (first | omega | (simp; done) | (simp; omega)))) | (with_reducible apply heap_alloc_old') | (with_reducible apply (heap_drew_at _ _).trans) | (with_reducible apply (heap_drewN_at _ _ _).trans))) (by exact rfl))
  have h1 : w2.heap[w.heap.size + 1]? = some (.cells #[.int .i64 wf, .int .i64 wl, .int .i64 wt] 27 (0, 0)) := (hb.block (w.heap.size + 1) (by first | omega | (simp; done) | (simp; omega))).trans (Eq.trans (b := some (Obj.cells _ _ (0, 0))) (by repeat (first | (with_reducible assumption) | (with_reducible apply heap_set_same) | ((with_reducible apply heap_set_other'); (focus (first | omega | (simp; done) | (simp; omega)))) | ((with_reducible apply heap_alloc_new); (focus (first | omega | (simp; done) | (simp; omega)))) | (with_reducible apply heap_alloc_old') | (with_reducible apply (heap_drew_at _ _).trans) | (with_reducible apply (heap_drewN_at _ _ _).trans))) (by exact rfl))
  have h2 : w2.heap[w.heap.size + 1 + 1]? = some (.cells #[.int .i64 f, .int .i64 l, .bool true, .bool false, .bool false, .int .i64 xt, .bool sy] 25 (0, 0)) := (hb.block (w.heap.size + 1 + 1) (by first | omega | (simp; done) | (simp; omega))).trans (Eq.trans (b := some (Obj.cells _ _ (0, 0))) (by repeat (first | (with_reducible assumption) | (with_reducible apply heap_set_same) | ((with_reducible apply heap_set_other'); (focus (first | omega | (simp; done) | (simp; omega)))) | ((with_reducible apply heap_alloc_new); (focus (first | omega | (simp; done) | (simp; omega)))) | (with_reducible apply heap_alloc_old') | (with_reducible apply (heap_drew_at _ _).trans) | (with_reducible apply (heap_drewN_at _ _ _).trans))) (by exact rfl))
  clear hb
  (try clear g0)
  obtain ⟨c0, f0, z0⟩ := blk_facts h0
  (try clear g1)
  obtain ⟨c1, f1, z1⟩ := blk_facts h1
  (try clear g2)
  obtain ⟨c2, f2, z2⟩ := blk_facts h2
  go_wp2_with fail
  all_goals (go_ret; first | exact ⟨rfl, by go_grown⟩ | (refine ⟨ret_bool ?_, by go_grown⟩; first | (simp; done) | (simp; omega)))
set_option maxRecDepth 100000 in
set_option maxHeartbeats 2000000 in
theorem lower_more_sync (on bg : Bool) (f l t xf xl xt wf wl wt : Int) (w : World) (g : ¬ wt ≤ t) (h : t < xt) (h2 : xt ≤ wt) :
    Calls Try.prog 8 #[.agg #[.bool on, .int .i64 f, .int .i64 l, .int .i64 t], .agg #[.int .i64 wf, .int .i64 wl, .int .i64 wt], .agg #[.int .i64 xf, .int .i64 xl, .bool bg, .bool false, .bool true, .int .i64 xt, .bool true]] w fun e w' => e = .returned (.bool true) ∧ Below w.heap.size w w' := by
  have HT : takeF true f l t f l true false true xt true wf wl wt = (true, f, l, xt, 1) := by
    unfold takeF tidF ofB
    simp
    try omega
  go_enter Try.func8, Try.ntmps8
  go_wp2_with fail
  (with_reducible refine (awake_any _).mono ?_)
  rintro e w1 ⟨rfl, hb⟩
  (try (have g0 := h0; clear h0 f0 c0))
  (try (have g1 := h1; clear h1 f1 c1))
  (try (have g2 := h2; clear h2 f2 c2))
  have hB := below_next (w := w) (by go_grown) hb
  have h0 : w1.heap[w.heap.size]? = some (.cells #[.bool on, .int .i64 f, .int .i64 l, .int .i64 t] 23 (0, 0)) := (hb.block (w.heap.size) (by first | omega | (simp; done) | (simp; omega))).trans (Eq.trans (b := some (Obj.cells _ _ (0, 0))) (by repeat (first | (with_reducible assumption) | (with_reducible apply heap_set_same) | ((with_reducible apply heap_set_other'); (focus (first | omega | (simp; done) | (simp; omega)))) | ((with_reducible apply heap_alloc_new); (focus (first | omega | (simp; done) | (simp; omega)))) | (with_reducible apply heap_alloc_old') | (with_reducible apply (heap_drew_at _ _).trans) | (with_reducible apply (heap_drewN_at _ _ _).trans))) (by exact rfl))
  have h1 : w1.heap[w.heap.size + 1]? = some (.cells #[.int .i64 wf, .int .i64 wl, .int .i64 wt] 27 (0, 0)) := (hb.block (w.heap.size + 1) (by first | omega | (simp; done) | (simp; omega))).trans (Eq.trans (b := some (Obj.cells _ _ (0, 0))) (by repeat (first | (with_reducible assumption) | (with_reducible apply heap_set_same) | ((with_reducible apply heap_set_other'); (focus (first | omega | (simp; done) | (simp; omega)))) | ((with_reducible apply heap_alloc_new); (focus (first | omega | (simp; done) | (simp; omega)))) | (with_reducible apply heap_alloc_old') | (with_reducible apply (heap_drew_at _ _).trans) | (with_reducible apply (heap_drewN_at _ _ _).trans))) (by exact rfl))
  have h2 : w1.heap[w.heap.size + 1 + 1]? = some (.cells #[.int .i64 xf, .int .i64 xl, .bool bg, .bool false, .bool true, .int .i64 xt, .bool true] 25 (0, 0)) := (hb.block (w.heap.size + 1 + 1) (by first | omega | (simp; done) | (simp; omega))).trans (Eq.trans (b := some (Obj.cells _ _ (0, 0))) (by repeat (first | (with_reducible assumption) | (with_reducible apply heap_set_same) | ((with_reducible apply heap_set_other'); (focus (first | omega | (simp; done) | (simp; omega)))) | ((with_reducible apply heap_alloc_new); (focus (first | omega | (simp; done) | (simp; omega)))) | (with_reducible apply heap_alloc_old') | (with_reducible apply (heap_drew_at _ _).trans) | (with_reducible apply (heap_drewN_at _ _ _).trans))) (by exact rfl))
  clear hb
  (try clear g0)
  obtain ⟨c0, f0, z0⟩ := blk_facts h0
  (try clear g1)
  obtain ⟨c1, f1, z1⟩ := blk_facts h1
  (try clear g2)
  obtain ⟨c2, f2, z2⟩ := blk_facts h2
  go_wp2_with fail
  (with_reducible refine (take_as HT _).mono ?_)
  rintro e w2 ⟨rfl, hb⟩
  (try (have g0 := h0; clear h0 f0 c0))
  (try (have g1 := h1; clear h1 f1 c1))
  (try (have g2 := h2; clear h2 f2 c2))
  have hB := below_next (w := w) (by go_grown) hb
  have h0 : w2.heap[w.heap.size]? = some (.cells #[.bool true, .int .i64 f, .int .i64 l, .int .i64 t] 23 (0, 0)) := (hb.block (w.heap.size) (by first | omega | (simp; done) | (simp; omega))).trans (Eq.trans (b := some (Obj.cells _ _ (0, 0))) (by repeat (first | (with_reducible assumption) | (with_reducible apply heap_set_same) | ((with_reducible apply heap_set_other'); (focus (first | omega | (simp; done) | (simp; omega)))) | ((with_reducible apply heap_alloc_new); (focus (first | omega | (simp; done) | (simp; omega)))) | (with_reducible apply heap_alloc_old') | (with_reducible apply (heap_drew_at _ _).trans) | (with_reducible apply (heap_drewN_at _ _ _).trans))) (by exact rfl))
  have h1 : w2.heap[w.heap.size + 1]? = some (.cells #[.int .i64 wf, .int .i64 wl, .int .i64 wt] 27 (0, 0)) := (hb.block (w.heap.size + 1) (by first | omega | (simp; done) | (simp; omega))).trans (Eq.trans (b := some (Obj.cells _ _ (0, 0))) (by repeat (first | (with_reducible assumption) | (with_reducible apply heap_set_same) | ((with_reducible apply heap_set_other'); (focus (first | omega | (simp; done) | (simp; omega)))) | ((with_reducible apply heap_alloc_new); (focus (first | omega | (simp; done) | (simp; omega)))) | (with_reducible apply heap_alloc_old') | (with_reducible apply (heap_drew_at _ _).trans) | (with_reducible apply (heap_drewN_at _ _ _).trans))) (by exact rfl))
  have h2 : w2.heap[w.heap.size + 1 + 1]? = some (.cells #[.int .i64 f, .int .i64 l, .bool true, .bool false, .bool true, .int .i64 xt, .bool true] 25 (0, 0)) := (hb.block (w.heap.size + 1 + 1) (by first | omega | (simp; done) | (simp; omega))).trans (Eq.trans (b := some (Obj.cells _ _ (0, 0))) (by repeat (first | (with_reducible assumption) | (with_reducible apply heap_set_same) | ((with_reducible apply heap_set_other'); (focus (first | omega | (simp; done) | (simp; omega)))) | ((with_reducible apply heap_alloc_new); (focus (first | omega | (simp; done) | (simp; omega)))) | (with_reducible apply heap_alloc_old') | (with_reducible apply (heap_drew_at _ _).trans) | (with_reducible apply (heap_drewN_at _ _ _).trans))) (by exact rfl))
  clear hb
  (try clear g0)
  obtain ⟨c0, f0, z0⟩ := blk_facts h0
  (try clear g1)
  obtain ⟨c1, f1, z1⟩ := blk_facts h1
  (try clear g2)
  obtain ⟨c2, f2, z2⟩ := blk_facts h2
  go_wp2_with fail
  all_goals (go_ret; first | exact ⟨rfl, by go_grown⟩ | (refine ⟨ret_bool ?_, by go_grown⟩; first | (simp; done) | (simp; omega)))
set_option maxRecDepth 100000 in
set_option maxHeartbeats 2000000 in
theorem lower_more_over (on bg : Bool) (f l t xf xl xt wf wl wt : Int) (w : World) (g : ¬ wt ≤ t) (h : t < xt) (h2 : ¬ xt ≤ wt) :
    Calls Try.prog 8 #[.agg #[.bool on, .int .i64 f, .int .i64 l, .int .i64 t], .agg #[.int .i64 wf, .int .i64 wl, .int .i64 wt], .agg #[.int .i64 xf, .int .i64 xl, .bool bg, .bool false, .bool true, .int .i64 xt, .bool true]] w fun e w' => e = .returned (.bool true) ∧ Below w.heap.size w w' := by
  have HT : takeF true f l t f l true false true xt true wf wl wt = (true, f, l, t, 2) := by
    unfold takeF tidF ofB
    simp
    try omega
  go_enter Try.func8, Try.ntmps8
  go_wp2_with fail
  (with_reducible refine (awake_any _).mono ?_)
  rintro e w1 ⟨rfl, hb⟩
  (try (have g0 := h0; clear h0 f0 c0))
  (try (have g1 := h1; clear h1 f1 c1))
  (try (have g2 := h2; clear h2 f2 c2))
  have hB := below_next (w := w) (by go_grown) hb
  have h0 : w1.heap[w.heap.size]? = some (.cells #[.bool on, .int .i64 f, .int .i64 l, .int .i64 t] 23 (0, 0)) := (hb.block (w.heap.size) (by first | omega | (simp; done) | (simp; omega))).trans (Eq.trans (b := some (Obj.cells _ _ (0, 0))) (by repeat (first | (with_reducible assumption) | (with_reducible apply heap_set_same) | ((with_reducible apply heap_set_other'); (focus (first | omega | (simp; done) | (simp; omega)))) | ((with_reducible apply heap_alloc_new); (focus (first | omega | (simp; done) | (simp; omega)))) | (with_reducible apply heap_alloc_old') | (with_reducible apply (heap_drew_at _ _).trans) | (with_reducible apply (heap_drewN_at _ _ _).trans))) (by exact rfl))
  have h1 : w1.heap[w.heap.size + 1]? = some (.cells #[.int .i64 wf, .int .i64 wl, .int .i64 wt] 27 (0, 0)) := (hb.block (w.heap.size + 1) (by first | omega | (simp; done) | (simp; omega))).trans (Eq.trans (b := some (Obj.cells _ _ (0, 0))) (by repeat (first | (with_reducible assumption) | (with_reducible apply heap_set_same) | ((with_reducible apply heap_set_other'); (focus (first | omega | (simp; done) | (simp; omega)))) | ((with_reducible apply heap_alloc_new); (focus (first | omega | (simp; done) | (simp; omega)))) | (with_reducible apply heap_alloc_old') | (with_reducible apply (heap_drew_at _ _).trans) | (with_reducible apply (heap_drewN_at _ _ _).trans))) (by exact rfl))
  have h2 : w1.heap[w.heap.size + 1 + 1]? = some (.cells #[.int .i64 xf, .int .i64 xl, .bool bg, .bool false, .bool true, .int .i64 xt, .bool true] 25 (0, 0)) := (hb.block (w.heap.size + 1 + 1) (by first | omega | (simp; done) | (simp; omega))).trans (Eq.trans (b := some (Obj.cells _ _ (0, 0))) (by repeat (first | (with_reducible assumption) | (with_reducible apply heap_set_same) | ((with_reducible apply heap_set_other'); (focus (first | omega | (simp; done) | (simp; omega)))) | ((with_reducible apply heap_alloc_new); (focus (first | omega | (simp; done) | (simp; omega)))) | (with_reducible apply heap_alloc_old') | (with_reducible apply (heap_drew_at _ _).trans) | (with_reducible apply (heap_drewN_at _ _ _).trans))) (by exact rfl))
  clear hb
  (try clear g0)
  obtain ⟨c0, f0, z0⟩ := blk_facts h0
  (try clear g1)
  obtain ⟨c1, f1, z1⟩ := blk_facts h1
  (try clear g2)
  obtain ⟨c2, f2, z2⟩ := blk_facts h2
  go_wp2_with fail
  (with_reducible refine (take_as HT _).mono ?_)
  rintro e w2 ⟨rfl, hb⟩
  (try (have g0 := h0; clear h0 f0 c0))
  (try (have g1 := h1; clear h1 f1 c1))
  (try (have g2 := h2; clear h2 f2 c2))
  have hB := below_next (w := w) (by go_grown) hb
  have h0 : w2.heap[w.heap.size]? = some (.cells #[.bool true, .int .i64 f, .int .i64 l, .int .i64 t] 23 (0, 0)) := (hb.block (w.heap.size) (by first | omega | (simp; done) | (simp; omega))).trans (Eq.trans (b := some (Obj.cells _ _ (0, 0))) (by repeat (first | (with_reducible assumption) | (with_reducible apply heap_set_same) | ((with_reducible apply heap_set_other'); (focus (first | omega | (simp; done) | (simp; omega)))) | ((with_reducible apply heap_alloc_new); (focus (first | omega | (simp; done) | (simp; omega)))) | (with_reducible apply heap_alloc_old') | (with_reducible apply (heap_drew_at _ _).trans) | (with_reducible apply (heap_drewN_at _ _ _).trans))) (by exact rfl))
  have h1 : w2.heap[w.heap.size + 1]? = some (.cells #[.int .i64 wf, .int .i64 wl, .int .i64 wt] 27 (0, 0)) := (hb.block (w.heap.size + 1) (by first | omega | (simp; done) | (simp; omega))).trans (Eq.trans (b := some (Obj.cells _ _ (0, 0))) (by repeat (first | (with_reducible assumption) | (with_reducible apply heap_set_same) | ((with_reducible apply heap_set_other'); (focus (first | omega | (simp; done) | (simp; omega)))) | ((with_reducible apply heap_alloc_new); (focus (first | omega | (simp; done) | (simp; omega)))) | (with_reducible apply heap_alloc_old') | (with_reducible apply (heap_drew_at _ _).trans) | (with_reducible apply (heap_drewN_at _ _ _).trans))) (by exact rfl))
  have h2 : w2.heap[w.heap.size + 1 + 1]? = some (.cells #[.int .i64 f, .int .i64 l, .bool true, .bool false, .bool true, .int .i64 xt, .bool true] 25 (0, 0)) := (hb.block (w.heap.size + 1 + 1) (by first | omega | (simp; done) | (simp; omega))).trans (Eq.trans (b := some (Obj.cells _ _ (0, 0))) (by repeat (first | (with_reducible assumption) | (with_reducible apply heap_set_same) | ((with_reducible apply heap_set_other'); (focus (first | omega | (simp; done) | (simp; omega)))) | ((with_reducible apply heap_alloc_new); (focus (first | omega | (simp; done) | (simp; omega)))) | (with_reducible apply heap_alloc_old') | (with_reducible apply (heap_drew_at _ _).trans) | (with_reducible apply (heap_drewN_at _ _ _).trans))) (by exact rfl))
  clear hb
  (try clear g0)
  obtain ⟨c0, f0, z0⟩ := blk_facts h0
  (try clear g1)
  obtain ⟨c1, f1, z1⟩ := blk_facts h1
  (try clear g2)
  obtain ⟨c2, f2, z2⟩ := blk_facts h2
  go_wp2_with fail
  all_goals (go_ret; first | exact ⟨rfl, by go_grown⟩ | (refine ⟨ret_bool ?_, by go_grown⟩; first | (simp; done) | (simp; omega)))
set_option maxRecDepth 100000 in
set_option maxHeartbeats 2000000 in
theorem lower_more_under (on bg : Bool) (f l t xf xl xt wf wl wt : Int) (w : World) (g : ¬ wt ≤ t) (h : ¬ t < xt) :
    Calls Try.prog 8 #[.agg #[.bool on, .int .i64 f, .int .i64 l, .int .i64 t], .agg #[.int .i64 wf, .int .i64 wl, .int .i64 wt], .agg #[.int .i64 xf, .int .i64 xl, .bool bg, .bool false, .bool true, .int .i64 xt, .bool true]] w fun e w' => e = .returned (.bool true) ∧ Below w.heap.size w w' := by
  have HT : takeF true f l t f l true false true xt true wf wl wt = (true, f, l, t, 1) := by
    unfold takeF tidF ofB
    simp
    try omega
  go_enter Try.func8, Try.ntmps8
  go_wp2_with fail
  (with_reducible refine (awake_any _).mono ?_)
  rintro e w1 ⟨rfl, hb⟩
  (try (have g0 := h0; clear h0 f0 c0))
  (try (have g1 := h1; clear h1 f1 c1))
  (try (have g2 := h2; clear h2 f2 c2))
  have hB := below_next (w := w) (by go_grown) hb
  have h0 : w1.heap[w.heap.size]? = some (.cells #[.bool on, .int .i64 f, .int .i64 l, .int .i64 t] 23 (0, 0)) := (hb.block (w.heap.size) (by first | omega | (simp; done) | (simp; omega))).trans (Eq.trans (b := some (Obj.cells _ _ (0, 0))) (by repeat (first | (with_reducible assumption) | (with_reducible apply heap_set_same) | ((with_reducible apply heap_set_other'); (focus (first | omega | (simp; done) | (simp; omega)))) | ((with_reducible apply heap_alloc_new); (focus (first | omega | (simp; done) | (simp; omega)))) | (with_reducible apply heap_alloc_old') | (with_reducible apply (heap_drew_at _ _).trans) | (with_reducible apply (heap_drewN_at _ _ _).trans))) (by exact rfl))
  have h1 : w1.heap[w.heap.size + 1]? = some (.cells #[.int .i64 wf, .int .i64 wl, .int .i64 wt] 27 (0, 0)) := (hb.block (w.heap.size + 1) (by first | omega | (simp; done) | (simp; omega))).trans (Eq.trans (b := some (Obj.cells _ _ (0, 0))) (by repeat (first | (with_reducible assumption) | (with_reducible apply heap_set_same) | ((with_reducible apply heap_set_other'); (focus (first | omega | (simp; done) | (simp; omega)))) | ((with_reducible apply heap_alloc_new); (focus (first | omega | (simp; done) | (simp; omega)))) | (with_reducible apply heap_alloc_old') | (with_reducible apply (heap_drew_at _ _).trans) | (with_reducible apply (heap_drewN_at _ _ _).trans))) (by exact rfl))
  have h2 : w1.heap[w.heap.size + 1 + 1]? = some (.cells #[.int .i64 xf, .int .i64 xl, .bool bg, .bool false, .bool true, .int .i64 xt, .bool true] 25 (0, 0)) := (hb.block (w.heap.size + 1 + 1) (by first | omega | (simp; done) | (simp; omega))).trans (Eq.trans (b := some (Obj.cells _ _ (0, 0))) (by repeat (first | (with_reducible assumption) | (with_reducible apply heap_set_same) | ((with_reducible apply heap_set_other'); (focus (first | omega | (simp; done) | (simp; omega)))) | ((with_reducible apply heap_alloc_new); (focus (first | omega | (simp; done) | (simp; omega)))) | (with_reducible apply heap_alloc_old') | (with_reducible apply (heap_drew_at _ _).trans) | (with_reducible apply (heap_drewN_at _ _ _).trans))) (by exact rfl))
  clear hb
  (try clear g0)
  obtain ⟨c0, f0, z0⟩ := blk_facts h0
  (try clear g1)
  obtain ⟨c1, f1, z1⟩ := blk_facts h1
  (try clear g2)
  obtain ⟨c2, f2, z2⟩ := blk_facts h2
  go_wp2_with fail
  (with_reducible refine (take_as HT _).mono ?_)
  rintro e w2 ⟨rfl, hb⟩
  (try (have g0 := h0; clear h0 f0 c0))
  (try (have g1 := h1; clear h1 f1 c1))
  (try (have g2 := h2; clear h2 f2 c2))
  have hB := below_next (w := w) (by go_grown) hb
  have h0 : w2.heap[w.heap.size]? = some (.cells #[.bool true, .int .i64 f, .int .i64 l, .int .i64 t] 23 (0, 0)) := (hb.block (w.heap.size) (by first | omega | (simp; done) | (simp; omega))).trans (Eq.trans (b := some (Obj.cells _ _ (0, 0))) (by repeat (first | (with_reducible assumption) | (with_reducible apply heap_set_same) | ((with_reducible apply heap_set_other'); (focus (first | omega | (simp; done) | (simp; omega)))) | ((with_reducible apply heap_alloc_new); (focus (first | omega | (simp; done) | (simp; omega)))) | (with_reducible apply heap_alloc_old') | (with_reducible apply (heap_drew_at _ _).trans) | (with_reducible apply (heap_drewN_at _ _ _).trans))) (by exact rfl))
  have h1 : w2.heap[w.heap.size + 1]? = some (.cells #[.int .i64 wf, .int .i64 wl, .int .i64 wt] 27 (0, 0)) := (hb.block (w.heap.size + 1) (by first | omega | (simp; done) | (simp; omega))).trans (Eq.trans (b := some (Obj.cells _ _ (0, 0))) (by repeat (first | (with_reducible assumption) | (with_reducible apply heap_set_same) | ((with_reducible apply heap_set_other'); (focus (first | omega | (simp; done) | (simp; omega)))) | ((with_reducible apply heap_alloc_new); (focus (first | omega | (simp; done) | (simp; omega)))) | (with_reducible apply heap_alloc_old') | (with_reducible apply (heap_drew_at _ _).trans) | (with_reducible apply (heap_drewN_at _ _ _).trans))) (by exact rfl))
  have h2 : w2.heap[w.heap.size + 1 + 1]? = some (.cells #[.int .i64 f, .int .i64 l, .bool true, .bool false, .bool true, .int .i64 xt, .bool true] 25 (0, 0)) := (hb.block (w.heap.size + 1 + 1) (by first | omega | (simp; done) | (simp; omega))).trans (Eq.trans (b := some (Obj.cells _ _ (0, 0))) (by repeat (first | (with_reducible assumption) | (with_reducible apply heap_set_same) | ((with_reducible apply heap_set_other'); (focus (first | omega | (simp; done) | (simp; omega)))) | ((with_reducible apply heap_alloc_new); (focus (first | omega | (simp; done) | (simp; omega)))) | (with_reducible apply heap_alloc_old') | (with_reducible apply (heap_drew_at _ _).trans) | (with_reducible apply (heap_drewN_at _ _ _).trans))) (by exact rfl))
  clear hb
  (try clear g0)
  obtain ⟨c0, f0, z0⟩ := blk_facts h0
  (try clear g1)
  obtain ⟨c1, f1, z1⟩ := blk_facts h1
  (try clear g2)
  obtain ⟨c2, f2, z2⟩ := blk_facts h2
  go_wp2_with fail
  all_goals (go_ret; first | exact ⟨rfl, by go_grown⟩ | (refine ⟨ret_bool ?_, by go_grown⟩; first | (simp; done) | (simp; omega)))
set_option maxRecDepth 100000 in
set_option maxHeartbeats 2000000 in
theorem lower_alone_over (on bg : Bool) (f l t xf xl xt wf wl wt : Int) (w : World) (g : ¬ wt ≤ t) (h : t < xt) :
    Calls Try.prog 8 #[.agg #[.bool on, .int .i64 f, .int .i64 l, .int .i64 t], .agg #[.int .i64 wf, .int .i64 wl, .int .i64 wt], .agg #[.int .i64 xf, .int .i64 xl, .bool bg, .bool false, .bool true, .int .i64 xt, .bool false]] w fun e w' => e = .returned (.bool true) ∧ Below w.heap.size w w' := by
  have HT : takeF true f l t f l true false true xt false wf wl wt = (true, f, l, t, 2) := by
    unfold takeF tidF ofB
    simp
    try omega
  go_enter Try.func8, Try.ntmps8
  go_wp2_with fail
  (with_reducible refine (awake_any _).mono ?_)
  rintro e w1 ⟨rfl, hb⟩
  (try (have g0 := h0; clear h0 f0 c0))
  (try (have g1 := h1; clear h1 f1 c1))
  (try (have g2 := h2; clear h2 f2 c2))
  have hB := below_next (w := w) (by go_grown) hb
  have h0 : w1.heap[w.heap.size]? = some (.cells #[.bool on, .int .i64 f, .int .i64 l, .int .i64 t] 23 (0, 0)) := (hb.block (w.heap.size) (by first | omega | (simp; done) | (simp; omega))).trans (Eq.trans (b := some (Obj.cells _ _ (0, 0))) (by repeat (first | (with_reducible assumption) | (with_reducible apply heap_set_same) | ((with_reducible apply heap_set_other'); (focus (first | omega | (simp; done) | (simp; omega)))) | ((with_reducible apply heap_alloc_new); (focus (first | omega | (simp; done) | (simp; omega)))) | (with_reducible apply heap_alloc_old') | (with_reducible apply (heap_drew_at _ _).trans) | (with_reducible apply (heap_drewN_at _ _ _).trans))) (by exact rfl))
  have h1 : w1.heap[w.heap.size + 1]? = some (.cells #[.int .i64 wf, .int .i64 wl, .int .i64 wt] 27 (0, 0)) := (hb.block (w.heap.size + 1) (by first | omega | (simp; done) | (simp; omega))).trans (Eq.trans (b := some (Obj.cells _ _ (0, 0))) (by repeat (first | (with_reducible assumption) | (with_reducible apply heap_set_same) | ((with_reducible apply heap_set_other'); (focus (first | omega | (simp; done) | (simp; omega)))) | ((with_reducible apply heap_alloc_new); (focus (first | omega | (simp; done) | (simp; omega)))) | (with_reducible apply heap_alloc_old') | (with_reducible apply (heap_drew_at _ _).trans) | (with_reducible apply (heap_drewN_at _ _ _).trans))) (by exact rfl))
  have h2 : w1.heap[w.heap.size + 1 + 1]? = some (.cells #[.int .i64 xf, .int .i64 xl, .bool bg, .bool false, .bool true, .int .i64 xt, .bool false] 25 (0, 0)) := (hb.block (w.heap.size + 1 + 1) (by first | omega | (simp; done) | (simp; omega))).trans (Eq.trans (b := some (Obj.cells _ _ (0, 0))) (by repeat (first | (with_reducible assumption) | (with_reducible apply heap_set_same) | ((with_reducible apply heap_set_other'); (focus (first | omega | (simp; done) | (simp; omega)))) | ((with_reducible apply heap_alloc_new); (focus (first | omega | (simp; done) | (simp; omega)))) | (with_reducible apply heap_alloc_old') | (with_reducible apply (heap_drew_at _ _).trans) | (with_reducible apply (heap_drewN_at _ _ _).trans))) (by exact rfl))
  clear hb
  (try clear g0)
  obtain ⟨c0, f0, z0⟩ := blk_facts h0
  (try clear g1)
  obtain ⟨c1, f1, z1⟩ := blk_facts h1
  (try clear g2)
  obtain ⟨c2, f2, z2⟩ := blk_facts h2
  go_wp2_with fail
  (with_reducible refine (take_as HT _).mono ?_)
  rintro e w2 ⟨rfl, hb⟩
  (try (have g0 := h0; clear h0 f0 c0))
  (try (have g1 := h1; clear h1 f1 c1))
  (try (have g2 := h2; clear h2 f2 c2))
  have hB := below_next (w := w) (by go_grown) hb
  have h0 : w2.heap[w.heap.size]? = some (.cells #[.bool true, .int .i64 f, .int .i64 l, .int .i64 t] 23 (0, 0)) := (hb.block (w.heap.size) (by first | omega | (simp; done) | (simp; omega))).trans (Eq.trans (b := some (Obj.cells _ _ (0, 0))) (by repeat (first | (with_reducible assumption) | (with_reducible apply heap_set_same) | ((with_reducible apply heap_set_other'); (focus (first | omega | (simp; done) | (simp; omega)))) | ((with_reducible apply heap_alloc_new); (focus (first | omega | (simp; done) | (simp; omega)))) | (with_reducible apply heap_alloc_old') | (with_reducible apply (heap_drew_at _ _).trans) | (with_reducible apply (heap_drewN_at _ _ _).trans))) (by exact rfl))
  have h1 : w2.heap[w.heap.size + 1]? = some (.cells #[.int .i64 wf, .int .i64 wl, .int .i64 wt] 27 (0, 0)) := (hb.block (w.heap.size + 1) (by first | omega | (simp; done) | (simp; omega))).trans (Eq.trans (b := some (Obj.cells _ _ (0, 0))) (by repeat (first | (with_reducible assumption) | (with_reducible apply heap_set_same) | ((with_reducible apply heap_set_other'); (focus (first | omega | (simp; done) | (simp; omega)))) | ((with_reducible apply heap_alloc_new); (focus (first | omega | (simp; done) | (simp; omega)))) | (with_reducible apply heap_alloc_old') | (with_reducible apply (heap_drew_at _ _).trans) | (with_reducible apply (heap_drewN_at _ _ _).trans))) (by exact rfl))
  have h2 : w2.heap[w.heap.size + 1 + 1]? = some (.cells #[.int .i64 f, .int .i64 l, .bool true, .bool false, .bool true, .int .i64 xt, .bool false] 25 (0, 0)) := (hb.block (w.heap.size + 1 + 1) (by first | omega | (simp; done) | (simp; omega))).trans (Eq.trans (b := some (Obj.cells _ _ (0, 0))) (by repeat (first | (with_reducible assumption) | (with_reducible apply heap_set_same) | ((with_reducible apply heap_set_other'); (focus (first | omega | (simp; done) | (simp; omega)))) | ((with_reducible apply heap_alloc_new); (focus (first | omega | (simp; done) | (simp; omega)))) | (with_reducible apply heap_alloc_old') | (with_reducible apply (heap_drew_at _ _).trans) | (with_reducible apply (heap_drewN_at _ _ _).trans))) (by exact rfl))
  clear hb
  (try clear g0)
  obtain ⟨c0, f0, z0⟩ := blk_facts h0
  (try clear g1)
  obtain ⟨c1, f1, z1⟩ := blk_facts h1
  (try clear g2)
  obtain ⟨c2, f2, z2⟩ := blk_facts h2
  go_wp2_with fail
  all_goals (go_ret; first | exact ⟨rfl, by go_grown⟩ | (refine ⟨ret_bool ?_, by go_grown⟩; first | (simp; done) | (simp; omega)))
set_option maxRecDepth 100000 in
set_option maxHeartbeats 2000000 in
theorem lower_alone_under (on bg : Bool) (f l t xf xl xt wf wl wt : Int) (w : World) (g : ¬ wt ≤ t) (h : ¬ t < xt) :
    Calls Try.prog 8 #[.agg #[.bool on, .int .i64 f, .int .i64 l, .int .i64 t], .agg #[.int .i64 wf, .int .i64 wl, .int .i64 wt], .agg #[.int .i64 xf, .int .i64 xl, .bool bg, .bool false, .bool true, .int .i64 xt, .bool false]] w fun e w' => e = .returned (.bool true) ∧ Below w.heap.size w w' := by
  have HT : takeF true f l t f l true false true xt false wf wl wt = (true, f, l, t, 1) := by
    unfold takeF tidF ofB
    simp
    try omega
  go_enter Try.func8, Try.ntmps8
  go_wp2_with fail
  (with_reducible refine (awake_any _).mono ?_)
  rintro e w1 ⟨rfl, hb⟩
  (try (have g0 := h0; clear h0 f0 c0))
  (try (have g1 := h1; clear h1 f1 c1))
  (try (have g2 := h2; clear h2 f2 c2))
  have hB := below_next (w := w) (by go_grown) hb
  have h0 : w1.heap[w.heap.size]? = some (.cells #[.bool on, .int .i64 f, .int .i64 l, .int .i64 t] 23 (0, 0)) := (hb.block (w.heap.size) (by first | omega | (simp; done) | (simp; omega))).trans (Eq.trans (b := some (Obj.cells _ _ (0, 0))) (by repeat (first | (with_reducible assumption) | (with_reducible apply heap_set_same) | ((with_reducible apply heap_set_other'); (focus (first | omega | (simp; done) | (simp; omega)))) | ((with_reducible apply heap_alloc_new); (focus (first | omega | (simp; done) | (simp; omega)))) | (with_reducible apply heap_alloc_old') | (with_reducible apply (heap_drew_at _ _).trans) | (with_reducible apply (heap_drewN_at _ _ _).trans))) (by exact rfl))
  have h1 : w1.heap[w.heap.size + 1]? = some (.cells #[.int .i64 wf, .int .i64 wl, .int .i64 wt] 27 (0, 0)) := (hb.block (w.heap.size + 1) (by first | omega | (simp; done) | (simp; omega))).trans (Eq.trans (b := some (Obj.cells _ _ (0, 0))) (by repeat (first | (with_reducible assumption) | (with_reducible apply heap_set_same) | ((with_reducible apply heap_set_other'); (focus (first | omega | (simp; done) | (simp; omega)))) | ((with_reducible apply heap_alloc_new); (focus (first | omega | (simp; done) | (simp; omega)))) | (with_reducible apply heap_alloc_old') | (with_reducible apply (heap_drew_at _ _).trans) | (with_reducible apply (heap_drewN_at _ _ _).trans))) (by exact rfl))
  have h2 : w1.heap[w.heap.size + 1 + 1]? = some (.cells #[.int .i64 xf, .int .i64 xl, .bool bg, .bool false, .bool true, .int .i64 xt, .bool false] 25 (0, 0)) := (hb.block (w.heap.size + 1 + 1) (by first | omega | (simp; done) | (simp; omega))).trans (Eq.trans (b := some (Obj.cells _ _ (0, 0))) (by repeat (first | (with_reducible assumption) | (with_reducible apply heap_set_same) | ((with_reducible apply heap_set_other'); (focus (first | omega | (simp; done) | (simp; omega)))) | ((with_reducible apply heap_alloc_new); (focus (first | omega | (simp; done) | (simp; omega)))) | (with_reducible apply heap_alloc_old') | (with_reducible apply (heap_drew_at _ _).trans) | (with_reducible apply (heap_drewN_at _ _ _).trans))) (by exact rfl))
  clear hb
  (try clear g0)
  obtain ⟨c0, f0, z0⟩ := blk_facts h0
  (try clear g1)
  obtain ⟨c1, f1, z1⟩ := blk_facts h1
  (try clear g2)
  obtain ⟨c2, f2, z2⟩ := blk_facts h2
  go_wp2_with fail
  (with_reducible refine (take_as HT _).mono ?_)
  rintro e w2 ⟨rfl, hb⟩
  (try (have g0 := h0; clear h0 f0 c0))
  (try (have g1 := h1; clear h1 f1 c1))
  (try (have g2 := h2; clear h2 f2 c2))
  have hB := below_next (w := w) (by go_grown) hb
  have h0 : w2.heap[w.heap.size]? = some (.cells #[.bool true, .int .i64 f, .int .i64 l, .int .i64 t] 23 (0, 0)) := (hb.block (w.heap.size) (by first | omega | (simp; done) | (simp; omega))).trans (Eq.trans (b := some (Obj.cells _ _ (0, 0))) (by repeat (first | (with_reducible assumption) | (with_reducible apply heap_set_same) | ((with_reducible apply heap_set_other'); (focus (first | omega | (simp; done) | (simp; omega)))) | ((with_reducible apply heap_alloc_new); (focus (first | omega | (simp; done) | (simp; omega)))) | (with_reducible apply heap_alloc_old') | (with_reducible apply (heap_drew_at _ _).trans) | (with_reducible apply (heap_drewN_at _ _ _).trans))) (by exact rfl))
  have h1 : w2.heap[w.heap.size + 1]? = some (.cells #[.int .i64 wf, .int .i64 wl, .int .i64 wt] 27 (0, 0)) := (hb.block (w.heap.size + 1) (by first | omega | (simp; done) | (simp; omega))).trans (Eq.trans (b := some (Obj.cells _ _ (0, 0))) (by repeat (first | (with_reducible assumption) | (with_reducible apply heap_set_same) | ((with_reducible apply heap_set_other'); (focus (first | omega | (simp; done) | (simp; omega)))) | ((with_reducible apply heap_alloc_new); (focus (first | omega | (simp; done) | (simp; omega)))) | (with_reducible apply heap_alloc_old') | (with_reducible apply (heap_drew_at _ _).trans) | (with_reducible apply (heap_drewN_at _ _ _).trans))) (by exact rfl))
  have h2 : w2.heap[w.heap.size + 1 + 1]? = some (.cells #[.int .i64 f, .int .i64 l, .bool true, .bool false, .bool true, .int .i64 xt, .bool false] 25 (0, 0)) := (hb.block (w.heap.size + 1 + 1) (by first | omega | (simp; done) | (simp; omega))).trans (Eq.trans (b := some (Obj.cells _ _ (0, 0))) (by repeat (first | (with_reducible assumption) | (with_reducible apply heap_set_same) | ((with_reducible apply heap_set_other'); (focus (first | omega | (simp; done) | (simp; omega)))) | ((with_reducible apply heap_alloc_new); (focus (first | omega | (simp; done) | (simp; omega)))) | (with_reducible apply heap_alloc_old') | (with_reducible apply (heap_drew_at _ _).trans) | (with_reducible apply (heap_drewN_at _ _ _).trans))) (by exact rfl))
  clear hb
  (try clear g0)
  obtain ⟨c0, f0, z0⟩ := blk_facts h0
  (try clear g1)
  obtain ⟨c1, f1, z1⟩ := blk_facts h1
  (try clear g2)
  obtain ⟨c2, f2, z2⟩ := blk_facts h2
  go_wp2_with fail
  all_goals (go_ret; first | exact ⟨rfl, by go_grown⟩ | (refine ⟨ret_bool ?_, by go_grown⟩; first | (simp; done) | (simp; omega)))
theorem lower_walk (on : Bool) (f l t : Int) (xf xl : Int) (bg wh ht : Bool) (xt : Int) (sy : Bool) (wf wl wt : Int) (w : World) : Calls Try.prog 8 #[.agg #[.bool on, .int .i64 f, .int .i64 l, .int .i64 t], .agg #[.int .i64 wf, .int .i64 wl, .int .i64 wt], .agg #[.int .i64 xf, .int .i64 xl, .bool bg, .bool wh, .bool ht, .int .i64 xt, .bool sy]] w fun e w' => e = .returned (.bool true) ∧ Below w.heap.size w w' := by
  cases wh with
  | true =>
    cases ht with
    | false => exact lower_whole_none _ _ _ _ _ _ _ _ _ _ _ _ _
    | true =>
      by_cases h : wt < xt
      · exact lower_whole_over _ _ _ _ _ _ _ _ _ _ _ _ _ h
      · exact lower_whole_up _ _ _ _ _ _ _ _ _ _ _ _ _ h
  | false =>
    by_cases g : wt ≤ t
    · cases ht with
      | false => exact lower_less_none _ _ _ _ _ _ _ _ _ _ _ _ _ g
      | true =>
        by_cases h : wt < xt
        · exact lower_less_over _ _ _ _ _ _ _ _ _ _ _ _ _ g h
        · exact lower_less_up _ _ _ _ _ _ _ _ _ _ _ _ _ g h
    · cases ht with
      | false => exact lower_more_none _ _ _ _ _ _ _ _ _ _ _ _ _ g
      | true =>
        cases sy with
        | false =>
          by_cases h : t < xt
          · exact lower_alone_over _ _ _ _ _ _ _ _ _ _ _ _ g h
          · exact lower_alone_under _ _ _ _ _ _ _ _ _ _ _ _ g h
        | true =>
          by_cases h : t < xt
          · by_cases h2 : xt ≤ wt
            · exact lower_more_sync _ _ _ _ _ _ _ _ _ _ _ _ g h h2
            · exact lower_more_over _ _ _ _ _ _ _ _ _ _ _ _ g h h2
          · exact lower_more_under _ _ _ _ _ _ _ _ _ _ _ _ g h
end Go.Proofs.Ytiajgdpceedmlaa
