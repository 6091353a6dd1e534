/- What the reference Take computes, case by case. -/
import Derived.Test.YtiajgdpceedmlaaRef
namespace Go.Proofs.Ytiajgdpceedmlaa
set_option linter.unusedSimpArgs false
set_option linter.unusedVariables false
open Go.RowKit
set_option maxHeartbeats 1000000 in
theorem rt_o_0 (on : Bool) (f l t xf xl : Int) (bg wh ht : Bool) (xt : Int) (sy : Bool) (wf wl wt : Int) (w : World)  : Calls Try.prog 11 #[.agg #[.bool true, .int .i64 f, .int .i64 l, .int .i64 t], .agg #[.int .i64 f, .int .i64 l, .bool bg, .bool wh, .bool ht, .int .i64 xt, .bool sy], .agg #[.int .i64 f, .int .i64 l, .int .i64 wt]] w fun e w' => TookB (takeF true f l t f l bg wh ht xt sy f l wt) e ∧ Below w.heap.size w w' := by
  go_enter Try.func11, Try.ntmps11
  go_wp2
  all_goals
    (try simp only [Exit.inBlock, Exit.then])
    refine ret_cell_tmp rfl rfl Try.underlying31 rfl rfl ⟨_, _, (by repeat (first | (with_reducible assumption) | (with_reducible apply heap_set_same) | ((with_reducible apply heap_set_other'); (focus (first | omega | (simp; done) | (simp; omega)))) | ((with_reducible apply heap_alloc_new); (focus (first | omega | (simp; done) | (simp; omega)))) | (with_reducible apply heap_alloc_old') | (with_reducible apply (heap_drew_at _ _).trans) | (with_reducible apply (heap_drewN_at _ _ _).trans))), (by kernel_rfl), ?_, by go_grown⟩
    go_light
    unfold TookB takeF
    refine ret_is ?_
    simp only [ofB]
    unfold tidF
    first
      | (simp_all; done)
      | (simp_all; omega)
set_option maxHeartbeats 1000000 in
theorem rt_o_1 (on : Bool) (f l t xf xl : Int) (bg wh ht : Bool) (xt : Int) (sy : Bool) (wf wl wt : Int) (w : World) (q1 : (f == wf) = false) : Calls Try.prog 11 #[.agg #[.bool true, .int .i64 f, .int .i64 l, .int .i64 t], .agg #[.int .i64 f, .int .i64 l, .bool bg, .bool wh, .bool ht, .int .i64 xt, .bool sy], .agg #[.int .i64 wf, .int .i64 wl, .int .i64 wt]] w fun e w' => TookB (takeF true f l t f l bg wh ht xt sy wf wl wt) e ∧ Below w.heap.size w w' := by
  go_enter Try.func11, Try.ntmps11
  go_wp2
  all_goals
    (try simp only [Exit.inBlock, Exit.then])
    refine ret_cell_tmp rfl rfl Try.underlying31 rfl rfl ⟨_, _, (by repeat (first | (with_reducible assumption) | (with_reducible apply heap_set_same) | ((with_reducible apply heap_set_other'); (focus (first | omega | (simp; done) | (simp; omega)))) | ((with_reducible apply heap_alloc_new); (focus (first | omega | (simp; done) | (simp; omega)))) | (with_reducible apply heap_alloc_old') | (with_reducible apply (heap_drew_at _ _).trans) | (with_reducible apply (heap_drewN_at _ _ _).trans))), (by kernel_rfl), ?_, by go_grown⟩
    go_light
    unfold TookB takeF
    refine ret_is ?_
    simp only [ofB]
    unfold tidF
    first
      | (simp_all; done)
      | (simp_all; omega)
set_option maxHeartbeats 1000000 in
theorem rt_o_2 (on : Bool) (f l t xf xl : Int) (bg wh ht : Bool) (xt : Int) (sy : Bool) (wf wl wt : Int) (w : World) (q2 : (l == wl) = false) : Calls Try.prog 11 #[.agg #[.bool true, .int .i64 f, .int .i64 l, .int .i64 t], .agg #[.int .i64 f, .int .i64 l, .bool bg, .bool wh, .bool ht, .int .i64 xt, .bool sy], .agg #[.int .i64 f, .int .i64 wl, .int .i64 wt]] w fun e w' => TookB (takeF true f l t f l bg wh ht xt sy f wl wt) e ∧ Below w.heap.size w w' := by
  go_enter Try.func11, Try.ntmps11
  go_wp2
  all_goals
    (try simp only [Exit.inBlock, Exit.then])
    refine ret_cell_tmp rfl rfl Try.underlying31 rfl rfl ⟨_, _, (by repeat (first | (with_reducible assumption) | (with_reducible apply heap_set_same) | ((with_reducible apply heap_set_other'); (focus (first | omega | (simp; done) | (simp; omega)))) | ((with_reducible apply heap_alloc_new); (focus (first | omega | (simp; done) | (simp; omega)))) | (with_reducible apply heap_alloc_old') | (with_reducible apply (heap_drew_at _ _).trans) | (with_reducible apply (heap_drewN_at _ _ _).trans))), (by kernel_rfl), ?_, by go_grown⟩
    go_light
    unfold TookB takeF
    refine ret_is ?_
    simp only [ofB]
    unfold tidF
    first
      | (simp_all; done)
      | (simp_all; omega)
set_option maxHeartbeats 1000000 in
theorem rt_n1_0 (on : Bool) (f l t xf xl : Int) (bg wh ht : Bool) (xt : Int) (sy : Bool) (wf wl wt : Int) (w : World)  : Calls Try.prog 11 #[.agg #[.bool false, .int .i64 f, .int .i64 l, .int .i64 t], .agg #[.int .i64 xf, .int .i64 xl, .bool bg, .bool wh, .bool ht, .int .i64 xt, .bool sy], .agg #[.int .i64 xf, .int .i64 xl, .int .i64 wt]] w fun e w' => TookB (takeF false f l t xf xl bg wh ht xt sy xf xl wt) e ∧ Below w.heap.size w w' := by
  go_enter Try.func11, Try.ntmps11
  go_wp2
  all_goals
    (try simp only [Exit.inBlock, Exit.then])
    refine ret_cell_tmp rfl rfl Try.underlying31 rfl rfl ⟨_, _, (by repeat (first | (with_reducible assumption) | (with_reducible apply heap_set_same) | ((with_reducible apply heap_set_other'); (focus (first | omega | (simp; done) | (simp; omega)))) | ((with_reducible apply heap_alloc_new); (focus (first | omega | (simp; done) | (simp; omega)))) | (with_reducible apply heap_alloc_old') | (with_reducible apply (heap_drew_at _ _).trans) | (with_reducible apply (heap_drewN_at _ _ _).trans))), (by kernel_rfl), ?_, by go_grown⟩
    go_light
    unfold TookB takeF
    refine ret_is ?_
    simp only [ofB]
    unfold tidF
    first
      | (simp_all; done)
      | (simp_all; omega)
set_option maxHeartbeats 1000000 in
theorem rt_n1_1 (on : Bool) (f l t xf xl : Int) (bg wh ht : Bool) (xt : Int) (sy : Bool) (wf wl wt : Int) (w : World) (q1 : (xf == wf) = false) : Calls Try.prog 11 #[.agg #[.bool false, .int .i64 f, .int .i64 l, .int .i64 t], .agg #[.int .i64 xf, .int .i64 xl, .bool bg, .bool wh, .bool ht, .int .i64 xt, .bool sy], .agg #[.int .i64 wf, .int .i64 wl, .int .i64 wt]] w fun e w' => TookB (takeF false f l t xf xl bg wh ht xt sy wf wl wt) e ∧ Below w.heap.size w w' := by
  go_enter Try.func11, Try.ntmps11
  go_wp2
  all_goals
    (try simp only [Exit.inBlock, Exit.then])
    refine ret_cell_tmp rfl rfl Try.underlying31 rfl rfl ⟨_, _, (by repeat (first | (with_reducible assumption) | (with_reducible apply heap_set_same) | ((with_reducible apply heap_set_other'); (focus (first | omega | (simp; done) | (simp; omega)))) | ((with_reducible apply heap_alloc_new); (focus (first | omega | (simp; done) | (simp; omega)))) | (with_reducible apply heap_alloc_old') | (with_reducible apply (heap_drew_at _ _).trans) | (with_reducible apply (heap_drewN_at _ _ _).trans))), (by kernel_rfl), ?_, by go_grown⟩
    go_light
    unfold TookB takeF
    refine ret_is ?_
    simp only [ofB]
    unfold tidF
    first
      | (simp_all; done)
      | (simp_all; omega)
set_option maxHeartbeats 1000000 in
theorem rt_n1_2 (on : Bool) (f l t xf xl : Int) (bg wh ht : Bool) (xt : Int) (sy : Bool) (wf wl wt : Int) (w : World) (q2 : (xl == wl) = false) : Calls Try.prog 11 #[.agg #[.bool false, .int .i64 f, .int .i64 l, .int .i64 t], .agg #[.int .i64 xf, .int .i64 xl, .bool bg, .bool wh, .bool ht, .int .i64 xt, .bool sy], .agg #[.int .i64 xf, .int .i64 wl, .int .i64 wt]] w fun e w' => TookB (takeF false f l t xf xl bg wh ht xt sy xf wl wt) e ∧ Below w.heap.size w w' := by
  go_enter Try.func11, Try.ntmps11
  go_wp2
  all_goals
    (try simp only [Exit.inBlock, Exit.then])
    refine ret_cell_tmp rfl rfl Try.underlying31 rfl rfl ⟨_, _, (by repeat (first | (with_reducible assumption) | (with_reducible apply heap_set_same) | ((with_reducible apply heap_set_other'); (focus (first | omega | (simp; done) | (simp; omega)))) | ((with_reducible apply heap_alloc_new); (focus (first | omega | (simp; done) | (simp; omega)))) | (with_reducible apply heap_alloc_old') | (with_reducible apply (heap_drew_at _ _).trans) | (with_reducible apply (heap_drewN_at _ _ _).trans))), (by kernel_rfl), ?_, by go_grown⟩
    go_light
    unfold TookB takeF
    refine ret_is ?_
    simp only [ofB]
    unfold tidF
    first
      | (simp_all; done)
      | (simp_all; omega)
set_option maxHeartbeats 1000000 in
theorem rt_n2_0 (on : Bool) (f l t xf xl : Int) (bg wh ht : Bool) (xt : Int) (sy : Bool) (wf wl wt : Int) (w : World) (p1 : (xf == f) = false) : Calls Try.prog 11 #[.agg #[.bool true, .int .i64 f, .int .i64 l, .int .i64 t], .agg #[.int .i64 xf, .int .i64 xl, .bool bg, .bool wh, .bool ht, .int .i64 xt, .bool sy], .agg #[.int .i64 xf, .int .i64 xl, .int .i64 wt]] w fun e w' => TookB (takeF true f l t xf xl bg wh ht xt sy xf xl wt) e ∧ Below w.heap.size w w' := by
  go_enter Try.func11, Try.ntmps11
  go_wp2
  all_goals
    (try simp only [Exit.inBlock, Exit.then])
    refine ret_cell_tmp rfl rfl Try.underlying31 rfl rfl ⟨_, _, (by repeat (first | (with_reducible assumption) | (with_reducible apply heap_set_same) | ((with_reducible apply heap_set_other'); (focus (first | omega | (simp; done) | (simp; omega)))) | ((with_reducible apply heap_alloc_new); (focus (first | omega | (simp; done) | (simp; omega)))) | (with_reducible apply heap_alloc_old') | (with_reducible apply (heap_drew_at _ _).trans) | (with_reducible apply (heap_drewN_at _ _ _).trans))), (by kernel_rfl), ?_, by go_grown⟩
    go_light
    unfold TookB takeF
    refine ret_is ?_
    simp only [ofB]
    unfold tidF
    first
      | (simp_all; done)
      | (simp_all; omega)
set_option maxHeartbeats 1000000 in
theorem rt_n2_1 (on : Bool) (f l t xf xl : Int) (bg wh ht : Bool) (xt : Int) (sy : Bool) (wf wl wt : Int) (w : World) (p1 : (xf == f) = false) (q1 : (xf == wf) = false) : Calls Try.prog 11 #[.agg #[.bool true, .int .i64 f, .int .i64 l, .int .i64 t], .agg #[.int .i64 xf, .int .i64 xl, .bool bg, .bool wh, .bool ht, .int .i64 xt, .bool sy], .agg #[.int .i64 wf, .int .i64 wl, .int .i64 wt]] w fun e w' => TookB (takeF true f l t xf xl bg wh ht xt sy wf wl wt) e ∧ Below w.heap.size w w' := by
  go_enter Try.func11, Try.ntmps11
  go_wp2
  all_goals
    (try simp only [Exit.inBlock, Exit.then])
    refine ret_cell_tmp rfl rfl Try.underlying31 rfl rfl ⟨_, _, (by repeat (first | (with_reducible assumption) | (with_reducible apply heap_set_same) | ((with_reducible apply heap_set_other'); (focus (first | omega | (simp; done) | (simp; omega)))) | ((with_reducible apply heap_alloc_new); (focus (first | omega | (simp; done) | (simp; omega)))) | (with_reducible apply heap_alloc_old') | (with_reducible apply (heap_drew_at _ _).trans) | (with_reducible apply (heap_drewN_at _ _ _).trans))), (by kernel_rfl), ?_, by go_grown⟩
    go_light
    unfold TookB takeF
    refine ret_is ?_
    simp only [ofB]
    unfold tidF
    first
      | (simp_all; done)
      | (simp_all; omega)
set_option maxHeartbeats 1000000 in
theorem rt_n2_2 (on : Bool) (f l t xf xl : Int) (bg wh ht : Bool) (xt : Int) (sy : Bool) (wf wl wt : Int) (w : World) (p1 : (xf == f) = false) (q2 : (xl == wl) = false) : Calls Try.prog 11 #[.agg #[.bool true, .int .i64 f, .int .i64 l, .int .i64 t], .agg #[.int .i64 xf, .int .i64 xl, .bool bg, .bool wh, .bool ht, .int .i64 xt, .bool sy], .agg #[.int .i64 xf, .int .i64 wl, .int .i64 wt]] w fun e w' => TookB (takeF true f l t xf xl bg wh ht xt sy xf wl wt) e ∧ Below w.heap.size w w' := by
  go_enter Try.func11, Try.ntmps11
  go_wp2
  all_goals
    (try simp only [Exit.inBlock, Exit.then])
    refine ret_cell_tmp rfl rfl Try.underlying31 rfl rfl ⟨_, _, (by repeat (first | (with_reducible assumption) | (with_reducible apply heap_set_same) | ((with_reducible apply heap_set_other'); (focus (first | omega | (simp; done) | (simp; omega)))) | ((with_reducible apply heap_alloc_new); (focus (first | omega | (simp; done) | (simp; omega)))) | (with_reducible apply heap_alloc_old') | (with_reducible apply (heap_drew_at _ _).trans) | (with_reducible apply (heap_drewN_at _ _ _).trans))), (by kernel_rfl), ?_, by go_grown⟩
    go_light
    unfold TookB takeF
    refine ret_is ?_
    simp only [ofB]
    unfold tidF
    first
      | (simp_all; done)
      | (simp_all; omega)
set_option maxHeartbeats 1000000 in
theorem rt_n3_0 (on : Bool) (f l t xf xl : Int) (bg wh ht : Bool) (xt : Int) (sy : Bool) (wf wl wt : Int) (w : World) (p2 : (xl == l) = false) : Calls Try.prog 11 #[.agg #[.bool true, .int .i64 f, .int .i64 l, .int .i64 t], .agg #[.int .i64 f, .int .i64 xl, .bool bg, .bool wh, .bool ht, .int .i64 xt, .bool sy], .agg #[.int .i64 f, .int .i64 xl, .int .i64 wt]] w fun e w' => TookB (takeF true f l t f xl bg wh ht xt sy f xl wt) e ∧ Below w.heap.size w w' := by
  go_enter Try.func11, Try.ntmps11
  go_wp2
  all_goals
    (try simp only [Exit.inBlock, Exit.then])
    refine ret_cell_tmp rfl rfl Try.underlying31 rfl rfl ⟨_, _, (by repeat (first | (with_reducible assumption) | (with_reducible apply heap_set_same) | ((with_reducible apply heap_set_other'); (focus (first | omega | (simp; done) | (simp; omega)))) | ((with_reducible apply heap_alloc_new); (focus (first | omega | (simp; done) | (simp; omega)))) | (with_reducible apply heap_alloc_old') | (with_reducible apply (heap_drew_at _ _).trans) | (with_reducible apply (heap_drewN_at _ _ _).trans))), (by kernel_rfl), ?_, by go_grown⟩
    go_light
    unfold TookB takeF
    refine ret_is ?_
    simp only [ofB]
    unfold tidF
    first
      | (simp_all; done)
      | (simp_all; omega)
set_option maxHeartbeats 1000000 in
theorem rt_n3_1 (on : Bool) (f l t xf xl : Int) (bg wh ht : Bool) (xt : Int) (sy : Bool) (wf wl wt : Int) (w : World) (p2 : (xl == l) = false) (q1 : (f == wf) = false) : Calls Try.prog 11 #[.agg #[.bool true, .int .i64 f, .int .i64 l, .int .i64 t], .agg #[.int .i64 f, .int .i64 xl, .bool bg, .bool wh, .bool ht, .int .i64 xt, .bool sy], .agg #[.int .i64 wf, .int .i64 wl, .int .i64 wt]] w fun e w' => TookB (takeF true f l t f xl bg wh ht xt sy wf wl wt) e ∧ Below w.heap.size w w' := by
  go_enter Try.func11, Try.ntmps11
  go_wp2
  all_goals
    (try simp only [Exit.inBlock, Exit.then])
    refine ret_cell_tmp rfl rfl Try.underlying31 rfl rfl ⟨_, _, (by repeat (first | (with_reducible assumption) | (with_reducible apply heap_set_same) | ((with_reducible apply heap_set_other'); (focus (first | omega | (simp; done) | (simp; omega)))) | ((with_reducible apply heap_alloc_new); (focus (first | omega | (simp; done) | (simp; omega)))) | (with_reducible apply heap_alloc_old') | (with_reducible apply (heap_drew_at _ _).trans) | (with_reducible apply (heap_drewN_at _ _ _).trans))), (by kernel_rfl), ?_, by go_grown⟩
    go_light
    unfold TookB takeF
    refine ret_is ?_
    simp only [ofB]
    unfold tidF
    first
      | (simp_all; done)
      | (simp_all; omega)
set_option maxHeartbeats 1000000 in
theorem rt_n3_2 (on : Bool) (f l t xf xl : Int) (bg wh ht : Bool) (xt : Int) (sy : Bool) (wf wl wt : Int) (w : World) (p2 : (xl == l) = false) (q2 : (xl == wl) = false) : Calls Try.prog 11 #[.agg #[.bool true, .int .i64 f, .int .i64 l, .int .i64 t], .agg #[.int .i64 f, .int .i64 xl, .bool bg, .bool wh, .bool ht, .int .i64 xt, .bool sy], .agg #[.int .i64 f, .int .i64 wl, .int .i64 wt]] w fun e w' => TookB (takeF true f l t f xl bg wh ht xt sy f wl wt) e ∧ Below w.heap.size w w' := by
  go_enter Try.func11, Try.ntmps11
  go_wp2
  all_goals
    (try simp only [Exit.inBlock, Exit.then])
    refine ret_cell_tmp rfl rfl Try.underlying31 rfl rfl ⟨_, _, (by repeat (first | (with_reducible assumption) | (with_reducible apply heap_set_same) | ((with_reducible apply heap_set_other'); (focus (first | omega | (simp; done) | (simp; omega)))) | ((with_reducible apply heap_alloc_new); (focus (first | omega | (simp; done) | (simp; omega)))) | (with_reducible apply heap_alloc_old') | (with_reducible apply (heap_drew_at _ _).trans) | (with_reducible apply (heap_drewN_at _ _ _).trans))), (by kernel_rfl), ?_, by go_grown⟩
    go_light
    unfold TookB takeF
    refine ret_is ?_
    simp only [ofB]
    unfold tidF
    first
      | (simp_all; done)
      | (simp_all; omega)
end Go.Proofs.Ytiajgdpceedmlaa
