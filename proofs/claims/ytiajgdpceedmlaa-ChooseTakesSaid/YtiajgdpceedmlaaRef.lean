/- What the reference of package choose computes, and the laws' own small functions. -/
import Derived.Test.YtiajgdpceedmlaaTake
namespace Go.Proofs.Ytiajgdpceedmlaa
set_option linter.unusedSimpArgs false
set_option linter.unusedVariables false
open Go.RowKit
theorem of_is (on : Bool) (f l t : Int) (w : World) : Calls Try.prog 12 #[.agg #[.bool on, .int .i64 f, .int .i64 l, .int .i64 t]] w fun e w' => e = .returned (.agg #[.bool on, .int .i64 f, .int .i64 l, .int .i64 t]) ∧ Below w.heap.size w w' := by
  go_enter Try.func12, Try.ntmps12
  go_wp2
  (try simp only [Exit.inBlock, Exit.then])
  refine ret_cell rfl rfl Try.underlying31 rfl rfl ⟨_, _, (by repeat (first | (with_reducible assumption) | (with_reducible apply heap_set_same) | ((with_reducible apply heap_set_other'); (focus (first | omega | (simp; done) | (simp; omega)))) | ((with_reducible apply heap_alloc_new); (focus (first | omega | (simp; done) | (simp; omega)))) | (with_reducible apply heap_alloc_old') | (with_reducible apply (heap_drew_at _ _).trans) | (with_reducible apply (heap_drewN_at _ _ _).trans))), (by kernel_rfl), ?_, by go_grown⟩
  rfl
theorem in_is (xf xl : Int) (bg wh ht : Bool) (xt : Int) (sy : Bool) (w : World) : Calls Try.prog 13 #[.agg #[.int .i64 xf, .int .i64 xl, .bool bg, .bool wh, .bool ht, .int .i64 xt, .bool sy]] w fun e w' => e = .returned (.agg #[.int .i64 xf, .int .i64 xl, .bool bg, .bool wh, .bool ht, .int .i64 xt, .bool sy]) ∧ Below w.heap.size w w' := by
  go_enter Try.func13, Try.ntmps13
  go_wp2
  (try simp only [Exit.inBlock, Exit.then])
  refine ret_cell rfl rfl Try.underlying35 rfl rfl ⟨_, _, (by repeat (first | (with_reducible assumption) | (with_reducible apply heap_set_same) | ((with_reducible apply heap_set_other'); (focus (first | omega | (simp; done) | (simp; omega)))) | ((with_reducible apply heap_alloc_new); (focus (first | omega | (simp; done) | (simp; omega)))) | (with_reducible apply heap_alloc_old') | (with_reducible apply (heap_drew_at _ _).trans) | (with_reducible apply (heap_drewN_at _ _ _).trans))), (by kernel_rfl), ?_, by go_grown⟩
  rfl
theorem want_is (wf wl wt : Int) (w : World) : Calls Try.prog 14 #[.agg #[.int .i64 wf, .int .i64 wl, .int .i64 wt]] w fun e w' => e = .returned (.agg #[.int .i64 wf, .int .i64 wl, .int .i64 wt]) ∧ Below w.heap.size w w' := by
  go_enter Try.func14, Try.ntmps14
  go_wp2
  (try simp only [Exit.inBlock, Exit.then])
  refine ret_cell rfl rfl Try.underlying37 rfl rfl ⟨_, _, (by repeat (first | (with_reducible assumption) | (with_reducible apply heap_set_same) | ((with_reducible apply heap_set_other'); (focus (first | omega | (simp; done) | (simp; omega)))) | ((with_reducible apply heap_alloc_new); (focus (first | omega | (simp; done) | (simp; omega)))) | (with_reducible apply heap_alloc_old') | (with_reducible apply (heap_drew_at _ _).trans) | (with_reducible apply (heap_drewN_at _ _ _).trans))), (by kernel_rfl), ?_, by go_grown⟩
  rfl
theorem refAsks (on : Bool) (f l t : Int) (wf wl wt : Int) (w : World) : Calls Try.prog 16 #[.agg #[.bool on, .int .i64 f, .int .i64 l, .int .i64 t], .agg #[.int .i64 wf, .int .i64 wl, .int .i64 wt]] w fun e w' => e = .returned (.bool (!ofB on f l wf wl)) ∧ Below w.heap.size w w' := by
  go_enter Try.func16, Try.ntmps16
  go_wp2
  all_goals
    go_ret
    refine ⟨ret_bool ?_, by go_grown⟩
    go_light
    rw [Bool.eq_iff_iff]
    simp only [ofB, Bool.not_eq_true', Bool.and_eq_false_iff, beq_eq_false_iff_ne, bne_iff_ne, ne_eq, iff_true, true_iff]
    first
      | (simp_all; done)
      | (simp_all; omega)
end Go.Proofs.Ytiajgdpceedmlaa
