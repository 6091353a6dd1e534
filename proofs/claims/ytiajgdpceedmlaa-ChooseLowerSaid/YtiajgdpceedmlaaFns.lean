/- What the functions of package choose compute: which stream, which temporal layer, what is asked for. -/
import Derived.Test.YtiajgdpceedmlaaMem
import Derived.Test.YtiajgdpceedmlaaPlain
namespace Go.Proofs.Ytiajgdpceedmlaa
set_option linter.unusedSimpArgs false
set_option linter.unusedVariables false
open Go.RowKit

theorem of_any (on : Bool) (f l t xf xl : Int) (w : World) :
    Calls Try.prog 17 #[.agg #[.bool on, .int .i64 f, .int .i64 l, .int .i64 t], .agg #[.int .i64 xf, .int .i64 xl]] w fun e w' => e = .returned (.bool (ofB on f l xf xl)) ∧ Below w.heap.size w w' := by
  go_enter Try.func17, Try.ntmps17
  go_wp2
  all_goals
    go_ret
    refine ⟨ret_bool ?_, by go_grown⟩
    simp only [ofB]
    simp_all
theorem tid_any (on : Bool) (f l t xf xl : Int) (bg wh ht : Bool) (xt : Int) (sy : Bool) (wf wl wt : Int) (w : World) :
    Calls Try.prog 18 #[.agg #[.bool on, .int .i64 f, .int .i64 l, .int .i64 t], .agg #[.int .i64 xf, .int .i64 xl, .bool bg, .bool wh, .bool ht, .int .i64 xt, .bool sy], .agg #[.int .i64 wf, .int .i64 wl, .int .i64 wt]] w
      fun e w' => e = .returned (.int .i64 (tidF t bg wh ht xt sy wt)) ∧ Below w.heap.size w w' := by
  go_enter Try.func18, Try.ntmps18
  go_wp2
  all_goals
    go_ret
    refine ⟨ret_int ?_, by go_grown⟩
    unfold tidF
    first
      | (simp_all; done)
      | (simp_all; omega)
theorem asks_any (on : Bool) (f l t wf wl wt : Int) (w : World) :
    Calls Try.prog 15 #[.agg #[.bool on, .int .i64 f, .int .i64 l, .int .i64 t], .agg #[.int .i64 wf, .int .i64 wl, .int .i64 wt]] w fun e w' => e = .returned (.bool (!ofB on f l wf wl)) ∧ Below w.heap.size w w' := by
  go_enter Try.func15, Try.ntmps15
  go_wp2_with (go_at_call 17; (with_reducible refine (of_any _ _ _ _ _ _ _).mono ?_); rintro e w1 ⟨rfl, hb⟩; have hB := below_next (w := w) (by go_grown) hb)
  go_ret
  exact ⟨rfl, by go_grown⟩
end Go.Proofs.Ytiajgdpceedmlaa
