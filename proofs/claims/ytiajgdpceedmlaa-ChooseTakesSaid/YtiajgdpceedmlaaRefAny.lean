/- The law ChooseTakes, walked. -/
import Derived.Test.YtiajgdpceedmlaaRefTake
namespace Go.Proofs.Ytiajgdpceedmlaa
set_option linter.unusedSimpArgs false
set_option linter.unusedVariables false
open Go.RowKit
theorem refTake_any (on : Bool) (f l t : Int) (xf xl : Int) (bg wh ht : Bool) (xt : Int) (sy : Bool) (wf wl wt : Int) (w : World) : Calls Try.prog 11 #[.agg #[.bool on, .int .i64 f, .int .i64 l, .int .i64 t], .agg #[.int .i64 xf, .int .i64 xl, .bool bg, .bool wh, .bool ht, .int .i64 xt, .bool sy], .agg #[.int .i64 wf, .int .i64 wl, .int .i64 wt]] w fun e w' => TookB (takeF on f l t xf xl bg wh ht xt sy wf wl wt) e ∧ Below w.heap.size w w' := by
  have wants : ∀ (P : Prop), (xf = wf → xl = wl → P) → ((xf == wf) = false → P) → (xf = wf → (xl == wl) = false → P) → P := by
    intro P h1 h2 h3
    by_cases e1 : xf = wf
    · by_cases e2 : xl = wl
      · exact h1 e1 e2
      · exact h3 e1 (beq_eq_false_iff_ne.2 e2)
    · exact h2 (beq_eq_false_iff_ne.2 e1)
  cases on with
  | false =>
    refine wants _ (fun e1 e2 => ?_) (fun e1 => ?_) (fun e1 e2 => ?_)
    · subst e1 e2; exact rt_n1_0 true _ _ _ _ _ _ _ _ _ _ 0 0 _ _
    · exact rt_n1_1 true _ _ _ _ _ _ _ _ _ _ _ _ _ _ e1
    · subst e1; exact rt_n1_2 true _ _ _ _ _ _ _ _ _ _ 0 _ _ _ e2
  | true =>
    by_cases h1 : xf = f
    · by_cases h2 : xl = l
      · subst h1 h2
        refine wants _ (fun e1 e2 => ?_) (fun e1 => ?_) (fun e1 e2 => ?_)
        · subst e1 e2; exact rt_o_0 true _ _ _ 0 0 _ _ _ _ _ 0 0 _ _
        · exact rt_o_1 true _ _ _ 0 0 _ _ _ _ _ _ _ _ _ e1
        · subst e1; exact rt_o_2 true _ _ _ 0 0 _ _ _ _ _ 0 _ _ _ e2
      · have h2' := beq_eq_false_iff_ne.2 h2
        subst h1
        refine wants _ (fun e1 e2 => ?_) (fun e1 => ?_) (fun e1 e2 => ?_)
        · subst e1 e2; exact rt_n3_0 true _ _ _ 0 _ _ _ _ _ _ 0 0 _ _ h2'
        · exact rt_n3_1 true _ _ _ 0 _ _ _ _ _ _ _ _ _ _ h2' e1
        · subst e1; exact rt_n3_2 true _ _ _ 0 _ _ _ _ _ _ 0 _ _ _ h2' e2
    · have h1' := beq_eq_false_iff_ne.2 h1
      refine wants _ (fun e1 e2 => ?_) (fun e1 => ?_) (fun e1 e2 => ?_)
      · subst e1 e2; exact rt_n2_0 true _ _ _ _ _ _ _ _ _ _ 0 0 _ _ h1'
      · exact rt_n2_1 true _ _ _ _ _ _ _ _ _ _ _ _ _ _ h1' e1
      · subst e1; exact rt_n2_2 true _ _ _ _ _ _ _ _ _ _ 0 _ _ _ h1' e2
end Go.Proofs.Ytiajgdpceedmlaa
