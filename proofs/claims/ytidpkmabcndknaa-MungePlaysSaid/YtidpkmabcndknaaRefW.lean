/- What the reference's functions compute. No condition but that numbers are of their widths. -/
import Derived.Test.YtidpkmabcndknaaAwake
namespace Go.Proofs.Ytidpkmabcndknaa
set_option linter.unusedSimpArgs false
set_option linter.unusedVariables false
open Go.RowKit
/-- Numbers, gone round. -/
def roundF (a b c d : Int) : Nu := ⟨a % 65536, b % 4294967296, c % 65536, d % 256⟩
set_option maxRecDepth 100000 in
set_option maxHeartbeats 2000000 in
theorem round_eq (a b c d : Int) (m : Nu) (w : World) (hr : roundF a b c d = m) (a0 : -1000000000000000000 ≤ a) (a1 : a ≤ 1000000000000000000) (b0 : -1000000000000000000 ≤ b) (b1 : b ≤ 1000000000000000000) (c0 : -1000000000000000000 ≤ c) (c1 : c ≤ 1000000000000000000) (d0 : -1000000000000000000 ≤ d) (d1 : d ≤ 1000000000000000000) :
    Calls Try.prog 23 #[.agg #[.int .i64 a, .int .i64 b, .int .i64 c, .int .i64 d]] w fun e w' => e = .returned (.agg #[.int .i64 m.seq, .int .i64 m.time, .int .i64 m.pic, .int .i64 m.tl0]) ∧ Below w.heap.size w w' := by
  subst hr
  go_enter Try.func23, Try.ntmps23
  go_upto_region 1 with fail
  go_region_held3 (fun w' => (w'.heap[w.heap.size]? = some (.cells #[.int .i64 a, .int .i64 b, .int .i64 c, .int .i64 d] 34 (0, 0)) ∧ (∀ j, w'.cell? ⟨w.heap.size, j, none⟩ = #[.int .i64 a, .int .i64 b, .int .i64 c, .int .i64 d][j]?) ∧ (∀ j, w'.frozen? ⟨w.heap.size, j, none⟩ = false) ∧ w.heap.size < w'.heap.size) ∧ Below w.heap.size w w') ((go_split_ands; exact ⟨blk_all (Eq.trans (b := some (Obj.cells _ _ (0, 0))) (by repeat (first | (with_reducible assumption) | (with_reducible apply heap_set_row11) | (with_reducible apply heap_set_row4) | (with_reducible apply heap_set_same) | ((with_reducible apply heap_set_other'); (focus (first | omega | (simp; done) | (simp; omega)))) | ((with_reducible apply heap_alloc_new); (focus (first | omega | (simp; done) | (simp; omega)))) | (with_reducible apply heap_alloc_old') | (with_reducible apply (heap_drew_at _ _).trans) | (with_reducible apply (heap_drewN_at _ _ _).trans) | (simp only [List.size_toArray, List.length_cons, List.length_nil]; done))) (by exact rfl)), by first | ((repeat (first | (with_reducible exact Below.refl _ _) | (with_reducible apply Below.drew))); done) | go_grown⟩)) (first | (go_at_call 28; go_split_ands; (with_reducible refine (refRest16 _ _ (by omega) (by omega)).mono ?_); rintro e w' ⟨rfl, rfl⟩) | (go_at_call 28; go_split_ands; (with_reducible refine (refRest32 _ _ (by omega) (by omega)).mono ?_); rintro e w' ⟨rfl, rfl⟩) | (go_at_call 28; go_split_ands; (with_reducible refine (refRest8 _ _ (by omega) (by omega)).mono ?_); rintro e w' ⟨rfl, rfl⟩))
  all_goals
    go_wp2_with fail
    (try simp only [Exit.inBlock, Exit.then])
    refine ret_cell rfl rfl Try.underlying34 rfl rfl ⟨_, _, (by repeat (first | (with_reducible assumption) | (with_reducible apply heap_set_row11) | (with_reducible apply heap_set_row4) | (with_reducible apply heap_set_same) | ((with_reducible apply heap_set_other'); (focus (first | omega | (simp; done) | (simp; omega)))) | ((with_reducible apply heap_alloc_new); (focus (first | omega | (simp; done) | (simp; omega)))) | (with_reducible apply heap_alloc_old') | (with_reducible apply (heap_drew_at _ _).trans) | (with_reducible apply (heap_drewN_at _ _ _).trans) | (simp only [List.size_toArray, List.length_cons, List.length_nil]; done))), (by kernel_rfl), ?_, by go_grown⟩
    exact rfl
end Go.Proofs.Ytidpkmabcndknaa
