/- Take, by its equation; the document's example holds. -/
import Derived.Test.YtbfmcnidghjajaaMissW
namespace Go.Proofs.Ytbfmcnidghjajaa
set_option linter.unusedSimpArgs false
set_option linter.unusedVariables false
open Go.RowKit
theorem take_eq (on : Bool) (b h g : Int) (s : Nat) (x : Int) (on' : Bool) (b' h' g' : Int) (s' : Nat) (y k S S' : Int) (w : World) (hS : S = s) (hS' : S' = s') (hr : takeF ⟨on, b, h, g, s⟩ x = (⟨on', b', h', g', s'⟩, y, k))
    (x0 : 0 ≤ x) (x1 : x ≤ 65535) (lb : -1000000000000 ≤ b) (ub : b ≤ 1000000000000) (lh : -1000000000000 ≤ h) (uh : h ≤ 1000000000000) (lg : 0 ≤ g) (ug : g ≤ 1000000000000) (hs : s < 2 ^ 64) :
    Calls Try.prog 10 #[.agg #[.bool on, .int .i64 b, .int .i64 h, .int .i64 g, .int .u64 S], .int .u16 x] w fun e w' =>
      e = .returned (.tuple #[.agg #[.bool on', .int .i64 b', .int .i64 h', .int .i64 g', .int .u64 S'], .int .i64 y, .int .i64 k]) ∧ Below w.heap.size w w' := by
  subst hS hS'
  have key : Calls Try.prog 10 #[.agg #[.bool on, .int .i64 b, .int .i64 h, .int .i64 g, .int .u64 s], .int .u16 x] w fun e w' => TookT (takeF ⟨on, b, h, g, s⟩ x) e ∧ Below w.heap.size w w' := by
    cases on
    · exact take_off b h g s x w x0 x1
    · exact take_on b h g s x w x0 x1 lb ub lh uh lg ug hs
  refine key.mono ?_
  rintro e w' ⟨he, hb⟩
  rw [hr] at he
  exact ⟨he, hb⟩
theorem lost_eq (on : Bool) (b h g : Int) (s : Nat) (S r : Int) (w : World) (hS : S = s) (hr : lostF ⟨on, b, h, g, s⟩ = r) (lb : -1000000000000 ≤ b) (ub : b ≤ 1000000000000) (lh : -1000000000000 ≤ h) (uh : h ≤ 1000000000000) (lg : 0 ≤ g) (ug : g ≤ 1000000000000) :
    Calls Try.prog 12 #[.agg #[.bool on, .int .i64 b, .int .i64 h, .int .i64 g, .int .u64 S]] w fun e w' => e = .returned (.int .i64 r) ∧ Below w.heap.size w w' := by
  subst hS hr
  exact Lost_any on b h g s w lb ub lh uh lg ug
theorem miss_eq (on : Bool) (b h g : Int) (s : Nat) (S : Int) (l : List Int) (w : World) (hS : S = s) (hr : missF ⟨on, b, h, g, s⟩ = l) (lb : -1000000000000 ≤ b) (ub : b ≤ 1000000000000) (lh : -1000000000000 ≤ h) (uh : h ≤ 1000000000000) (lg : 0 ≤ g) (ug : g ≤ 1000000000000) (hs : s < 2 ^ 64) :
    Calls Try.prog 16 #[.agg #[.bool on, .int .i64 b, .int .i64 h, .int .i64 g, .int .u64 S]] w fun e w' => ∃ v, e = .returned v ∧ w'.ownsRow w.heap.size 32 1 v l.length ((miss16 l).map (Value.int .u16)) ∧ Below w.heap.size w w' := by
  subst hS hr
  cases on
  · exact miss_off_any b h g s w
  · exact miss_on_any b h g s w lb ub lh uh lg ug hs
theorem ex1 : takeF ⟨false, 0, 0, 0, 0⟩ 65535 = (⟨true, 65535, 65535, 1, 1⟩, 65535, 0) := by decide +kernel
theorem ex2 : takeF ⟨true, 65535, 65535, 1, 1⟩ 1 = (⟨true, 65535, 65537, 2, 5⟩, 65537, 0) := by decide +kernel
theorem ex3 : missF ⟨true, 65535, 65537, 2, 5⟩ = [65536] := by decide +kernel
theorem ex4 : lostF ⟨true, 65535, 65537, 2, 5⟩ = 1 := by decide +kernel
theorem ex5 : (miss16 [65536]).map (Value.int .u16) = [.int .u16 0] := rfl
set_option maxRecDepth 100000 in
set_option maxHeartbeats 1000000 in
theorem awake_any (w : World) : Calls Try.prog 9 #[] w fun e w' => e = .returned (.bool true) ∧ Below w.heap.size w w' := by
  go_enter Try.func9, Try.ntmps9
  go_wp2_with fail
  with_reducible refine (take_eq _ _ _ _ 0 _ _ _ _ _ 1 _ _ 0 1 _ rfl rfl ex1 (by decide) (by decide) (by decide) (by decide) (by decide) (by decide) (by decide) (by decide) (by decide)).mono ?_
  rintro e w1 ⟨rfl, hb⟩
  (try (have g0 := h0; clear h0 f0 c0))
  have hB := below_next (w := w) (by go_grown) hb
  have h0 : w1.heap[w.heap.size]? = some (.cells #[.bool false, .int .i64 0, .int .i64 0, .int .i64 0, .int .u64 0] 26 (0, 0)) := (hb.block (w.heap.size) (by first | omega | (simp; done) | (simp; omega))).trans (Eq.trans (b := some (Obj.cells _ _ (0, 0))) (by repeat (first | (with_reducible assumption) | (with_reducible apply heap_set_same) | ((with_reducible apply heap_set_other'); (focus (first | omega | (simp; done) | (simp; omega)))) | ((with_reducible apply heap_alloc_new); (focus (first | omega | (simp; done) | (simp; omega)))) | (with_reducible apply heap_alloc_old') | (with_reducible apply (heap_drew_at _ _).trans) | (with_reducible apply (heap_drewN_at _ _ _).trans))) (by exact rfl))
  clear hb
  (try clear g0)
  obtain ⟨c0, f0, z0⟩ := blk_facts h0
  go_wp2_with fail
  with_reducible refine (take_eq _ _ _ _ 1 _ _ _ _ _ 5 _ _ 1 5 _ rfl rfl ex2 (by decide) (by decide) (by decide) (by decide) (by decide) (by decide) (by decide) (by decide) (by decide)).mono ?_
  rintro e w2 ⟨rfl, hb⟩
  (try (have g0 := h0; clear h0 f0 c0))
  have hB := below_next (w := w) (by go_grown) hb
  have h0 : w2.heap[w.heap.size]? = some (.cells #[.bool true, .int .i64 65535, .int .i64 65535, .int .i64 1, .int .u64 1] 26 (0, 0)) := (hb.block (w.heap.size) (by first | omega | (simp; done) | (simp; omega))).trans (Eq.trans (b := some (Obj.cells _ _ (0, 0))) (by repeat (first | (with_reducible assumption) | (with_reducible apply heap_set_same) | ((with_reducible apply heap_set_other'); (focus (first | omega | (simp; done) | (simp; omega)))) | ((with_reducible apply heap_alloc_new); (focus (first | omega | (simp; done) | (simp; omega)))) | (with_reducible apply heap_alloc_old') | (with_reducible apply (heap_drew_at _ _).trans) | (with_reducible apply (heap_drewN_at _ _ _).trans))) (by exact rfl))
  clear hb
  (try clear g0)
  obtain ⟨c0, f0, z0⟩ := blk_facts h0
  go_wp2_with fail
  with_reducible refine (miss_eq _ _ _ _ 5 5 [65536] _ rfl ex3 (by decide) (by decide) (by decide) (by decide) (by decide) (by decide) (by decide)).mono ?_
  rintro e w3 ⟨v, rfl, hown, hb⟩
  (try (have g0 := h0; clear h0 f0 c0))
  have hB := below_next (w := w) (by go_grown) hb
  have h0 : w3.heap[w.heap.size]? = some (.cells #[.bool true, .int .i64 65535, .int .i64 65537, .int .i64 2, .int .u64 5] 26 (0, 0)) := (hb.block (w.heap.size) (by first | omega | (simp; done) | (simp; omega))).trans (Eq.trans (b := some (Obj.cells _ _ (0, 0))) (by repeat (first | (with_reducible assumption) | (with_reducible apply heap_set_same) | ((with_reducible apply heap_set_other'); (focus (first | omega | (simp; done) | (simp; omega)))) | ((with_reducible apply heap_alloc_new); (focus (first | omega | (simp; done) | (simp; omega)))) | (with_reducible apply heap_alloc_old') | (with_reducible apply (heap_drew_at _ _).trans) | (with_reducible apply (heap_drewN_at _ _ _).trans))) (by exact rfl))
  clear hb
  (try clear g0)
  obtain ⟨c0, f0, z0⟩ := blk_facts h0
  obtain ⟨gm, cm, rfl, hg, hgl, hc⟩ := own_row (n := 1) hown (by decide)
  have d0 : w3.cell? ⟨gm, 0, none⟩ = some (.int .u16 0) := (hc 0 (by decide)).trans rfl
  clear hc hown
  go_wp2_with fail
  with_reducible refine (lost_eq _ _ _ _ 5 5 1 _ rfl ex4 (by decide) (by decide) (by decide) (by decide) (by decide) (by decide)).mono ?_
  rintro e w4 ⟨rfl, hb⟩
  have hB4 := below_next (w := w) (by go_grown) hb
  clear hb hB
  go_wp2_with fail
  go_ret
  exact ⟨rfl, hB4⟩
end Go.Proofs.Ytbfmcnidghjajaa
