/- The law ChooseFrames, walked. -/
import Derived.Test.YtiajgdpceedmlaaSteps
namespace Go.Proofs.Ytiajgdpceedmlaa
set_option linter.unusedSimpArgs false
set_option linter.unusedVariables false
open Go.RowKit
theorem out {p : Prop} (h : Hid p) : p := h
/-- What begins a frame of the stream, and what goes on with it. -/
theorem frame_takes (f l t : Int) (wh ht : Bool) (xt : Int) (sy : Bool) (wf wl wt : Int) : ∃ t' a, (a = 1 ∨ a = 2) ∧ takeF true f l t f l true wh ht xt sy wf wl wt = (true, f, l, t', a) ∧
    ∀ wf wl wt, takeF true f l t' f l false wh ht xt sy wf wl wt = (true, f, l, t', a) := by
  refine ⟨tidF t true wh ht xt sy wt, if ht = true ∧ tidF t true wh ht xt sy wt < xt then 2 else 1, by split <;> simp, by simp [takeF, ofB], fun _ _ _ => ?_⟩
  simp [takeF, ofB, tidF]
set_option maxRecDepth 100000 in
set_option maxHeartbeats 2000000 in
theorem frames_long (on bg wh ht sy : Bool) (f l t xf xl xt : Int) (A : Option Addr) (len cap : Nat) (w : World) (hl : len ≤ 9223372036854775807) (h : 60 < len) : Calls Try.prog 6 #[.agg #[.bool on, .int .i64 f, .int .i64 l, .int .i64 t], .agg #[.int .i64 xf, .int .i64 xl, .bool bg, .bool wh, .bool ht, .int .i64 xt, .bool sy], .slice A len cap] w fun e w' => e = .returned (.bool true) ∧ Below w.heap.size w w' := by
  go_enter Try.func6, Try.ntmps6
  go_wp2_with fail
  (with_reducible refine (awake_any _).mono ?_)
  rintro e w1 ⟨rfl, hb⟩
  (try (have g0 := h0; clear h0 f0 c0))
  (try (have g1 := h1; clear h1 f1 c1))
  have hB := below_next (w := w) (by go_grown) hb
  have h0 : w1.heap[w.heap.size]? = some (.cells #[.bool on, .int .i64 f, .int .i64 l, .int .i64 t] 23 (0, 0)) := (hb.block (w.heap.size) (by first | omega | (simp; done) | (simp; omega))).trans (Eq.trans (b := some (Obj.cells _ _ (0, 0))) (by repeat (first | (with_reducible assumption) | (with_reducible apply heap_set_same) | ((with_reducible apply heap_set_other'); (focus (first | omega | (simp; done) | (simp; omega)))) | ((with_reducible apply heap_alloc_new); (focus (first | omega | (simp; done) | (simp; omega)))) | (with_reducible apply heap_alloc_old') | (with_reducible apply (heap_drew_at _ _).trans) | (with_reducible apply (heap_drewN_at _ _ _).trans))) (by exact rfl))
  have h1 : w1.heap[w.heap.size + 1]? = some (.cells #[.int .i64 xf, .int .i64 xl, .bool bg, .bool wh, .bool ht, .int .i64 xt, .bool sy] 25 (0, 0)) := (hb.block (w.heap.size + 1) (by first | omega | (simp; done) | (simp; omega))).trans (Eq.trans (b := some (Obj.cells _ _ (0, 0))) (by repeat (first | (with_reducible assumption) | (with_reducible apply heap_set_same) | ((with_reducible apply heap_set_other'); (focus (first | omega | (simp; done) | (simp; omega)))) | ((with_reducible apply heap_alloc_new); (focus (first | omega | (simp; done) | (simp; omega)))) | (with_reducible apply heap_alloc_old') | (with_reducible apply (heap_drew_at _ _).trans) | (with_reducible apply (heap_drewN_at _ _ _).trans))) (by exact rfl))
  clear hb
  (try clear g0)
  obtain ⟨c0, f0, z0⟩ := blk_facts h0
  (try clear g1)
  obtain ⟨c1, f1, z1⟩ := blk_facts h1
  go_wp2_with fail
  all_goals (go_ret; first | exact ⟨rfl, by go_grown⟩ | (refine ⟨ret_bool ?_, by go_grown⟩; first | (simp; done) | (simp; omega)))
set_option maxRecDepth 100000 in
set_option maxHeartbeats 2000000 in
theorem frames_none (on bg wh ht sy : Bool) (f l t xf xl xt : Int) (A : Option Addr) (len cap : Nat) (w : World) (hl : len ≤ 9223372036854775807) (h : len = 0) : Calls Try.prog 6 #[.agg #[.bool on, .int .i64 f, .int .i64 l, .int .i64 t], .agg #[.int .i64 xf, .int .i64 xl, .bool bg, .bool wh, .bool ht, .int .i64 xt, .bool sy], .slice A len cap] w fun e w' => e = .returned (.bool true) ∧ Below w.heap.size w w' := by
  go_enter Try.func6, Try.ntmps6
  go_wp2_with fail
  (with_reducible refine (awake_any _).mono ?_)
  rintro e w1 ⟨rfl, hb⟩
  (try (have g0 := h0; clear h0 f0 c0))
  (try (have g1 := h1; clear h1 f1 c1))
  have hB := below_next (w := w) (by go_grown) hb
  have h0 : w1.heap[w.heap.size]? = some (.cells #[.bool on, .int .i64 f, .int .i64 l, .int .i64 t] 23 (0, 0)) := (hb.block (w.heap.size) (by first | omega | (simp; done) | (simp; omega))).trans (Eq.trans (b := some (Obj.cells _ _ (0, 0))) (by repeat (first | (with_reducible assumption) | (with_reducible apply heap_set_same) | ((with_reducible apply heap_set_other'); (focus (first | omega | (simp; done) | (simp; omega)))) | ((with_reducible apply heap_alloc_new); (focus (first | omega | (simp; done) | (simp; omega)))) | (with_reducible apply heap_alloc_old') | (with_reducible apply (heap_drew_at _ _).trans) | (with_reducible apply (heap_drewN_at _ _ _).trans))) (by exact rfl))
  have h1 : w1.heap[w.heap.size + 1]? = some (.cells #[.int .i64 xf, .int .i64 xl, .bool bg, .bool wh, .bool ht, .int .i64 xt, .bool sy] 25 (0, 0)) := (hb.block (w.heap.size + 1) (by first | omega | (simp; done) | (simp; omega))).trans (Eq.trans (b := some (Obj.cells _ _ (0, 0))) (by repeat (first | (with_reducible assumption) | (with_reducible apply heap_set_same) | ((with_reducible apply heap_set_other'); (focus (first | omega | (simp; done) | (simp; omega)))) | ((with_reducible apply heap_alloc_new); (focus (first | omega | (simp; done) | (simp; omega)))) | (with_reducible apply heap_alloc_old') | (with_reducible apply (heap_drew_at _ _).trans) | (with_reducible apply (heap_drewN_at _ _ _).trans))) (by exact rfl))
  clear hb
  (try clear g0)
  obtain ⟨c0, f0, z0⟩ := blk_facts h0
  (try clear g1)
  obtain ⟨c1, f1, z1⟩ := blk_facts h1
  go_wp2_with fail
  all_goals (go_ret; first | exact ⟨rfl, by go_grown⟩ | (refine ⟨ret_bool ?_, by go_grown⟩; first | (simp; done) | (simp; omega)))
set_option maxRecDepth 100000 in
set_option maxHeartbeats 2000000 in
theorem frames_off (bg wh ht sy : Bool) (f l t xf xl xt : Int) (A : Option Addr) (len cap : Nat) (w : World) (hl : len ≤ 9223372036854775807) (h0 : 0 < len) (h : ¬ 60 < len) : Calls Try.prog 6 #[.agg #[.bool false, .int .i64 f, .int .i64 l, .int .i64 t], .agg #[.int .i64 xf, .int .i64 xl, .bool bg, .bool wh, .bool ht, .int .i64 xt, .bool sy], .slice A len cap] w fun e w' => e = .returned (.bool true) ∧ Below w.heap.size w w' := by
  go_enter Try.func6, Try.ntmps6
  go_wp2_with fail
  (with_reducible refine (awake_any _).mono ?_)
  rintro e w1 ⟨rfl, hb⟩
  (try (have g0 := h0; clear h0 f0 c0))
  (try (have g1 := h1; clear h1 f1 c1))
  have hB := below_next (w := w) (by go_grown) hb
  have h0 : w1.heap[w.heap.size]? = some (.cells #[.bool false, .int .i64 f, .int .i64 l, .int .i64 t] 23 (0, 0)) := (hb.block (w.heap.size) (by first | omega | (simp; done) | (simp; omega))).trans (Eq.trans (b := some (Obj.cells _ _ (0, 0))) (by repeat (first | (with_reducible assumption) | (with_reducible apply heap_set_same) | ((with_reducible apply heap_set_other'); (focus (first | omega | (simp; done) | (simp; omega)))) | ((with_reducible apply heap_alloc_new); (focus (first | omega | (simp; done) | (simp; omega)))) | (with_reducible apply heap_alloc_old') | (with_reducible apply (heap_drew_at _ _).trans) | (with_reducible apply (heap_drewN_at _ _ _).trans))) (by exact rfl))
  have h1 : w1.heap[w.heap.size + 1]? = some (.cells #[.int .i64 xf, .int .i64 xl, .bool bg, .bool wh, .bool ht, .int .i64 xt, .bool sy] 25 (0, 0)) := (hb.block (w.heap.size + 1) (by first | omega | (simp; done) | (simp; omega))).trans (Eq.trans (b := some (Obj.cells _ _ (0, 0))) (by repeat (first | (with_reducible assumption) | (with_reducible apply heap_set_same) | ((with_reducible apply heap_set_other'); (focus (first | omega | (simp; done) | (simp; omega)))) | ((with_reducible apply heap_alloc_new); (focus (first | omega | (simp; done) | (simp; omega)))) | (with_reducible apply heap_alloc_old') | (with_reducible apply (heap_drew_at _ _).trans) | (with_reducible apply (heap_drewN_at _ _ _).trans))) (by exact rfl))
  clear hb
  (try clear g0)
  obtain ⟨c0, f0, z0⟩ := blk_facts h0
  (try clear g1)
  obtain ⟨c1, f1, z1⟩ := blk_facts h1
  go_wp2_with fail
  all_goals (go_ret; first | exact ⟨rfl, by go_grown⟩ | (refine ⟨ret_bool ?_, by go_grown⟩; first | (simp; done) | (simp; omega)))
set_option maxRecDepth 100000 in
set_option maxHeartbeats 2000000 in
theorem frames_from (bg wh ht sy : Bool) (f l t xf xl xt : Int) (A : Option Addr) (len cap : Nat) (w : World) (hl : len ≤ 9223372036854775807) (h0 : 0 < len) (h : ¬ 60 < len) (h2 : (xf != f) = true) : Calls Try.prog 6 #[.agg #[.bool true, .int .i64 f, .int .i64 l, .int .i64 t], .agg #[.int .i64 xf, .int .i64 xl, .bool bg, .bool wh, .bool ht, .int .i64 xt, .bool sy], .slice A len cap] w fun e w' => e = .returned (.bool true) ∧ Below w.heap.size w w' := by
  go_enter Try.func6, Try.ntmps6
  go_wp2_with fail
  (with_reducible refine (awake_any _).mono ?_)
  rintro e w1 ⟨rfl, hb⟩
  (try (have g0 := h0; clear h0 f0 c0))
  (try (have g1 := h1; clear h1 f1 c1))
  have hB := below_next (w := w) (by go_grown) hb
  have h0 : w1.heap[w.heap.size]? = some (.cells #[.bool true, .int .i64 f, .int .i64 l, .int .i64 t] 23 (0, 0)) := (hb.block (w.heap.size) (by first | omega | (simp; done) | (simp; omega))).trans (Eq.trans (b := some (Obj.cells _ _ (0, 0))) (by repeat (first | (with_reducible assumption) | (with_reducible apply heap_set_same) | ((with_reducible apply heap_set_other'); (focus (first | omega | (simp; done) | (simp; omega)))) | ((with_reducible apply heap_alloc_new); (focus (first | omega | (simp; done) | (simp; omega)))) | (with_reducible apply heap_alloc_old') | (with_reducible apply (heap_drew_at _ _).trans) | (with_reducible apply (heap_drewN_at _ _ _).trans))) (by exact rfl))
  have h1 : w1.heap[w.heap.size + 1]? = some (.cells #[.int .i64 xf, .int .i64 xl, .bool bg, .bool wh, .bool ht, .int .i64 xt, .bool sy] 25 (0, 0)) := (hb.block (w.heap.size + 1) (by first | omega | (simp; done) | (simp; omega))).trans (Eq.trans (b := some (Obj.cells _ _ (0, 0))) (by repeat (first | (with_reducible assumption) | (with_reducible apply heap_set_same) | ((with_reducible apply heap_set_other'); (focus (first | omega | (simp; done) | (simp; omega)))) | ((with_reducible apply heap_alloc_new); (focus (first | omega | (simp; done) | (simp; omega)))) | (with_reducible apply heap_alloc_old') | (with_reducible apply (heap_drew_at _ _).trans) | (with_reducible apply (heap_drewN_at _ _ _).trans))) (by exact rfl))
  clear hb
  (try clear g0)
  obtain ⟨c0, f0, z0⟩ := blk_facts h0
  (try clear g1)
  obtain ⟨c1, f1, z1⟩ := blk_facts h1
  go_wp2_with fail
  all_goals (go_ret; first | exact ⟨rfl, by go_grown⟩ | (refine ⟨ret_bool ?_, by go_grown⟩; first | (simp; done) | (simp; omega)))
set_option maxRecDepth 100000 in
set_option maxHeartbeats 2000000 in
theorem frames_layer (bg wh ht sy : Bool) (f l t xl xt : Int) (A : Option Addr) (len cap : Nat) (w : World) (hl : len ≤ 9223372036854775807) (h0 : 0 < len) (h : ¬ 60 < len) (h2 : (xl != l) = true) : Calls Try.prog 6 #[.agg #[.bool true, .int .i64 f, .int .i64 l, .int .i64 t], .agg #[.int .i64 f, .int .i64 xl, .bool bg, .bool wh, .bool ht, .int .i64 xt, .bool sy], .slice A len cap] w fun e w' => e = .returned (.bool true) ∧ Below w.heap.size w w' := by
  go_enter Try.func6, Try.ntmps6
  go_wp2_with fail
  (with_reducible refine (awake_any _).mono ?_)
  rintro e w1 ⟨rfl, hb⟩
  (try (have g0 := h0; clear h0 f0 c0))
  (try (have g1 := h1; clear h1 f1 c1))
  have hB := below_next (w := w) (by go_grown) hb
  have h0 : w1.heap[w.heap.size]? = some (.cells #[.bool true, .int .i64 f, .int .i64 l, .int .i64 t] 23 (0, 0)) := (hb.block (w.heap.size) (by first | omega | (simp; done) | (simp; omega))).trans (Eq.trans (b := some (Obj.cells _ _ (0, 0))) (by repeat (first | (with_reducible assumption) | (with_reducible apply heap_set_same) | ((with_reducible apply heap_set_other'); (focus (first | omega | (simp; done) | (simp; omega)))) | ((with_reducible apply heap_alloc_new); (focus (first | omega | (simp; done) | (simp; omega)))) | (with_reducible apply heap_alloc_old') | (with_reducible apply (heap_drew_at _ _).trans) | (with_reducible apply (heap_drewN_at _ _ _).trans))) (by exact rfl))
  have h1 : w1.heap[w.heap.size + 1]? = some (.cells #[.int .i64 f, .int .i64 xl, .bool bg, .bool wh, .bool ht, .int .i64 xt, .bool sy] 25 (0, 0)) := (hb.block (w.heap.size + 1) (by first | omega | (simp; done) | (simp; omega))).trans (Eq.trans (b := some (Obj.cells _ _ (0, 0))) (by repeat (first | (with_reducible assumption) | (with_reducible apply heap_set_same) | ((with_reducible apply heap_set_other'); (focus (first | omega | (simp; done) | (simp; omega)))) | ((with_reducible apply heap_alloc_new); (focus (first | omega | (simp; done) | (simp; omega)))) | (with_reducible apply heap_alloc_old') | (with_reducible apply (heap_drew_at _ _).trans) | (with_reducible apply (heap_drewN_at _ _ _).trans))) (by exact rfl))
  clear hb
  (try clear g0)
  obtain ⟨c0, f0, z0⟩ := blk_facts h0
  (try clear g1)
  obtain ⟨c1, f1, z1⟩ := blk_facts h1
  go_wp2_with fail
  all_goals (go_ret; first | exact ⟨rfl, by go_grown⟩ | (refine ⟨ret_bool ?_, by go_grown⟩; first | (simp; done) | (simp; omega)))
set_option maxRecDepth 100000 in
set_option maxHeartbeats 2000000 in
theorem frames_main (bg wh ht sy : Bool) (f l t xt : Int) (A : Option Addr) (len cap : Nat) (z : Nat → WantV) (w : World) (hl : len ≤ 60) (h0 : 0 < len) (hz : WantsAt w A len z) : Calls Try.prog 6 #[.agg #[.bool true, .int .i64 f, .int .i64 l, .int .i64 t], .agg #[.int .i64 f, .int .i64 l, .bool bg, .bool wh, .bool ht, .int .i64 xt, .bool sy], .slice A len cap] w fun e w' => e = .returned (.bool true) ∧ Below w.heap.size w w' := by
  obtain ⟨b, o, rfl, hb, q0, q1, q2⟩ := hz 0 h0
  generalize z 0 = z0 at q0 q1 q2
  obtain ⟨wf, wl, wt⟩ := z0
  dsimp only at q0 q1 q2
  rw [show o + 0 * 3 = o by omega] at q0 q1 q2
  obtain ⟨t', a, ha, HT, HG⟩ := frame_takes f l t wh ht xt sy wf wl wt
  have HZ := Lib.hid hz; clear hz
  have HG' := Lib.hid HG; clear HG
  have HA := Lib.hid ha; clear ha
  have n60 : ¬ ((60 : Int) < (len : Int)) := by omega
  have n0 : ((len : Int) == 0) = false := by simp; omega
  go_enter Try.func6, Try.ntmps6
  go_wp2_with fail
  (with_reducible refine (awake_any _).mono ?_)
  rintro e w1 ⟨rfl, hb⟩
  (try (have g0 := h0; clear h0 f0 c0))
  (try (have g1 := h1; clear h1 f1 c1))
  have hB := below_next (w := w) (by go_grown) hb
  have h0 : w1.heap[w.heap.size]? = some (.cells #[.bool true, .int .i64 f, .int .i64 l, .int .i64 t] 23 (0, 0)) := (hb.block (w.heap.size) (by first | omega | (simp; done) | (simp; omega))).trans (Eq.trans (b := some (Obj.cells _ _ (0, 0))) (by repeat (first | (with_reducible assumption) | (with_reducible apply heap_set_same) | ((with_reducible apply heap_set_other'); (focus (first | omega | (simp; done) | (simp; omega)))) | ((with_reducible apply heap_alloc_new); (focus (first | omega | (simp; done) | (simp; omega)))) | (with_reducible apply heap_alloc_old') | (with_reducible apply (heap_drew_at _ _).trans) | (with_reducible apply (heap_drewN_at _ _ _).trans))) (by exact rfl))
  have h1 : w1.heap[w.heap.size + 1]? = some (.cells #[.int .i64 f, .int .i64 l, .bool bg, .bool wh, .bool ht, .int .i64 xt, .bool sy] 25 (0, 0)) := (hb.block (w.heap.size + 1) (by first | omega | (simp; done) | (simp; omega))).trans (Eq.trans (b := some (Obj.cells _ _ (0, 0))) (by repeat (first | (with_reducible assumption) | (with_reducible apply heap_set_same) | ((with_reducible apply heap_set_other'); (focus (first | omega | (simp; done) | (simp; omega)))) | ((with_reducible apply heap_alloc_new); (focus (first | omega | (simp; done) | (simp; omega)))) | (with_reducible apply heap_alloc_old') | (with_reducible apply (heap_drew_at _ _).trans) | (with_reducible apply (heap_drewN_at _ _ _).trans))) (by exact rfl))
  clear hb
  (try clear g0)
  obtain ⟨c0, f0, z0⟩ := blk_facts h0
  (try clear g1)
  obtain ⟨c1, f1, z1⟩ := blk_facts h1
  have p0 := (hB.cell (p := ⟨b, o, none⟩) hb).trans q0
  have p1 := (hB.cell (p := ⟨b, o + 1, none⟩) hb).trans q1
  have p2 := (hB.cell (p := ⟨b, o + 2, none⟩) hb).trans q2
  have hb1 := Nat.lt_of_lt_of_le hb hB.size
  go_upto_region 7 with fail
  go_cut [8, 9] (fun s8 s9 wx => ∃ g : Nat, s8 = .pointer (some ⟨g, 0, none⟩) ∧ s9 = .int .i64 a ∧ w.heap.size + 1 < g ∧ wx.heap[w.heap.size]? = some (.cells #[.bool true, .int .i64 f, .int .i64 l, .int .i64 t] 23 (0, 0)) ∧ wx.heap[w.heap.size + 1]? = some (.cells #[.int .i64 f, .int .i64 l, .bool true, .bool wh, .bool ht, .int .i64 xt, .bool sy] 25 (0, 0)) ∧ wx.heap[g]? = some (.cells #[.bool true, .int .i64 f, .int .i64 l, .int .i64 t'] 23 (0, 0)) ∧ Below w.heap.size w wx)
  case first =>
    go_region_held3 (fun w' => (w'.heap[w.heap.size]? = some (.cells #[.bool true, .int .i64 f, .int .i64 l, .int .i64 t] 23 (0, 0)) ∧ (∀ j, w'.cell? ⟨w.heap.size, j, none⟩ = #[.bool true, .int .i64 f, .int .i64 l, .int .i64 t][j]?) ∧ (∀ j, w'.frozen? ⟨w.heap.size, j, none⟩ = false) ∧ w.heap.size < w'.heap.size) ∧ (w'.heap[w.heap.size + 1]? = some (.cells #[.int .i64 f, .int .i64 l, .bool true, .bool wh, .bool ht, .int .i64 xt, .bool sy] 25 (0, 0)) ∧ (∀ j, w'.cell? ⟨w.heap.size + 1, j, none⟩ = #[.int .i64 f, .int .i64 l, .bool true, .bool wh, .bool ht, .int .i64 xt, .bool sy][j]?) ∧ (∀ j, w'.frozen? ⟨w.heap.size + 1, j, none⟩ = false) ∧ w.heap.size + 1 < w'.heap.size) ∧ w'.cell? ⟨b, o, none⟩ = some (.int .i64 wf) ∧ w'.cell? ⟨b, o + 1, none⟩ = some (.int .i64 wl) ∧ w'.cell? ⟨b, o + 2, none⟩ = some (.int .i64 wt) ∧ b < w'.heap.size ∧ Below w.heap.size w w') ((go_split_ands; exact ⟨blk_all (Eq.trans (b := some (Obj.cells _ _ (0, 0))) (by repeat (first | (with_reducible assumption) | (with_reducible apply heap_set_same) | ((with_reducible apply heap_set_other'); (focus (first | omega | (simp; done) | (simp; omega)))) | ((with_reducible apply heap_alloc_new); (focus (first | omega | (simp; done) | (simp; omega)))) | (with_reducible apply heap_alloc_old') | (with_reducible apply (heap_drew_at _ _).trans) | (with_reducible apply (heap_drewN_at _ _ _).trans))) (by exact rfl)), blk_all (Eq.trans (b := some (Obj.cells _ _ (0, 0))) (by repeat (first | (with_reducible assumption) | (with_reducible apply heap_set_same) | ((with_reducible apply heap_set_other'); (focus (first | omega | (simp; done) | (simp; omega)))) | ((with_reducible apply heap_alloc_new); (focus (first | omega | (simp; done) | (simp; omega)))) | (with_reducible apply heap_alloc_old') | (with_reducible apply (heap_drew_at _ _).trans) | (with_reducible apply (heap_drewN_at _ _ _).trans))) (by exact rfl)), ((Below.cell (by go_grown : Below w.heap.size w _) hb).trans q0), ((Below.cell (by go_grown : Below w.heap.size w _) hb).trans q1), ((Below.cell (by go_grown : Below w.heap.size w _) hb).trans q2), (Nat.lt_of_lt_of_le hb (Below.size (by go_grown : Below w.heap.size w _))), by go_grown⟩)) (first | (go_at_call 10; go_split_ands; (with_reducible refine (take_as HT _).mono ?_); rintro e w2 ⟨rfl, hb⟩; have hB := below_next (w := w) (by go_grown) hb; have hr0 : w2.heap[w.heap.size]? = some (.cells #[.bool true, .int .i64 f, .int .i64 l, .int .i64 t] 23 (0, 0)) := (hb.block (w.heap.size) (by first | omega | (simp; done) | (simp; omega))).trans (Eq.trans (b := some (Obj.cells _ _ (0, 0))) (by repeat (first | (with_reducible assumption) | (with_reducible apply heap_set_same) | ((with_reducible apply heap_set_other'); (focus (first | omega | (simp; done) | (simp; omega)))) | ((with_reducible apply heap_alloc_new); (focus (first | omega | (simp; done) | (simp; omega)))) | (with_reducible apply heap_alloc_old') | (with_reducible apply (heap_drew_at _ _).trans) | (with_reducible apply (heap_drewN_at _ _ _).trans))) (by exact rfl)); have hr1 : w2.heap[w.heap.size + 1]? = some (.cells #[.int .i64 f, .int .i64 l, .bool true, .bool wh, .bool ht, .int .i64 xt, .bool sy] 25 (0, 0)) := (hb.block (w.heap.size + 1) (by first | omega | (simp; done) | (simp; omega))).trans (Eq.trans (b := some (Obj.cells _ _ (0, 0))) (by repeat (first | (with_reducible assumption) | (with_reducible apply heap_set_same) | ((with_reducible apply heap_set_other'); (focus (first | omega | (simp; done) | (simp; omega)))) | ((with_reducible apply heap_alloc_new); (focus (first | omega | (simp; done) | (simp; omega)))) | (with_reducible apply heap_alloc_old') | (with_reducible apply (heap_drew_at _ _).trans) | (with_reducible apply (heap_drewN_at _ _ _).trans))) (by exact rfl)); have zr0 := blk_lt hr0; have zr1 := blk_lt hr1; (try first | ((have hn := heap_below hb (by first | omega | (simp; done) | (simp; omega)) hA); clear hA fA cA; have hA := hn; clear hn; obtain ⟨cA, fA, zA⟩ := blk_facts hA) | ((have hn := heap_below hb (by first | omega | (simp; done) | (simp; omega)) (heap_alloc_old' hA)); clear hA fA cA; have hA := hn; clear hn; obtain ⟨cA, fA, zA⟩ := blk_facts hA) | ((have hn := heap_below hb (by first | omega | (simp; done) | (simp; omega)) (heap_alloc_old' (heap_alloc_old' hA))); clear hA fA cA; have hA := hn; clear hn; obtain ⟨cA, fA, zA⟩ := blk_facts hA) | ((have hA := (hb.block (w1.heap.size) (by first | omega | (simp; done) | (simp; omega))).trans (by repeat (first | (with_reducible assumption) | (with_reducible apply heap_set_same) | ((with_reducible apply heap_set_other'); (focus (first | omega | (simp; done) | (simp; omega)))) | ((with_reducible apply heap_alloc_new); (focus (first | omega | (simp; done) | (simp; omega)))) | (with_reducible apply heap_alloc_old') | (with_reducible apply (heap_drew_at _ _).trans) | (with_reducible apply (heap_drewN_at _ _ _).trans)))); obtain ⟨cA, fA, zA⟩ := blk_facts hA) | ((have hA := (hb.block _ (lt_alloc _ _)).trans (heap_alloc_new _ _ _ rfl)); (fail_if_success (have hq : w2.heap[w.heap.size]? = some _ := hA)); (fail_if_success (have hq : w2.heap[w.heap.size + 1]? = some _ := hA)); obtain ⟨cA, fA, zA⟩ := blk_facts hA)); clear hb))
    all_goals (go_wp2_with fail; go_meet; go_split_ands; exact ⟨_, rfl, rfl, by omega, (Eq.trans (b := some (Obj.cells _ _ (0, 0))) (by repeat (first | (with_reducible assumption) | (with_reducible apply heap_set_same) | ((with_reducible apply heap_set_other'); (focus (first | omega | (simp; done) | (simp; omega)))) | ((with_reducible apply heap_alloc_new); (focus (first | omega | (simp; done) | (simp; omega)))) | (with_reducible apply heap_alloc_old') | (with_reducible apply (heap_drew_at _ _).trans) | (with_reducible apply (heap_drewN_at _ _ _).trans))) (by exact rfl)), (Eq.trans (b := some (Obj.cells _ _ (0, 0))) (by repeat (first | (with_reducible assumption) | (with_reducible apply heap_set_same) | ((with_reducible apply heap_set_other'); (focus (first | omega | (simp; done) | (simp; omega)))) | ((with_reducible apply heap_alloc_new); (focus (first | omega | (simp; done) | (simp; omega)))) | (with_reducible apply heap_alloc_old') | (with_reducible apply (heap_drew_at _ _).trans) | (with_reducible apply (heap_drewN_at _ _ _).trans))) (by exact rfl)), (Eq.trans (b := some (Obj.cells _ _ (0, 0))) (by repeat (first | (with_reducible assumption) | (with_reducible apply heap_set_same) | ((with_reducible apply heap_set_other'); (focus (first | omega | (simp; done) | (simp; omega)))) | ((with_reducible apply heap_alloc_new); (focus (first | omega | (simp; done) | (simp; omega)))) | (with_reducible apply heap_alloc_old') | (with_reducible apply (heap_drew_at _ _).trans) | (with_reducible apply (heap_drewN_at _ _ _).trans))) (by exact rfl)), by go_grown⟩)
  case rest =>
    obtain ⟨g, rfl, rfl, hg, h0, h1, h2, hB⟩ := hcut
    clear c0 f0 c1 f1 p0 p1 p2
    obtain ⟨c0, f0, z0⟩ := blk_facts h0
    obtain ⟨c1, f1, z1⟩ := blk_facts h1
    obtain ⟨c2, f2, z2⟩ := blk_facts h2
    go_wp2_with fail
    go_loopw [10] (fun i wr => ∃ (k : Nat), k ≤ len ∧ i = .int .i64 k ∧ wr.heap[w.heap.size]? = some (.cells #[.bool true, .int .i64 f, .int .i64 l, .int .i64 t] 23 (0, 0)) ∧ wr.heap[w.heap.size + 1]? = some (.cells #[.int .i64 f, .int .i64 l, .bool false, .bool wh, .bool ht, .int .i64 xt, .bool sy] 25 (0, 0)) ∧ wr.heap[g]? = some (.cells #[.bool true, .int .i64 f, .int .i64 l, .int .i64 t'] 23 (0, 0)) ∧ Below w.heap.size w wr) (fun i _ => len - (intOf i).toNat)
    case atStart => exact ⟨1, by omega, rfl, (Eq.trans (b := some (Obj.cells _ _ (0, 0))) (by repeat (first | (with_reducible assumption) | (with_reducible apply heap_set_same) | ((with_reducible apply heap_set_other'); (focus (first | omega | (simp; done) | (simp; omega)))) | ((with_reducible apply heap_alloc_new); (focus (first | omega | (simp; done) | (simp; omega)))) | (with_reducible apply heap_alloc_old') | (with_reducible apply (heap_drew_at _ _).trans) | (with_reducible apply (heap_drewN_at _ _ _).trans))) (by exact rfl)), (Eq.trans (b := some (Obj.cells _ _ (0, 0))) (by repeat (first | (with_reducible assumption) | (with_reducible apply heap_set_same) | ((with_reducible apply heap_set_other'); (focus (first | omega | (simp; done) | (simp; omega)))) | ((with_reducible apply heap_alloc_new); (focus (first | omega | (simp; done) | (simp; omega)))) | (with_reducible apply heap_alloc_old') | (with_reducible apply (heap_drew_at _ _).trans) | (with_reducible apply (heap_drewN_at _ _ _).trans))) (by exact rfl)), (Eq.trans (b := some (Obj.cells _ _ (0, 0))) (by repeat (first | (with_reducible assumption) | (with_reducible apply heap_set_same) | ((with_reducible apply heap_set_other'); (focus (first | omega | (simp; done) | (simp; omega)))) | ((with_reducible apply heap_alloc_new); (focus (first | omega | (simp; done) | (simp; omega)))) | (with_reducible apply heap_alloc_old') | (with_reducible apply (heap_drew_at _ _).trans) | (with_reducible apply (heap_drewN_at _ _ _).trans))) (by exact rfl)), by go_grown⟩
    case round =>
      obtain ⟨k, hk, rfl, h0, h1, h2, hB⟩ := hrel
      obtain ⟨c0, f0, z0⟩ := blk_facts h0
      obtain ⟨c1, f1, z1⟩ := blk_facts h1
      obtain ⟨c2, f2, z2⟩ := blk_facts h2
      by_cases hlt : k < len
      · obtain ⟨b, o, hA, hb, q0, q1, q2⟩ := out HZ k hlt
        cases hA
        generalize z k = zk at q0 q1 q2
        obtain ⟨wf, wl, wt⟩ := zk
        dsimp only at q0 q1 q2
        have HT := out HG' wf wl wt
        have p0 := (hB.cell (p := ⟨b, o + k * 3, none⟩) hb).trans q0
        have p1 := (hB.cell (p := ⟨b, o + k * 3 + 1, none⟩) hb).trans q1
        have p2 := (hB.cell (p := ⟨b, o + k * 3 + 2, none⟩) hb).trans q2
        have hb1 := Nat.lt_of_lt_of_le hb hB.size
        go_upto_region 12 with fail
        go_cut [11, 12] from 54 to 77 (fun s11 s12 wx => ∃ g2 : Nat, s11 = .pointer (some ⟨g2, 0, none⟩) ∧ s12 = .int .i64 a ∧ wx.heap[w.heap.size]? = some (.cells #[.bool true, .int .i64 f, .int .i64 l, .int .i64 t] 23 (0, 0)) ∧ wx.heap[w.heap.size + 1]? = some (.cells #[.int .i64 f, .int .i64 l, .bool false, .bool wh, .bool ht, .int .i64 xt, .bool sy] 25 (0, 0)) ∧ wx.heap[g]? = some (.cells #[.bool true, .int .i64 f, .int .i64 l, .int .i64 t'] 23 (0, 0)) ∧ wx.heap[g2]? = some (.cells #[.bool true, .int .i64 f, .int .i64 l, .int .i64 t'] 23 (0, 0)) ∧ Below w.heap.size w wx)
        case first =>
          go_region_held3 (fun w' => (w'.heap[w.heap.size]? = some (.cells #[.bool true, .int .i64 f, .int .i64 l, .int .i64 t] 23 (0, 0)) ∧ (∀ j, w'.cell? ⟨w.heap.size, j, none⟩ = #[.bool true, .int .i64 f, .int .i64 l, .int .i64 t][j]?) ∧ (∀ j, w'.frozen? ⟨w.heap.size, j, none⟩ = false) ∧ w.heap.size < w'.heap.size) ∧ (w'.heap[w.heap.size + 1]? = some (.cells #[.int .i64 f, .int .i64 l, .bool false, .bool wh, .bool ht, .int .i64 xt, .bool sy] 25 (0, 0)) ∧ (∀ j, w'.cell? ⟨w.heap.size + 1, j, none⟩ = #[.int .i64 f, .int .i64 l, .bool false, .bool wh, .bool ht, .int .i64 xt, .bool sy][j]?) ∧ (∀ j, w'.frozen? ⟨w.heap.size + 1, j, none⟩ = false) ∧ w.heap.size + 1 < w'.heap.size) ∧ (w'.heap[g]? = some (.cells #[.bool true, .int .i64 f, .int .i64 l, .int .i64 t'] 23 (0, 0)) ∧ (∀ j, w'.cell? ⟨g, j, none⟩ = #[.bool true, .int .i64 f, .int .i64 l, .int .i64 t'][j]?) ∧ (∀ j, w'.frozen? ⟨g, j, none⟩ = false) ∧ g < w'.heap.size) ∧ w'.cell? ⟨b, o + k * 3, none⟩ = some (.int .i64 wf) ∧ w'.cell? ⟨b, o + k * 3 + 1, none⟩ = some (.int .i64 wl) ∧ w'.cell? ⟨b, o + k * 3 + 2, none⟩ = some (.int .i64 wt) ∧ b < w'.heap.size ∧ Below w.heap.size w w') ((go_split_ands; exact ⟨blk_all (Eq.trans (b := some (Obj.cells _ _ (0, 0))) (by repeat (first | (with_reducible assumption) | (with_reducible apply heap_set_same) | ((with_reducible apply heap_set_other'); (focus (first | omega | (simp; done) | (simp; omega)))) | ((with_reducible apply heap_alloc_new); (focus (first | omega | (simp; done) | (simp; omega)))) | (with_reducible apply heap_alloc_old') | (with_reducible apply (heap_drew_at _ _).trans) | (with_reducible apply (heap_drewN_at _ _ _).trans))) (by exact rfl)), blk_all (Eq.trans (b := some (Obj.cells _ _ (0, 0))) (by repeat (first | (with_reducible assumption) | (with_reducible apply heap_set_same) | ((with_reducible apply heap_set_other'); (focus (first | omega | (simp; done) | (simp; omega)))) | ((with_reducible apply heap_alloc_new); (focus (first | omega | (simp; done) | (simp; omega)))) | (with_reducible apply heap_alloc_old') | (with_reducible apply (heap_drew_at _ _).trans) | (with_reducible apply (heap_drewN_at _ _ _).trans))) (by exact rfl)), blk_all (Eq.trans (b := some (Obj.cells _ _ (0, 0))) (by repeat (first | (with_reducible assumption) | (with_reducible apply heap_set_same) | ((with_reducible apply heap_set_other'); (focus (first | omega | (simp; done) | (simp; omega)))) | ((with_reducible apply heap_alloc_new); (focus (first | omega | (simp; done) | (simp; omega)))) | (with_reducible apply heap_alloc_old') | (with_reducible apply (heap_drew_at _ _).trans) | (with_reducible apply (heap_drewN_at _ _ _).trans))) (by exact rfl)), ((Below.cell (by go_grown : Below w.heap.size w _) hb).trans q0), ((Below.cell (by go_grown : Below w.heap.size w _) hb).trans q1), ((Below.cell (by go_grown : Below w.heap.size w _) hb).trans q2), (Nat.lt_of_lt_of_le hb (Below.size (by go_grown : Below w.heap.size w _))), by go_grown⟩)) (first | (go_at_call 10; go_split_ands; (with_reducible refine (take_as HT _).mono ?_); rintro e w2 ⟨rfl, hb⟩; have hB := below_next (w := w) (by go_grown) hb; have hr0 : w2.heap[w.heap.size]? = some (.cells #[.bool true, .int .i64 f, .int .i64 l, .int .i64 t] 23 (0, 0)) := (hb.block (w.heap.size) (by first | omega | (simp; done) | (simp; omega))).trans (Eq.trans (b := some (Obj.cells _ _ (0, 0))) (by repeat (first | (with_reducible assumption) | (with_reducible apply heap_set_same) | ((with_reducible apply heap_set_other'); (focus (first | omega | (simp; done) | (simp; omega)))) | ((with_reducible apply heap_alloc_new); (focus (first | omega | (simp; done) | (simp; omega)))) | (with_reducible apply heap_alloc_old') | (with_reducible apply (heap_drew_at _ _).trans) | (with_reducible apply (heap_drewN_at _ _ _).trans))) (by exact rfl)); have hr1 : w2.heap[w.heap.size + 1]? = some (.cells #[.int .i64 f, .int .i64 l, .bool false, .bool wh, .bool ht, .int .i64 xt, .bool sy] 25 (0, 0)) := (hb.block (w.heap.size + 1) (by first | omega | (simp; done) | (simp; omega))).trans (Eq.trans (b := some (Obj.cells _ _ (0, 0))) (by repeat (first | (with_reducible assumption) | (with_reducible apply heap_set_same) | ((with_reducible apply heap_set_other'); (focus (first | omega | (simp; done) | (simp; omega)))) | ((with_reducible apply heap_alloc_new); (focus (first | omega | (simp; done) | (simp; omega)))) | (with_reducible apply heap_alloc_old') | (with_reducible apply (heap_drew_at _ _).trans) | (with_reducible apply (heap_drewN_at _ _ _).trans))) (by exact rfl)); have hr2 : w2.heap[g]? = some (.cells #[.bool true, .int .i64 f, .int .i64 l, .int .i64 t'] 23 (0, 0)) := (hb.block (g) (by first | omega | (simp; done) | (simp; omega))).trans (Eq.trans (b := some (Obj.cells _ _ (0, 0))) (by repeat (first | (with_reducible assumption) | (with_reducible apply heap_set_same) | ((with_reducible apply heap_set_other'); (focus (first | omega | (simp; done) | (simp; omega)))) | ((with_reducible apply heap_alloc_new); (focus (first | omega | (simp; done) | (simp; omega)))) | (with_reducible apply heap_alloc_old') | (with_reducible apply (heap_drew_at _ _).trans) | (with_reducible apply (heap_drewN_at _ _ _).trans))) (by exact rfl)); have zr0 := blk_lt hr0; have zr1 := blk_lt hr1; have zr2 := blk_lt hr2; (try first | ((have hn := heap_below hb (by first | omega | (simp; done) | (simp; omega)) hA); clear hA fA cA; have hA := hn; clear hn; obtain ⟨cA, fA, zA⟩ := blk_facts hA) | ((have hn := heap_below hb (by first | omega | (simp; done) | (simp; omega)) (heap_alloc_old' hA)); clear hA fA cA; have hA := hn; clear hn; obtain ⟨cA, fA, zA⟩ := blk_facts hA) | ((have hn := heap_below hb (by first | omega | (simp; done) | (simp; omega)) (heap_alloc_old' (heap_alloc_old' hA))); clear hA fA cA; have hA := hn; clear hn; obtain ⟨cA, fA, zA⟩ := blk_facts hA) | ((have hA := (hb.block (wr.heap.size) (by first | omega | (simp; done) | (simp; omega))).trans (by repeat (first | (with_reducible assumption) | (with_reducible apply heap_set_same) | ((with_reducible apply heap_set_other'); (focus (first | omega | (simp; done) | (simp; omega)))) | ((with_reducible apply heap_alloc_new); (focus (first | omega | (simp; done) | (simp; omega)))) | (with_reducible apply heap_alloc_old') | (with_reducible apply (heap_drew_at _ _).trans) | (with_reducible apply (heap_drewN_at _ _ _).trans)))); obtain ⟨cA, fA, zA⟩ := blk_facts hA) | ((have hA := (hb.block _ (lt_alloc _ _)).trans (heap_alloc_new _ _ _ rfl)); (fail_if_success (have hq : w2.heap[w.heap.size]? = some _ := hA)); (fail_if_success (have hq : w2.heap[w.heap.size + 1]? = some _ := hA)); (fail_if_success (have hq : w2.heap[g]? = some _ := hA)); obtain ⟨cA, fA, zA⟩ := blk_facts hA)); clear hb))
          all_goals (go_wp2_with fail; go_meet; go_split_ands; exact ⟨_, rfl, rfl, (Eq.trans (b := some (Obj.cells _ _ (0, 0))) (by repeat (first | (with_reducible assumption) | (with_reducible apply heap_set_same) | ((with_reducible apply heap_set_other'); (focus (first | omega | (simp; done) | (simp; omega)))) | ((with_reducible apply heap_alloc_new); (focus (first | omega | (simp; done) | (simp; omega)))) | (with_reducible apply heap_alloc_old') | (with_reducible apply (heap_drew_at _ _).trans) | (with_reducible apply (heap_drewN_at _ _ _).trans))) (by exact rfl)), (Eq.trans (b := some (Obj.cells _ _ (0, 0))) (by repeat (first | (with_reducible assumption) | (with_reducible apply heap_set_same) | ((with_reducible apply heap_set_other'); (focus (first | omega | (simp; done) | (simp; omega)))) | ((with_reducible apply heap_alloc_new); (focus (first | omega | (simp; done) | (simp; omega)))) | (with_reducible apply heap_alloc_old') | (with_reducible apply (heap_drew_at _ _).trans) | (with_reducible apply (heap_drewN_at _ _ _).trans))) (by exact rfl)), (Eq.trans (b := some (Obj.cells _ _ (0, 0))) (by repeat (first | (with_reducible assumption) | (with_reducible apply heap_set_same) | ((with_reducible apply heap_set_other'); (focus (first | omega | (simp; done) | (simp; omega)))) | ((with_reducible apply heap_alloc_new); (focus (first | omega | (simp; done) | (simp; omega)))) | (with_reducible apply heap_alloc_old') | (with_reducible apply (heap_drew_at _ _).trans) | (with_reducible apply (heap_drewN_at _ _ _).trans))) (by exact rfl)), (Eq.trans (b := some (Obj.cells _ _ (0, 0))) (by repeat (first | (with_reducible assumption) | (with_reducible apply heap_set_same) | ((with_reducible apply heap_set_other'); (focus (first | omega | (simp; done) | (simp; omega)))) | ((with_reducible apply heap_alloc_new); (focus (first | omega | (simp; done) | (simp; omega)))) | (with_reducible apply heap_alloc_old') | (with_reducible apply (heap_drew_at _ _).trans) | (with_reducible apply (heap_drewN_at _ _ _).trans))) (by exact rfl)), by go_grown⟩)
        case rest =>
          obtain ⟨g2, rfl, rfl, h0, h1, h2, h3, hB⟩ := hcut
          clear c0 f0 c1 f1 c2 f2 p0 p1 p2
          obtain ⟨c0, f0, z0⟩ := blk_facts h0
          obtain ⟨c1, f1, z1⟩ := blk_facts h1
          obtain ⟨c2, f2, z2⟩ := blk_facts h2
          obtain ⟨c3, f3, z3⟩ := blk_facts h3
          go_wp2_with fail
          go_roundw
          case rel => exact ⟨k + 1, by omega, by go_num, (Eq.trans (b := some (Obj.cells _ _ (0, 0))) (by repeat (first | (with_reducible assumption) | (with_reducible apply heap_set_same) | ((with_reducible apply heap_set_other'); (focus (first | omega | (simp; done) | (simp; omega)))) | ((with_reducible apply heap_alloc_new); (focus (first | omega | (simp; done) | (simp; omega)))) | (with_reducible apply heap_alloc_old') | (with_reducible apply (heap_drew_at _ _).trans) | (with_reducible apply (heap_drewN_at _ _ _).trans))) (by exact rfl)), (Eq.trans (b := some (Obj.cells _ _ (0, 0))) (by repeat (first | (with_reducible assumption) | (with_reducible apply heap_set_same) | ((with_reducible apply heap_set_other'); (focus (first | omega | (simp; done) | (simp; omega)))) | ((with_reducible apply heap_alloc_new); (focus (first | omega | (simp; done) | (simp; omega)))) | (with_reducible apply heap_alloc_old') | (with_reducible apply (heap_drew_at _ _).trans) | (with_reducible apply (heap_drewN_at _ _ _).trans))) (by exact rfl)), (Eq.trans (b := some (Obj.cells _ _ (0, 0))) (by repeat (first | (with_reducible assumption) | (with_reducible apply heap_set_same) | ((with_reducible apply heap_set_other'); (focus (first | omega | (simp; done) | (simp; omega)))) | ((with_reducible apply heap_alloc_new); (focus (first | omega | (simp; done) | (simp; omega)))) | (with_reducible apply heap_alloc_old') | (with_reducible apply (heap_drew_at _ _).trans) | (with_reducible apply (heap_drewN_at _ _ _).trans))) (by exact rfl)), by go_grown⟩
          case measure => simp [intOf]; omega
      · rcases out HA with rfl | rfl
        all_goals (go_wp2_with fail; go_ret; exact ⟨rfl, by go_grown⟩)
theorem frames_walk (on : Bool) (f l t : Int) (xf xl : Int) (bg wh ht : Bool) (xt : Int) (sy : Bool) (A : Option Addr) (len cap : Nat) (z : Nat → WantV) (w : World) (hl : len ≤ 9223372036854775807) (hz : WantsAt w A len z) : Calls Try.prog 6 #[.agg #[.bool on, .int .i64 f, .int .i64 l, .int .i64 t], .agg #[.int .i64 xf, .int .i64 xl, .bool bg, .bool wh, .bool ht, .int .i64 xt, .bool sy], .slice A len cap] w fun e w' => e = .returned (.bool true) ∧ Below w.heap.size w w' := by
  by_cases h1 : 60 < len
  · exact frames_long _ _ _ _ _ _ _ _ _ _ _ _ _ _ _ hl h1
  by_cases h2 : len = 0
  · exact frames_none _ _ _ _ _ _ _ _ _ _ _ _ _ _ _ hl h2
  cases on with
  | false => exact frames_off _ _ _ _ _ _ _ _ _ _ _ _ _ _ hl (by omega) h1
  | true =>
    by_cases h3 : xf = f
    · subst h3
      by_cases h4 : xl = l
      · subst h4
        exact frames_main _ _ _ _ _ _ _ _ _ _ _ z _ (by omega) (by omega) hz
      · exact frames_layer _ _ _ _ _ _ _ _ _ _ _ _ _ hl (by omega) h1 (by simpa using h4)
    · exact frames_from _ _ _ _ _ _ _ _ _ _ _ _ _ _ hl (by omega) h1 (by simpa using h3)
end Go.Proofs.Ytiajgdpceedmlaa
