/- The law ChooseTids, walked. -/
import Derived.Test.YtiajgdpceedmlaaSteps
namespace Go.Proofs.Ytiajgdpceedmlaa
set_option linter.unusedSimpArgs false
set_option linter.unusedVariables false
open Go.RowKit
set_option maxRecDepth 100000 in
set_option maxHeartbeats 2000000 in
theorem tids_walk (A : Option Addr) (len cap : Nat) (z : Nat → StepV) (w : World) (hl : len ≤ 9223372036854775807) (hz : StepsAt w A len z) :
    Calls Try.prog 5 #[.slice A len cap] w fun e w' => e = .returned (.bool true) ∧ Below w.heap.size w w' := by
  by_cases hlen : 200 < len
  · clear hz
    go_enter Try.func5, Try.ntmps5
    go_wp2_with fail
    (with_reducible refine (awake_any _).mono ?_)
    rintro e w1 ⟨rfl, hb⟩
    have hB := below_next (w := w) (by go_grown) hb
    clear hb
    go_wp2_with fail
    go_ret
    exact ⟨rfl, by go_grown⟩
  go_enter Try.func5, Try.ntmps5
  go_wp2_with fail
  (with_reducible refine (awake_any _).mono ?_)
  rintro e w1 ⟨rfl, hb⟩
  have hB := below_next (w := w) (by go_grown) hb
  clear hb
  go_wp2_with fail
  have z00 : w.heap.size ≤ w1.heap.size := hB.size
  go_loopw [5] (fun i wr => ∃ (k : Nat) (on : Bool) (f l t : Int), k ≤ len ∧ i = .int .i64 k ∧ wr.heap[w1.heap.size]? = some (.cells #[.bool on, .int .i64 f, .int .i64 l, .int .i64 t] 23 (0, 0)) ∧ Below w.heap.size w wr) (fun i _ => len - (intOf i).toNat)
  case atStart => exact ⟨0, false, 0, 0, 0, by omega, rfl, (Eq.trans (b := some (Obj.cells _ _ (0, 0))) (by repeat (first | (with_reducible assumption) | (with_reducible apply heap_set_same) | ((with_reducible apply heap_set_other'); (focus (first | omega | (simp; done) | (simp; omega)))) | ((with_reducible apply heap_alloc_new); (focus (first | omega | (simp; done) | (simp; omega)))) | (with_reducible apply heap_alloc_old') | (with_reducible apply (heap_drew_at _ _).trans) | (with_reducible apply (heap_drewN_at _ _ _).trans))) (by exact rfl)), by go_grown⟩
  case round =>
    obtain ⟨k, on, f, l, t, hk, rfl, h0, hB⟩ := hrel
    obtain ⟨c0, f0, z0⟩ := blk_facts h0
    by_cases hlt : k < len
    · obtain ⟨b, o, rfl, hb, q0, q1, q2, q3, q4, q5, q6, q7, q8, q9⟩ := hz k hlt
      clear hz
      generalize z k = zk at *
      obtain ⟨xf, xl, bg, wh, ht, xt, sy, wf, wl, wt⟩ := zk
      dsimp only at q0 q1 q2 q3 q4 q5 q6 q7 q8 q9
      replace q0 := (hB.cell (p := ⟨b, o + k * 10, none⟩) hb).trans q0
      replace q1 := (hB.cell (p := ⟨b, o + k * 10 + 1, none⟩) hb).trans q1
      replace q2 := (hB.cell (p := ⟨b, o + k * 10 + 2, none⟩) hb).trans q2
      replace q3 := (hB.cell (p := ⟨b, o + k * 10 + 3, none⟩) hb).trans q3
      replace q4 := (hB.cell (p := ⟨b, o + k * 10 + 4, none⟩) hb).trans q4
      replace q5 := (hB.cell (p := ⟨b, o + k * 10 + 5, none⟩) hb).trans q5
      replace q6 := (hB.cell (p := ⟨b, o + k * 10 + 6, none⟩) hb).trans q6
      replace q7 := (hB.cell (p := ⟨b, o + k * 10 + 7, none⟩) hb).trans q7
      replace q8 := (hB.cell (p := ⟨b, o + k * 10 + 7 + 1, none⟩) hb).trans q8
      replace q9 := (hB.cell (p := ⟨b, o + k * 10 + 7 + 2, none⟩) hb).trans q9
      have hbr := Nat.lt_of_lt_of_le hb hB.size
      rcases take_cases on f l t xf xl bg wh ht xt sy wf wl wt with ⟨rfl, rfl, rfl, t', HT, h5, h6⟩ | ⟨rfl, rfl, rfl, t', HT, h5, rfl, h6⟩ | ⟨HT, -⟩ | ⟨HT, rfl, rfl, rfl, rfl, -⟩
      · -- sent
        rcases no_above h6 with rfl | ⟨rfl, h6⟩
        · -- none told
          rcases tid_three h5 with ⟨rfl, rfl⟩ | ⟨rfl, rfl, h7⟩ | ⟨rfl, h8, h7⟩
          · -- not at a begin
            clear h5
            go_wp2_with fail
            (with_reducible refine (take_as HT _).mono ?_)
            rintro e w2 ⟨rfl, hb⟩
            (try (have g0 := h0; clear h0 f0 c0))
            (try (have g1 := h1; clear h1 f1 c1))
            (try (have g2 := h2; clear h2 f2 c2))
            have hB := below_next (w := w) (by go_grown) hb
            have h0 : w2.heap[w1.heap.size]? = some (.cells #[.bool true, .int .i64 xf, .int .i64 xl, .int .i64 t'] 23 (0, 0)) := (hb.block (w1.heap.size) (by first | omega | (simp; done) | (simp; omega))).trans (Eq.trans (b := some (Obj.cells _ _ (0, 0))) (by repeat (first | (with_reducible assumption) | (with_reducible apply heap_set_same) | ((with_reducible apply heap_set_other'); (focus (first | omega | (simp; done) | (simp; omega)))) | ((with_reducible apply heap_alloc_new); (focus (first | omega | (simp; done) | (simp; omega)))) | (with_reducible apply heap_alloc_old') | (with_reducible apply (heap_drew_at _ _).trans) | (with_reducible apply (heap_drewN_at _ _ _).trans))) (by exact rfl))
            have h1 : w2.heap[wr.heap.size]? = some (.cells #[.int .i64 xf, .int .i64 xl, .bool false, .bool wh, .bool false, .int .i64 xt, .bool sy] 25 (0, 0)) := (hb.block (wr.heap.size) (by first | omega | (simp; done) | (simp; omega))).trans (Eq.trans (b := some (Obj.cells _ _ (0, 0))) (by repeat (first | (with_reducible assumption) | (with_reducible apply heap_set_same) | ((with_reducible apply heap_set_other'); (focus (first | omega | (simp; done) | (simp; omega)))) | ((with_reducible apply heap_alloc_new); (focus (first | omega | (simp; done) | (simp; omega)))) | (with_reducible apply heap_alloc_old') | (with_reducible apply (heap_drew_at _ _).trans) | (with_reducible apply (heap_drewN_at _ _ _).trans))) (by exact rfl))
            have h2 : w2.heap[wr.heap.size + 1]? = some (.cells #[.int .i64 wf, .int .i64 wl, .int .i64 wt] 27 (0, 0)) := (hb.block (wr.heap.size + 1) (by first | omega | (simp; done) | (simp; omega))).trans (Eq.trans (b := some (Obj.cells _ _ (0, 0))) (by repeat (first | (with_reducible assumption) | (with_reducible apply heap_set_same) | ((with_reducible apply heap_set_other'); (focus (first | omega | (simp; done) | (simp; omega)))) | ((with_reducible apply heap_alloc_new); (focus (first | omega | (simp; done) | (simp; omega)))) | (with_reducible apply heap_alloc_old') | (with_reducible apply (heap_drew_at _ _).trans) | (with_reducible apply (heap_drewN_at _ _ _).trans))) (by exact rfl))
            clear hb
            (try clear g0)
            obtain ⟨c0, f0, z0⟩ := blk_facts h0
            (try clear g1)
            obtain ⟨c1, f1, z1⟩ := blk_facts h1
            (try clear g2)
            obtain ⟨c2, f2, z2⟩ := blk_facts h2
            have z9 : w.heap.size ≤ w2.heap.size := hB.size
            have zr : wr.heap.size + 2 ≤ w2.heap.size := by omega
            go_wp2_with fail
            go_roundw
            case rel => exact ⟨k + 1, _, _, _, _, by omega, by go_num, (Eq.trans (b := some (Obj.cells _ _ (0, 0))) (by repeat (first | (with_reducible assumption) | (with_reducible apply heap_set_same) | ((with_reducible apply heap_set_other'); (focus (first | omega | (simp; done) | (simp; omega)))) | ((with_reducible apply heap_alloc_new); (focus (first | omega | (simp; done) | (simp; omega)))) | (with_reducible apply heap_alloc_old') | (with_reducible apply (heap_drew_at _ _).trans) | (with_reducible apply (heap_drewN_at _ _ _).trans))) (by exact rfl)), by go_grown⟩
            case measure => simp [intOf]; omega
          · -- at a begin, as it was
            clear h5
            go_wp2_with fail
            (with_reducible refine (take_as HT _).mono ?_)
            rintro e w2 ⟨rfl, hb⟩
            (try (have g0 := h0; clear h0 f0 c0))
            (try (have g1 := h1; clear h1 f1 c1))
            (try (have g2 := h2; clear h2 f2 c2))
            have hB := below_next (w := w) (by go_grown) hb
            have h0 : w2.heap[w1.heap.size]? = some (.cells #[.bool true, .int .i64 xf, .int .i64 xl, .int .i64 t'] 23 (0, 0)) := (hb.block (w1.heap.size) (by first | omega | (simp; done) | (simp; omega))).trans (Eq.trans (b := some (Obj.cells _ _ (0, 0))) (by repeat (first | (with_reducible assumption) | (with_reducible apply heap_set_same) | ((with_reducible apply heap_set_other'); (focus (first | omega | (simp; done) | (simp; omega)))) | ((with_reducible apply heap_alloc_new); (focus (first | omega | (simp; done) | (simp; omega)))) | (with_reducible apply heap_alloc_old') | (with_reducible apply (heap_drew_at _ _).trans) | (with_reducible apply (heap_drewN_at _ _ _).trans))) (by exact rfl))
            have h1 : w2.heap[wr.heap.size]? = some (.cells #[.int .i64 xf, .int .i64 xl, .bool true, .bool wh, .bool false, .int .i64 xt, .bool sy] 25 (0, 0)) := (hb.block (wr.heap.size) (by first | omega | (simp; done) | (simp; omega))).trans (Eq.trans (b := some (Obj.cells _ _ (0, 0))) (by repeat (first | (with_reducible assumption) | (with_reducible apply heap_set_same) | ((with_reducible apply heap_set_other'); (focus (first | omega | (simp; done) | (simp; omega)))) | ((with_reducible apply heap_alloc_new); (focus (first | omega | (simp; done) | (simp; omega)))) | (with_reducible apply heap_alloc_old') | (with_reducible apply (heap_drew_at _ _).trans) | (with_reducible apply (heap_drewN_at _ _ _).trans))) (by exact rfl))
            have h2 : w2.heap[wr.heap.size + 1]? = some (.cells #[.int .i64 wf, .int .i64 wl, .int .i64 wt] 27 (0, 0)) := (hb.block (wr.heap.size + 1) (by first | omega | (simp; done) | (simp; omega))).trans (Eq.trans (b := some (Obj.cells _ _ (0, 0))) (by repeat (first | (with_reducible assumption) | (with_reducible apply heap_set_same) | ((with_reducible apply heap_set_other'); (focus (first | omega | (simp; done) | (simp; omega)))) | ((with_reducible apply heap_alloc_new); (focus (first | omega | (simp; done) | (simp; omega)))) | (with_reducible apply heap_alloc_old') | (with_reducible apply (heap_drew_at _ _).trans) | (with_reducible apply (heap_drewN_at _ _ _).trans))) (by exact rfl))
            clear hb
            (try clear g0)
            obtain ⟨c0, f0, z0⟩ := blk_facts h0
            (try clear g1)
            obtain ⟨c1, f1, z1⟩ := blk_facts h1
            (try clear g2)
            obtain ⟨c2, f2, z2⟩ := blk_facts h2
            have z9 : w.heap.size ≤ w2.heap.size := hB.size
            have zr : wr.heap.size + 2 ≤ w2.heap.size := by omega
            go_wp2_with fail
            go_roundw
            case rel => exact ⟨k + 1, _, _, _, _, by omega, by go_num, (Eq.trans (b := some (Obj.cells _ _ (0, 0))) (by repeat (first | (with_reducible assumption) | (with_reducible apply heap_set_same) | ((with_reducible apply heap_set_other'); (focus (first | omega | (simp; done) | (simp; omega)))) | ((with_reducible apply heap_alloc_new); (focus (first | omega | (simp; done) | (simp; omega)))) | (with_reducible apply heap_alloc_old') | (with_reducible apply (heap_drew_at _ _).trans) | (with_reducible apply (heap_drewN_at _ _ _).trans))) (by exact rfl)), by go_grown⟩
            case measure => simp [intOf]; omega
          · -- at a begin
            clear h5
            go_wp2_with fail
            (with_reducible refine (take_as HT _).mono ?_)
            rintro e w2 ⟨rfl, hb⟩
            (try (have g0 := h0; clear h0 f0 c0))
            (try (have g1 := h1; clear h1 f1 c1))
            (try (have g2 := h2; clear h2 f2 c2))
            have hB := below_next (w := w) (by go_grown) hb
            have h0 : w2.heap[w1.heap.size]? = some (.cells #[.bool true, .int .i64 xf, .int .i64 xl, .int .i64 t] 23 (0, 0)) := (hb.block (w1.heap.size) (by first | omega | (simp; done) | (simp; omega))).trans (Eq.trans (b := some (Obj.cells _ _ (0, 0))) (by repeat (first | (with_reducible assumption) | (with_reducible apply heap_set_same) | ((with_reducible apply heap_set_other'); (focus (first | omega | (simp; done) | (simp; omega)))) | ((with_reducible apply heap_alloc_new); (focus (first | omega | (simp; done) | (simp; omega)))) | (with_reducible apply heap_alloc_old') | (with_reducible apply (heap_drew_at _ _).trans) | (with_reducible apply (heap_drewN_at _ _ _).trans))) (by exact rfl))
            have h1 : w2.heap[wr.heap.size]? = some (.cells #[.int .i64 xf, .int .i64 xl, .bool true, .bool wh, .bool false, .int .i64 xt, .bool sy] 25 (0, 0)) := (hb.block (wr.heap.size) (by first | omega | (simp; done) | (simp; omega))).trans (Eq.trans (b := some (Obj.cells _ _ (0, 0))) (by repeat (first | (with_reducible assumption) | (with_reducible apply heap_set_same) | ((with_reducible apply heap_set_other'); (focus (first | omega | (simp; done) | (simp; omega)))) | ((with_reducible apply heap_alloc_new); (focus (first | omega | (simp; done) | (simp; omega)))) | (with_reducible apply heap_alloc_old') | (with_reducible apply (heap_drew_at _ _).trans) | (with_reducible apply (heap_drewN_at _ _ _).trans))) (by exact rfl))
            have h2 : w2.heap[wr.heap.size + 1]? = some (.cells #[.int .i64 wf, .int .i64 wl, .int .i64 wt] 27 (0, 0)) := (hb.block (wr.heap.size + 1) (by first | omega | (simp; done) | (simp; omega))).trans (Eq.trans (b := some (Obj.cells _ _ (0, 0))) (by repeat (first | (with_reducible assumption) | (with_reducible apply heap_set_same) | ((with_reducible apply heap_set_other'); (focus (first | omega | (simp; done) | (simp; omega)))) | ((with_reducible apply heap_alloc_new); (focus (first | omega | (simp; done) | (simp; omega)))) | (with_reducible apply heap_alloc_old') | (with_reducible apply (heap_drew_at _ _).trans) | (with_reducible apply (heap_drewN_at _ _ _).trans))) (by exact rfl))
            clear hb
            (try clear g0)
            obtain ⟨c0, f0, z0⟩ := blk_facts h0
            (try clear g1)
            obtain ⟨c1, f1, z1⟩ := blk_facts h1
            (try clear g2)
            obtain ⟨c2, f2, z2⟩ := blk_facts h2
            have z9 : w.heap.size ≤ w2.heap.size := hB.size
            have zr : wr.heap.size + 2 ≤ w2.heap.size := by omega
            go_wp2_with fail
            go_roundw
            case rel => exact ⟨k + 1, _, _, _, _, by omega, by go_num, (Eq.trans (b := some (Obj.cells _ _ (0, 0))) (by repeat (first | (with_reducible assumption) | (with_reducible apply heap_set_same) | ((with_reducible apply heap_set_other'); (focus (first | omega | (simp; done) | (simp; omega)))) | ((with_reducible apply heap_alloc_new); (focus (first | omega | (simp; done) | (simp; omega)))) | (with_reducible apply heap_alloc_old') | (with_reducible apply (heap_drew_at _ _).trans) | (with_reducible apply (heap_drewN_at _ _ _).trans))) (by exact rfl)), by go_grown⟩
            case measure => simp [intOf]; omega
        · -- not above
          rcases tid_three h5 with ⟨rfl, rfl⟩ | ⟨rfl, rfl, h7⟩ | ⟨rfl, h8, h7⟩
          · -- not at a begin
            clear h5
            go_wp2_with fail
            (with_reducible refine (take_as HT _).mono ?_)
            rintro e w2 ⟨rfl, hb⟩
            (try (have g0 := h0; clear h0 f0 c0))
            (try (have g1 := h1; clear h1 f1 c1))
            (try (have g2 := h2; clear h2 f2 c2))
            have hB := below_next (w := w) (by go_grown) hb
            have h0 : w2.heap[w1.heap.size]? = some (.cells #[.bool true, .int .i64 xf, .int .i64 xl, .int .i64 t'] 23 (0, 0)) := (hb.block (w1.heap.size) (by first | omega | (simp; done) | (simp; omega))).trans (Eq.trans (b := some (Obj.cells _ _ (0, 0))) (by repeat (first | (with_reducible assumption) | (with_reducible apply heap_set_same) | ((with_reducible apply heap_set_other'); (focus (first | omega | (simp; done) | (simp; omega)))) | ((with_reducible apply heap_alloc_new); (focus (first | omega | (simp; done) | (simp; omega)))) | (with_reducible apply heap_alloc_old') | (with_reducible apply (heap_drew_at _ _).trans) | (with_reducible apply (heap_drewN_at _ _ _).trans))) (by exact rfl))
            have h1 : w2.heap[wr.heap.size]? = some (.cells #[.int .i64 xf, .int .i64 xl, .bool false, .bool wh, .bool true, .int .i64 xt, .bool sy] 25 (0, 0)) := (hb.block (wr.heap.size) (by first | omega | (simp; done) | (simp; omega))).trans (Eq.trans (b := some (Obj.cells _ _ (0, 0))) (by repeat (first | (with_reducible assumption) | (with_reducible apply heap_set_same) | ((with_reducible apply heap_set_other'); (focus (first | omega | (simp; done) | (simp; omega)))) | ((with_reducible apply heap_alloc_new); (focus (first | omega | (simp; done) | (simp; omega)))) | (with_reducible apply heap_alloc_old') | (with_reducible apply (heap_drew_at _ _).trans) | (with_reducible apply (heap_drewN_at _ _ _).trans))) (by exact rfl))
            have h2 : w2.heap[wr.heap.size + 1]? = some (.cells #[.int .i64 wf, .int .i64 wl, .int .i64 wt] 27 (0, 0)) := (hb.block (wr.heap.size + 1) (by first | omega | (simp; done) | (simp; omega))).trans (Eq.trans (b := some (Obj.cells _ _ (0, 0))) (by repeat (first | (with_reducible assumption) | (with_reducible apply heap_set_same) | ((with_reducible apply heap_set_other'); (focus (first | omega | (simp; done) | (simp; omega)))) | ((with_reducible apply heap_alloc_new); (focus (first | omega | (simp; done) | (simp; omega)))) | (with_reducible apply heap_alloc_old') | (with_reducible apply (heap_drew_at _ _).trans) | (with_reducible apply (heap_drewN_at _ _ _).trans))) (by exact rfl))
            clear hb
            (try clear g0)
            obtain ⟨c0, f0, z0⟩ := blk_facts h0
            (try clear g1)
            obtain ⟨c1, f1, z1⟩ := blk_facts h1
            (try clear g2)
            obtain ⟨c2, f2, z2⟩ := blk_facts h2
            have z9 : w.heap.size ≤ w2.heap.size := hB.size
            have zr : wr.heap.size + 2 ≤ w2.heap.size := by omega
            go_wp2_with fail
            go_roundw
            case rel => exact ⟨k + 1, _, _, _, _, by omega, by go_num, (Eq.trans (b := some (Obj.cells _ _ (0, 0))) (by repeat (first | (with_reducible assumption) | (with_reducible apply heap_set_same) | ((with_reducible apply heap_set_other'); (focus (first | omega | (simp; done) | (simp; omega)))) | ((with_reducible apply heap_alloc_new); (focus (first | omega | (simp; done) | (simp; omega)))) | (with_reducible apply heap_alloc_old') | (with_reducible apply (heap_drew_at _ _).trans) | (with_reducible apply (heap_drewN_at _ _ _).trans))) (by exact rfl)), by go_grown⟩
            case measure => simp [intOf]; omega
          · -- at a begin, as it was
            clear h5
            go_wp2_with fail
            (with_reducible refine (take_as HT _).mono ?_)
            rintro e w2 ⟨rfl, hb⟩
            (try (have g0 := h0; clear h0 f0 c0))
            (try (have g1 := h1; clear h1 f1 c1))
            (try (have g2 := h2; clear h2 f2 c2))
            have hB := below_next (w := w) (by go_grown) hb
            have h0 : w2.heap[w1.heap.size]? = some (.cells #[.bool true, .int .i64 xf, .int .i64 xl, .int .i64 t'] 23 (0, 0)) := (hb.block (w1.heap.size) (by first | omega | (simp; done) | (simp; omega))).trans (Eq.trans (b := some (Obj.cells _ _ (0, 0))) (by repeat (first | (with_reducible assumption) | (with_reducible apply heap_set_same) | ((with_reducible apply heap_set_other'); (focus (first | omega | (simp; done) | (simp; omega)))) | ((with_reducible apply heap_alloc_new); (focus (first | omega | (simp; done) | (simp; omega)))) | (with_reducible apply heap_alloc_old') | (with_reducible apply (heap_drew_at _ _).trans) | (with_reducible apply (heap_drewN_at _ _ _).trans))) (by exact rfl))
            have h1 : w2.heap[wr.heap.size]? = some (.cells #[.int .i64 xf, .int .i64 xl, .bool true, .bool wh, .bool true, .int .i64 xt, .bool sy] 25 (0, 0)) := (hb.block (wr.heap.size) (by first | omega | (simp; done) | (simp; omega))).trans (Eq.trans (b := some (Obj.cells _ _ (0, 0))) (by repeat (first | (with_reducible assumption) | (with_reducible apply heap_set_same) | ((with_reducible apply heap_set_other'); (focus (first | omega | (simp; done) | (simp; omega)))) | ((with_reducible apply heap_alloc_new); (focus (first | omega | (simp; done) | (simp; omega)))) | (with_reducible apply heap_alloc_old') | (with_reducible apply (heap_drew_at _ _).trans) | (with_reducible apply (heap_drewN_at _ _ _).trans))) (by exact rfl))
            have h2 : w2.heap[wr.heap.size + 1]? = some (.cells #[.int .i64 wf, .int .i64 wl, .int .i64 wt] 27 (0, 0)) := (hb.block (wr.heap.size + 1) (by first | omega | (simp; done) | (simp; omega))).trans (Eq.trans (b := some (Obj.cells _ _ (0, 0))) (by repeat (first | (with_reducible assumption) | (with_reducible apply heap_set_same) | ((with_reducible apply heap_set_other'); (focus (first | omega | (simp; done) | (simp; omega)))) | ((with_reducible apply heap_alloc_new); (focus (first | omega | (simp; done) | (simp; omega)))) | (with_reducible apply heap_alloc_old') | (with_reducible apply (heap_drew_at _ _).trans) | (with_reducible apply (heap_drewN_at _ _ _).trans))) (by exact rfl))
            clear hb
            (try clear g0)
            obtain ⟨c0, f0, z0⟩ := blk_facts h0
            (try clear g1)
            obtain ⟨c1, f1, z1⟩ := blk_facts h1
            (try clear g2)
            obtain ⟨c2, f2, z2⟩ := blk_facts h2
            have z9 : w.heap.size ≤ w2.heap.size := hB.size
            have zr : wr.heap.size + 2 ≤ w2.heap.size := by omega
            go_wp2_with fail
            go_roundw
            case rel => exact ⟨k + 1, _, _, _, _, by omega, by go_num, (Eq.trans (b := some (Obj.cells _ _ (0, 0))) (by repeat (first | (with_reducible assumption) | (with_reducible apply heap_set_same) | ((with_reducible apply heap_set_other'); (focus (first | omega | (simp; done) | (simp; omega)))) | ((with_reducible apply heap_alloc_new); (focus (first | omega | (simp; done) | (simp; omega)))) | (with_reducible apply heap_alloc_old') | (with_reducible apply (heap_drew_at _ _).trans) | (with_reducible apply (heap_drewN_at _ _ _).trans))) (by exact rfl)), by go_grown⟩
            case measure => simp [intOf]; omega
          · -- at a begin
            clear h5
            go_wp2_with fail
            (with_reducible refine (take_as HT _).mono ?_)
            rintro e w2 ⟨rfl, hb⟩
            (try (have g0 := h0; clear h0 f0 c0))
            (try (have g1 := h1; clear h1 f1 c1))
            (try (have g2 := h2; clear h2 f2 c2))
            have hB := below_next (w := w) (by go_grown) hb
            have h0 : w2.heap[w1.heap.size]? = some (.cells #[.bool true, .int .i64 xf, .int .i64 xl, .int .i64 t] 23 (0, 0)) := (hb.block (w1.heap.size) (by first | omega | (simp; done) | (simp; omega))).trans (Eq.trans (b := some (Obj.cells _ _ (0, 0))) (by repeat (first | (with_reducible assumption) | (with_reducible apply heap_set_same) | ((with_reducible apply heap_set_other'); (focus (first | omega | (simp; done) | (simp; omega)))) | ((with_reducible apply heap_alloc_new); (focus (first | omega | (simp; done) | (simp; omega)))) | (with_reducible apply heap_alloc_old') | (with_reducible apply (heap_drew_at _ _).trans) | (with_reducible apply (heap_drewN_at _ _ _).trans))) (by exact rfl))
            have h1 : w2.heap[wr.heap.size]? = some (.cells #[.int .i64 xf, .int .i64 xl, .bool true, .bool wh, .bool true, .int .i64 xt, .bool sy] 25 (0, 0)) := (hb.block (wr.heap.size) (by first | omega | (simp; done) | (simp; omega))).trans (Eq.trans (b := some (Obj.cells _ _ (0, 0))) (by repeat (first | (with_reducible assumption) | (with_reducible apply heap_set_same) | ((with_reducible apply heap_set_other'); (focus (first | omega | (simp; done) | (simp; omega)))) | ((with_reducible apply heap_alloc_new); (focus (first | omega | (simp; done) | (simp; omega)))) | (with_reducible apply heap_alloc_old') | (with_reducible apply (heap_drew_at _ _).trans) | (with_reducible apply (heap_drewN_at _ _ _).trans))) (by exact rfl))
            have h2 : w2.heap[wr.heap.size + 1]? = some (.cells #[.int .i64 wf, .int .i64 wl, .int .i64 wt] 27 (0, 0)) := (hb.block (wr.heap.size + 1) (by first | omega | (simp; done) | (simp; omega))).trans (Eq.trans (b := some (Obj.cells _ _ (0, 0))) (by repeat (first | (with_reducible assumption) | (with_reducible apply heap_set_same) | ((with_reducible apply heap_set_other'); (focus (first | omega | (simp; done) | (simp; omega)))) | ((with_reducible apply heap_alloc_new); (focus (first | omega | (simp; done) | (simp; omega)))) | (with_reducible apply heap_alloc_old') | (with_reducible apply (heap_drew_at _ _).trans) | (with_reducible apply (heap_drewN_at _ _ _).trans))) (by exact rfl))
            clear hb
            (try clear g0)
            obtain ⟨c0, f0, z0⟩ := blk_facts h0
            (try clear g1)
            obtain ⟨c1, f1, z1⟩ := blk_facts h1
            (try clear g2)
            obtain ⟨c2, f2, z2⟩ := blk_facts h2
            have z9 : w.heap.size ≤ w2.heap.size := hB.size
            have zr : wr.heap.size + 2 ≤ w2.heap.size := by omega
            go_wp2_with fail
            go_roundw
            case rel => exact ⟨k + 1, _, _, _, _, by omega, by go_num, (Eq.trans (b := some (Obj.cells _ _ (0, 0))) (by repeat (first | (with_reducible assumption) | (with_reducible apply heap_set_same) | ((with_reducible apply heap_set_other'); (focus (first | omega | (simp; done) | (simp; omega)))) | ((with_reducible apply heap_alloc_new); (focus (first | omega | (simp; done) | (simp; omega)))) | (with_reducible apply heap_alloc_old') | (with_reducible apply (heap_drew_at _ _).trans) | (with_reducible apply (heap_drewN_at _ _ _).trans))) (by exact rfl)), by go_grown⟩
            case measure => simp [intOf]; omega
      · -- left out
        rcases tid_three h5 with ⟨rfl, rfl⟩ | ⟨rfl, rfl, h7⟩ | ⟨rfl, h8, h7⟩
        · -- not at a begin
          clear h5
          go_wp2_with fail
          (with_reducible refine (take_as HT _).mono ?_)
          rintro e w2 ⟨rfl, hb⟩
          (try (have g0 := h0; clear h0 f0 c0))
          (try (have g1 := h1; clear h1 f1 c1))
          (try (have g2 := h2; clear h2 f2 c2))
          have hB := below_next (w := w) (by go_grown) hb
          have h0 : w2.heap[w1.heap.size]? = some (.cells #[.bool true, .int .i64 xf, .int .i64 xl, .int .i64 t'] 23 (0, 0)) := (hb.block (w1.heap.size) (by first | omega | (simp; done) | (simp; omega))).trans (Eq.trans (b := some (Obj.cells _ _ (0, 0))) (by repeat (first | (with_reducible assumption) | (with_reducible apply heap_set_same) | ((with_reducible apply heap_set_other'); (focus (first | omega | (simp; done) | (simp; omega)))) | ((with_reducible apply heap_alloc_new); (focus (first | omega | (simp; done) | (simp; omega)))) | (with_reducible apply heap_alloc_old') | (with_reducible apply (heap_drew_at _ _).trans) | (with_reducible apply (heap_drewN_at _ _ _).trans))) (by exact rfl))
          have h1 : w2.heap[wr.heap.size]? = some (.cells #[.int .i64 xf, .int .i64 xl, .bool false, .bool wh, .bool true, .int .i64 xt, .bool sy] 25 (0, 0)) := (hb.block (wr.heap.size) (by first | omega | (simp; done) | (simp; omega))).trans (Eq.trans (b := some (Obj.cells _ _ (0, 0))) (by repeat (first | (with_reducible assumption) | (with_reducible apply heap_set_same) | ((with_reducible apply heap_set_other'); (focus (first | omega | (simp; done) | (simp; omega)))) | ((with_reducible apply heap_alloc_new); (focus (first | omega | (simp; done) | (simp; omega)))) | (with_reducible apply heap_alloc_old') | (with_reducible apply (heap_drew_at _ _).trans) | (with_reducible apply (heap_drewN_at _ _ _).trans))) (by exact rfl))
          have h2 : w2.heap[wr.heap.size + 1]? = some (.cells #[.int .i64 wf, .int .i64 wl, .int .i64 wt] 27 (0, 0)) := (hb.block (wr.heap.size + 1) (by first | omega | (simp; done) | (simp; omega))).trans (Eq.trans (b := some (Obj.cells _ _ (0, 0))) (by repeat (first | (with_reducible assumption) | (with_reducible apply heap_set_same) | ((with_reducible apply heap_set_other'); (focus (first | omega | (simp; done) | (simp; omega)))) | ((with_reducible apply heap_alloc_new); (focus (first | omega | (simp; done) | (simp; omega)))) | (with_reducible apply heap_alloc_old') | (with_reducible apply (heap_drew_at _ _).trans) | (with_reducible apply (heap_drewN_at _ _ _).trans))) (by exact rfl))
          clear hb
          (try clear g0)
          obtain ⟨c0, f0, z0⟩ := blk_facts h0
          (try clear g1)
          obtain ⟨c1, f1, z1⟩ := blk_facts h1
          (try clear g2)
          obtain ⟨c2, f2, z2⟩ := blk_facts h2
          have z9 : w.heap.size ≤ w2.heap.size := hB.size
          have zr : wr.heap.size + 2 ≤ w2.heap.size := by omega
          go_wp2_with fail
          go_roundw
          case rel => exact ⟨k + 1, _, _, _, _, by omega, by go_num, (Eq.trans (b := some (Obj.cells _ _ (0, 0))) (by repeat (first | (with_reducible assumption) | (with_reducible apply heap_set_same) | ((with_reducible apply heap_set_other'); (focus (first | omega | (simp; done) | (simp; omega)))) | ((with_reducible apply heap_alloc_new); (focus (first | omega | (simp; done) | (simp; omega)))) | (with_reducible apply heap_alloc_old') | (with_reducible apply (heap_drew_at _ _).trans) | (with_reducible apply (heap_drewN_at _ _ _).trans))) (by exact rfl)), by go_grown⟩
          case measure => simp [intOf]; omega
        · -- at a begin, as it was
          clear h5
          go_wp2_with fail
          (with_reducible refine (take_as HT _).mono ?_)
          rintro e w2 ⟨rfl, hb⟩
          (try (have g0 := h0; clear h0 f0 c0))
          (try (have g1 := h1; clear h1 f1 c1))
          (try (have g2 := h2; clear h2 f2 c2))
          have hB := below_next (w := w) (by go_grown) hb
          have h0 : w2.heap[w1.heap.size]? = some (.cells #[.bool true, .int .i64 xf, .int .i64 xl, .int .i64 t'] 23 (0, 0)) := (hb.block (w1.heap.size) (by first | omega | (simp; done) | (simp; omega))).trans (Eq.trans (b := some (Obj.cells _ _ (0, 0))) (by repeat (first | (with_reducible assumption) | (with_reducible apply heap_set_same) | ((with_reducible apply heap_set_other'); (focus (first | omega | (simp; done) | (simp; omega)))) | ((with_reducible apply heap_alloc_new); (focus (first | omega | (simp; done) | (simp; omega)))) | (with_reducible apply heap_alloc_old') | (with_reducible apply (heap_drew_at _ _).trans) | (with_reducible apply (heap_drewN_at _ _ _).trans))) (by exact rfl))
          have h1 : w2.heap[wr.heap.size]? = some (.cells #[.int .i64 xf, .int .i64 xl, .bool true, .bool wh, .bool true, .int .i64 xt, .bool sy] 25 (0, 0)) := (hb.block (wr.heap.size) (by first | omega | (simp; done) | (simp; omega))).trans (Eq.trans (b := some (Obj.cells _ _ (0, 0))) (by repeat (first | (with_reducible assumption) | (with_reducible apply heap_set_same) | ((with_reducible apply heap_set_other'); (focus (first | omega | (simp; done) | (simp; omega)))) | ((with_reducible apply heap_alloc_new); (focus (first | omega | (simp; done) | (simp; omega)))) | (with_reducible apply heap_alloc_old') | (with_reducible apply (heap_drew_at _ _).trans) | (with_reducible apply (heap_drewN_at _ _ _).trans))) (by exact rfl))
          have h2 : w2.heap[wr.heap.size + 1]? = some (.cells #[.int .i64 wf, .int .i64 wl, .int .i64 wt] 27 (0, 0)) := (hb.block (wr.heap.size + 1) (by first | omega | (simp; done) | (simp; omega))).trans (Eq.trans (b := some (Obj.cells _ _ (0, 0))) (by repeat (first | (with_reducible assumption) | (with_reducible apply heap_set_same) | ((with_reducible apply heap_set_other'); (focus (first | omega | (simp; done) | (simp; omega)))) | ((with_reducible apply heap_alloc_new); (focus (first | omega | (simp; done) | (simp; omega)))) | (with_reducible apply heap_alloc_old') | (with_reducible apply (heap_drew_at _ _).trans) | (with_reducible apply (heap_drewN_at _ _ _).trans))) (by exact rfl))
          clear hb
          (try clear g0)
          obtain ⟨c0, f0, z0⟩ := blk_facts h0
          (try clear g1)
          obtain ⟨c1, f1, z1⟩ := blk_facts h1
          (try clear g2)
          obtain ⟨c2, f2, z2⟩ := blk_facts h2
          have z9 : w.heap.size ≤ w2.heap.size := hB.size
          have zr : wr.heap.size + 2 ≤ w2.heap.size := by omega
          go_wp2_with fail
          go_roundw
          case rel => exact ⟨k + 1, _, _, _, _, by omega, by go_num, (Eq.trans (b := some (Obj.cells _ _ (0, 0))) (by repeat (first | (with_reducible assumption) | (with_reducible apply heap_set_same) | ((with_reducible apply heap_set_other'); (focus (first | omega | (simp; done) | (simp; omega)))) | ((with_reducible apply heap_alloc_new); (focus (first | omega | (simp; done) | (simp; omega)))) | (with_reducible apply heap_alloc_old') | (with_reducible apply (heap_drew_at _ _).trans) | (with_reducible apply (heap_drewN_at _ _ _).trans))) (by exact rfl)), by go_grown⟩
          case measure => simp [intOf]; omega
        · -- at a begin
          clear h5
          go_wp2_with fail
          (with_reducible refine (take_as HT _).mono ?_)
          rintro e w2 ⟨rfl, hb⟩
          (try (have g0 := h0; clear h0 f0 c0))
          (try (have g1 := h1; clear h1 f1 c1))
          (try (have g2 := h2; clear h2 f2 c2))
          have hB := below_next (w := w) (by go_grown) hb
          have h0 : w2.heap[w1.heap.size]? = some (.cells #[.bool true, .int .i64 xf, .int .i64 xl, .int .i64 t] 23 (0, 0)) := (hb.block (w1.heap.size) (by first | omega | (simp; done) | (simp; omega))).trans (Eq.trans (b := some (Obj.cells _ _ (0, 0))) (by repeat (first | (with_reducible assumption) | (with_reducible apply heap_set_same) | ((with_reducible apply heap_set_other'); (focus (first | omega | (simp; done) | (simp; omega)))) | ((with_reducible apply heap_alloc_new); (focus (first | omega | (simp; done) | (simp; omega)))) | (with_reducible apply heap_alloc_old') | (with_reducible apply (heap_drew_at _ _).trans) | (with_reducible apply (heap_drewN_at _ _ _).trans))) (by exact rfl))
          have h1 : w2.heap[wr.heap.size]? = some (.cells #[.int .i64 xf, .int .i64 xl, .bool true, .bool wh, .bool true, .int .i64 xt, .bool sy] 25 (0, 0)) := (hb.block (wr.heap.size) (by first | omega | (simp; done) | (simp; omega))).trans (Eq.trans (b := some (Obj.cells _ _ (0, 0))) (by repeat (first | (with_reducible assumption) | (with_reducible apply heap_set_same) | ((with_reducible apply heap_set_other'); (focus (first | omega | (simp; done) | (simp; omega)))) | ((with_reducible apply heap_alloc_new); (focus (first | omega | (simp; done) | (simp; omega)))) | (with_reducible apply heap_alloc_old') | (with_reducible apply (heap_drew_at _ _).trans) | (with_reducible apply (heap_drewN_at _ _ _).trans))) (by exact rfl))
          have h2 : w2.heap[wr.heap.size + 1]? = some (.cells #[.int .i64 wf, .int .i64 wl, .int .i64 wt] 27 (0, 0)) := (hb.block (wr.heap.size + 1) (by first | omega | (simp; done) | (simp; omega))).trans (Eq.trans (b := some (Obj.cells _ _ (0, 0))) (by repeat (first | (with_reducible assumption) | (with_reducible apply heap_set_same) | ((with_reducible apply heap_set_other'); (focus (first | omega | (simp; done) | (simp; omega)))) | ((with_reducible apply heap_alloc_new); (focus (first | omega | (simp; done) | (simp; omega)))) | (with_reducible apply heap_alloc_old') | (with_reducible apply (heap_drew_at _ _).trans) | (with_reducible apply (heap_drewN_at _ _ _).trans))) (by exact rfl))
          clear hb
          (try clear g0)
          obtain ⟨c0, f0, z0⟩ := blk_facts h0
          (try clear g1)
          obtain ⟨c1, f1, z1⟩ := blk_facts h1
          (try clear g2)
          obtain ⟨c2, f2, z2⟩ := blk_facts h2
          have z9 : w.heap.size ≤ w2.heap.size := hB.size
          have zr : wr.heap.size + 2 ≤ w2.heap.size := by omega
          go_wp2_with fail
          go_roundw
          case rel => exact ⟨k + 1, _, _, _, _, by omega, by go_num, (Eq.trans (b := some (Obj.cells _ _ (0, 0))) (by repeat (first | (with_reducible assumption) | (with_reducible apply heap_set_same) | ((with_reducible apply heap_set_other'); (focus (first | omega | (simp; done) | (simp; omega)))) | ((with_reducible apply heap_alloc_new); (focus (first | omega | (simp; done) | (simp; omega)))) | (with_reducible apply heap_alloc_old') | (with_reducible apply (heap_drew_at _ _).trans) | (with_reducible apply (heap_drewN_at _ _ _).trans))) (by exact rfl)), by go_grown⟩
          case measure => simp [intOf]; omega
      · -- of no stream
        cases bg with
        | false =>
          · -- not at a begin
            go_wp2_with fail
            (with_reducible refine (take_as HT _).mono ?_)
            rintro e w2 ⟨rfl, hb⟩
            (try (have g0 := h0; clear h0 f0 c0))
            (try (have g1 := h1; clear h1 f1 c1))
            (try (have g2 := h2; clear h2 f2 c2))
            have hB := below_next (w := w) (by go_grown) hb
            have h0 : w2.heap[w1.heap.size]? = some (.cells #[.bool on, .int .i64 f, .int .i64 l, .int .i64 t] 23 (0, 0)) := (hb.block (w1.heap.size) (by first | omega | (simp; done) | (simp; omega))).trans (Eq.trans (b := some (Obj.cells _ _ (0, 0))) (by repeat (first | (with_reducible assumption) | (with_reducible apply heap_set_same) | ((with_reducible apply heap_set_other'); (focus (first | omega | (simp; done) | (simp; omega)))) | ((with_reducible apply heap_alloc_new); (focus (first | omega | (simp; done) | (simp; omega)))) | (with_reducible apply heap_alloc_old') | (with_reducible apply (heap_drew_at _ _).trans) | (with_reducible apply (heap_drewN_at _ _ _).trans))) (by exact rfl))
            have h1 : w2.heap[wr.heap.size]? = some (.cells #[.int .i64 xf, .int .i64 xl, .bool false, .bool wh, .bool ht, .int .i64 xt, .bool sy] 25 (0, 0)) := (hb.block (wr.heap.size) (by first | omega | (simp; done) | (simp; omega))).trans (Eq.trans (b := some (Obj.cells _ _ (0, 0))) (by repeat (first | (with_reducible assumption) | (with_reducible apply heap_set_same) | ((with_reducible apply heap_set_other'); (focus (first | omega | (simp; done) | (simp; omega)))) | ((with_reducible apply heap_alloc_new); (focus (first | omega | (simp; done) | (simp; omega)))) | (with_reducible apply heap_alloc_old') | (with_reducible apply (heap_drew_at _ _).trans) | (with_reducible apply (heap_drewN_at _ _ _).trans))) (by exact rfl))
            have h2 : w2.heap[wr.heap.size + 1]? = some (.cells #[.int .i64 wf, .int .i64 wl, .int .i64 wt] 27 (0, 0)) := (hb.block (wr.heap.size + 1) (by first | omega | (simp; done) | (simp; omega))).trans (Eq.trans (b := some (Obj.cells _ _ (0, 0))) (by repeat (first | (with_reducible assumption) | (with_reducible apply heap_set_same) | ((with_reducible apply heap_set_other'); (focus (first | omega | (simp; done) | (simp; omega)))) | ((with_reducible apply heap_alloc_new); (focus (first | omega | (simp; done) | (simp; omega)))) | (with_reducible apply heap_alloc_old') | (with_reducible apply (heap_drew_at _ _).trans) | (with_reducible apply (heap_drewN_at _ _ _).trans))) (by exact rfl))
            clear hb
            (try clear g0)
            obtain ⟨c0, f0, z0⟩ := blk_facts h0
            (try clear g1)
            obtain ⟨c1, f1, z1⟩ := blk_facts h1
            (try clear g2)
            obtain ⟨c2, f2, z2⟩ := blk_facts h2
            have z9 : w.heap.size ≤ w2.heap.size := hB.size
            have zr : wr.heap.size + 2 ≤ w2.heap.size := by omega
            go_wp2_with fail
            go_roundw
            case rel => exact ⟨k + 1, _, _, _, _, by omega, by go_num, (Eq.trans (b := some (Obj.cells _ _ (0, 0))) (by repeat (first | (with_reducible assumption) | (with_reducible apply heap_set_same) | ((with_reducible apply heap_set_other'); (focus (first | omega | (simp; done) | (simp; omega)))) | ((with_reducible apply heap_alloc_new); (focus (first | omega | (simp; done) | (simp; omega)))) | (with_reducible apply heap_alloc_old') | (with_reducible apply (heap_drew_at _ _).trans) | (with_reducible apply (heap_drewN_at _ _ _).trans))) (by exact rfl)), by go_grown⟩
            case measure => simp [intOf]; omega
        | true =>
          · -- at a begin
            go_wp2_with fail
            (with_reducible refine (take_as HT _).mono ?_)
            rintro e w2 ⟨rfl, hb⟩
            (try (have g0 := h0; clear h0 f0 c0))
            (try (have g1 := h1; clear h1 f1 c1))
            (try (have g2 := h2; clear h2 f2 c2))
            have hB := below_next (w := w) (by go_grown) hb
            have h0 : w2.heap[w1.heap.size]? = some (.cells #[.bool on, .int .i64 f, .int .i64 l, .int .i64 t] 23 (0, 0)) := (hb.block (w1.heap.size) (by first | omega | (simp; done) | (simp; omega))).trans (Eq.trans (b := some (Obj.cells _ _ (0, 0))) (by repeat (first | (with_reducible assumption) | (with_reducible apply heap_set_same) | ((with_reducible apply heap_set_other'); (focus (first | omega | (simp; done) | (simp; omega)))) | ((with_reducible apply heap_alloc_new); (focus (first | omega | (simp; done) | (simp; omega)))) | (with_reducible apply heap_alloc_old') | (with_reducible apply (heap_drew_at _ _).trans) | (with_reducible apply (heap_drewN_at _ _ _).trans))) (by exact rfl))
            have h1 : w2.heap[wr.heap.size]? = some (.cells #[.int .i64 xf, .int .i64 xl, .bool true, .bool wh, .bool ht, .int .i64 xt, .bool sy] 25 (0, 0)) := (hb.block (wr.heap.size) (by first | omega | (simp; done) | (simp; omega))).trans (Eq.trans (b := some (Obj.cells _ _ (0, 0))) (by repeat (first | (with_reducible assumption) | (with_reducible apply heap_set_same) | ((with_reducible apply heap_set_other'); (focus (first | omega | (simp; done) | (simp; omega)))) | ((with_reducible apply heap_alloc_new); (focus (first | omega | (simp; done) | (simp; omega)))) | (with_reducible apply heap_alloc_old') | (with_reducible apply (heap_drew_at _ _).trans) | (with_reducible apply (heap_drewN_at _ _ _).trans))) (by exact rfl))
            have h2 : w2.heap[wr.heap.size + 1]? = some (.cells #[.int .i64 wf, .int .i64 wl, .int .i64 wt] 27 (0, 0)) := (hb.block (wr.heap.size + 1) (by first | omega | (simp; done) | (simp; omega))).trans (Eq.trans (b := some (Obj.cells _ _ (0, 0))) (by repeat (first | (with_reducible assumption) | (with_reducible apply heap_set_same) | ((with_reducible apply heap_set_other'); (focus (first | omega | (simp; done) | (simp; omega)))) | ((with_reducible apply heap_alloc_new); (focus (first | omega | (simp; done) | (simp; omega)))) | (with_reducible apply heap_alloc_old') | (with_reducible apply (heap_drew_at _ _).trans) | (with_reducible apply (heap_drewN_at _ _ _).trans))) (by exact rfl))
            clear hb
            (try clear g0)
            obtain ⟨c0, f0, z0⟩ := blk_facts h0
            (try clear g1)
            obtain ⟨c1, f1, z1⟩ := blk_facts h1
            (try clear g2)
            obtain ⟨c2, f2, z2⟩ := blk_facts h2
            have z9 : w.heap.size ≤ w2.heap.size := hB.size
            have zr : wr.heap.size + 2 ≤ w2.heap.size := by omega
            go_wp2_with fail
            go_roundw
            case rel => exact ⟨k + 1, _, _, _, _, by omega, by go_num, (Eq.trans (b := some (Obj.cells _ _ (0, 0))) (by repeat (first | (with_reducible assumption) | (with_reducible apply heap_set_same) | ((with_reducible apply heap_set_other'); (focus (first | omega | (simp; done) | (simp; omega)))) | ((with_reducible apply heap_alloc_new); (focus (first | omega | (simp; done) | (simp; omega)))) | (with_reducible apply heap_alloc_old') | (with_reducible apply (heap_drew_at _ _).trans) | (with_reducible apply (heap_drewN_at _ _ _).trans))) (by exact rfl)), by go_grown⟩
            case measure => simp [intOf]; omega
      · -- a switch
        by_cases hm : wt = t
        · subst hm
          · -- as it was
            go_wp2_with fail
            (with_reducible refine (take_as HT _).mono ?_)
            rintro e w2 ⟨rfl, hb⟩
            (try (have g0 := h0; clear h0 f0 c0))
            (try (have g1 := h1; clear h1 f1 c1))
            (try (have g2 := h2; clear h2 f2 c2))
            have hB := below_next (w := w) (by go_grown) hb
            have h0 : w2.heap[w1.heap.size]? = some (.cells #[.bool on, .int .i64 f, .int .i64 l, .int .i64 wt] 23 (0, 0)) := (hb.block (w1.heap.size) (by first | omega | (simp; done) | (simp; omega))).trans (Eq.trans (b := some (Obj.cells _ _ (0, 0))) (by repeat (first | (with_reducible assumption) | (with_reducible apply heap_set_same) | ((with_reducible apply heap_set_other'); (focus (first | omega | (simp; done) | (simp; omega)))) | ((with_reducible apply heap_alloc_new); (focus (first | omega | (simp; done) | (simp; omega)))) | (with_reducible apply heap_alloc_old') | (with_reducible apply (heap_drew_at _ _).trans) | (with_reducible apply (heap_drewN_at _ _ _).trans))) (by exact rfl))
            have h1 : w2.heap[wr.heap.size]? = some (.cells #[.int .i64 xf, .int .i64 xl, .bool true, .bool true, .bool ht, .int .i64 xt, .bool sy] 25 (0, 0)) := (hb.block (wr.heap.size) (by first | omega | (simp; done) | (simp; omega))).trans (Eq.trans (b := some (Obj.cells _ _ (0, 0))) (by repeat (first | (with_reducible assumption) | (with_reducible apply heap_set_same) | ((with_reducible apply heap_set_other'); (focus (first | omega | (simp; done) | (simp; omega)))) | ((with_reducible apply heap_alloc_new); (focus (first | omega | (simp; done) | (simp; omega)))) | (with_reducible apply heap_alloc_old') | (with_reducible apply (heap_drew_at _ _).trans) | (with_reducible apply (heap_drewN_at _ _ _).trans))) (by exact rfl))
            have h2 : w2.heap[wr.heap.size + 1]? = some (.cells #[.int .i64 xf, .int .i64 xl, .int .i64 wt] 27 (0, 0)) := (hb.block (wr.heap.size + 1) (by first | omega | (simp; done) | (simp; omega))).trans (Eq.trans (b := some (Obj.cells _ _ (0, 0))) (by repeat (first | (with_reducible assumption) | (with_reducible apply heap_set_same) | ((with_reducible apply heap_set_other'); (focus (first | omega | (simp; done) | (simp; omega)))) | ((with_reducible apply heap_alloc_new); (focus (first | omega | (simp; done) | (simp; omega)))) | (with_reducible apply heap_alloc_old') | (with_reducible apply (heap_drew_at _ _).trans) | (with_reducible apply (heap_drewN_at _ _ _).trans))) (by exact rfl))
            clear hb
            (try clear g0)
            obtain ⟨c0, f0, z0⟩ := blk_facts h0
            (try clear g1)
            obtain ⟨c1, f1, z1⟩ := blk_facts h1
            (try clear g2)
            obtain ⟨c2, f2, z2⟩ := blk_facts h2
            have z9 : w.heap.size ≤ w2.heap.size := hB.size
            have zr : wr.heap.size + 2 ≤ w2.heap.size := by omega
            go_wp2_with fail
            go_roundw
            case rel => exact ⟨k + 1, _, _, _, _, by omega, by go_num, (Eq.trans (b := some (Obj.cells _ _ (0, 0))) (by repeat (first | (with_reducible assumption) | (with_reducible apply heap_set_same) | ((with_reducible apply heap_set_other'); (focus (first | omega | (simp; done) | (simp; omega)))) | ((with_reducible apply heap_alloc_new); (focus (first | omega | (simp; done) | (simp; omega)))) | (with_reducible apply heap_alloc_old') | (with_reducible apply (heap_drew_at _ _).trans) | (with_reducible apply (heap_drewN_at _ _ _).trans))) (by exact rfl)), by go_grown⟩
            case measure => simp [intOf]; omega
        · have hn : (wt != t) = true := by simpa using hm
          · -- another one
            go_wp2_with fail
            (with_reducible refine (take_as HT _).mono ?_)
            rintro e w2 ⟨rfl, hb⟩
            (try (have g0 := h0; clear h0 f0 c0))
            (try (have g1 := h1; clear h1 f1 c1))
            (try (have g2 := h2; clear h2 f2 c2))
            have hB := below_next (w := w) (by go_grown) hb
            have h0 : w2.heap[w1.heap.size]? = some (.cells #[.bool on, .int .i64 f, .int .i64 l, .int .i64 t] 23 (0, 0)) := (hb.block (w1.heap.size) (by first | omega | (simp; done) | (simp; omega))).trans (Eq.trans (b := some (Obj.cells _ _ (0, 0))) (by repeat (first | (with_reducible assumption) | (with_reducible apply heap_set_same) | ((with_reducible apply heap_set_other'); (focus (first | omega | (simp; done) | (simp; omega)))) | ((with_reducible apply heap_alloc_new); (focus (first | omega | (simp; done) | (simp; omega)))) | (with_reducible apply heap_alloc_old') | (with_reducible apply (heap_drew_at _ _).trans) | (with_reducible apply (heap_drewN_at _ _ _).trans))) (by exact rfl))
            have h1 : w2.heap[wr.heap.size]? = some (.cells #[.int .i64 xf, .int .i64 xl, .bool true, .bool true, .bool ht, .int .i64 xt, .bool sy] 25 (0, 0)) := (hb.block (wr.heap.size) (by first | omega | (simp; done) | (simp; omega))).trans (Eq.trans (b := some (Obj.cells _ _ (0, 0))) (by repeat (first | (with_reducible assumption) | (with_reducible apply heap_set_same) | ((with_reducible apply heap_set_other'); (focus (first | omega | (simp; done) | (simp; omega)))) | ((with_reducible apply heap_alloc_new); (focus (first | omega | (simp; done) | (simp; omega)))) | (with_reducible apply heap_alloc_old') | (with_reducible apply (heap_drew_at _ _).trans) | (with_reducible apply (heap_drewN_at _ _ _).trans))) (by exact rfl))
            have h2 : w2.heap[wr.heap.size + 1]? = some (.cells #[.int .i64 xf, .int .i64 xl, .int .i64 wt] 27 (0, 0)) := (hb.block (wr.heap.size + 1) (by first | omega | (simp; done) | (simp; omega))).trans (Eq.trans (b := some (Obj.cells _ _ (0, 0))) (by repeat (first | (with_reducible assumption) | (with_reducible apply heap_set_same) | ((with_reducible apply heap_set_other'); (focus (first | omega | (simp; done) | (simp; omega)))) | ((with_reducible apply heap_alloc_new); (focus (first | omega | (simp; done) | (simp; omega)))) | (with_reducible apply heap_alloc_old') | (with_reducible apply (heap_drew_at _ _).trans) | (with_reducible apply (heap_drewN_at _ _ _).trans))) (by exact rfl))
            clear hb
            (try clear g0)
            obtain ⟨c0, f0, z0⟩ := blk_facts h0
            (try clear g1)
            obtain ⟨c1, f1, z1⟩ := blk_facts h1
            (try clear g2)
            obtain ⟨c2, f2, z2⟩ := blk_facts h2
            have z9 : w.heap.size ≤ w2.heap.size := hB.size
            have zr : wr.heap.size + 2 ≤ w2.heap.size := by omega
            go_wp2_with fail
            go_roundw
            case rel => exact ⟨k + 1, _, _, _, _, by omega, by go_num, (Eq.trans (b := some (Obj.cells _ _ (0, 0))) (by repeat (first | (with_reducible assumption) | (with_reducible apply heap_set_same) | ((with_reducible apply heap_set_other'); (focus (first | omega | (simp; done) | (simp; omega)))) | ((with_reducible apply heap_alloc_new); (focus (first | omega | (simp; done) | (simp; omega)))) | (with_reducible apply heap_alloc_old') | (with_reducible apply (heap_drew_at _ _).trans) | (with_reducible apply (heap_drewN_at _ _ _).trans))) (by exact rfl)), by go_grown⟩
            case measure => simp [intOf]; omega
    · clear hz
      go_wp2_with fail
      go_ret
      exact ⟨rfl, by go_grown⟩
end Go.Proofs.Ytiajgdpceedmlaa
