/- The law ChooseLeaves, walked. -/
import Derived.Test.YtiajgdpceedmlaaSteps
namespace Go.Proofs.Ytiajgdpceedmlaa
set_option linter.unusedSimpArgs false
set_option linter.unusedVariables false
open Go.RowKit
theorem leave_of {on : Bool} {f l t xf xl : Int} {bg wh ht : Bool} {xt : Int} {sy : Bool} {wf wl wt : Int} (h1 : (xf == wf) = false ∨ (xl == wl) = false) (h2 : ofB on f l xf xl = false) : takeF on f l t xf xl bg wh ht xt sy wf wl wt = (on, f, l, t, 0) := by
  unfold takeF
  rw [if_neg (by simp [h2]), if_neg (by rintro ⟨e1, e2, _⟩; subst e1 e2; simp at h1)]
set_option maxRecDepth 100000 in
set_option maxHeartbeats 2000000 in
theorem leaves_walk (on : Bool) (f l t : Int) (wf wl wt : Int) (A : Option Addr) (len cap : Nat) (z : Nat → InV) (w : World) (hl : len ≤ 9223372036854775807) (hz : InsAt w A len z) :
    Calls Try.prog 7 #[.agg #[.bool on, .int .i64 f, .int .i64 l, .int .i64 t], .agg #[.int .i64 wf, .int .i64 wl, .int .i64 wt], .slice A len cap] w fun e w' => e = .returned (.bool true) ∧ Below w.heap.size w w' := by
  by_cases hlen : 100 < len
  · clear hz
    go_enter Try.func7, Try.ntmps7
    go_wp2_with fail
    (with_reducible refine (awake_any _).mono ?_)
    rintro e w1 ⟨rfl, hb⟩
    (try (have g0 := h0; clear h0 f0 c0))
    (try (have g1 := h1; clear h1 f1 c1))
    have hB := below_next (w := w) (by go_grown) hb
    have h0 : w1.heap[w.heap.size]? = some (.cells #[.bool on, .int .i64 f, .int .i64 l, .int .i64 t] 23 (0, 0)) := (hb.block (w.heap.size) (by first | omega | (simp; done) | (simp; omega))).trans (Eq.trans (b := some (Obj.cells _ _ (0, 0))) (by repeat (first | (with_reducible assumption) | (with_reducible apply heap_set_same) | ((with_reducible apply heap_set_other'); (focus (first | omega | (simp; done) | (simp; omega)))) | ((with_reducible apply heap_alloc_new); (focus (first | omega | (simp; done) | (simp; omega)))) | (with_reducible apply heap_alloc_old') | (with_reducible apply (heap_drew_at _ _).trans) | (with_reducible apply (heap_drewN_at _ _ _).trans))) (by exact rfl))
    have h1 : w1.heap[w.heap.size + 1]? = some (.cells #[.int .i64 wf, .int .i64 wl, .int .i64 wt] 27 (0, 0)) := (hb.block (w.heap.size + 1) (by first | omega | (simp; done) | (simp; omega))).trans (Eq.trans (b := some (Obj.cells _ _ (0, 0))) (by repeat (first | (with_reducible assumption) | (with_reducible apply heap_set_same) | ((with_reducible apply heap_set_other'); (focus (first | omega | (simp; done) | (simp; omega)))) | ((with_reducible apply heap_alloc_new); (focus (first | omega | (simp; done) | (simp; omega)))) | (with_reducible apply heap_alloc_old') | (with_reducible apply (heap_drew_at _ _).trans) | (with_reducible apply (heap_drewN_at _ _ _).trans))) (by exact rfl))
    clear hb
    (try clear g0)
    obtain ⟨c0, f0, z0⟩ := blk_facts h0
    (try clear g1)
    obtain ⟨c1, f1, z1⟩ := blk_facts h1
    go_wp2_with fail
    go_ret
    exact ⟨rfl, by go_grown⟩
  go_enter Try.func7, Try.ntmps7
  go_wp2_with fail
  (with_reducible refine (awake_any _).mono ?_)
  rintro e w1 ⟨rfl, hb⟩
  (try (have g0 := h0; clear h0 f0 c0))
  (try (have g1 := h1; clear h1 f1 c1))
  have hB := below_next (w := w) (by go_grown) hb
  have h0 : w1.heap[w.heap.size]? = some (.cells #[.bool on, .int .i64 f, .int .i64 l, .int .i64 t] 23 (0, 0)) := (hb.block (w.heap.size) (by first | omega | (simp; done) | (simp; omega))).trans (Eq.trans (b := some (Obj.cells _ _ (0, 0))) (by repeat (first | (with_reducible assumption) | (with_reducible apply heap_set_same) | ((with_reducible apply heap_set_other'); (focus (first | omega | (simp; done) | (simp; omega)))) | ((with_reducible apply heap_alloc_new); (focus (first | omega | (simp; done) | (simp; omega)))) | (with_reducible apply heap_alloc_old') | (with_reducible apply (heap_drew_at _ _).trans) | (with_reducible apply (heap_drewN_at _ _ _).trans))) (by exact rfl))
  have h1 : w1.heap[w.heap.size + 1]? = some (.cells #[.int .i64 wf, .int .i64 wl, .int .i64 wt] 27 (0, 0)) := (hb.block (w.heap.size + 1) (by first | omega | (simp; done) | (simp; omega))).trans (Eq.trans (b := some (Obj.cells _ _ (0, 0))) (by repeat (first | (with_reducible assumption) | (with_reducible apply heap_set_same) | ((with_reducible apply heap_set_other'); (focus (first | omega | (simp; done) | (simp; omega)))) | ((with_reducible apply heap_alloc_new); (focus (first | omega | (simp; done) | (simp; omega)))) | (with_reducible apply heap_alloc_old') | (with_reducible apply (heap_drew_at _ _).trans) | (with_reducible apply (heap_drewN_at _ _ _).trans))) (by exact rfl))
  clear hb
  (try clear g0)
  obtain ⟨c0, f0, z0⟩ := blk_facts h0
  (try clear g1)
  obtain ⟨c1, f1, z1⟩ := blk_facts h1
  go_wp2_with fail
  have z00 : w.heap.size ≤ w1.heap.size := hB.size
  go_loopw [8] (fun i wr => ∃ (k : Nat), k ≤ len ∧ i = .int .i64 k ∧ wr.heap[w.heap.size]? = some (.cells #[.bool on, .int .i64 f, .int .i64 l, .int .i64 t] 23 (0, 0)) ∧ wr.heap[w.heap.size + 1]? = some (.cells #[.int .i64 wf, .int .i64 wl, .int .i64 wt] 27 (0, 0)) ∧ Below w.heap.size w wr) (fun i _ => len - (intOf i).toNat)
  case atStart => exact ⟨0, by omega, rfl, (Eq.trans (b := some (Obj.cells _ _ (0, 0))) (by repeat (first | (with_reducible assumption) | (with_reducible apply heap_set_same) | ((with_reducible apply heap_set_other'); (focus (first | omega | (simp; done) | (simp; omega)))) | ((with_reducible apply heap_alloc_new); (focus (first | omega | (simp; done) | (simp; omega)))) | (with_reducible apply heap_alloc_old') | (with_reducible apply (heap_drew_at _ _).trans) | (with_reducible apply (heap_drewN_at _ _ _).trans))) (by exact rfl)), (Eq.trans (b := some (Obj.cells _ _ (0, 0))) (by repeat (first | (with_reducible assumption) | (with_reducible apply heap_set_same) | ((with_reducible apply heap_set_other'); (focus (first | omega | (simp; done) | (simp; omega)))) | ((with_reducible apply heap_alloc_new); (focus (first | omega | (simp; done) | (simp; omega)))) | (with_reducible apply heap_alloc_old') | (with_reducible apply (heap_drew_at _ _).trans) | (with_reducible apply (heap_drewN_at _ _ _).trans))) (by exact rfl)), by go_grown⟩
  case round =>
    obtain ⟨k, hk, rfl, h0, h1, hB⟩ := hrel
    obtain ⟨c0, f0, z0⟩ := blk_facts h0
    obtain ⟨c1, f1, z1⟩ := blk_facts h1
    by_cases hlt : k < len
    · obtain ⟨b, o, rfl, hb, q0, q1, q2, q3, q4, q5, q6⟩ := hz k hlt
      clear hz
      generalize z k = zk at *
      obtain ⟨xf, xl, bg, wh, ht, xt, sy⟩ := zk
      dsimp only at q0 q1 q2 q3 q4 q5 q6
      replace q0 := (hB.cell (p := ⟨b, o + k * 7, none⟩) hb).trans q0
      replace q1 := (hB.cell (p := ⟨b, o + k * 7 + 1, none⟩) hb).trans q1
      replace q2 := (hB.cell (p := ⟨b, o + k * 7 + 2, none⟩) hb).trans q2
      replace q3 := (hB.cell (p := ⟨b, o + k * 7 + 3, none⟩) hb).trans q3
      replace q4 := (hB.cell (p := ⟨b, o + k * 7 + 4, none⟩) hb).trans q4
      replace q5 := (hB.cell (p := ⟨b, o + k * 7 + 5, none⟩) hb).trans q5
      replace q6 := (hB.cell (p := ⟨b, o + k * 7 + 6, none⟩) hb).trans q6
      have hbr := Nat.lt_of_lt_of_le hb hB.size
      by_cases e1 : wf = xf
      · replace e1 := e1.symm
        subst e1
        by_cases e2 : wl = xl
        · replace e2 := e2.symm
          subst e2
          go_wp2_with fail
          go_roundw
          case rel => exact ⟨k + 1, by omega, by go_num, (Eq.trans (b := some (Obj.cells _ _ (0, 0))) (by repeat (first | (with_reducible assumption) | (with_reducible apply heap_set_same) | ((with_reducible apply heap_set_other'); (focus (first | omega | (simp; done) | (simp; omega)))) | ((with_reducible apply heap_alloc_new); (focus (first | omega | (simp; done) | (simp; omega)))) | (with_reducible apply heap_alloc_old') | (with_reducible apply (heap_drew_at _ _).trans) | (with_reducible apply (heap_drewN_at _ _ _).trans))) (by exact rfl)), (Eq.trans (b := some (Obj.cells _ _ (0, 0))) (by repeat (first | (with_reducible assumption) | (with_reducible apply heap_set_same) | ((with_reducible apply heap_set_other'); (focus (first | omega | (simp; done) | (simp; omega)))) | ((with_reducible apply heap_alloc_new); (focus (first | omega | (simp; done) | (simp; omega)))) | (with_reducible apply heap_alloc_old') | (with_reducible apply (heap_drew_at _ _).trans) | (with_reducible apply (heap_drewN_at _ _ _).trans))) (by exact rfl)), by go_grown⟩
          case measure => simp [intOf]; omega
        · have n2 : (xl == wl) = false := beq_eq_false_iff_ne.2 (fun e => e2 e.symm)
          cases on with
          | false =>
            have HT := leave_of (t := t) (xf := xf) (xl := xl) (wf := xf) (wl := wl) (bg := bg) (wh := wh) (ht := ht) (xt := xt) (sy := sy) (wt := wt) (.inr n2) (show ofB false f l _ _ = false by simp [ofB])
            go_wp2_with fail
            (with_reducible refine (take_as HT _).mono ?_)
            rintro e w2 ⟨rfl, hb⟩
            (try (have g0 := h0; clear h0 f0 c0))
            (try (have g1 := h1; clear h1 f1 c1))
            (try (have g2 := h2; clear h2 f2 c2))
            have hB := below_next (w := w) (by go_grown) hb
            have h0 : w2.heap[w.heap.size]? = some (.cells #[.bool false, .int .i64 f, .int .i64 l, .int .i64 t] 23 (0, 0)) := (hb.block (w.heap.size) (by first | omega | (simp; done) | (simp; omega))).trans (Eq.trans (b := some (Obj.cells _ _ (0, 0))) (by repeat (first | (with_reducible assumption) | (with_reducible apply heap_set_same) | ((with_reducible apply heap_set_other'); (focus (first | omega | (simp; done) | (simp; omega)))) | ((with_reducible apply heap_alloc_new); (focus (first | omega | (simp; done) | (simp; omega)))) | (with_reducible apply heap_alloc_old') | (with_reducible apply (heap_drew_at _ _).trans) | (with_reducible apply (heap_drewN_at _ _ _).trans))) (by exact rfl))
            have h1 : w2.heap[w.heap.size + 1]? = some (.cells #[.int .i64 xf, .int .i64 wl, .int .i64 wt] 27 (0, 0)) := (hb.block (w.heap.size + 1) (by first | omega | (simp; done) | (simp; omega))).trans (Eq.trans (b := some (Obj.cells _ _ (0, 0))) (by repeat (first | (with_reducible assumption) | (with_reducible apply heap_set_same) | ((with_reducible apply heap_set_other'); (focus (first | omega | (simp; done) | (simp; omega)))) | ((with_reducible apply heap_alloc_new); (focus (first | omega | (simp; done) | (simp; omega)))) | (with_reducible apply heap_alloc_old') | (with_reducible apply (heap_drew_at _ _).trans) | (with_reducible apply (heap_drewN_at _ _ _).trans))) (by exact rfl))
            have h2 : w2.heap[wr.heap.size]? = some (.cells #[.int .i64 xf, .int .i64 xl, .bool bg, .bool wh, .bool ht, .int .i64 xt, .bool sy] 25 (0, 0)) := (hb.block (wr.heap.size) (by first | omega | (simp; done) | (simp; omega))).trans (Eq.trans (b := some (Obj.cells _ _ (0, 0))) (by repeat (first | (with_reducible assumption) | (with_reducible apply heap_set_same) | ((with_reducible apply heap_set_other'); (focus (first | omega | (simp; done) | (simp; omega)))) | ((with_reducible apply heap_alloc_new); (focus (first | omega | (simp; done) | (simp; omega)))) | (with_reducible apply heap_alloc_old') | (with_reducible apply (heap_drew_at _ _).trans) | (with_reducible apply (heap_drewN_at _ _ _).trans))) (by exact rfl))
            clear hb
            (try clear g0)
            obtain ⟨c0, f0, z0⟩ := blk_facts h0
            (try clear g1)
            obtain ⟨c1, f1, z1⟩ := blk_facts h1
            (try clear g2)
            obtain ⟨c2, f2, z2⟩ := blk_facts h2
            have z9 : wr.heap.size < w2.heap.size := by omega
            go_wp2_with fail
            go_roundw
            case rel => exact ⟨k + 1, by omega, by go_num, (Eq.trans (b := some (Obj.cells _ _ (0, 0))) (by repeat (first | (with_reducible assumption) | (with_reducible apply heap_set_same) | ((with_reducible apply heap_set_other'); (focus (first | omega | (simp; done) | (simp; omega)))) | ((with_reducible apply heap_alloc_new); (focus (first | omega | (simp; done) | (simp; omega)))) | (with_reducible apply heap_alloc_old') | (with_reducible apply (heap_drew_at _ _).trans) | (with_reducible apply (heap_drewN_at _ _ _).trans))) (by exact rfl)), (Eq.trans (b := some (Obj.cells _ _ (0, 0))) (by repeat (first | (with_reducible assumption) | (with_reducible apply heap_set_same) | ((with_reducible apply heap_set_other'); (focus (first | omega | (simp; done) | (simp; omega)))) | ((with_reducible apply heap_alloc_new); (focus (first | omega | (simp; done) | (simp; omega)))) | (with_reducible apply heap_alloc_old') | (with_reducible apply (heap_drew_at _ _).trans) | (with_reducible apply (heap_drewN_at _ _ _).trans))) (by exact rfl)), by go_grown⟩
            case measure => simp [intOf]; omega
          | true =>
            by_cases e3 : xf = f
            · by_cases e4 : xl = l
              · subst e3 e4
                go_wp2_with fail
                go_roundw
                case rel => exact ⟨k + 1, by omega, by go_num, (Eq.trans (b := some (Obj.cells _ _ (0, 0))) (by repeat (first | (with_reducible assumption) | (with_reducible apply heap_set_same) | ((with_reducible apply heap_set_other'); (focus (first | omega | (simp; done) | (simp; omega)))) | ((with_reducible apply heap_alloc_new); (focus (first | omega | (simp; done) | (simp; omega)))) | (with_reducible apply heap_alloc_old') | (with_reducible apply (heap_drew_at _ _).trans) | (with_reducible apply (heap_drewN_at _ _ _).trans))) (by exact rfl)), (Eq.trans (b := some (Obj.cells _ _ (0, 0))) (by repeat (first | (with_reducible assumption) | (with_reducible apply heap_set_same) | ((with_reducible apply heap_set_other'); (focus (first | omega | (simp; done) | (simp; omega)))) | ((with_reducible apply heap_alloc_new); (focus (first | omega | (simp; done) | (simp; omega)))) | (with_reducible apply heap_alloc_old') | (with_reducible apply (heap_drew_at _ _).trans) | (with_reducible apply (heap_drewN_at _ _ _).trans))) (by exact rfl)), by go_grown⟩
                case measure => simp [intOf]; omega
              · have n4 : (xl == l) = false := beq_eq_false_iff_ne.2 e4
                subst e3
                have HT := leave_of (t := t) (xf := xf) (xl := xl) (wf := xf) (wl := wl) (bg := bg) (wh := wh) (ht := ht) (xt := xt) (sy := sy) (wt := wt) (.inr n2) (show ofB true xf l xf xl = false by simp [ofB, n4])
                go_wp2_with fail
                (with_reducible refine (take_as HT _).mono ?_)
                rintro e w2 ⟨rfl, hb⟩
                (try (have g0 := h0; clear h0 f0 c0))
                (try (have g1 := h1; clear h1 f1 c1))
                (try (have g2 := h2; clear h2 f2 c2))
                have hB := below_next (w := w) (by go_grown) hb
                have h0 : w2.heap[w.heap.size]? = some (.cells #[.bool true, .int .i64 xf, .int .i64 l, .int .i64 t] 23 (0, 0)) := (hb.block (w.heap.size) (by first | omega | (simp; done) | (simp; omega))).trans (Eq.trans (b := some (Obj.cells _ _ (0, 0))) (by repeat (first | (with_reducible assumption) | (with_reducible apply heap_set_same) | ((with_reducible apply heap_set_other'); (focus (first | omega | (simp; done) | (simp; omega)))) | ((with_reducible apply heap_alloc_new); (focus (first | omega | (simp; done) | (simp; omega)))) | (with_reducible apply heap_alloc_old') | (with_reducible apply (heap_drew_at _ _).trans) | (with_reducible apply (heap_drewN_at _ _ _).trans))) (by exact rfl))
                have h1 : w2.heap[w.heap.size + 1]? = some (.cells #[.int .i64 xf, .int .i64 wl, .int .i64 wt] 27 (0, 0)) := (hb.block (w.heap.size + 1) (by first | omega | (simp; done) | (simp; omega))).trans (Eq.trans (b := some (Obj.cells _ _ (0, 0))) (by repeat (first | (with_reducible assumption) | (with_reducible apply heap_set_same) | ((with_reducible apply heap_set_other'); (focus (first | omega | (simp; done) | (simp; omega)))) | ((with_reducible apply heap_alloc_new); (focus (first | omega | (simp; done) | (simp; omega)))) | (with_reducible apply heap_alloc_old') | (with_reducible apply (heap_drew_at _ _).trans) | (with_reducible apply (heap_drewN_at _ _ _).trans))) (by exact rfl))
                have h2 : w2.heap[wr.heap.size]? = some (.cells #[.int .i64 xf, .int .i64 xl, .bool bg, .bool wh, .bool ht, .int .i64 xt, .bool sy] 25 (0, 0)) := (hb.block (wr.heap.size) (by first | omega | (simp; done) | (simp; omega))).trans (Eq.trans (b := some (Obj.cells _ _ (0, 0))) (by repeat (first | (with_reducible assumption) | (with_reducible apply heap_set_same) | ((with_reducible apply heap_set_other'); (focus (first | omega | (simp; done) | (simp; omega)))) | ((with_reducible apply heap_alloc_new); (focus (first | omega | (simp; done) | (simp; omega)))) | (with_reducible apply heap_alloc_old') | (with_reducible apply (heap_drew_at _ _).trans) | (with_reducible apply (heap_drewN_at _ _ _).trans))) (by exact rfl))
                clear hb
                (try clear g0)
                obtain ⟨c0, f0, z0⟩ := blk_facts h0
                (try clear g1)
                obtain ⟨c1, f1, z1⟩ := blk_facts h1
                (try clear g2)
                obtain ⟨c2, f2, z2⟩ := blk_facts h2
                have z9 : wr.heap.size < w2.heap.size := by omega
                go_wp2_with fail
                go_roundw
                case rel => exact ⟨k + 1, by omega, by go_num, (Eq.trans (b := some (Obj.cells _ _ (0, 0))) (by repeat (first | (with_reducible assumption) | (with_reducible apply heap_set_same) | ((with_reducible apply heap_set_other'); (focus (first | omega | (simp; done) | (simp; omega)))) | ((with_reducible apply heap_alloc_new); (focus (first | omega | (simp; done) | (simp; omega)))) | (with_reducible apply heap_alloc_old') | (with_reducible apply (heap_drew_at _ _).trans) | (with_reducible apply (heap_drewN_at _ _ _).trans))) (by exact rfl)), (Eq.trans (b := some (Obj.cells _ _ (0, 0))) (by repeat (first | (with_reducible assumption) | (with_reducible apply heap_set_same) | ((with_reducible apply heap_set_other'); (focus (first | omega | (simp; done) | (simp; omega)))) | ((with_reducible apply heap_alloc_new); (focus (first | omega | (simp; done) | (simp; omega)))) | (with_reducible apply heap_alloc_old') | (with_reducible apply (heap_drew_at _ _).trans) | (with_reducible apply (heap_drewN_at _ _ _).trans))) (by exact rfl)), by go_grown⟩
                case measure => simp [intOf]; omega
            · have n3 : (xf == f) = false := beq_eq_false_iff_ne.2 e3
              have HT := leave_of (t := t) (xf := xf) (xl := xl) (wf := xf) (wl := wl) (bg := bg) (wh := wh) (ht := ht) (xt := xt) (sy := sy) (wt := wt) (.inr n2) (show ofB true f l xf xl = false by simp [ofB, n3])
              go_wp2_with fail
              (with_reducible refine (take_as HT _).mono ?_)
              rintro e w2 ⟨rfl, hb⟩
              (try (have g0 := h0; clear h0 f0 c0))
              (try (have g1 := h1; clear h1 f1 c1))
              (try (have g2 := h2; clear h2 f2 c2))
              have hB := below_next (w := w) (by go_grown) hb
              have h0 : w2.heap[w.heap.size]? = some (.cells #[.bool true, .int .i64 f, .int .i64 l, .int .i64 t] 23 (0, 0)) := (hb.block (w.heap.size) (by first | omega | (simp; done) | (simp; omega))).trans (Eq.trans (b := some (Obj.cells _ _ (0, 0))) (by repeat (first | (with_reducible assumption) | (with_reducible apply heap_set_same) | ((with_reducible apply heap_set_other'); (focus (first | omega | (simp; done) | (simp; omega)))) | ((with_reducible apply heap_alloc_new); (focus (first | omega | (simp; done) | (simp; omega)))) | (with_reducible apply heap_alloc_old') | (with_reducible apply (heap_drew_at _ _).trans) | (with_reducible apply (heap_drewN_at _ _ _).trans))) (by exact rfl))
              have h1 : w2.heap[w.heap.size + 1]? = some (.cells #[.int .i64 xf, .int .i64 wl, .int .i64 wt] 27 (0, 0)) := (hb.block (w.heap.size + 1) (by first | omega | (simp; done) | (simp; omega))).trans (Eq.trans (b := some (Obj.cells _ _ (0, 0))) (by repeat (first | (with_reducible assumption) | (with_reducible apply heap_set_same) | ((with_reducible apply heap_set_other'); (focus (first | omega | (simp; done) | (simp; omega)))) | ((with_reducible apply heap_alloc_new); (focus (first | omega | (simp; done) | (simp; omega)))) | (with_reducible apply heap_alloc_old') | (with_reducible apply (heap_drew_at _ _).trans) | (with_reducible apply (heap_drewN_at _ _ _).trans))) (by exact rfl))
              have h2 : w2.heap[wr.heap.size]? = some (.cells #[.int .i64 xf, .int .i64 xl, .bool bg, .bool wh, .bool ht, .int .i64 xt, .bool sy] 25 (0, 0)) := (hb.block (wr.heap.size) (by first | omega | (simp; done) | (simp; omega))).trans (Eq.trans (b := some (Obj.cells _ _ (0, 0))) (by repeat (first | (with_reducible assumption) | (with_reducible apply heap_set_same) | ((with_reducible apply heap_set_other'); (focus (first | omega | (simp; done) | (simp; omega)))) | ((with_reducible apply heap_alloc_new); (focus (first | omega | (simp; done) | (simp; omega)))) | (with_reducible apply heap_alloc_old') | (with_reducible apply (heap_drew_at _ _).trans) | (with_reducible apply (heap_drewN_at _ _ _).trans))) (by exact rfl))
              clear hb
              (try clear g0)
              obtain ⟨c0, f0, z0⟩ := blk_facts h0
              (try clear g1)
              obtain ⟨c1, f1, z1⟩ := blk_facts h1
              (try clear g2)
              obtain ⟨c2, f2, z2⟩ := blk_facts h2
              have z9 : wr.heap.size < w2.heap.size := by omega
              go_wp2_with fail
              go_roundw
              case rel => exact ⟨k + 1, by omega, by go_num, (Eq.trans (b := some (Obj.cells _ _ (0, 0))) (by repeat (first | (with_reducible assumption) | (with_reducible apply heap_set_same) | ((with_reducible apply heap_set_other'); (focus (first | omega | (simp; done) | (simp; omega)))) | ((with_reducible apply heap_alloc_new); (focus (first | omega | (simp; done) | (simp; omega)))) | (with_reducible apply heap_alloc_old') | (with_reducible apply (heap_drew_at _ _).trans) | (with_reducible apply (heap_drewN_at _ _ _).trans))) (by exact rfl)), (Eq.trans (b := some (Obj.cells _ _ (0, 0))) (by repeat (first | (with_reducible assumption) | (with_reducible apply heap_set_same) | ((with_reducible apply heap_set_other'); (focus (first | omega | (simp; done) | (simp; omega)))) | ((with_reducible apply heap_alloc_new); (focus (first | omega | (simp; done) | (simp; omega)))) | (with_reducible apply heap_alloc_old') | (with_reducible apply (heap_drew_at _ _).trans) | (with_reducible apply (heap_drewN_at _ _ _).trans))) (by exact rfl)), by go_grown⟩
              case measure => simp [intOf]; omega
      · have n1 : (xf == wf) = false := beq_eq_false_iff_ne.2 (fun e => e1 e.symm)
        cases on with
        | false =>
          have HT := leave_of (t := t) (xf := xf) (xl := xl) (wf := wf) (wl := wl) (bg := bg) (wh := wh) (ht := ht) (xt := xt) (sy := sy) (wt := wt) (.inl n1) (show ofB false f l _ _ = false by simp [ofB])
          go_wp2_with fail
          (with_reducible refine (take_as HT _).mono ?_)
          rintro e w2 ⟨rfl, hb⟩
          (try (have g0 := h0; clear h0 f0 c0))
          (try (have g1 := h1; clear h1 f1 c1))
          (try (have g2 := h2; clear h2 f2 c2))
          have hB := below_next (w := w) (by go_grown) hb
          have h0 : w2.heap[w.heap.size]? = some (.cells #[.bool false, .int .i64 f, .int .i64 l, .int .i64 t] 23 (0, 0)) := (hb.block (w.heap.size) (by first | omega | (simp; done) | (simp; omega))).trans (Eq.trans (b := some (Obj.cells _ _ (0, 0))) (by repeat (first | (with_reducible assumption) | (with_reducible apply heap_set_same) | ((with_reducible apply heap_set_other'); (focus (first | omega | (simp; done) | (simp; omega)))) | ((with_reducible apply heap_alloc_new); (focus (first | omega | (simp; done) | (simp; omega)))) | (with_reducible apply heap_alloc_old') | (with_reducible apply (heap_drew_at _ _).trans) | (with_reducible apply (heap_drewN_at _ _ _).trans))) (by exact rfl))
          have h1 : w2.heap[w.heap.size + 1]? = some (.cells #[.int .i64 wf, .int .i64 wl, .int .i64 wt] 27 (0, 0)) := (hb.block (w.heap.size + 1) (by first | omega | (simp; done) | (simp; omega))).trans (Eq.trans (b := some (Obj.cells _ _ (0, 0))) (by repeat (first | (with_reducible assumption) | (with_reducible apply heap_set_same) | ((with_reducible apply heap_set_other'); (focus (first | omega | (simp; done) | (simp; omega)))) | ((with_reducible apply heap_alloc_new); (focus (first | omega | (simp; done) | (simp; omega)))) | (with_reducible apply heap_alloc_old') | (with_reducible apply (heap_drew_at _ _).trans) | (with_reducible apply (heap_drewN_at _ _ _).trans))) (by exact rfl))
          have h2 : w2.heap[wr.heap.size]? = some (.cells #[.int .i64 xf, .int .i64 xl, .bool bg, .bool wh, .bool ht, .int .i64 xt, .bool sy] 25 (0, 0)) := (hb.block (wr.heap.size) (by first | omega | (simp; done) | (simp; omega))).trans (Eq.trans (b := some (Obj.cells _ _ (0, 0))) (by repeat (first | (with_reducible assumption) | (with_reducible apply heap_set_same) | ((with_reducible apply heap_set_other'); (focus (first | omega | (simp; done) | (simp; omega)))) | ((with_reducible apply heap_alloc_new); (focus (first | omega | (simp; done) | (simp; omega)))) | (with_reducible apply heap_alloc_old') | (with_reducible apply (heap_drew_at _ _).trans) | (with_reducible apply (heap_drewN_at _ _ _).trans))) (by exact rfl))
          clear hb
          (try clear g0)
          obtain ⟨c0, f0, z0⟩ := blk_facts h0
          (try clear g1)
          obtain ⟨c1, f1, z1⟩ := blk_facts h1
          (try clear g2)
          obtain ⟨c2, f2, z2⟩ := blk_facts h2
          have z9 : wr.heap.size < w2.heap.size := by omega
          go_wp2_with fail
          go_roundw
          case rel => exact ⟨k + 1, by omega, by go_num, (Eq.trans (b := some (Obj.cells _ _ (0, 0))) (by repeat (first | (with_reducible assumption) | (with_reducible apply heap_set_same) | ((with_reducible apply heap_set_other'); (focus (first | omega | (simp; done) | (simp; omega)))) | ((with_reducible apply heap_alloc_new); (focus (first | omega | (simp; done) | (simp; omega)))) | (with_reducible apply heap_alloc_old') | (with_reducible apply (heap_drew_at _ _).trans) | (with_reducible apply (heap_drewN_at _ _ _).trans))) (by exact rfl)), (Eq.trans (b := some (Obj.cells _ _ (0, 0))) (by repeat (first | (with_reducible assumption) | (with_reducible apply heap_set_same) | ((with_reducible apply heap_set_other'); (focus (first | omega | (simp; done) | (simp; omega)))) | ((with_reducible apply heap_alloc_new); (focus (first | omega | (simp; done) | (simp; omega)))) | (with_reducible apply heap_alloc_old') | (with_reducible apply (heap_drew_at _ _).trans) | (with_reducible apply (heap_drewN_at _ _ _).trans))) (by exact rfl)), by go_grown⟩
          case measure => simp [intOf]; omega
        | true =>
          by_cases e3 : xf = f
          · by_cases e4 : xl = l
            · subst e3 e4
              go_wp2_with fail
              go_roundw
              case rel => exact ⟨k + 1, by omega, by go_num, (Eq.trans (b := some (Obj.cells _ _ (0, 0))) (by repeat (first | (with_reducible assumption) | (with_reducible apply heap_set_same) | ((with_reducible apply heap_set_other'); (focus (first | omega | (simp; done) | (simp; omega)))) | ((with_reducible apply heap_alloc_new); (focus (first | omega | (simp; done) | (simp; omega)))) | (with_reducible apply heap_alloc_old') | (with_reducible apply (heap_drew_at _ _).trans) | (with_reducible apply (heap_drewN_at _ _ _).trans))) (by exact rfl)), (Eq.trans (b := some (Obj.cells _ _ (0, 0))) (by repeat (first | (with_reducible assumption) | (with_reducible apply heap_set_same) | ((with_reducible apply heap_set_other'); (focus (first | omega | (simp; done) | (simp; omega)))) | ((with_reducible apply heap_alloc_new); (focus (first | omega | (simp; done) | (simp; omega)))) | (with_reducible apply heap_alloc_old') | (with_reducible apply (heap_drew_at _ _).trans) | (with_reducible apply (heap_drewN_at _ _ _).trans))) (by exact rfl)), by go_grown⟩
              case measure => simp [intOf]; omega
            · have n4 : (xl == l) = false := beq_eq_false_iff_ne.2 e4
              subst e3
              have HT := leave_of (t := t) (xf := xf) (xl := xl) (wf := wf) (wl := wl) (bg := bg) (wh := wh) (ht := ht) (xt := xt) (sy := sy) (wt := wt) (.inl n1) (show ofB true xf l xf xl = false by simp [ofB, n4])
              go_wp2_with fail
              (with_reducible refine (take_as HT _).mono ?_)
              rintro e w2 ⟨rfl, hb⟩
              (try (have g0 := h0; clear h0 f0 c0))
              (try (have g1 := h1; clear h1 f1 c1))
              (try (have g2 := h2; clear h2 f2 c2))
              have hB := below_next (w := w) (by go_grown) hb
              have h0 : w2.heap[w.heap.size]? = some (.cells #[.bool true, .int .i64 xf, .int .i64 l, .int .i64 t] 23 (0, 0)) := (hb.block (w.heap.size) (by first | omega | (simp; done) | (simp; omega))).trans (Eq.trans (b := some (Obj.cells _ _ (0, 0))) (by repeat (first | (with_reducible assumption) | (with_reducible apply heap_set_same) | ((with_reducible apply heap_set_other'); (focus (first | omega | (simp; done) | (simp; omega)))) | ((with_reducible apply heap_alloc_new); (focus (first | omega | (simp; done) | (simp; omega)))) | (with_reducible apply heap_alloc_old') | (with_reducible apply (heap_drew_at _ _).trans) | (with_reducible apply (heap_drewN_at _ _ _).trans))) (by exact rfl))
              have h1 : w2.heap[w.heap.size + 1]? = some (.cells #[.int .i64 wf, .int .i64 wl, .int .i64 wt] 27 (0, 0)) := (hb.block (w.heap.size + 1) (by first | omega | (simp; done) | (simp; omega))).trans (Eq.trans (b := some (Obj.cells _ _ (0, 0))) (by repeat (first | (with_reducible assumption) | (with_reducible apply heap_set_same) | ((with_reducible apply heap_set_other'); (focus (first | omega | (simp; done) | (simp; omega)))) | ((with_reducible apply heap_alloc_new); (focus (first | omega | (simp; done) | (simp; omega)))) | (with_reducible apply heap_alloc_old') | (with_reducible apply (heap_drew_at _ _).trans) | (with_reducible apply (heap_drewN_at _ _ _).trans))) (by exact rfl))
              have h2 : w2.heap[wr.heap.size]? = some (.cells #[.int .i64 xf, .int .i64 xl, .bool bg, .bool wh, .bool ht, .int .i64 xt, .bool sy] 25 (0, 0)) := (hb.block (wr.heap.size) (by first | omega | (simp; done) | (simp; omega))).trans (Eq.trans (b := some (Obj.cells _ _ (0, 0))) (by repeat (first | (with_reducible assumption) | (with_reducible apply heap_set_same) | ((with_reducible apply heap_set_other'); (focus (first | omega | (simp; done) | (simp; omega)))) | ((with_reducible apply heap_alloc_new); (focus (first | omega | (simp; done) | (simp; omega)))) | (with_reducible apply heap_alloc_old') | (with_reducible apply (heap_drew_at _ _).trans) | (with_reducible apply (heap_drewN_at _ _ _).trans))) (by exact rfl))
              clear hb
              (try clear g0)
              obtain ⟨c0, f0, z0⟩ := blk_facts h0
              (try clear g1)
              obtain ⟨c1, f1, z1⟩ := blk_facts h1
              (try clear g2)
              obtain ⟨c2, f2, z2⟩ := blk_facts h2
              have z9 : wr.heap.size < w2.heap.size := by omega
              go_wp2_with fail
              go_roundw
              case rel => exact ⟨k + 1, by omega, by go_num, (Eq.trans (b := some (Obj.cells _ _ (0, 0))) (by repeat (first | (with_reducible assumption) | (with_reducible apply heap_set_same) | ((with_reducible apply heap_set_other'); (focus (first | omega | (simp; done) | (simp; omega)))) | ((with_reducible apply heap_alloc_new); (focus (first | omega | (simp; done) | (simp; omega)))) | (with_reducible apply heap_alloc_old') | (with_reducible apply (heap_drew_at _ _).trans) | (with_reducible apply (heap_drewN_at _ _ _).trans))) (by exact rfl)), (Eq.trans (b := some (Obj.cells _ _ (0, 0))) (by repeat (first | (with_reducible assumption) | (with_reducible apply heap_set_same) | ((with_reducible apply heap_set_other'); (focus (first | omega | (simp; done) | (simp; omega)))) | ((with_reducible apply heap_alloc_new); (focus (first | omega | (simp; done) | (simp; omega)))) | (with_reducible apply heap_alloc_old') | (with_reducible apply (heap_drew_at _ _).trans) | (with_reducible apply (heap_drewN_at _ _ _).trans))) (by exact rfl)), by go_grown⟩
              case measure => simp [intOf]; omega
          · have n3 : (xf == f) = false := beq_eq_false_iff_ne.2 e3
            have HT := leave_of (t := t) (xf := xf) (xl := xl) (wf := wf) (wl := wl) (bg := bg) (wh := wh) (ht := ht) (xt := xt) (sy := sy) (wt := wt) (.inl n1) (show ofB true f l xf xl = false by simp [ofB, n3])
            go_wp2_with fail
            (with_reducible refine (take_as HT _).mono ?_)
            rintro e w2 ⟨rfl, hb⟩
            (try (have g0 := h0; clear h0 f0 c0))
            (try (have g1 := h1; clear h1 f1 c1))
            (try (have g2 := h2; clear h2 f2 c2))
            have hB := below_next (w := w) (by go_grown) hb
            have h0 : w2.heap[w.heap.size]? = some (.cells #[.bool true, .int .i64 f, .int .i64 l, .int .i64 t] 23 (0, 0)) := (hb.block (w.heap.size) (by first | omega | (simp; done) | (simp; omega))).trans (Eq.trans (b := some (Obj.cells _ _ (0, 0))) (by repeat (first | (with_reducible assumption) | (with_reducible apply heap_set_same) | ((with_reducible apply heap_set_other'); (focus (first | omega | (simp; done) | (simp; omega)))) | ((with_reducible apply heap_alloc_new); (focus (first | omega | (simp; done) | (simp; omega)))) | (with_reducible apply heap_alloc_old') | (with_reducible apply (heap_drew_at _ _).trans) | (with_reducible apply (heap_drewN_at _ _ _).trans))) (by exact rfl))
            have h1 : w2.heap[w.heap.size + 1]? = some (.cells #[.int .i64 wf, .int .i64 wl, .int .i64 wt] 27 (0, 0)) := (hb.block (w.heap.size + 1) (by first | omega | (simp; done) | (simp; omega))).trans (Eq.trans (b := some (Obj.cells _ _ (0, 0))) (by repeat (first | (with_reducible assumption) | (with_reducible apply heap_set_same) | ((with_reducible apply heap_set_other'); (focus (first | omega | (simp; done) | (simp; omega)))) | ((with_reducible apply heap_alloc_new); (focus (first | omega | (simp; done) | (simp; omega)))) | (with_reducible apply heap_alloc_old') | (with_reducible apply (heap_drew_at _ _).trans) | (with_reducible apply (heap_drewN_at _ _ _).trans))) (by exact rfl))
            have h2 : w2.heap[wr.heap.size]? = some (.cells #[.int .i64 xf, .int .i64 xl, .bool bg, .bool wh, .bool ht, .int .i64 xt, .bool sy] 25 (0, 0)) := (hb.block (wr.heap.size) (by first | omega | (simp; done) | (simp; omega))).trans (Eq.trans (b := some (Obj.cells _ _ (0, 0))) (by repeat (first | (with_reducible assumption) | (with_reducible apply heap_set_same) | ((with_reducible apply heap_set_other'); (focus (first | omega | (simp; done) | (simp; omega)))) | ((with_reducible apply heap_alloc_new); (focus (first | omega | (simp; done) | (simp; omega)))) | (with_reducible apply heap_alloc_old') | (with_reducible apply (heap_drew_at _ _).trans) | (with_reducible apply (heap_drewN_at _ _ _).trans))) (by exact rfl))
            clear hb
            (try clear g0)
            obtain ⟨c0, f0, z0⟩ := blk_facts h0
            (try clear g1)
            obtain ⟨c1, f1, z1⟩ := blk_facts h1
            (try clear g2)
            obtain ⟨c2, f2, z2⟩ := blk_facts h2
            have z9 : wr.heap.size < w2.heap.size := by omega
            go_wp2_with fail
            go_roundw
            case rel => exact ⟨k + 1, by omega, by go_num, (Eq.trans (b := some (Obj.cells _ _ (0, 0))) (by repeat (first | (with_reducible assumption) | (with_reducible apply heap_set_same) | ((with_reducible apply heap_set_other'); (focus (first | omega | (simp; done) | (simp; omega)))) | ((with_reducible apply heap_alloc_new); (focus (first | omega | (simp; done) | (simp; omega)))) | (with_reducible apply heap_alloc_old') | (with_reducible apply (heap_drew_at _ _).trans) | (with_reducible apply (heap_drewN_at _ _ _).trans))) (by exact rfl)), (Eq.trans (b := some (Obj.cells _ _ (0, 0))) (by repeat (first | (with_reducible assumption) | (with_reducible apply heap_set_same) | ((with_reducible apply heap_set_other'); (focus (first | omega | (simp; done) | (simp; omega)))) | ((with_reducible apply heap_alloc_new); (focus (first | omega | (simp; done) | (simp; omega)))) | (with_reducible apply heap_alloc_old') | (with_reducible apply (heap_drew_at _ _).trans) | (with_reducible apply (heap_drewN_at _ _ _).trans))) (by exact rfl)), by go_grown⟩
            case measure => simp [intOf]; omega
    · clear hz
      go_wp2_with fail
      go_ret
      exact ⟨rfl, by go_grown⟩
end Go.Proofs.Ytiajgdpceedmlaa
