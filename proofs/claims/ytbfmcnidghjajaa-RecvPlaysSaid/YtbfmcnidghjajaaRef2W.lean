/- Lost and Missing, as the reference computes them. No condition but that the row is short and its numbers small. -/
import Derived.Test.YtbfmcnidghjajaaRefW
namespace Go.Proofs.Ytbfmcnidghjajaa
set_option linter.unusedSimpArgs false
set_option linter.unusedVariables false
open Go.RowKit
theorem i64_in (x : Int) (h0 : -9000000000000000000 ≤ x) (h1 : x ≤ 9000000000000000000) : IntKind.i64.wrap x = x := by
  simp [IntKind.wrap, IntKind.bits, IntKind.signed]
  omega
set_option maxRecDepth 100000 in
set_option maxHeartbeats 1000000 in
theorem refLost_any (A : Option Addr) (len cap : Nat) (l : List Int) (w : World) (hlen : l.length = len) (h0 : 0 < len) (hl : len ≤ 100000) (hp : IntsAt w A .i64 l) (lh : -1000000000000 ≤ highF l) (uh : highF l ≤ 1000000000000) (lb : -1000000000000 ≤ baseF l) (ub : baseF l ≤ 1000000000000) :
    Calls Try.prog 13 #[.agg #[.slice A len cap]] w fun e w' => e = .returned (.int .i64 (refLostF l)) ∧ Below w.heap.size w w' := by
  subst hlen
  have HP := Lib.hid hp; clear hp
  have hne : l ≠ [] := by intro e; subst e; simp at h0
  have HF : Hid (refLostF l = highF l - baseF l + 1 - l.length) := Lib.hid (if_neg hne)
  have hz : ((l.length : Int) == 0) = false := by rw [beq_eq_false_iff_ne]; omega
  have e1 : IntKind.i64.wrap (highF l - baseF l) = highF l - baseF l := i64_in _ (by omega) (by omega)
  have e2 : IntKind.i64.wrap (highF l - baseF l + 1) = highF l - baseF l + 1 := i64_in _ (by omega) (by omega)
  have e3 : IntKind.i64.wrap (highF l - baseF l + 1 - l.length) = highF l - baseF l + 1 - l.length := i64_in _ (by omega) (by omega)
  clear hne
  go_enter Try.func13, Try.ntmps13
  go_upto_region 3 with fail
  go_region_held3 (fun w' => (w'.heap[w.heap.size]? = some (.cells #[.slice A l.length cap] 29 (0, 0)) ∧ (∀ j, w'.cell? ⟨w.heap.size, j, none⟩ = #[.slice A l.length cap][j]?) ∧ (∀ j, w'.frozen? ⟨w.heap.size, j, none⟩ = false) ∧ w.heap.size < w'.heap.size) ∧ Below w.heap.size w w') ((go_split_ands; exact ⟨blk_all (Eq.trans (b := some (Obj.cells _ _ (0, 0))) (by repeat (first | (with_reducible assumption) | (with_reducible apply heap_set_same) | ((with_reducible apply heap_set_other'); (focus (first | omega | (simp; done) | (simp; omega)))) | ((with_reducible apply heap_alloc_new); (focus (first | omega | (simp; done) | (simp; omega)))) | (with_reducible apply heap_alloc_old') | (with_reducible apply (heap_drew_at _ _).trans) | (with_reducible apply (heap_drewN_at _ _ _).trans))) (by exact rfl)), by first | ((repeat (first | (with_reducible exact Below.refl _ _) | (with_reducible apply Below.drew))); done) | go_grown⟩)) (first | (go_at_call 14; go_split_ands; (with_reducible refine (High_any _ _ _ l _ rfl h0 (by omega) (HP.out.below rfl (by first | assumption | go_grown))).mono ?_); rintro e w2 ⟨rfl, hb⟩; have hB := below_next (w := w) (by go_grown) hb; have zS := hB.size; have hr0 : w2.heap[w.heap.size]? = some (.cells #[.slice A l.length cap] 29 (0, 0)) := (hb.block (w.heap.size) (by first | omega | (simp; done) | (simp; omega))).trans (Eq.trans (b := some (Obj.cells _ _ (0, 0))) (by repeat (first | (with_reducible assumption) | (with_reducible apply heap_set_same) | ((with_reducible apply heap_set_other'); (focus (first | omega | (simp; done) | (simp; omega)))) | ((with_reducible apply heap_alloc_new); (focus (first | omega | (simp; done) | (simp; omega)))) | (with_reducible apply heap_alloc_old') | (with_reducible apply (heap_drew_at _ _).trans) | (with_reducible apply (heap_drewN_at _ _ _).trans))) (by exact rfl)); have zr0 := blk_lt hr0; clear hb) | (go_at_call 15; go_split_ands; (with_reducible refine (Base_any _ _ _ l _ rfl h0 (by omega) (HP.out.below rfl (by first | assumption | go_grown))).mono ?_); rintro e w2 ⟨rfl, hb⟩; have hB := below_next (w := w) (by go_grown) hb; have zS := hB.size; have hr0 : w2.heap[w.heap.size]? = some (.cells #[.slice A l.length cap] 29 (0, 0)) := (hb.block (w.heap.size) (by first | omega | (simp; done) | (simp; omega))).trans (Eq.trans (b := some (Obj.cells _ _ (0, 0))) (by repeat (first | (with_reducible assumption) | (with_reducible apply heap_set_same) | ((with_reducible apply heap_set_other'); (focus (first | omega | (simp; done) | (simp; omega)))) | ((with_reducible apply heap_alloc_new); (focus (first | omega | (simp; done) | (simp; omega)))) | (with_reducible apply heap_alloc_old') | (with_reducible apply (heap_drew_at _ _).trans) | (with_reducible apply (heap_drewN_at _ _ _).trans))) (by exact rfl)); have zr0 := blk_lt hr0; clear hb))
  all_goals
    go_wp2_with fail
    go_ret
    exact ⟨ret_int HF.out.symm, by go_grown⟩
theorem info2 : (Try.prog.info? 2).map (fun i => (i.zero, i.size, i.bytes)) = some (some (.int .i64 0), 1, 8) := by kernel_rfl
theorem refMiss_nil (A : Option Addr) (cap : Nat) (w : World) : Calls Try.prog 17 #[.agg #[.slice A 0 cap]] w fun e w' => ∃ v, e = .returned v ∧ w'.ownsRow w.heap.size 2 1 v 0 [] ∧ Below w.heap.size w w' := by
  go_enter Try.func17, Try.ntmps17
  go_wp2
  go_ret
  exact ⟨_, rfl, World.ownsRow_nil _ _ _ _, by go_grown⟩
theorem refMissTo_length (l : List Int) (i : Nat) : (refMissTo l i).length ≤ i := by
  induction i with
  | zero => simp [refMissTo]
  | succ i ih => unfold refMissTo; rw [List.length_append]; split <;> simp <;> omega
set_option maxRecDepth 100000 in
set_option maxHeartbeats 2000000 in
theorem refMiss_any (A : Option Addr) (len cap : Nat) (l : List Int) (w : World) (hlen : l.length = len) (h0 : 0 < len) (hl : len ≤ 100000) (hp : IntsAt w A .i64 l) (lh : -1000000000000 ≤ highF l) (uh : highF l ≤ 1000000000000) (lb : -1000000000000 ≤ baseF l) (ub : baseF l ≤ 1000000000000) :
    Calls Try.prog 17 #[.agg #[.slice A len cap]] w fun e w' => ∃ v, e = .returned v ∧ w'.ownsRow w.heap.size 2 1 v (refMissF l).length ((refMissF l).map (Value.int .i64)) ∧ Below w.heap.size w w' := by
  subst hlen
  have HP := Lib.hid hp; clear hp
  have hne : l ≠ [] := by intro e; subst e; simp at h0
  have HF : Hid (refMissF l = refMissTo l 64) := Lib.hid (if_neg hne)
  have hz : ((l.length : Int) == 0) = false := by rw [beq_eq_false_iff_ne]; omega
  obtain ⟨i0, hi, hz0, hz1, hz2⟩ := info_parts info2
  clear hne
  have h00 := h0
  go_enter Try.func17, Try.ntmps17
  go_wp2_with fail
  with_reducible refine (High_any _ _ _ l _ rfl h0 (by omega) (HP.out.below rfl (by first | assumption | go_grown))).mono ?_
  rintro e w1 ⟨rfl, hb⟩
  have hB : Below w.heap.size w w1 := below_next (w := w) (by go_grown) hb
  have h1 : w1.heap[w.heap.size]? = some (.cells #[.slice A l.length cap] 29 (0, 0)) := (hb.block _ (by simp)).trans (heap_alloc_new w _ _ rfl)
  clear hb
  go_wp2_with fail
  go_loopw [3, 5] (fun v x wr => ∃ k : Nat, k ≤ 64 ∧ x = .int .i64 (highF l - 63 + k) ∧ wr.ownsRow w.heap.size 2 1 v (refMissTo l k).length ((refMissTo l k).map (Value.int .i64)) ∧ wr.heap[w.heap.size]? = some (.cells #[.slice A l.length cap] 29 (0, 0)) ∧ Below w.heap.size w wr) (fun _ x _ => (highF l + 1 - intOf x).toNat)
  case atStart => exact ⟨0, by omega, by simp, World.ownsRow_nil _ _ _ _, h1, hB⟩
  case round =>
    clear hB h1
    obtain ⟨k, hk, rfl, hown, h0', hB⟩ := hrel
    obtain ⟨c0, f0, z0⟩ := blk_facts h0'
    have zB := hB.size
    by_cases hlt : k < 64
    · have hxh : highF l - 63 + (k : Int) ≤ highF l := by omega
      have hl64 := refMissTo_length l k
      by_cases hbx : baseF l ≤ highF l - 63 + k
      · have hd : decide (baseF l ≤ highF l - 63 + (k : Int)) = true := by simp; omega
        by_cases hm : highF l - 63 + (k : Int) ∈ l
        · have HM : Hid (decide (highF l - 63 + (k : Int) ∈ l) = true) := Lib.hid (by simpa using hm)
          have hst : Hid (refMissTo l (k + 1) = refMissTo l k) := Lib.hid (by show refMissTo l k ++ _ = _; rw [if_neg (fun q => q.2 hm), List.append_nil])
          clear hm
          go_wp2_with (first
            | (go_at_call 15; (with_reducible refine (Base_any _ _ _ l _ rfl h00 (by omega) (HP.out.below rfl (by first | assumption | go_grown))).mono ?_); rintro e w2 ⟨rfl, hb⟩; have hown3 := own_below hown hb; clear hown; have hB3 := below_next (w := w) (by go_grown) hb; have h3 : w2.heap[w.heap.size]? = some (.cells #[.slice A l.length cap] 29 (0, 0)) := (hb.block _ z0).trans h0'; have z3 := hB3.size; have y3 := hb.size; clear hb; obtain ⟨c3, f3, x3⟩ := blk_facts h3)
            | (go_at_call 21; (with_reducible refine (Has_any _ _ _ l _ _ rfl (by omega) (HP.out.below rfl (by first | assumption | go_grown))).mono ?_); rintro e w3 ⟨rfl, hb⟩; rw [HM.out]; have hown4 := own_below hown3 hb; clear hown3; have hB4 := below_next (w := w) (by go_grown) hb; have h4 : w3.heap[w.heap.size]? = some (.cells #[.slice A l.length cap] 29 (0, 0)) := (hb.block (w.heap.size) (by omega)).trans h3; have z4 := hB4.size; have y4 := hb.size; clear hb; obtain ⟨c4, f4, x4⟩ := blk_facts h4))
          go_roundw
          case rel => exact ⟨k + 1, by omega, by go_num, by rw [hst.out]; exact hown4, h4, hB4⟩
          case measure => simp [intOf]; omega
        · have HM : Hid (decide (highF l - 63 + (k : Int) ∈ l) = false) := Lib.hid (by simpa using hm)
          have hst : Hid (refMissTo l (k + 1) = refMissTo l k ++ [highF l - 63 + k]) := Lib.hid (by show refMissTo l k ++ _ = _; rw [if_pos ⟨hbx, hm⟩])
          clear hm
          generalize refMissTo l k = L at hown hst hl64
          go_wp2_with (first
            | (go_at_call 15; (with_reducible refine (Base_any _ _ _ l _ rfl h00 (by omega) (HP.out.below rfl (by first | assumption | go_grown))).mono ?_); rintro e w2 ⟨rfl, hb⟩; have hown3 := own_below hown hb; clear hown; have hB3 := below_next (w := w) (by go_grown) hb; have h3 : w2.heap[w.heap.size]? = some (.cells #[.slice A l.length cap] 29 (0, 0)) := (hb.block _ z0).trans h0'; have z3 := hB3.size; have y3 := hb.size; clear hb; obtain ⟨c3, f3, x3⟩ := blk_facts h3)
            | (go_at_call 21; (with_reducible refine (Has_any _ _ _ l _ _ rfl (by omega) (HP.out.below rfl (by first | assumption | go_grown))).mono ?_); rintro e w3 ⟨rfl, hb⟩; rw [HM.out]; have hown4 := own_below hown3 hb; clear hown3; have hB4 := below_next (w := w) (by go_grown) hb; have h4 : w3.heap[w.heap.size]? = some (.cells #[.slice A l.length cap] 29 (0, 0)) := (hb.block (w.heap.size) (by omega)).trans h3; have z4 := hB4.size; have y4 := hb.size; clear hb; obtain ⟨c4, f4, x4⟩ := blk_facts h4)
            | (at_builtin; refine wpList_append_own _ rfl (.tmp 30) (.tmp 32) 27 rfl w.heap.size 2 i0 (.int .i64 0) 1 8 Try.underlying27 hi hz0 hz1 hz2 rfl (by decide) _ _ _ rfl (hown4.alloc _) ⟨w3.heap.size, 0, none⟩ 1 1 [.int .i64 (highF l - 63 + (k : Int))] rfl rfl (new_cells (by simp)) (one_cells rfl) (by unfold maxLen; first | omega | (simp only [List.length_append, List.length_cons]; omega)) (by first | omega | (simp only [List.length_append, List.length_cons]; omega)) (by have := hB4.size; first | omega | (simp; omega)) ?_; intro v5 w5 hown1 hgrow1 _))
          have h5 := block_grown (t := 29) (hown4.alloc _) hgrow1 (heap_alloc_old' h4) (by decide)
          have hB5 : Below w.heap.size w w5 := below_grown (by go_grown) (by simp; omega) (hown4.alloc _) hgrow1
          have hown6 : w5.ownsRow w.heap.size 2 1 v5 (refMissTo l (k + 1)).length ((refMissTo l (k + 1)).map (Value.int .i64)) := by
            rw [hst.out]
            simpa using hown1
          clear hown1 hown4 hgrow1
          go_roundw
          case rel => exact ⟨k + 1, by omega, by go_num, hown6, h5, hB5⟩
          case measure => simp [intOf]; omega
      · have hd : decide (baseF l ≤ highF l - 63 + (k : Int)) = false := by simp; omega
        have hst : Hid (refMissTo l (k + 1) = refMissTo l k) := Lib.hid (by show refMissTo l k ++ _ = _; rw [if_neg (fun q => hbx q.1), List.append_nil])
        go_wp2_with (first
          | (go_at_call 15; (with_reducible refine (Base_any _ _ _ l _ rfl h00 (by omega) (HP.out.below rfl (by first | assumption | go_grown))).mono ?_); rintro e w2 ⟨rfl, hb⟩; have hown3 := own_below hown hb; clear hown; have hB3 := below_next (w := w) (by go_grown) hb; have h3 : w2.heap[w.heap.size]? = some (.cells #[.slice A l.length cap] 29 (0, 0)) := (hb.block _ z0).trans h0'; have z3 := hB3.size; have y3 := hb.size; clear hb; obtain ⟨c3, f3, x3⟩ := blk_facts h3))
        go_roundw
        case rel => exact ⟨k + 1, by omega, by go_num, by rw [hst.out]; exact hown3, h3, hB3⟩
        case measure => simp [intOf]; omega
    · have hk64 : k = 64 := by omega
      subst hk64
      rw [← HF.out] at hown
      have hxx : ¬ highF l - 63 + ((64 : Nat) : Int) ≤ highF l := by omega
      go_wp2_with fail
      go_ret
      exact ⟨_, rfl, hown, hB⟩
end Go.Proofs.Ytbfmcnidghjajaa
