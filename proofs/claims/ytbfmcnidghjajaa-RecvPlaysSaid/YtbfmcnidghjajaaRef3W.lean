/- Take, as the reference computes it. No condition but that the row is short and its numbers small. -/
import Derived.Test.YtbfmcnidghjajaaRef2W
namespace Go.Proofs.Ytbfmcnidghjajaa
set_option linter.unusedSimpArgs false
set_option linter.unusedVariables false
open Go.RowKit
/-- A row of the call's own, a number, and what a packet is, as the reference hands them back. -/
def RTook (B : Nat) (r : List Int × Int × Int) (e : Ending) (w : World) : Prop :=
  ∃ A cap, e = .returned (.tuple #[.agg #[.slice A r.1.length cap], .int .i64 r.2.1, .int .i64 r.2.2]) ∧ w.ownsRow B 2 1 (.slice A r.1.length cap) r.1.length (r.1.map (Value.int .i64))
theorem rtook_mk {B len : Nat} {r : List Int × Int × Int} {L : List Int} {y k : Int} {e : Ending} {w : World} {A : Option Addr} {cap : Nat} (hr : r = (L, y, k)) (hl : L.length = len) (he : e = .returned (.tuple #[.agg #[.slice A len cap], .int .i64 y, .int .i64 k])) (ho : w.ownsRow B 2 1 (.slice A len cap) len (L.map (Value.int .i64))) : RTook B r e w := by
  subst hr hl
  exact ⟨A, cap, he, ho⟩
set_option maxRecDepth 100000 in
set_option maxHeartbeats 2000000 in
theorem refTake_any (B : Nat) (A : Option Addr) (cap : Nat) (l : List Int) (s : Int) (w : World) (hBw : B ≤ w.heap.size) (hl : l.length ≤ 100000) (hownl : w.ownsRow B 2 1 (.slice A l.length cap) l.length (l.map (Value.int .i64))) (s0 : 0 ≤ s) (s1 : s ≤ 65535) (lh : -1000000000000 ≤ highF l) (uh : highF l ≤ 1000000000000) :
    Calls Try.prog 11 #[.agg #[.slice A l.length cap], .int .u16 s] w fun e w' => RTook B (refTakeF l s) e w' ∧ Below w.heap.size w w' := by
  have HP := Lib.hid (ints_own hownl)
  have HC : Hid (A = none → cap = 0) := Lib.hid (fun h => ((own_src hownl).1 h).2)
  have HO := Lib.hid hownl; clear hownl
  obtain ⟨i0, hi, hz0, hz1, hz2⟩ := info_parts info2
  have hsi : IntKind.i64.wrap s = s := i64_same s s0 (by omega)
  have HLn : Hid ((l.map (Value.int .i64)).length = l.length * 1) := Lib.hid (by simp)
  by_cases hn : l.length = 0
  · have hnil : l = [] := List.eq_nil_of_length_eq_zero hn
    have HE : Hid (refTakeF l s = (l ++ [s], s, 0)) := Lib.hid (by subst hnil; exact if_pos rfl)
    have hpos : ¬ (0 : Int) < l.length := by omega
    have hn0 : decide ((0 : Int) < (l.length : Int)) = false := by simp [hn]
    have hnn := Lib.hid hn; clear hn hnil
    generalize hy : s = y at *
    clear hy
    go_enter Try.func11, Try.ntmps11
    go_upto_region 13 with fail
    have h0 : ((w.alloc (.cells #[.slice A l.length cap] 29)).alloc (.cells #[.slice none 0 0] 29)).heap[w.heap.size]? = some (.cells #[.slice A l.length cap] 29 (0, 0)) := (Eq.trans (b := some (Obj.cells _ _ (0, 0))) (by repeat (first | (with_reducible assumption) | (with_reducible apply heap_set_same) | ((with_reducible apply heap_set_other'); (focus (first | omega | (simp; done) | (simp; omega)))) | ((with_reducible apply heap_alloc_new); (focus (first | omega | (simp; done) | (simp; omega)))) | (with_reducible apply heap_alloc_old') | (with_reducible apply (heap_drew_at _ _).trans) | (with_reducible apply (heap_drewN_at _ _ _).trans))) (by exact rfl))
    have h1 : ((w.alloc (.cells #[.slice A l.length cap] 29)).alloc (.cells #[.slice none 0 0] 29)).heap[w.heap.size + 1]? = some (.cells #[.slice none 0 0] 29 (0, 0)) := (Eq.trans (b := some (Obj.cells _ _ (0, 0))) (by repeat (first | (with_reducible assumption) | (with_reducible apply heap_set_same) | ((with_reducible apply heap_set_other'); (focus (first | omega | (simp; done) | (simp; omega)))) | ((with_reducible apply heap_alloc_new); (focus (first | omega | (simp; done) | (simp; omega)))) | (with_reducible apply heap_alloc_old') | (with_reducible apply (heap_drew_at _ _).trans) | (with_reducible apply (heap_drewN_at _ _ _).trans))) (by exact rfl))
    have hB : Below w.heap.size w ((w.alloc (.cells #[.slice A l.length cap] 29)).alloc (.cells #[.slice none 0 0] 29)) := by go_grown
    generalize (w.alloc (.cells #[.slice A l.length cap] 29)).alloc (.cells #[.slice none 0 0] 29) = wr at *
    obtain ⟨c0, f0, z0⟩ := blk_facts h0
    obtain ⟨c1, f1, z1⟩ := blk_facts h1
    have hown : wr.ownsRow w.heap.size 2 1 (.slice none 0 0) 0 [] := World.ownsRow_nil _ _ _ _
    have hsrc := Lib.hid (ints_src (c := cap) (HP.out.below rfl (show Below w.heap.size w wr by first | assumption | go_grown)) HC.out)
    have zB := hB.size
    go_wp2_with (first
      | ((at_builtin; refine wpList_append_src _ rfl (.tmp 40) (.tmp 42) 27 rfl w.heap.size 2 i0 (.int .i64 0) 1 8 Try.underlying27 hi hz0 hz1 hz2 rfl (by decide) _ _ _ rfl hown _ _ _ (l.map (Value.int .i64)) rfl HLn.out hsrc.out (ints_one _ _) (by unfold maxLen; first | omega | (simp only [List.length_append, List.length_cons]; omega)) (by first | omega | (simp only [List.length_append, List.length_cons]; omega)) (by have := hB.size; first | omega | (simp; omega)) ?_; intro v5 w5 hown1 hgrow1)
         have hB5 : Below w.heap.size w w5 := below_grown hB hB.size hown hgrow1
         have zB5 := hB5.size
         have g0 := block_grown (t := 29) hown hgrow1 h0 (by decide)
         have g1 := block_grown (t := 29) hown hgrow1 h1 (by decide)
         clear hown hgrow1 h0 h1 c0 f0 z0 c1 f1 z1 hB
         obtain ⟨c0, f0, z0⟩ := blk_facts g0
         obtain ⟨c1, f1, z1⟩ := blk_facts g1)
      | ((at_builtin; refine wpList_append_own _ rfl (.tmp 44) (.tmp 46) 27 rfl w.heap.size 2 i0 (.int .i64 0) 1 8 Try.underlying27 hi hz0 hz1 hz2 rfl (by decide) _ _ _ rfl (hown1.alloc _) ⟨w5.heap.size, 0, none⟩ 1 1 [.int .i64 y] rfl rfl (new_cells (by simp)) (one_cells rfl) (by unfold maxLen; first | omega | (simp only [List.length_append, List.length_cons]; omega)) (by first | omega | (simp only [List.length_append, List.length_cons]; omega)) (by have := hB5.size; first | omega | (simp; omega)) ?_; intro v6 w6 hown2 hgrow2 _)
         obtain ⟨A6, cap6, rfl⟩ := own_slice hown2
         have hB6 : Below w.heap.size w w6 := below_grown (by go_grown) (by simp; omega) (hown1.alloc _) hgrow2
         have k0 := block_grown (t := 29) (hown1.alloc _) hgrow2 (heap_alloc_old' g0) (by decide)
         have k1 := block_grown (t := 29) (hown1.alloc _) hgrow2 (heap_alloc_old' g1) (by decide)
         clear hown1 hgrow2 g0 g1 c0 f0 z0 c1 f1 z1 hB5
         obtain ⟨c0, f0, z0⟩ := blk_facts k0
         obtain ⟨c1, f1, z1⟩ := blk_facts k1))
    have hown6 : w6.ownsRow w.heap.size 2 1 (.slice A6 (l.length + 1) cap6) (l.length + 1) ((l ++ [y]).map (Value.int .i64)) := by simpa using hown2
    clear hown2
    (try simp only [Exit.inBlock, Exit.then])
    refine ret_cell_tmp2 rfl rfl Try.underlying29 rfl rfl ⟨_, _, (by repeat (first | (with_reducible assumption) | (with_reducible apply heap_set_same) | ((with_reducible apply heap_set_other'); (focus (first | omega | (simp; done) | (simp; omega)))) | ((with_reducible apply heap_alloc_new); (focus (first | omega | (simp; done) | (simp; omega)))) | (with_reducible apply heap_alloc_old') | (with_reducible apply (heap_drew_at _ _).trans) | (with_reducible apply (heap_drewN_at _ _ _).trans))), (by kernel_rfl), ?_, by go_grown⟩
    exact rtook_mk HE.out (by simp) rfl (own_mono (B := w.heap.size) (by repeat (first | (with_reducible assumption) | (with_reducible apply own_alloc) | (with_reducible apply own_set_other (t := 29)) | (with_reducible apply heap_set_same) | ((with_reducible apply heap_set_other'); (focus (first | omega | (simp; done) | (simp; omega)))) | ((with_reducible apply heap_alloc_new); (focus (first | omega | (simp; done) | (simp; omega)))) | (with_reducible apply heap_alloc_old') | decide)) hBw)
  · have h0' : 0 < l.length := by omega
    have hn0 : decide ((0 : Int) < (l.length : Int)) = true := by simp; omega
    have hne : l ≠ [] := by intro e; subst e; simp at h0'
    obtain ⟨n0, n1⟩ := near16_bd (highF l) s
    have hr : refTakeF l s = (if highF l < near16 (highF l) s then (l ++ [near16 (highF l) s], near16 (highF l) s, 0) else if near16 (highF l) s < highF l - 63 then (l, near16 (highF l) s, 3) else if near16 (highF l) s ∈ l then (l, near16 (highF l) s, 2) else (l ++ [near16 (highF l) s], near16 (highF l) s, 1)) := if_neg hne
    generalize hy : near16 (highF l) s = y at *
    have HY := Lib.hid hy; clear hy
    clear hne
    by_cases c1' : highF l < y
    · rw [if_pos c1'] at hr
      have HE := Lib.hid hr; clear hr
      go_enter Try.func11, Try.ntmps11
      go_upto_region 13 with (first | (go_at_call 14; (with_reducible refine (High_any _ _ _ l _ rfl h0' (by omega) (HP.out.below rfl (by first | assumption | go_grown))).mono ?_); rintro e w1 ⟨rfl, hb⟩; (try (have g0 := h0; clear h0 f0 c0)); (try (have g1 := h1; clear h1 f1 c1)); have hB := below_next (w := w) (by go_grown) hb; have h0 : w1.heap[w.heap.size]? = some (.cells #[.slice A l.length cap] 29 (0, 0)) := (hb.block (w.heap.size) (by first | omega | (simp; done) | (simp; omega))).trans (Eq.trans (b := some (Obj.cells _ _ (0, 0))) (by repeat (first | (with_reducible assumption) | (with_reducible apply heap_set_same) | ((with_reducible apply heap_set_other'); (focus (first | omega | (simp; done) | (simp; omega)))) | ((with_reducible apply heap_alloc_new); (focus (first | omega | (simp; done) | (simp; omega)))) | (with_reducible apply heap_alloc_old') | (with_reducible apply (heap_drew_at _ _).trans) | (with_reducible apply (heap_drewN_at _ _ _).trans))) (by exact rfl)); have h1 : w1.heap[w.heap.size + 1]? = some (.cells #[.slice none 0 0] 29 (0, 0)) := (hb.block (w.heap.size + 1) (by first | omega | (simp; done) | (simp; omega))).trans (Eq.trans (b := some (Obj.cells _ _ (0, 0))) (by repeat (first | (with_reducible assumption) | (with_reducible apply heap_set_same) | ((with_reducible apply heap_set_other'); (focus (first | omega | (simp; done) | (simp; omega)))) | ((with_reducible apply heap_alloc_new); (focus (first | omega | (simp; done) | (simp; omega)))) | (with_reducible apply heap_alloc_old') | (with_reducible apply (heap_drew_at _ _).trans) | (with_reducible apply (heap_drewN_at _ _ _).trans))) (by exact rfl)); clear hb; (try clear g0); obtain ⟨c0, f0, z0⟩ := blk_facts h0; (try clear g1); obtain ⟨c1, f1, z1⟩ := blk_facts h1) | (go_at_call 20; (with_reducible refine (refNear16 _ _ _ (by omega) (by omega) (by omega) (by omega)).mono ?_); rintro e w' ⟨rfl, rfl⟩; rw [HY.out]))
      have hown : w1.ownsRow w.heap.size 2 1 (.slice none 0 0) 0 [] := World.ownsRow_nil _ _ _ _
      have hsrc := Lib.hid (ints_src (c := cap) (HP.out.below rfl (show Below w.heap.size w w1 by first | assumption | go_grown)) HC.out)
      have zB := hB.size
      go_wp2_with (first
        | ((at_builtin; refine wpList_append_src _ rfl (.tmp 40) (.tmp 42) 27 rfl w.heap.size 2 i0 (.int .i64 0) 1 8 Try.underlying27 hi hz0 hz1 hz2 rfl (by decide) _ _ _ rfl hown _ _ _ (l.map (Value.int .i64)) rfl HLn.out hsrc.out (ints_one _ _) (by unfold maxLen; first | omega | (simp only [List.length_append, List.length_cons]; omega)) (by first | omega | (simp only [List.length_append, List.length_cons]; omega)) (by have := hB.size; first | omega | (simp; omega)) ?_; intro v5 w5 hown1 hgrow1)
           have hB5 : Below w.heap.size w w5 := below_grown hB hB.size hown hgrow1
           have zB5 := hB5.size
           have g0 := block_grown (t := 29) hown hgrow1 h0 (by decide)
           have g1 := block_grown (t := 29) hown hgrow1 h1 (by decide)
           clear hown hgrow1 h0 h1 c0 f0 z0 c1 f1 z1 hB
           obtain ⟨c0, f0, z0⟩ := blk_facts g0
           obtain ⟨c1, f1, z1⟩ := blk_facts g1)
        | ((at_builtin; refine wpList_append_own _ rfl (.tmp 44) (.tmp 46) 27 rfl w.heap.size 2 i0 (.int .i64 0) 1 8 Try.underlying27 hi hz0 hz1 hz2 rfl (by decide) _ _ _ rfl (hown1.alloc _) ⟨w5.heap.size, 0, none⟩ 1 1 [.int .i64 y] rfl rfl (new_cells (by simp)) (one_cells rfl) (by unfold maxLen; first | omega | (simp only [List.length_append, List.length_cons]; omega)) (by first | omega | (simp only [List.length_append, List.length_cons]; omega)) (by have := hB5.size; first | omega | (simp; omega)) ?_; intro v6 w6 hown2 hgrow2 _)
           obtain ⟨A6, cap6, rfl⟩ := own_slice hown2
           have hB6 : Below w.heap.size w w6 := below_grown (by go_grown) (by simp; omega) (hown1.alloc _) hgrow2
           have k0 := block_grown (t := 29) (hown1.alloc _) hgrow2 (heap_alloc_old' g0) (by decide)
           have k1 := block_grown (t := 29) (hown1.alloc _) hgrow2 (heap_alloc_old' g1) (by decide)
           clear hown1 hgrow2 g0 g1 c0 f0 z0 c1 f1 z1 hB5
           obtain ⟨c0, f0, z0⟩ := blk_facts k0
           obtain ⟨c1, f1, z1⟩ := blk_facts k1))
      have hown6 : w6.ownsRow w.heap.size 2 1 (.slice A6 (l.length + 1) cap6) (l.length + 1) ((l ++ [y]).map (Value.int .i64)) := by simpa using hown2
      clear hown2
      (try simp only [Exit.inBlock, Exit.then])
      refine ret_cell_tmp2 rfl rfl Try.underlying29 rfl rfl ⟨_, _, (by repeat (first | (with_reducible assumption) | (with_reducible apply heap_set_same) | ((with_reducible apply heap_set_other'); (focus (first | omega | (simp; done) | (simp; omega)))) | ((with_reducible apply heap_alloc_new); (focus (first | omega | (simp; done) | (simp; omega)))) | (with_reducible apply heap_alloc_old') | (with_reducible apply (heap_drew_at _ _).trans) | (with_reducible apply (heap_drewN_at _ _ _).trans))), (by kernel_rfl), ?_, by go_grown⟩
      exact rtook_mk HE.out (by simp) rfl (own_mono (B := w.heap.size) (by repeat (first | (with_reducible assumption) | (with_reducible apply own_alloc) | (with_reducible apply own_set_other (t := 29)) | (with_reducible apply heap_set_same) | ((with_reducible apply heap_set_other'); (focus (first | omega | (simp; done) | (simp; omega)))) | ((with_reducible apply heap_alloc_new); (focus (first | omega | (simp; done) | (simp; omega)))) | (with_reducible apply heap_alloc_old') | decide)) hBw)
    · rw [if_neg c1'] at hr
      by_cases c2' : y < highF l - 63
      · rw [if_pos c2'] at hr
        have HE := Lib.hid hr; clear hr
        go_enter Try.func11, Try.ntmps11
        go_wp2_with (first | (go_at_call 14; (with_reducible refine (High_any _ _ _ l _ rfl h0' (by omega) (HP.out.below rfl (by first | assumption | go_grown))).mono ?_); rintro e w1 ⟨rfl, hb⟩; (try (have g0 := h0; clear h0 f0 c0)); (try (have g1 := h1; clear h1 f1 c1)); have hB := below_next (w := w) (by go_grown) hb; have h0 : w1.heap[w.heap.size]? = some (.cells #[.slice A l.length cap] 29 (0, 0)) := (hb.block (w.heap.size) (by first | omega | (simp; done) | (simp; omega))).trans (Eq.trans (b := some (Obj.cells _ _ (0, 0))) (by repeat (first | (with_reducible assumption) | (with_reducible apply heap_set_same) | ((with_reducible apply heap_set_other'); (focus (first | omega | (simp; done) | (simp; omega)))) | ((with_reducible apply heap_alloc_new); (focus (first | omega | (simp; done) | (simp; omega)))) | (with_reducible apply heap_alloc_old') | (with_reducible apply (heap_drew_at _ _).trans) | (with_reducible apply (heap_drewN_at _ _ _).trans))) (by exact rfl)); have h1 : w1.heap[w.heap.size + 1]? = some (.cells #[.slice none 0 0] 29 (0, 0)) := (hb.block (w.heap.size + 1) (by first | omega | (simp; done) | (simp; omega))).trans (Eq.trans (b := some (Obj.cells _ _ (0, 0))) (by repeat (first | (with_reducible assumption) | (with_reducible apply heap_set_same) | ((with_reducible apply heap_set_other'); (focus (first | omega | (simp; done) | (simp; omega)))) | ((with_reducible apply heap_alloc_new); (focus (first | omega | (simp; done) | (simp; omega)))) | (with_reducible apply heap_alloc_old') | (with_reducible apply (heap_drew_at _ _).trans) | (with_reducible apply (heap_drewN_at _ _ _).trans))) (by exact rfl)); clear hb; (try clear g0); obtain ⟨c0, f0, z0⟩ := blk_facts h0; (try clear g1); obtain ⟨c1, f1, z1⟩ := blk_facts h1) | (go_at_call 20; (with_reducible refine (refNear16 _ _ _ (by omega) (by omega) (by omega) (by omega)).mono ?_); rintro e w' ⟨rfl, rfl⟩; rw [HY.out]))
        (try simp only [Exit.inBlock, Exit.then])
        refine ret_cell_tmp2 rfl rfl Try.underlying29 rfl rfl ⟨_, _, (by repeat (first | (with_reducible assumption) | (with_reducible apply heap_set_same) | ((with_reducible apply heap_set_other'); (focus (first | omega | (simp; done) | (simp; omega)))) | ((with_reducible apply heap_alloc_new); (focus (first | omega | (simp; done) | (simp; omega)))) | (with_reducible apply heap_alloc_old') | (with_reducible apply (heap_drew_at _ _).trans) | (with_reducible apply (heap_drewN_at _ _ _).trans))), (by kernel_rfl), ?_, by go_grown⟩
        exact rtook_mk HE.out rfl rfl (own_below HO.out (by go_grown))
      · rw [if_neg c2'] at hr
        by_cases c3' : y ∈ l
        · rw [if_pos c3'] at hr
          have HE := Lib.hid hr; clear hr
          have HM : Hid (decide (y ∈ l) = true) := Lib.hid (by simpa using c3')
          clear c3'
          go_enter Try.func11, Try.ntmps11
          go_wp2_with (first | (go_at_call 14; (with_reducible refine (High_any _ _ _ l _ rfl h0' (by omega) (HP.out.below rfl (by first | assumption | go_grown))).mono ?_); rintro e w1 ⟨rfl, hb⟩; (try (have g0 := h0; clear h0 f0 c0)); (try (have g1 := h1; clear h1 f1 c1)); have hB := below_next (w := w) (by go_grown) hb; have h0 : w1.heap[w.heap.size]? = some (.cells #[.slice A l.length cap] 29 (0, 0)) := (hb.block (w.heap.size) (by first | omega | (simp; done) | (simp; omega))).trans (Eq.trans (b := some (Obj.cells _ _ (0, 0))) (by repeat (first | (with_reducible assumption) | (with_reducible apply heap_set_same) | ((with_reducible apply heap_set_other'); (focus (first | omega | (simp; done) | (simp; omega)))) | ((with_reducible apply heap_alloc_new); (focus (first | omega | (simp; done) | (simp; omega)))) | (with_reducible apply heap_alloc_old') | (with_reducible apply (heap_drew_at _ _).trans) | (with_reducible apply (heap_drewN_at _ _ _).trans))) (by exact rfl)); have h1 : w1.heap[w.heap.size + 1]? = some (.cells #[.slice none 0 0] 29 (0, 0)) := (hb.block (w.heap.size + 1) (by first | omega | (simp; done) | (simp; omega))).trans (Eq.trans (b := some (Obj.cells _ _ (0, 0))) (by repeat (first | (with_reducible assumption) | (with_reducible apply heap_set_same) | ((with_reducible apply heap_set_other'); (focus (first | omega | (simp; done) | (simp; omega)))) | ((with_reducible apply heap_alloc_new); (focus (first | omega | (simp; done) | (simp; omega)))) | (with_reducible apply heap_alloc_old') | (with_reducible apply (heap_drew_at _ _).trans) | (with_reducible apply (heap_drewN_at _ _ _).trans))) (by exact rfl)); clear hb; (try clear g0); obtain ⟨c0, f0, z0⟩ := blk_facts h0; (try clear g1); obtain ⟨c1, f1, z1⟩ := blk_facts h1) | (go_at_call 20; (with_reducible refine (refNear16 _ _ _ (by omega) (by omega) (by omega) (by omega)).mono ?_); rintro e w' ⟨rfl, rfl⟩; rw [HY.out]) | (go_at_call 21; (with_reducible refine (Has_any _ _ _ l _ _ rfl (by omega) (HP.out.below rfl (by first | assumption | go_grown))).mono ?_); rintro e w3 ⟨rfl, hb⟩; rw [HM.out]; (try (have g0 := h0; clear h0 f0 c0)); (try (have g1 := h1; clear h1 f1 c1)); have hB := below_next (w := w) (by go_grown) hb; have h0 : w3.heap[w.heap.size]? = some (.cells #[.slice A l.length cap] 29 (0, 0)) := (hb.block (w.heap.size) (by first | omega | (simp; done) | (simp; omega))).trans (Eq.trans (b := some (Obj.cells _ _ (0, 0))) (by repeat (first | (with_reducible assumption) | (with_reducible apply heap_set_same) | ((with_reducible apply heap_set_other'); (focus (first | omega | (simp; done) | (simp; omega)))) | ((with_reducible apply heap_alloc_new); (focus (first | omega | (simp; done) | (simp; omega)))) | (with_reducible apply heap_alloc_old') | (with_reducible apply (heap_drew_at _ _).trans) | (with_reducible apply (heap_drewN_at _ _ _).trans))) (by exact rfl)); have h1 : w3.heap[w.heap.size + 1]? = some (.cells #[.slice none 0 0] 29 (0, 0)) := (hb.block (w.heap.size + 1) (by first | omega | (simp; done) | (simp; omega))).trans (Eq.trans (b := some (Obj.cells _ _ (0, 0))) (by repeat (first | (with_reducible assumption) | (with_reducible apply heap_set_same) | ((with_reducible apply heap_set_other'); (focus (first | omega | (simp; done) | (simp; omega)))) | ((with_reducible apply heap_alloc_new); (focus (first | omega | (simp; done) | (simp; omega)))) | (with_reducible apply heap_alloc_old') | (with_reducible apply (heap_drew_at _ _).trans) | (with_reducible apply (heap_drewN_at _ _ _).trans))) (by exact rfl)); clear hb; (try clear g0); obtain ⟨c0, f0, z0⟩ := blk_facts h0; (try clear g1); obtain ⟨c1, f1, z1⟩ := blk_facts h1))
          (try simp only [Exit.inBlock, Exit.then])
          refine ret_cell_tmp2 rfl rfl Try.underlying29 rfl rfl ⟨_, _, (by repeat (first | (with_reducible assumption) | (with_reducible apply heap_set_same) | ((with_reducible apply heap_set_other'); (focus (first | omega | (simp; done) | (simp; omega)))) | ((with_reducible apply heap_alloc_new); (focus (first | omega | (simp; done) | (simp; omega)))) | (with_reducible apply heap_alloc_old') | (with_reducible apply (heap_drew_at _ _).trans) | (with_reducible apply (heap_drewN_at _ _ _).trans))), (by kernel_rfl), ?_, by go_grown⟩
          exact rtook_mk HE.out rfl rfl (own_below HO.out (by go_grown))
        · rw [if_neg c3'] at hr
          have HE := Lib.hid hr; clear hr
          have HM : Hid (decide (y ∈ l) = false) := Lib.hid (by simpa using c3')
          clear c3'
          go_enter Try.func11, Try.ntmps11
          go_upto_region 13 with (first | (go_at_call 14; (with_reducible refine (High_any _ _ _ l _ rfl h0' (by omega) (HP.out.below rfl (by first | assumption | go_grown))).mono ?_); rintro e w1 ⟨rfl, hb⟩; (try (have g0 := h0; clear h0 f0 c0)); (try (have g1 := h1; clear h1 f1 c1)); have hB := below_next (w := w) (by go_grown) hb; have h0 : w1.heap[w.heap.size]? = some (.cells #[.slice A l.length cap] 29 (0, 0)) := (hb.block (w.heap.size) (by first | omega | (simp; done) | (simp; omega))).trans (Eq.trans (b := some (Obj.cells _ _ (0, 0))) (by repeat (first | (with_reducible assumption) | (with_reducible apply heap_set_same) | ((with_reducible apply heap_set_other'); (focus (first | omega | (simp; done) | (simp; omega)))) | ((with_reducible apply heap_alloc_new); (focus (first | omega | (simp; done) | (simp; omega)))) | (with_reducible apply heap_alloc_old') | (with_reducible apply (heap_drew_at _ _).trans) | (with_reducible apply (heap_drewN_at _ _ _).trans))) (by exact rfl)); have h1 : w1.heap[w.heap.size + 1]? = some (.cells #[.slice none 0 0] 29 (0, 0)) := (hb.block (w.heap.size + 1) (by first | omega | (simp; done) | (simp; omega))).trans (Eq.trans (b := some (Obj.cells _ _ (0, 0))) (by repeat (first | (with_reducible assumption) | (with_reducible apply heap_set_same) | ((with_reducible apply heap_set_other'); (focus (first | omega | (simp; done) | (simp; omega)))) | ((with_reducible apply heap_alloc_new); (focus (first | omega | (simp; done) | (simp; omega)))) | (with_reducible apply heap_alloc_old') | (with_reducible apply (heap_drew_at _ _).trans) | (with_reducible apply (heap_drewN_at _ _ _).trans))) (by exact rfl)); clear hb; (try clear g0); obtain ⟨c0, f0, z0⟩ := blk_facts h0; (try clear g1); obtain ⟨c1, f1, z1⟩ := blk_facts h1) | (go_at_call 20; (with_reducible refine (refNear16 _ _ _ (by omega) (by omega) (by omega) (by omega)).mono ?_); rintro e w' ⟨rfl, rfl⟩; rw [HY.out]) | (go_at_call 21; (with_reducible refine (Has_any _ _ _ l _ _ rfl (by omega) (HP.out.below rfl (by first | assumption | go_grown))).mono ?_); rintro e w3 ⟨rfl, hb⟩; rw [HM.out]; (try (have g0 := h0; clear h0 f0 c0)); (try (have g1 := h1; clear h1 f1 c1)); have hB := below_next (w := w) (by go_grown) hb; have h0 : w3.heap[w.heap.size]? = some (.cells #[.slice A l.length cap] 29 (0, 0)) := (hb.block (w.heap.size) (by first | omega | (simp; done) | (simp; omega))).trans (Eq.trans (b := some (Obj.cells _ _ (0, 0))) (by repeat (first | (with_reducible assumption) | (with_reducible apply heap_set_same) | ((with_reducible apply heap_set_other'); (focus (first | omega | (simp; done) | (simp; omega)))) | ((with_reducible apply heap_alloc_new); (focus (first | omega | (simp; done) | (simp; omega)))) | (with_reducible apply heap_alloc_old') | (with_reducible apply (heap_drew_at _ _).trans) | (with_reducible apply (heap_drewN_at _ _ _).trans))) (by exact rfl)); have h1 : w3.heap[w.heap.size + 1]? = some (.cells #[.slice none 0 0] 29 (0, 0)) := (hb.block (w.heap.size + 1) (by first | omega | (simp; done) | (simp; omega))).trans (Eq.trans (b := some (Obj.cells _ _ (0, 0))) (by repeat (first | (with_reducible assumption) | (with_reducible apply heap_set_same) | ((with_reducible apply heap_set_other'); (focus (first | omega | (simp; done) | (simp; omega)))) | ((with_reducible apply heap_alloc_new); (focus (first | omega | (simp; done) | (simp; omega)))) | (with_reducible apply heap_alloc_old') | (with_reducible apply (heap_drew_at _ _).trans) | (with_reducible apply (heap_drewN_at _ _ _).trans))) (by exact rfl)); clear hb; (try clear g0); obtain ⟨c0, f0, z0⟩ := blk_facts h0; (try clear g1); obtain ⟨c1, f1, z1⟩ := blk_facts h1))
          have hown : w3.ownsRow w.heap.size 2 1 (.slice none 0 0) 0 [] := World.ownsRow_nil _ _ _ _
          have hsrc := Lib.hid (ints_src (c := cap) (HP.out.below rfl (show Below w.heap.size w w3 by first | assumption | go_grown)) HC.out)
          have zB := hB.size
          go_wp2_with (first
            | ((at_builtin; refine wpList_append_src _ rfl (.tmp 40) (.tmp 42) 27 rfl w.heap.size 2 i0 (.int .i64 0) 1 8 Try.underlying27 hi hz0 hz1 hz2 rfl (by decide) _ _ _ rfl hown _ _ _ (l.map (Value.int .i64)) rfl HLn.out hsrc.out (ints_one _ _) (by unfold maxLen; first | omega | (simp only [List.length_append, List.length_cons]; omega)) (by first | omega | (simp only [List.length_append, List.length_cons]; omega)) (by have := hB.size; first | omega | (simp; omega)) ?_; intro v5 w5 hown1 hgrow1)
               have hB5 : Below w.heap.size w w5 := below_grown hB hB.size hown hgrow1
               have zB5 := hB5.size
               have g0 := block_grown (t := 29) hown hgrow1 h0 (by decide)
               have g1 := block_grown (t := 29) hown hgrow1 h1 (by decide)
               clear hown hgrow1 h0 h1 c0 f0 z0 c1 f1 z1 hB
               obtain ⟨c0, f0, z0⟩ := blk_facts g0
               obtain ⟨c1, f1, z1⟩ := blk_facts g1)
            | ((at_builtin; refine wpList_append_own _ rfl (.tmp 44) (.tmp 46) 27 rfl w.heap.size 2 i0 (.int .i64 0) 1 8 Try.underlying27 hi hz0 hz1 hz2 rfl (by decide) _ _ _ rfl (hown1.alloc _) ⟨w5.heap.size, 0, none⟩ 1 1 [.int .i64 y] rfl rfl (new_cells (by simp)) (one_cells rfl) (by unfold maxLen; first | omega | (simp only [List.length_append, List.length_cons]; omega)) (by first | omega | (simp only [List.length_append, List.length_cons]; omega)) (by have := hB5.size; first | omega | (simp; omega)) ?_; intro v6 w6 hown2 hgrow2 _)
               obtain ⟨A6, cap6, rfl⟩ := own_slice hown2
               have hB6 : Below w.heap.size w w6 := below_grown (by go_grown) (by simp; omega) (hown1.alloc _) hgrow2
               have k0 := block_grown (t := 29) (hown1.alloc _) hgrow2 (heap_alloc_old' g0) (by decide)
               have k1 := block_grown (t := 29) (hown1.alloc _) hgrow2 (heap_alloc_old' g1) (by decide)
               clear hown1 hgrow2 g0 g1 c0 f0 z0 c1 f1 z1 hB5
               obtain ⟨c0, f0, z0⟩ := blk_facts k0
               obtain ⟨c1, f1, z1⟩ := blk_facts k1))
          have hown6 : w6.ownsRow w.heap.size 2 1 (.slice A6 (l.length + 1) cap6) (l.length + 1) ((l ++ [y]).map (Value.int .i64)) := by simpa using hown2
          clear hown2
          (try simp only [Exit.inBlock, Exit.then])
          refine ret_cell_tmp2 rfl rfl Try.underlying29 rfl rfl ⟨_, _, (by repeat (first | (with_reducible assumption) | (with_reducible apply heap_set_same) | ((with_reducible apply heap_set_other'); (focus (first | omega | (simp; done) | (simp; omega)))) | ((with_reducible apply heap_alloc_new); (focus (first | omega | (simp; done) | (simp; omega)))) | (with_reducible apply heap_alloc_old') | (with_reducible apply (heap_drew_at _ _).trans) | (with_reducible apply (heap_drewN_at _ _ _).trans))), (by kernel_rfl), ?_, by go_grown⟩
          exact rtook_mk HE.out (by simp) rfl (own_mono (B := w.heap.size) (by repeat (first | (with_reducible assumption) | (with_reducible apply own_alloc) | (with_reducible apply own_set_other (t := 29)) | (with_reducible apply heap_set_same) | ((with_reducible apply heap_set_other'); (focus (first | omega | (simp; done) | (simp; omega)))) | ((with_reducible apply heap_alloc_new); (focus (first | omega | (simp; done) | (simp; omega)))) | (with_reducible apply heap_alloc_old') | decide)) hBw)
end Go.Proofs.Ytbfmcnidghjajaa
