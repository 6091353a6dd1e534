/- The law RecvFar, walked. -/
import Derived.Test.YtbfmcnidghjajaaAwake
namespace Go.Proofs.Ytbfmcnidghjajaa
set_option linter.unusedSimpArgs false
set_option linter.unusedVariables false
open Go.RowKit
/-- The second packet, of one that is so far behind it. -/
theorem far_zero (f : Int) (f0 : 0 ≤ f) (f1 : f ≤ 65535) : takeF ⟨true, f, f, 1, 1⟩ f = (⟨true, f, f, 1, 1⟩, f, 2) :=
  takeF_again rfl (near16_of _ _ _ (by dsimp; omega) (by dsimp; omega) (by omega)) (by dsimp; omega) (by dsimp; omega) (by
    show Nat.testBit 1 (f - f).toNat = true
    rw [testBit_one]; simp)
theorem far_new (f d s : Int) (hs : s = (f + d) % 65536) (d0 : 0 < d) (d1 : d < 32768) : takeF ⟨true, f, f, 1, 1⟩ s = (⟨true, f, f + d, 2, shlN 1 d.toNat⟩, f + d, 0) := by
  have := takeF_new (t := ⟨true, f, f, 1, 1⟩) (s := s) rfl (near16_of f (f + d) s (by omega) (by omega) (by omega)) (by dsimp; omega)
  rw [this]
  dsimp only
  rw [show (f + d - f).toNat = d.toNat by congr 1; omega]
  rfl
theorem far_old (f d s : Int) (hs : s = (f + d) % 65536) (d0 : 32768 ≤ d) (d1 : d < 65473) : takeF ⟨true, f, f, 1, 1⟩ s = (⟨true, f, f, 1, 1⟩, f + d - 65536, 3) :=
  takeF_old (t := ⟨true, f, f, 1, 1⟩) (s := s) rfl (near16_of f (f + d - 65536) s (by omega) (by omega) (by omega)) (by dsimp; omega)
theorem far_late (f d s : Int) (hs : s = (f + d) % 65536) (d0 : 65473 ≤ d) (d1 : d ≤ 65535) : takeF ⟨true, f, f, 1, 1⟩ s = (⟨true, f + d - 65536, f, 2, orN 1 (65536 - d).toNat⟩, f + d - 65536, 1) := by
  have := takeF_late (t := ⟨true, f, f, 1, 1⟩) (s := s) rfl (near16_of f (f + d - 65536) s (by omega) (by omega) (by omega)) (by dsimp; omega) (by dsimp; omega) (by
    show Nat.testBit 1 (f - (f + d - 65536)).toNat = false
    rw [testBit_one]; simp; omega)
  rw [this]
  dsimp only
  rw [show (f - (f + d - 65536)).toNat = (65536 - d).toNat by congr 1; omega, Int.min_eq_right (by omega)]
  rfl
set_option maxRecDepth 100000 in
set_option maxHeartbeats 1000000 in
theorem far_walk (f d : Int) (w : World) (lf : 0 ≤ f) (uf : f ≤ 65535) (ld : 0 ≤ d) (ud : d ≤ 65535) :
    Calls Try.prog 8 #[.int .u16 f, .int .u16 d] w fun e w' => e = .returned (.bool true) ∧ Below w.heap.size w w' := by
  have HM := Lib.hid (u16_mod (f + d))
  have hw0 : 0 ≤ IntKind.u16.wrap (f + d) := by rw [u16_mod]; omega
  have hw1 : IntKind.u16.wrap (f + d) ≤ 65535 := by rw [u16_mod]; omega
  have hfi := Lib.hid (i64_same f lf (by omega))
  have hdi := Lib.hid (i64_same d ld (by omega))
  have hcase : d = 0 ∨ (0 < d ∧ d < 32768) ∨ (32768 ≤ d ∧ d < 65473) ∨ 65473 ≤ d := by omega
  rcases hcase with rfl | ⟨hd0, hd1⟩ | ⟨hd0, hd1⟩ | hd0
  · clear HM hw0 hw1
    go_enter Try.func8, Try.ntmps8
    go_wp2_with fail
    with_reducible refine (awake_any _).mono ?_
    rintro e w1 ⟨rfl, hB⟩
    have zA := hB.size
    go_wp2_with fail
    with_reducible refine (take_eq _ _ _ _ 0 _ _ _ _ _ 1 _ _ 0 1 _ rfl rfl (takeF_off rfl f) (by first | decide | omega) (by first | decide | omega) (by first | decide | omega) (by first | decide | omega) (by first | decide | omega) (by first | decide | omega) (by first | decide | omega) (by first | decide | omega) (by first | decide | omega)).mono ?_
    rintro e w2 ⟨rfl, hb⟩
    (try (have g0 := h0; clear h0 f0 c0))
    have hB := below_next (w := w) (by go_grown) hb
    have h0 : w2.heap[w1.heap.size]? = some (.cells #[.bool false, .int .i64 0, .int .i64 0, .int .i64 0, .int .u64 0] 26 (0, 0)) := (hb.block (w1.heap.size) (by first | omega | (simp; done) | (simp; omega))).trans (Eq.trans (b := some (Obj.cells _ _ (0, 0))) (by repeat (first | (with_reducible assumption) | (with_reducible apply heap_set_same) | ((with_reducible apply heap_set_other'); (focus (first | omega | (simp; done) | (simp; omega)))) | ((with_reducible apply heap_alloc_new); (focus (first | omega | (simp; done) | (simp; omega)))) | (with_reducible apply heap_alloc_old') | (with_reducible apply (heap_drew_at _ _).trans) | (with_reducible apply (heap_drewN_at _ _ _).trans))) (by exact rfl))
    clear hb
    (try clear g0)
    obtain ⟨c0, f0, z0⟩ := blk_facts h0
    go_wp2_with fail
    with_reducible refine (take_eq _ _ _ _ 1 _ _ _ _ _ (1) _ _ 1 1 _ rfl rfl (by exact far_zero f lf uf) (by first | decide | omega) (by first | decide | omega) (by first | decide | omega) (by first | decide | omega) (by first | decide | omega) (by first | decide | omega) (by first | decide | omega) (by first | decide | omega) (by first | decide | omega)).mono ?_
    rintro e w3 ⟨rfl, hb⟩
    (try (have g0 := h0; clear h0 f0 c0))
    have hB := below_next (w := w) (by go_grown) hb
    have h0 : w3.heap[w1.heap.size]? = some (.cells #[.bool true, .int .i64 f, .int .i64 f, .int .i64 1, .int .u64 1] 26 (0, 0)) := (hb.block (w1.heap.size) (by first | omega | (simp; done) | (simp; omega))).trans (Eq.trans (b := some (Obj.cells _ _ (0, 0))) (by repeat (first | (with_reducible assumption) | (with_reducible apply heap_set_same) | ((with_reducible apply heap_set_other'); (focus (first | omega | (simp; done) | (simp; omega)))) | ((with_reducible apply heap_alloc_new); (focus (first | omega | (simp; done) | (simp; omega)))) | (with_reducible apply heap_alloc_old') | (with_reducible apply (heap_drew_at _ _).trans) | (with_reducible apply (heap_drewN_at _ _ _).trans))) (by exact rfl))
    clear hb
    (try clear g0)
    obtain ⟨c0, f0, z0⟩ := blk_facts h0
    go_wp2_with fail
    go_ret
    exact ⟨rfl, by go_grown⟩
  · have hz : (d == 0) = false := by simp; omega
    go_enter Try.func8, Try.ntmps8
    go_wp2_with fail
    with_reducible refine (awake_any _).mono ?_
    rintro e w1 ⟨rfl, hB⟩
    have zA := hB.size
    go_wp2_with fail
    with_reducible refine (take_eq _ _ _ _ 0 _ _ _ _ _ 1 _ _ 0 1 _ rfl rfl (takeF_off rfl f) (by first | decide | omega) (by first | decide | omega) (by first | decide | omega) (by first | decide | omega) (by first | decide | omega) (by first | decide | omega) (by first | decide | omega) (by first | decide | omega) (by first | decide | omega)).mono ?_
    rintro e w2 ⟨rfl, hb⟩
    (try (have g0 := h0; clear h0 f0 c0))
    have hB := below_next (w := w) (by go_grown) hb
    have h0 : w2.heap[w1.heap.size]? = some (.cells #[.bool false, .int .i64 0, .int .i64 0, .int .i64 0, .int .u64 0] 26 (0, 0)) := (hb.block (w1.heap.size) (by first | omega | (simp; done) | (simp; omega))).trans (Eq.trans (b := some (Obj.cells _ _ (0, 0))) (by repeat (first | (with_reducible assumption) | (with_reducible apply heap_set_same) | ((with_reducible apply heap_set_other'); (focus (first | omega | (simp; done) | (simp; omega)))) | ((with_reducible apply heap_alloc_new); (focus (first | omega | (simp; done) | (simp; omega)))) | (with_reducible apply heap_alloc_old') | (with_reducible apply (heap_drew_at _ _).trans) | (with_reducible apply (heap_drewN_at _ _ _).trans))) (by exact rfl))
    clear hb
    (try clear g0)
    obtain ⟨c0, f0, z0⟩ := blk_facts h0
    go_wp2_with fail
    with_reducible refine (take_eq _ _ _ _ 1 _ _ _ _ _ (shlN 1 d.toNat) _ _ 1 (shlN 1 d.toNat : Nat) _ rfl rfl (by exact far_new f d _ HM.out hd0 hd1) (by first | decide | omega) (by first | decide | omega) (by first | decide | omega) (by first | decide | omega) (by first | decide | omega) (by first | decide | omega) (by first | decide | omega) (by first | decide | omega) (by first | decide | omega)).mono ?_
    rintro e w3 ⟨rfl, hb⟩
    (try (have g0 := h0; clear h0 f0 c0))
    have hB := below_next (w := w) (by go_grown) hb
    have h0 : w3.heap[w1.heap.size]? = some (.cells #[.bool true, .int .i64 f, .int .i64 f, .int .i64 1, .int .u64 1] 26 (0, 0)) := (hb.block (w1.heap.size) (by first | omega | (simp; done) | (simp; omega))).trans (Eq.trans (b := some (Obj.cells _ _ (0, 0))) (by repeat (first | (with_reducible assumption) | (with_reducible apply heap_set_same) | ((with_reducible apply heap_set_other'); (focus (first | omega | (simp; done) | (simp; omega)))) | ((with_reducible apply heap_alloc_new); (focus (first | omega | (simp; done) | (simp; omega)))) | (with_reducible apply heap_alloc_old') | (with_reducible apply (heap_drew_at _ _).trans) | (with_reducible apply (heap_drewN_at _ _ _).trans))) (by exact rfl))
    clear hb
    (try clear g0)
    obtain ⟨c0, f0, z0⟩ := blk_facts h0
    go_wp2_with fail
    go_ret
    exact ⟨rfl, by go_grown⟩
  · have hz : (d == 0) = false := by simp; omega
    go_enter Try.func8, Try.ntmps8
    go_wp2_with fail
    with_reducible refine (awake_any _).mono ?_
    rintro e w1 ⟨rfl, hB⟩
    have zA := hB.size
    go_wp2_with fail
    with_reducible refine (take_eq _ _ _ _ 0 _ _ _ _ _ 1 _ _ 0 1 _ rfl rfl (takeF_off rfl f) (by first | decide | omega) (by first | decide | omega) (by first | decide | omega) (by first | decide | omega) (by first | decide | omega) (by first | decide | omega) (by first | decide | omega) (by first | decide | omega) (by first | decide | omega)).mono ?_
    rintro e w2 ⟨rfl, hb⟩
    (try (have g0 := h0; clear h0 f0 c0))
    have hB := below_next (w := w) (by go_grown) hb
    have h0 : w2.heap[w1.heap.size]? = some (.cells #[.bool false, .int .i64 0, .int .i64 0, .int .i64 0, .int .u64 0] 26 (0, 0)) := (hb.block (w1.heap.size) (by first | omega | (simp; done) | (simp; omega))).trans (Eq.trans (b := some (Obj.cells _ _ (0, 0))) (by repeat (first | (with_reducible assumption) | (with_reducible apply heap_set_same) | ((with_reducible apply heap_set_other'); (focus (first | omega | (simp; done) | (simp; omega)))) | ((with_reducible apply heap_alloc_new); (focus (first | omega | (simp; done) | (simp; omega)))) | (with_reducible apply heap_alloc_old') | (with_reducible apply (heap_drew_at _ _).trans) | (with_reducible apply (heap_drewN_at _ _ _).trans))) (by exact rfl))
    clear hb
    (try clear g0)
    obtain ⟨c0, f0, z0⟩ := blk_facts h0
    go_wp2_with fail
    with_reducible refine (take_eq _ _ _ _ 1 _ _ _ _ _ (1) _ _ 1 1 _ rfl rfl (by exact far_old f d _ HM.out hd0 hd1) (by first | decide | omega) (by first | decide | omega) (by first | decide | omega) (by first | decide | omega) (by first | decide | omega) (by first | decide | omega) (by first | decide | omega) (by first | decide | omega) (by first | decide | omega)).mono ?_
    rintro e w3 ⟨rfl, hb⟩
    (try (have g0 := h0; clear h0 f0 c0))
    have hB := below_next (w := w) (by go_grown) hb
    have h0 : w3.heap[w1.heap.size]? = some (.cells #[.bool true, .int .i64 f, .int .i64 f, .int .i64 1, .int .u64 1] 26 (0, 0)) := (hb.block (w1.heap.size) (by first | omega | (simp; done) | (simp; omega))).trans (Eq.trans (b := some (Obj.cells _ _ (0, 0))) (by repeat (first | (with_reducible assumption) | (with_reducible apply heap_set_same) | ((with_reducible apply heap_set_other'); (focus (first | omega | (simp; done) | (simp; omega)))) | ((with_reducible apply heap_alloc_new); (focus (first | omega | (simp; done) | (simp; omega)))) | (with_reducible apply heap_alloc_old') | (with_reducible apply (heap_drew_at _ _).trans) | (with_reducible apply (heap_drewN_at _ _ _).trans))) (by exact rfl))
    clear hb
    (try clear g0)
    obtain ⟨c0, f0, z0⟩ := blk_facts h0
    go_wp2_with fail
    go_ret
    exact ⟨rfl, by go_grown⟩
  · have hz : (d == 0) = false := by simp; omega
    go_enter Try.func8, Try.ntmps8
    go_wp2_with fail
    with_reducible refine (awake_any _).mono ?_
    rintro e w1 ⟨rfl, hB⟩
    have zA := hB.size
    go_wp2_with fail
    with_reducible refine (take_eq _ _ _ _ 0 _ _ _ _ _ 1 _ _ 0 1 _ rfl rfl (takeF_off rfl f) (by first | decide | omega) (by first | decide | omega) (by first | decide | omega) (by first | decide | omega) (by first | decide | omega) (by first | decide | omega) (by first | decide | omega) (by first | decide | omega) (by first | decide | omega)).mono ?_
    rintro e w2 ⟨rfl, hb⟩
    (try (have g0 := h0; clear h0 f0 c0))
    have hB := below_next (w := w) (by go_grown) hb
    have h0 : w2.heap[w1.heap.size]? = some (.cells #[.bool false, .int .i64 0, .int .i64 0, .int .i64 0, .int .u64 0] 26 (0, 0)) := (hb.block (w1.heap.size) (by first | omega | (simp; done) | (simp; omega))).trans (Eq.trans (b := some (Obj.cells _ _ (0, 0))) (by repeat (first | (with_reducible assumption) | (with_reducible apply heap_set_same) | ((with_reducible apply heap_set_other'); (focus (first | omega | (simp; done) | (simp; omega)))) | ((with_reducible apply heap_alloc_new); (focus (first | omega | (simp; done) | (simp; omega)))) | (with_reducible apply heap_alloc_old') | (with_reducible apply (heap_drew_at _ _).trans) | (with_reducible apply (heap_drewN_at _ _ _).trans))) (by exact rfl))
    clear hb
    (try clear g0)
    obtain ⟨c0, f0, z0⟩ := blk_facts h0
    go_wp2_with fail
    with_reducible refine (take_eq _ _ _ _ 1 _ _ _ _ _ (orN 1 (65536 - d).toNat) _ _ 1 (orN 1 (65536 - d).toNat : Nat) _ rfl rfl (by exact far_late f d _ HM.out hd0 ud) (by first | decide | omega) (by first | decide | omega) (by first | decide | omega) (by first | decide | omega) (by first | decide | omega) (by first | decide | omega) (by first | decide | omega) (by first | decide | omega) (by first | decide | omega)).mono ?_
    rintro e w3 ⟨rfl, hb⟩
    (try (have g0 := h0; clear h0 f0 c0))
    have hB := below_next (w := w) (by go_grown) hb
    have h0 : w3.heap[w1.heap.size]? = some (.cells #[.bool true, .int .i64 f, .int .i64 f, .int .i64 1, .int .u64 1] 26 (0, 0)) := (hb.block (w1.heap.size) (by first | omega | (simp; done) | (simp; omega))).trans (Eq.trans (b := some (Obj.cells _ _ (0, 0))) (by repeat (first | (with_reducible assumption) | (with_reducible apply heap_set_same) | ((with_reducible apply heap_set_other'); (focus (first | omega | (simp; done) | (simp; omega)))) | ((with_reducible apply heap_alloc_new); (focus (first | omega | (simp; done) | (simp; omega)))) | (with_reducible apply heap_alloc_old') | (with_reducible apply (heap_drew_at _ _).trans) | (with_reducible apply (heap_drewN_at _ _ _).trans))) (by exact rfl))
    clear hb
    (try clear g0)
    obtain ⟨c0, f0, z0⟩ := blk_facts h0
    go_wp2_with fail
    go_ret
    exact ⟨rfl, by go_grown⟩

end Go.Proofs.Ytbfmcnidghjajaa
