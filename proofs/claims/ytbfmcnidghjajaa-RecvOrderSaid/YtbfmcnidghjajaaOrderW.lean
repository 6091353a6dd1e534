/- The law RecvOrder, walked. -/
import Derived.Test.YtbfmcnidghjajaaAwake
namespace Go.Proofs.Ytbfmcnidghjajaa
set_option linter.unusedSimpArgs false
set_option linter.unusedVariables false
open Go.RowKit
set_option maxRecDepth 100000 in
set_option maxHeartbeats 2000000 in
theorem order_walk (f m : Int) (w : World) (lf : 0 ≤ f) (uf : f ≤ 65535) (lm : 0 ≤ m) (um : m ≤ 65535) :
    Calls Try.prog 5 #[.int .u16 f, .int .u16 m] w fun e w' => e = .returned (.bool true) ∧ Below w.heap.size w w' := by
  have hfi := Lib.hid (i64_same f lf (by omega))
  go_enter Try.func5, Try.ntmps5
  go_wp2_with fail
  (with_reducible refine (awake_any _).mono ?_)
  rintro e w1 ⟨rfl, hB⟩
  have zA := hB.size
  go_wp2_with fail
  go_loopw [8] (fun i wr => ∃ (k : Nat) (on : Bool) (b h g : Int) (s : Nat), (k : Int) ≤ m % 3000 ∧ i = .int .i64 k ∧ wr.heap[w1.heap.size]? = some (.cells #[.bool on, .int .i64 b, .int .i64 h, .int .i64 g, .int .u64 s] 26 (0, 0)) ∧ s < 2 ^ 64 ∧ Hid ((k = 0 ∧ on = false ∧ b = 0 ∧ h = 0 ∧ g = 0 ∧ s = 0) ∨ (1 ≤ k ∧ on = true ∧ f = b ∧ h = f + k - 1 ∧ g = k ∧ Ord ⟨on, b, h, g, s⟩ f k)) ∧ Below w.heap.size w wr) (fun i _ => 3000 - (intOf i).toNat)
  case atStart => exact ⟨0, false, 0, 0, 0, 0, by simp; omega, rfl, (Eq.trans (b := some (Obj.cells _ _ (0, 0))) (by repeat (first | (with_reducible assumption) | (with_reducible apply heap_set_same) | ((with_reducible apply heap_set_other'); (focus (first | omega | (simp; done) | (simp; omega)))) | ((with_reducible apply heap_alloc_new); (focus (first | omega | (simp; done) | (simp; omega)))) | (with_reducible apply heap_alloc_old') | (with_reducible apply (heap_drew_at _ _).trans) | (with_reducible apply (heap_drewN_at _ _ _).trans))) (by exact rfl)), by decide, Lib.hid (.inl ⟨rfl, rfl, rfl, rfl, rfl, rfl⟩), by go_grown⟩
  case round =>
    obtain ⟨k, on, b, h, g, s, hk, rfl, h0, hs, HS, hB⟩ := hrel
    have LS := Lib.hid hs; clear hs
    obtain ⟨c0, f0, z0⟩ := blk_facts h0
    have hk3 : k < 3000 := by omega
    have hki := Lib.hid (i64_same (k : Int) (by omega) (by omega))
    by_cases hlt : (k : Int) < m % 3000
    · rcases HS.out with ⟨rfl, rfl, rfl, rfl, rfl, rfl⟩ | ⟨k1, rfl, rfl, rfl, rfl, ho⟩
      · go_wp2_with fail
        with_reducible refine (take_eq _ _ _ _ 0 _ _ _ _ _ 1 _ _ 0 1 _ rfl rfl (takeF_off rfl f) (by omega) (by omega) (by omega) (by omega) (by omega) (by omega) (by omega) (by omega) (by decide)).mono ?_
        rintro e w2 ⟨rfl, hb⟩
        (try (have g0 := h0; clear h0 f0 c0))
        have hB := below_next (w := w) (by go_grown) hb
        have h0 : w2.heap[w1.heap.size]? = some (.cells #[.bool false, .int .i64 0, .int .i64 0, .int .i64 0, .int .u64 0] 26 (0, 0)) := (hb.block (w1.heap.size) (by first | omega | (simp; done) | (simp; omega))).trans (Eq.trans (b := some (Obj.cells _ _ (0, 0))) (by repeat (first | (with_reducible assumption) | (with_reducible apply heap_set_same) | ((with_reducible apply heap_set_other'); (focus (first | omega | (simp; done) | (simp; omega)))) | ((with_reducible apply heap_alloc_new); (focus (first | omega | (simp; done) | (simp; omega)))) | (with_reducible apply heap_alloc_old') | (with_reducible apply (heap_drew_at _ _).trans) | (with_reducible apply (heap_drewN_at _ _ _).trans))) (by exact rfl))
        clear hb
        (try clear g0)
        obtain ⟨c0, f0, z0⟩ := blk_facts h0
        have z2 : w1.heap.size < w2.heap.size := by omega
        go_wp2_with fail
        with_reducible refine (lost_eq _ _ _ _ 1 1 0 _ rfl (ord_lost (ord_one f).2) (by omega) (by omega) (by omega) (by omega) (by omega) (by omega)).mono ?_
        rintro e w3 ⟨rfl, hb⟩
        (try (have g0 := h0; clear h0 f0 c0))
        (try (have g1 := h1; clear h1 f1 c1))
        have hB := below_next (w := w) (by go_grown) hb
        have h0 : w3.heap[w1.heap.size]? = some (.cells #[.bool true, .int .i64 f, .int .i64 f, .int .i64 1, .int .u64 1] 26 (0, 0)) := (hb.block (w1.heap.size) (by first | omega | (simp; done) | (simp; omega))).trans (Eq.trans (b := some (Obj.cells _ _ (0, 0))) (by repeat (first | (with_reducible assumption) | (with_reducible apply heap_set_same) | ((with_reducible apply heap_set_other'); (focus (first | omega | (simp; done) | (simp; omega)))) | ((with_reducible apply heap_alloc_new); (focus (first | omega | (simp; done) | (simp; omega)))) | (with_reducible apply heap_alloc_old') | (with_reducible apply (heap_drew_at _ _).trans) | (with_reducible apply (heap_drewN_at _ _ _).trans))) (by exact rfl))
        have h1 : w3.heap[w2.heap.size]? = some (.cells #[.bool true, .int .i64 f, .int .i64 f, .int .i64 1, .int .u64 1] 26 (0, 0)) := (hb.block (w2.heap.size) (by first | omega | (simp; done) | (simp; omega))).trans (Eq.trans (b := some (Obj.cells _ _ (0, 0))) (by repeat (first | (with_reducible assumption) | (with_reducible apply heap_set_same) | ((with_reducible apply heap_set_other'); (focus (first | omega | (simp; done) | (simp; omega)))) | ((with_reducible apply heap_alloc_new); (focus (first | omega | (simp; done) | (simp; omega)))) | (with_reducible apply heap_alloc_old') | (with_reducible apply (heap_drew_at _ _).trans) | (with_reducible apply (heap_drewN_at _ _ _).trans))) (by exact rfl))
        clear hb
        (try clear g0)
        obtain ⟨c0, f0, z0⟩ := blk_facts h0
        (try clear g1)
        obtain ⟨c1, f1, z1⟩ := blk_facts h1
        go_wp2_with fail
        go_roundw
        case rel => exact ⟨1, true, f, f, 1, 1, by omega, rfl, (Eq.trans (b := some (Obj.cells _ _ (0, 0))) (by repeat (first | (with_reducible assumption) | (with_reducible apply heap_set_same) | ((with_reducible apply heap_set_other'); (focus (first | omega | (simp; done) | (simp; omega)))) | ((with_reducible apply heap_alloc_new); (focus (first | omega | (simp; done) | (simp; omega)))) | (with_reducible apply heap_alloc_old') | (with_reducible apply (heap_drew_at _ _).trans) | (with_reducible apply (heap_drewN_at _ _ _).trans))) (by exact rfl)), by decide, Lib.hid (.inr ⟨by omega, rfl, rfl, by simp, by simp, (ord_one f).2⟩), by go_grown⟩
        case measure => simp [intOf]
      · have hsp := ord_step ho (IntKind.u16.wrap (f + k)) (by rw [u16_mod]; omega)
        obtain ⟨ht, ho2⟩ := hsp
        have HT := Lib.hid ht; clear ht
        have HO2 := Lib.hid ho2; clear ho2
        have hx0 : 0 ≤ IntKind.u16.wrap (f + (k : Int)) := by rw [u16_mod]; omega
        have hx1 : IntKind.u16.wrap (f + (k : Int)) ≤ 65535 := by rw [u16_mod]; omega
        have L2 : Hid (shlN s 1 < 2 ^ 64) := Lib.hid (shlN_lt _ _)
        clear ho HS
        go_wp2_with fail
        with_reducible refine (take_eq _ _ _ _ s _ _ _ _ _ (shlN s 1) _ _ s (shlN s 1 : Nat) _ rfl rfl HT.out hx0 hx1 (by omega) (by omega) (by omega) (by omega) (by omega) (by omega) LS.out).mono ?_
        rintro e w2 ⟨rfl, hb⟩
        (try (have g0 := h0; clear h0 f0 c0))
        have hB := below_next (w := w) (by go_grown) hb
        have h0 : w2.heap[w1.heap.size]? = some (.cells #[.bool true, .int .i64 f, .int .i64 (f + k - 1), .int .i64 k, .int .u64 s] 26 (0, 0)) := (hb.block (w1.heap.size) (by first | omega | (simp; done) | (simp; omega))).trans (Eq.trans (b := some (Obj.cells _ _ (0, 0))) (by repeat (first | (with_reducible assumption) | (with_reducible apply heap_set_same) | ((with_reducible apply heap_set_other'); (focus (first | omega | (simp; done) | (simp; omega)))) | ((with_reducible apply heap_alloc_new); (focus (first | omega | (simp; done) | (simp; omega)))) | (with_reducible apply heap_alloc_old') | (with_reducible apply (heap_drew_at _ _).trans) | (with_reducible apply (heap_drewN_at _ _ _).trans))) (by exact rfl))
        clear hb
        (try clear g0)
        obtain ⟨c0, f0, z0⟩ := blk_facts h0
        have z2 : w1.heap.size < w2.heap.size := by omega
        go_wp2_with fail
        with_reducible refine (lost_eq _ _ _ _ (shlN s 1) (shlN s 1 : Nat) 0 _ rfl (ord_lost HO2.out) (by omega) (by omega) (by omega) (by omega) (by omega) (by omega)).mono ?_
        rintro e w3 ⟨rfl, hb⟩
        (try (have g0 := h0; clear h0 f0 c0))
        (try (have g1 := h1; clear h1 f1 c1))
        have hB := below_next (w := w) (by go_grown) hb
        have h0 : w3.heap[w1.heap.size]? = some (.cells #[.bool true, .int .i64 f, .int .i64 (f + k), .int .i64 (k + 1), .int .u64 (shlN s 1 : Nat)] 26 (0, 0)) := (hb.block (w1.heap.size) (by first | omega | (simp; done) | (simp; omega))).trans (Eq.trans (b := some (Obj.cells _ _ (0, 0))) (by repeat (first | (with_reducible assumption) | (with_reducible apply heap_set_same) | ((with_reducible apply heap_set_other'); (focus (first | omega | (simp; done) | (simp; omega)))) | ((with_reducible apply heap_alloc_new); (focus (first | omega | (simp; done) | (simp; omega)))) | (with_reducible apply heap_alloc_old') | (with_reducible apply (heap_drew_at _ _).trans) | (with_reducible apply (heap_drewN_at _ _ _).trans))) (by exact rfl))
        have h1 : w3.heap[w2.heap.size]? = some (.cells #[.bool true, .int .i64 f, .int .i64 (f + k), .int .i64 (k + 1), .int .u64 (shlN s 1 : Nat)] 26 (0, 0)) := (hb.block (w2.heap.size) (by first | omega | (simp; done) | (simp; omega))).trans (Eq.trans (b := some (Obj.cells _ _ (0, 0))) (by repeat (first | (with_reducible assumption) | (with_reducible apply heap_set_same) | ((with_reducible apply heap_set_other'); (focus (first | omega | (simp; done) | (simp; omega)))) | ((with_reducible apply heap_alloc_new); (focus (first | omega | (simp; done) | (simp; omega)))) | (with_reducible apply heap_alloc_old') | (with_reducible apply (heap_drew_at _ _).trans) | (with_reducible apply (heap_drewN_at _ _ _).trans))) (by exact rfl))
        clear hb
        (try clear g0)
        obtain ⟨c0, f0, z0⟩ := blk_facts h0
        (try clear g1)
        obtain ⟨c1, f1, z1⟩ := blk_facts h1
        go_wp2_with fail
        go_roundw
        case rel => exact ⟨k + 1, true, f, f + k, k + 1, shlN s 1, by omega, by go_num, (Eq.trans (b := some (Obj.cells _ _ (0, 0))) (by repeat (first | (with_reducible assumption) | (with_reducible apply heap_set_same) | ((with_reducible apply heap_set_other'); (focus (first | omega | (simp; done) | (simp; omega)))) | ((with_reducible apply heap_alloc_new); (focus (first | omega | (simp; done) | (simp; omega)))) | (with_reducible apply heap_alloc_old') | (with_reducible apply (heap_drew_at _ _).trans) | (with_reducible apply (heap_drewN_at _ _ _).trans))) (by exact rfl)), L2.out, Lib.hid (.inr ⟨by omega, rfl, rfl, by simp; omega, by simp, HO2.out⟩), by go_grown⟩
        case measure => simp [intOf]; omega
    · have hke : (k : Int) = m % 3000 := by omega
      rcases HS.out with ⟨rfl, rfl, rfl, rfl, rfl, rfl⟩ | ⟨k1, rfl, rfl, rfl, rfl, ho⟩
      · have hz : m % 3000 = 0 := by omega
        go_wp2_with fail
        with_reducible refine (miss_eq _ _ _ _ 0 0 [] _ rfl (miss_off rfl) (by omega) (by omega) (by omega) (by omega) (by omega) (by omega) (by decide)).mono ?_
        rintro e w2 ⟨v, rfl, hown, hb⟩
        obtain ⟨A, cap, rfl⟩ := own_slice hown
        clear hown
        (try (have g0 := h0; clear h0 f0 c0))
        have hB := below_next (w := w) (by go_grown) hb
        have h0 : w2.heap[w1.heap.size]? = some (.cells #[.bool false, .int .i64 0, .int .i64 0, .int .i64 0, .int .u64 0] 26 (0, 0)) := (hb.block (w1.heap.size) (by first | omega | (simp; done) | (simp; omega))).trans (Eq.trans (b := some (Obj.cells _ _ (0, 0))) (by repeat (first | (with_reducible assumption) | (with_reducible apply heap_set_same) | ((with_reducible apply heap_set_other'); (focus (first | omega | (simp; done) | (simp; omega)))) | ((with_reducible apply heap_alloc_new); (focus (first | omega | (simp; done) | (simp; omega)))) | (with_reducible apply heap_alloc_old') | (with_reducible apply (heap_drew_at _ _).trans) | (with_reducible apply (heap_drewN_at _ _ _).trans))) (by exact rfl))
        clear hb
        (try clear g0)
        obtain ⟨c0, f0, z0⟩ := blk_facts h0
        go_wp2_with fail
        go_ret
        exact ⟨ret_bool (by first | rfl | simp [hz]), by go_grown⟩
      · have HO := Lib.hid ho; clear ho
        rw [← hke]
        clear hke hlt hk
        go_wp2_with fail
        with_reducible refine (miss_eq _ _ _ _ s s [] _ rfl (ord_miss HO.out) (by omega) (by omega) (by omega) (by omega) (by omega) (by omega) LS.out).mono ?_
        rintro e w2 ⟨v, rfl, hown, hb⟩
        obtain ⟨A, cap, rfl⟩ := own_slice hown
        clear hown
        (try (have g0 := h0; clear h0 f0 c0))
        have hB := below_next (w := w) (by go_grown) hb
        have h0 : w2.heap[w1.heap.size]? = some (.cells #[.bool true, .int .i64 f, .int .i64 (f + k - 1), .int .i64 k, .int .u64 s] 26 (0, 0)) := (hb.block (w1.heap.size) (by first | omega | (simp; done) | (simp; omega))).trans (Eq.trans (b := some (Obj.cells _ _ (0, 0))) (by repeat (first | (with_reducible assumption) | (with_reducible apply heap_set_same) | ((with_reducible apply heap_set_other'); (focus (first | omega | (simp; done) | (simp; omega)))) | ((with_reducible apply heap_alloc_new); (focus (first | omega | (simp; done) | (simp; omega)))) | (with_reducible apply heap_alloc_old') | (with_reducible apply (heap_drew_at _ _).trans) | (with_reducible apply (heap_drewN_at _ _ _).trans))) (by exact rfl))
        clear hb
        (try clear g0)
        obtain ⟨c0, f0, z0⟩ := blk_facts h0
        go_wp2_with fail
        go_ret
        exact ⟨rfl, by go_grown⟩
end Go.Proofs.Ytbfmcnidghjajaa
