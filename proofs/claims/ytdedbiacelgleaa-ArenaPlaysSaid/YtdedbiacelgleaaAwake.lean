/- The document's example, walked. -/
import Derived.Test.YtdedbiacelgleaaFnsI
namespace Go.Proofs.Ytdedbiacelgleaa
set_option linter.unusedSimpArgs false
set_option linter.unusedVariables false
open Go.RowKit

set_option maxHeartbeats 4000000 in
theorem awake_any (w : World) : Calls Try.prog 7 #[] w fun e w' => e = .returned (.bool true) ∧ Below w.heap.size w w' := by
  go_enter Try.func7, Try.ntmps7
  go_wp2_with fail
  with_reducible refine (new_i 1 1 rfl _ (by omega) (by omega)).mono ?_
  rintro e w1 ⟨P, L, rfl, hA, hp, hq, hb⟩
  have hB := hb
  clear hb
  have zP := blk_lt hA.p
  have zL := blk_lt hA.l
  have hA1 : At w1 P L 62 65 [sl0 (.int .i64 0)] 0 := hA
  clear hA
  have AA := Lib.hid hA1; clear hA1
  go_wp2_with fail
  with_reducible refine (show ∀ W, At W P L 62 65 [sl0 (.int .i64 0)] 0 → Calls Try.prog 9 #[.pointer (some ⟨P, 0, none⟩), .int .i64 5] W (fun e w' => e = .returned (.tuple #[.agg #[.int .i64 0, .int .u32 1], .int .i64 0]) ∧ At w' P L 62 65 [⟨.int .i64 5, 1, true⟩] 1 ∧ Turned P L W w' ∧ At W P L 62 65 [sl0 (.int .i64 0)] 0) from fun W h => (take_i W P L [sl0 (.int .i64 0)] 0 5 h (by decide) (by decide) (by decide) (by decide) 0 (by decide) (by simp [sl0]) (by omega)).mono fun e w' ⟨a, b, c⟩ => ⟨by simpa [sl0] using a, by simpa [sl0] using b, c, h⟩) _ (have hA := AA.out; (by repeat (first | (with_reducible assumption) | (with_reducible apply At.alloc) | (with_reducible apply At.drewN) | ((with_reducible apply at_set); (focus (first | omega | (simp; done) | (simp; omega))); (focus (first | omega | (simp; done) | (simp; omega))))))) |>.mono ?_
  rintro e w2 ⟨rfl, hA, hT, hAo⟩
  have hBn : Below w.heap.size w w2 := turned_below (by go_grown) hT (by omega) (by omega) (by first | omega | (simp; omega))
  clear hB hT hAo
  have hB := hBn
  clear hBn
  have zP := blk_lt hA.p
  have zL := blk_lt hA.l
  clear AA
  have AA := Lib.hid hA; clear hA
  have y_w2 := hB.size
  go_wp2_with fail
  with_reducible refine (take_full_i _ P L [⟨.int .i64 5, 1, true⟩] 1 6 (have hA := AA.out; (by repeat (first | (with_reducible assumption) | (with_reducible apply At.alloc) | (with_reducible apply At.drewN) | ((with_reducible apply at_set); (focus (first | omega | (simp; done) | (simp; omega))); (focus (first | omega | (simp; done) | (simp; omega))))))) (by decide) (by intro j h; simp at h; subst h; simp)).mono ?_
  rintro e w3 ⟨rfl, hb⟩
  have hA : At w3 P L 62 65 [⟨.int .i64 5, 1, true⟩] 1 := At.below (have hA := AA.out; (by repeat (first | (with_reducible assumption) | (with_reducible apply At.alloc) | (with_reducible apply At.drewN) | ((with_reducible apply at_set); (focus (first | omega | (simp; done) | (simp; omega))); (focus (first | omega | (simp; done) | (simp; omega))))))) hb
  clear AA
  have AA := Lib.hid hA; clear hA
  (try (have g0 := h0; clear h0 f0 c0))
  have hB := below_next (w := w) (by go_grown) hb
  have h0 : w3.heap[w2.heap.size]? = some (.cells #[.int .i64 0, .int .u32 1] 31 (0, 0)) := (hb.block (w2.heap.size) (by first | omega | (simp; done) | (simp; omega))).trans (Eq.trans (b := some (Obj.cells _ _ (0, 0))) (by repeat (first | (with_reducible assumption) | (with_reducible apply heap_set_row2) | (with_reducible apply heap_set_same) | ((with_reducible apply heap_set_other'); (focus (first | omega | (simp; done) | (simp; omega)))) | ((with_reducible apply heap_alloc_new); (focus (first | omega | (simp; done) | (simp; omega)))) | (with_reducible apply heap_alloc_old') | (with_reducible apply (heap_drew_at _ _).trans) | (with_reducible apply (heap_drewN_at _ _ _).trans) | (simp only [List.size_toArray, List.length_cons, List.length_nil]; done))) (by exact rfl))
  clear hb
  (try clear g0)
  obtain ⟨c0, f0, z0⟩ := blk_facts h0
  have zP := blk_lt AA.out.p
  have zL := blk_lt AA.out.l
  have y_w3 := hB.size
  go_wp2_with fail
  with_reducible refine (show ∀ W, At W P L 62 65 [⟨.int .i64 5, 1, true⟩] 1 → Calls Try.prog 10 #[.pointer (some ⟨P, 0, none⟩), .agg #[.int .i64 0, .int .u32 1]] W (fun e w' => e = .returned (.int .i64 0) ∧ At w' P L 62 65 [⟨.int .i64 0, 1, false⟩] 0 ∧ Turned P L W w' ∧ At W P L 62 65 [⟨.int .i64 5, 1, true⟩] 1) from fun W h => (free_some_i W P L [⟨.int .i64 5, 1, true⟩] 1 0 1 0 h (by decide) (by decide) (by decide) (by simp [atF])).mono fun e w' ⟨a, b, c⟩ => ⟨by simpa [sl0] using a, by simpa [sl0] using b, c, h⟩) _ (have hA := AA.out; (by repeat (first | (with_reducible assumption) | (with_reducible apply At.alloc) | (with_reducible apply At.drewN) | ((with_reducible apply at_set); (focus (first | omega | (simp; done) | (simp; omega))); (focus (first | omega | (simp; done) | (simp; omega))))))) |>.mono ?_
  rintro e w4 ⟨rfl, hA, hT, hAo⟩
  have hBn : Below w.heap.size w w4 := turned_below (by go_grown) hT (by omega) (by omega) (by first | omega | (simp; omega))
  have g0 : w4.heap[w2.heap.size]? = some (.cells #[.int .i64 0, .int .u32 1] 31 (0, 0)) := turned_block hT (Eq.trans (b := some (Obj.cells _ _ (0, 0))) (by repeat (first | (with_reducible assumption) | (with_reducible apply heap_set_row2) | (with_reducible apply heap_set_same) | ((with_reducible apply heap_set_other'); (focus (first | omega | (simp; done) | (simp; omega)))) | ((with_reducible apply heap_alloc_new); (focus (first | omega | (simp; done) | (simp; omega)))) | (with_reducible apply heap_alloc_old') | (with_reducible apply (heap_drew_at _ _).trans) | (with_reducible apply (heap_drewN_at _ _ _).trans) | (simp only [List.size_toArray, List.length_cons, List.length_nil]; done))) (by exact rfl)) (by omega) (by omega)
  have g1 : w4.heap[w3.heap.size]? = some (.cells #[.int .i64 0, .int .u32 0] 31 (0, 0)) := turned_block hT (Eq.trans (b := some (Obj.cells _ _ (0, 0))) (by repeat (first | (with_reducible assumption) | (with_reducible apply heap_set_row2) | (with_reducible apply heap_set_same) | ((with_reducible apply heap_set_other'); (focus (first | omega | (simp; done) | (simp; omega)))) | ((with_reducible apply heap_alloc_new); (focus (first | omega | (simp; done) | (simp; omega)))) | (with_reducible apply heap_alloc_old') | (with_reducible apply (heap_drew_at _ _).trans) | (with_reducible apply (heap_drewN_at _ _ _).trans) | (simp only [List.size_toArray, List.length_cons, List.length_nil]; done))) (by exact rfl)) (by omega) (by omega)
  clear hB hT hAo
  have hB := hBn
  clear hBn
  (try clear h0 f0 c0 z0)
  have h0 := g0
  clear g0
  obtain ⟨c0, f0, z0⟩ := blk_facts h0
  (try clear h1 f1 c1 z1)
  have h1 := g1
  clear g1
  obtain ⟨c1, f1, z1⟩ := blk_facts h1
  have zP := blk_lt hA.p
  have zL := blk_lt hA.l
  clear AA
  have AA := Lib.hid hA; clear hA
  have y_w4 := hB.size
  go_wp2_with fail
  with_reducible refine (show ∀ W, At W P L 62 65 [⟨.int .i64 0, 1, false⟩] 0 → Calls Try.prog 9 #[.pointer (some ⟨P, 0, none⟩), .int .i64 7] W (fun e w' => e = .returned (.tuple #[.agg #[.int .i64 0, .int .u32 2], .int .i64 0]) ∧ At w' P L 62 65 [⟨.int .i64 7, 2, true⟩] 1 ∧ Turned P L W w' ∧ At W P L 62 65 [⟨.int .i64 0, 1, false⟩] 0) from fun W h => (take_i W P L [⟨.int .i64 0, 1, false⟩] 0 7 h (by decide) (by decide) (by decide) (by decide) 0 (by decide) (by simp [sl0]) (by omega)).mono fun e w' ⟨a, b, c⟩ => ⟨by simpa [sl0] using a, by simpa [sl0] using b, c, h⟩) _ (have hA := AA.out; (by repeat (first | (with_reducible assumption) | (with_reducible apply At.alloc) | (with_reducible apply At.drewN) | ((with_reducible apply at_set); (focus (first | omega | (simp; done) | (simp; omega))); (focus (first | omega | (simp; done) | (simp; omega))))))) |>.mono ?_
  rintro e w5 ⟨rfl, hA, hT, hAo⟩
  have hBn : Below w.heap.size w w5 := turned_below (by go_grown) hT (by omega) (by omega) (by first | omega | (simp; omega))
  have g0 : w5.heap[w2.heap.size]? = some (.cells #[.int .i64 0, .int .u32 1] 31 (0, 0)) := turned_block hT (Eq.trans (b := some (Obj.cells _ _ (0, 0))) (by repeat (first | (with_reducible assumption) | (with_reducible apply heap_set_row2) | (with_reducible apply heap_set_same) | ((with_reducible apply heap_set_other'); (focus (first | omega | (simp; done) | (simp; omega)))) | ((with_reducible apply heap_alloc_new); (focus (first | omega | (simp; done) | (simp; omega)))) | (with_reducible apply heap_alloc_old') | (with_reducible apply (heap_drew_at _ _).trans) | (with_reducible apply (heap_drewN_at _ _ _).trans) | (simp only [List.size_toArray, List.length_cons, List.length_nil]; done))) (by exact rfl)) (by omega) (by omega)
  have g1 : w5.heap[w3.heap.size]? = some (.cells #[.int .i64 0, .int .u32 0] 31 (0, 0)) := turned_block hT (Eq.trans (b := some (Obj.cells _ _ (0, 0))) (by repeat (first | (with_reducible assumption) | (with_reducible apply heap_set_row2) | (with_reducible apply heap_set_same) | ((with_reducible apply heap_set_other'); (focus (first | omega | (simp; done) | (simp; omega)))) | ((with_reducible apply heap_alloc_new); (focus (first | omega | (simp; done) | (simp; omega)))) | (with_reducible apply heap_alloc_old') | (with_reducible apply (heap_drew_at _ _).trans) | (with_reducible apply (heap_drewN_at _ _ _).trans) | (simp only [List.size_toArray, List.length_cons, List.length_nil]; done))) (by exact rfl)) (by omega) (by omega)
  clear hB hT hAo
  have hB := hBn
  clear hBn
  (try clear h0 f0 c0 z0)
  have h0 := g0
  clear g0
  obtain ⟨c0, f0, z0⟩ := blk_facts h0
  (try clear h1 f1 c1 z1)
  have h1 := g1
  clear g1
  obtain ⟨c1, f1, z1⟩ := blk_facts h1
  have zP := blk_lt hA.p
  have zL := blk_lt hA.l
  clear AA
  have AA := Lib.hid hA; clear hA
  have y_w5 := hB.size
  go_wp2_with fail
  with_reducible refine (get_none_i _ P L [⟨.int .i64 7, 2, true⟩] 1 0 1 (have hA := AA.out; (by repeat (first | (with_reducible assumption) | (with_reducible apply At.alloc) | (with_reducible apply At.drewN) | ((with_reducible apply at_set); (focus (first | omega | (simp; done) | (simp; omega))); (focus (first | omega | (simp; done) | (simp; omega))))))) (by decide) (by simp [atF])).mono ?_
  rintro e w6 ⟨rfl, hb⟩
  have hA : At w6 P L 62 65 [⟨.int .i64 7, 2, true⟩] 1 := At.below (have hA := AA.out; (by repeat (first | (with_reducible assumption) | (with_reducible apply At.alloc) | (with_reducible apply At.drewN) | ((with_reducible apply at_set); (focus (first | omega | (simp; done) | (simp; omega))); (focus (first | omega | (simp; done) | (simp; omega))))))) hb
  clear AA
  have AA := Lib.hid hA; clear hA
  (try (have g0 := h0; clear h0 f0 c0))
  (try (have g1 := h1; clear h1 f1 c1))
  (try (have g2 := h2; clear h2 f2 c2))
  have hB := below_next (w := w) (by go_grown) hb
  have h0 : w6.heap[w2.heap.size]? = some (.cells #[.int .i64 0, .int .u32 1] 31 (0, 0)) := (hb.block (w2.heap.size) (by first | omega | (simp; done) | (simp; omega))).trans (Eq.trans (b := some (Obj.cells _ _ (0, 0))) (by repeat (first | (with_reducible assumption) | (with_reducible apply heap_set_row2) | (with_reducible apply heap_set_same) | ((with_reducible apply heap_set_other'); (focus (first | omega | (simp; done) | (simp; omega)))) | ((with_reducible apply heap_alloc_new); (focus (first | omega | (simp; done) | (simp; omega)))) | (with_reducible apply heap_alloc_old') | (with_reducible apply (heap_drew_at _ _).trans) | (with_reducible apply (heap_drewN_at _ _ _).trans) | (simp only [List.size_toArray, List.length_cons, List.length_nil]; done))) (by exact rfl))
  have h1 : w6.heap[w3.heap.size]? = some (.cells #[.int .i64 0, .int .u32 0] 31 (0, 0)) := (hb.block (w3.heap.size) (by first | omega | (simp; done) | (simp; omega))).trans (Eq.trans (b := some (Obj.cells _ _ (0, 0))) (by repeat (first | (with_reducible assumption) | (with_reducible apply heap_set_row2) | (with_reducible apply heap_set_same) | ((with_reducible apply heap_set_other'); (focus (first | omega | (simp; done) | (simp; omega)))) | ((with_reducible apply heap_alloc_new); (focus (first | omega | (simp; done) | (simp; omega)))) | (with_reducible apply heap_alloc_old') | (with_reducible apply (heap_drew_at _ _).trans) | (with_reducible apply (heap_drewN_at _ _ _).trans) | (simp only [List.size_toArray, List.length_cons, List.length_nil]; done))) (by exact rfl))
  have h2 : w6.heap[w5.heap.size]? = some (.cells #[.int .i64 0, .int .u32 2] 31 (0, 0)) := (hb.block (w5.heap.size) (by first | omega | (simp; done) | (simp; omega))).trans (Eq.trans (b := some (Obj.cells _ _ (0, 0))) (by repeat (first | (with_reducible assumption) | (with_reducible apply heap_set_row2) | (with_reducible apply heap_set_same) | ((with_reducible apply heap_set_other'); (focus (first | omega | (simp; done) | (simp; omega)))) | ((with_reducible apply heap_alloc_new); (focus (first | omega | (simp; done) | (simp; omega)))) | (with_reducible apply heap_alloc_old') | (with_reducible apply (heap_drew_at _ _).trans) | (with_reducible apply (heap_drewN_at _ _ _).trans) | (simp only [List.size_toArray, List.length_cons, List.length_nil]; done))) (by exact rfl))
  clear hb
  (try clear g0)
  obtain ⟨c0, f0, z0⟩ := blk_facts h0
  (try clear g1)
  obtain ⟨c1, f1, z1⟩ := blk_facts h1
  (try clear g2)
  obtain ⟨c2, f2, z2⟩ := blk_facts h2
  have zP := blk_lt AA.out.p
  have zL := blk_lt AA.out.l
  have y_w6 := hB.size
  go_wp2_with fail
  with_reducible refine (get_some_i _ P L [⟨.int .i64 7, 2, true⟩] 1 0 2 7 0 (have hA := AA.out; (by repeat (first | (with_reducible assumption) | (with_reducible apply At.alloc) | (with_reducible apply At.drewN) | ((with_reducible apply at_set); (focus (first | omega | (simp; done) | (simp; omega))); (focus (first | omega | (simp; done) | (simp; omega))))))) (by decide) (by simp [atF]) (fun _ => rfl)).mono ?_
  rintro e w7 ⟨rfl, hb⟩
  have hA : At w7 P L 62 65 [⟨.int .i64 7, 2, true⟩] 1 := At.below (have hA := AA.out; (by repeat (first | (with_reducible assumption) | (with_reducible apply At.alloc) | (with_reducible apply At.drewN) | ((with_reducible apply at_set); (focus (first | omega | (simp; done) | (simp; omega))); (focus (first | omega | (simp; done) | (simp; omega))))))) hb
  clear AA
  have AA := Lib.hid hA; clear hA
  (try (have g0 := h0; clear h0 f0 c0))
  (try (have g1 := h1; clear h1 f1 c1))
  (try (have g2 := h2; clear h2 f2 c2))
  have hB := below_next (w := w) (by go_grown) hb
  have h0 : w7.heap[w2.heap.size]? = some (.cells #[.int .i64 0, .int .u32 1] 31 (0, 0)) := (hb.block (w2.heap.size) (by first | omega | (simp; done) | (simp; omega))).trans (Eq.trans (b := some (Obj.cells _ _ (0, 0))) (by repeat (first | (with_reducible assumption) | (with_reducible apply heap_set_row2) | (with_reducible apply heap_set_same) | ((with_reducible apply heap_set_other'); (focus (first | omega | (simp; done) | (simp; omega)))) | ((with_reducible apply heap_alloc_new); (focus (first | omega | (simp; done) | (simp; omega)))) | (with_reducible apply heap_alloc_old') | (with_reducible apply (heap_drew_at _ _).trans) | (with_reducible apply (heap_drewN_at _ _ _).trans) | (simp only [List.size_toArray, List.length_cons, List.length_nil]; done))) (by exact rfl))
  have h1 : w7.heap[w3.heap.size]? = some (.cells #[.int .i64 0, .int .u32 0] 31 (0, 0)) := (hb.block (w3.heap.size) (by first | omega | (simp; done) | (simp; omega))).trans (Eq.trans (b := some (Obj.cells _ _ (0, 0))) (by repeat (first | (with_reducible assumption) | (with_reducible apply heap_set_row2) | (with_reducible apply heap_set_same) | ((with_reducible apply heap_set_other'); (focus (first | omega | (simp; done) | (simp; omega)))) | ((with_reducible apply heap_alloc_new); (focus (first | omega | (simp; done) | (simp; omega)))) | (with_reducible apply heap_alloc_old') | (with_reducible apply (heap_drew_at _ _).trans) | (with_reducible apply (heap_drewN_at _ _ _).trans) | (simp only [List.size_toArray, List.length_cons, List.length_nil]; done))) (by exact rfl))
  have h2 : w7.heap[w5.heap.size]? = some (.cells #[.int .i64 0, .int .u32 2] 31 (0, 0)) := (hb.block (w5.heap.size) (by first | omega | (simp; done) | (simp; omega))).trans (Eq.trans (b := some (Obj.cells _ _ (0, 0))) (by repeat (first | (with_reducible assumption) | (with_reducible apply heap_set_row2) | (with_reducible apply heap_set_same) | ((with_reducible apply heap_set_other'); (focus (first | omega | (simp; done) | (simp; omega)))) | ((with_reducible apply heap_alloc_new); (focus (first | omega | (simp; done) | (simp; omega)))) | (with_reducible apply heap_alloc_old') | (with_reducible apply (heap_drew_at _ _).trans) | (with_reducible apply (heap_drewN_at _ _ _).trans) | (simp only [List.size_toArray, List.length_cons, List.length_nil]; done))) (by exact rfl))
  clear hb
  (try clear g0)
  obtain ⟨c0, f0, z0⟩ := blk_facts h0
  (try clear g1)
  obtain ⟨c1, f1, z1⟩ := blk_facts h1
  (try clear g2)
  obtain ⟨c2, f2, z2⟩ := blk_facts h2
  have zP := blk_lt AA.out.p
  have zL := blk_lt AA.out.l
  have y_w7 := hB.size
  go_wp2_with (first | (go_at_call 16; (with_reducible refine (live_i _ P L [⟨.int .i64 7, 2, true⟩] 1 (have hA := AA.out; (by repeat (first | (with_reducible assumption) | (with_reducible apply At.alloc) | (with_reducible apply At.drewN) | ((with_reducible apply at_set); (focus (first | omega | (simp; done) | (simp; omega))); (focus (first | omega | (simp; done) | (simp; omega)))))))).mono ?_); rintro e w8 ⟨rfl, rfl⟩))
  go_ret
  exact ⟨rfl, by go_grown⟩
end Go.Proofs.Ytdedbiacelgleaa
