/- Switch and Send by their equations; the document's example holds. -/
import Derived.Test.YtidpkmabcndknaaSendW
namespace Go.Proofs.Ytidpkmabcndknaa
set_option linter.unusedSimpArgs false
set_option linter.unusedVariables false
open Go.RowKit

theorem switch_st (s r : St) (i o : Nu) (step : Int) (w : World) (hr : switchF s i step = r) (ho : toldF s i step = o) (i0 : 0 ≤ i.seq) (i1 : i.seq ≤ 65535) :
    Calls Try.prog 11 #[.agg #[.bool s.on, .int .i64 s.high, .int .i64 s.since, .int .u16 s.off.seq, .int .u32 s.off.time, .int .u16 s.off.pic, .int .u8 s.off.tl0, .int .u16 s.out.seq, .int .u32 s.out.time, .int .u16 s.out.pic, .int .u8 s.out.tl0], .agg #[.int .u16 i.seq, .int .u32 i.time, .int .u16 i.pic, .int .u8 i.tl0], .int .u32 step] w fun e w' => e = .returned (.tuple #[.agg #[.bool r.on, .int .i64 r.high, .int .i64 r.since, .int .u16 r.off.seq, .int .u32 r.off.time, .int .u16 r.off.pic, .int .u8 r.off.tl0, .int .u16 r.out.seq, .int .u32 r.out.time, .int .u16 r.out.pic, .int .u8 r.out.tl0], .agg #[.int .u16 o.seq, .int .u32 o.time, .int .u16 o.pic, .int .u8 o.tl0]]) ∧ Below w.heap.size w w' := by
  refine (switch_eq s i o (fromF o i) step w ho rfl i0 i1).mono ?_
  rintro e w' ⟨rfl, hb⟩
  subst hr ho
  exact ⟨rfl, hb⟩
theorem send_st (s r : St) (i m : Nu) (is : Bool) (w : World) (hr : sendF s i = (r, m, is)) (l0 : -1000000000000000000 ≤ s.high) (l1 : s.high ≤ 1000000000000000000) :
    Calls Try.prog 15 #[.agg #[.bool s.on, .int .i64 s.high, .int .i64 s.since, .int .u16 s.off.seq, .int .u32 s.off.time, .int .u16 s.off.pic, .int .u8 s.off.tl0, .int .u16 s.out.seq, .int .u32 s.out.time, .int .u16 s.out.pic, .int .u8 s.out.tl0], .agg #[.int .u16 i.seq, .int .u32 i.time, .int .u16 i.pic, .int .u8 i.tl0]] w fun e w' => e = .returned (.tuple #[.agg #[.bool r.on, .int .i64 r.high, .int .i64 r.since, .int .u16 r.off.seq, .int .u32 r.off.time, .int .u16 r.off.pic, .int .u8 r.off.tl0, .int .u16 r.out.seq, .int .u32 r.out.time, .int .u16 r.out.pic, .int .u8 r.out.tl0], .agg #[.int .u16 m.seq, .int .u32 m.time, .int .u16 m.pic, .int .u8 m.tl0], .bool is]) ∧ Below w.heap.size w w' := by
  refine (send_any s i w l0 l1).mono ?_
  rintro e w' ⟨he, hb⟩
  rw [hr] at he
  exact ⟨he, hb⟩
theorem ex1 : switchF ⟨false, 0, 0, ⟨0, 0, 0, 0⟩, ⟨0, 0, 0, 0⟩⟩ ⟨100, 0, 0, 0⟩ 3000 = ⟨true, 100, 100, ⟨0, 0, 0, 0⟩, ⟨100, 0, 0, 0⟩⟩ ∧ toldF ⟨false, 0, 0, ⟨0, 0, 0, 0⟩, ⟨0, 0, 0, 0⟩⟩ ⟨100, 0, 0, 0⟩ 3000 = ⟨100, 0, 0, 0⟩ := by decide +kernel
theorem ex2 : dropF ⟨true, 100, 100, ⟨0, 0, 0, 0⟩, ⟨100, 0, 0, 0⟩⟩ ⟨101, 0, 0, 0⟩ true = ⟨true, 101, 101, ⟨1, 0, 1, 0⟩, ⟨100, 0, 0, 0⟩⟩ := by decide +kernel
theorem ex3 : sendF ⟨true, 101, 101, ⟨1, 0, 1, 0⟩, ⟨100, 0, 0, 0⟩⟩ ⟨102, 0, 9, 0⟩ = (⟨true, 102, 101, ⟨1, 0, 1, 0⟩, ⟨101, 0, 8, 0⟩⟩, ⟨101, 0, 8, 0⟩, true) := by decide +kernel
theorem ex4 : switchF ⟨true, 102, 101, ⟨1, 0, 1, 0⟩, ⟨101, 0, 8, 0⟩⟩ ⟨7, 5, 0, 0⟩ 3000 = ⟨true, 7, 7, ⟨65441, 4294964301, 65527, 255⟩, ⟨102, 3000, 9, 1⟩⟩ ∧ toldF ⟨true, 102, 101, ⟨1, 0, 1, 0⟩, ⟨101, 0, 8, 0⟩⟩ ⟨7, 5, 0, 0⟩ 3000 = ⟨102, 3000, 9, 1⟩ := by decide +kernel
theorem ex5 : sendF ⟨true, 7, 7, ⟨65441, 4294964301, 65527, 255⟩, ⟨102, 3000, 9, 1⟩⟩ ⟨6, 0, 0, 0⟩ = (⟨true, 7, 7, ⟨65441, 4294964301, 65527, 255⟩, ⟨102, 3000, 9, 1⟩⟩, ⟨0, 0, 0, 0⟩, false) := by decide +kernel
set_option maxRecDepth 100000 in
set_option maxHeartbeats 2000000 in
theorem awake_any (w : World) : Calls Try.prog 10 #[] w fun e w' => e = .returned (.bool true) ∧ Below w.heap.size w w' := by
  go_enter Try.func10, Try.ntmps10
  go_wp2_with fail
  with_reducible refine (switch_st ⟨false, 0, 0, ⟨0, 0, 0, 0⟩, ⟨0, 0, 0, 0⟩⟩ ⟨true, 100, 100, ⟨0, 0, 0, 0⟩, ⟨100, 0, 0, 0⟩⟩ ⟨100, 0, 0, 0⟩ ⟨100, 0, 0, 0⟩ 3000 _ ex1.1 ex1.2 (by decide) (by decide)).mono ?_
  rintro e w1 ⟨rfl, hb⟩
  (try (have g0 := h0; clear h0 f0 c0))
  have hB := below_next (w := w) (by go_grown) hb
  have h0 : w1.heap[w.heap.size]? = some (.cells #[.bool false, .int .i64 0, .int .i64 0, .int .u16 0, .int .u32 0, .int .u16 0, .int .u8 0, .int .u16 0, .int .u32 0, .int .u16 0, .int .u8 0] 27 (0, 0)) := (hb.block (w.heap.size) (by first | omega | (simp; done) | (simp; omega))).trans (Eq.trans (b := some (Obj.cells _ _ (0, 0))) (by repeat (first | (with_reducible assumption) | (with_reducible apply heap_set_row11) | (with_reducible apply heap_set_row4) | (with_reducible apply heap_set_same) | ((with_reducible apply heap_set_other'); (focus (first | omega | (simp; done) | (simp; omega)))) | ((with_reducible apply heap_alloc_new); (focus (first | omega | (simp; done) | (simp; omega)))) | (with_reducible apply heap_alloc_old') | (with_reducible apply (heap_drew_at _ _).trans) | (with_reducible apply (heap_drewN_at _ _ _).trans) | (simp only [List.size_toArray, List.length_cons, List.length_nil]; done))) (by exact rfl))
  clear hb
  (try clear g0)
  obtain ⟨c0, f0, z0⟩ := blk_facts h0
  have z1 := hB.size
  go_wp2_with fail
  with_reducible refine (drop_eq ⟨true, 100, 100, ⟨0, 0, 0, 0⟩, ⟨100, 0, 0, 0⟩⟩ ⟨true, 101, 101, ⟨1, 0, 1, 0⟩, ⟨100, 0, 0, 0⟩⟩ ⟨101, 0, 0, 0⟩ true _ ex2 (by decide) (by decide) (by decide) (by decide)).mono ?_
  rintro e w2 ⟨rfl, hb⟩
  (try (have g0 := h0; clear h0 f0 c0))
  (try (have g1 := h1; clear h1 f1 c1))
  have hB := below_next (w := w) (by go_grown) hb
  have h0 : w2.heap[w.heap.size]? = some (.cells #[.bool true, .int .i64 100, .int .i64 100, .int .u16 0, .int .u32 0, .int .u16 0, .int .u8 0, .int .u16 100, .int .u32 0, .int .u16 0, .int .u8 0] 27 (0, 0)) := (hb.block (w.heap.size) (by first | omega | (simp; done) | (simp; omega))).trans (Eq.trans (b := some (Obj.cells _ _ (0, 0))) (by repeat (first | (with_reducible assumption) | (with_reducible apply heap_set_row11) | (with_reducible apply heap_set_row4) | (with_reducible apply heap_set_same) | ((with_reducible apply heap_set_other'); (focus (first | omega | (simp; done) | (simp; omega)))) | ((with_reducible apply heap_alloc_new); (focus (first | omega | (simp; done) | (simp; omega)))) | (with_reducible apply heap_alloc_old') | (with_reducible apply (heap_drew_at _ _).trans) | (with_reducible apply (heap_drewN_at _ _ _).trans) | (simp only [List.size_toArray, List.length_cons, List.length_nil]; done))) (by exact rfl))
  have h1 : w2.heap[w1.heap.size]? = some (.cells #[.int .u16 100, .int .u32 0, .int .u16 0, .int .u8 0] 25 (0, 0)) := (hb.block (w1.heap.size) (by first | omega | (simp; done) | (simp; omega))).trans (Eq.trans (b := some (Obj.cells _ _ (0, 0))) (by repeat (first | (with_reducible assumption) | (with_reducible apply heap_set_row11) | (with_reducible apply heap_set_row4) | (with_reducible apply heap_set_same) | ((with_reducible apply heap_set_other'); (focus (first | omega | (simp; done) | (simp; omega)))) | ((with_reducible apply heap_alloc_new); (focus (first | omega | (simp; done) | (simp; omega)))) | (with_reducible apply heap_alloc_old') | (with_reducible apply (heap_drew_at _ _).trans) | (with_reducible apply (heap_drewN_at _ _ _).trans) | (simp only [List.size_toArray, List.length_cons, List.length_nil]; done))) (by exact rfl))
  clear hb
  (try clear g0)
  obtain ⟨c0, f0, z0⟩ := blk_facts h0
  (try clear g1)
  obtain ⟨c1, f1, z1⟩ := blk_facts h1
  have z2 := hB.size
  go_wp2_with fail
  with_reducible refine (send_st ⟨true, 101, 101, ⟨1, 0, 1, 0⟩, ⟨100, 0, 0, 0⟩⟩ ⟨true, 102, 101, ⟨1, 0, 1, 0⟩, ⟨101, 0, 8, 0⟩⟩ ⟨102, 0, 9, 0⟩ ⟨101, 0, 8, 0⟩ true _ ex3 (by decide) (by decide)).mono ?_
  rintro e w3 ⟨rfl, hb⟩
  (try (have g0 := h0; clear h0 f0 c0))
  (try (have g1 := h1; clear h1 f1 c1))
  have hB := below_next (w := w) (by go_grown) hb
  have h0 : w3.heap[w.heap.size]? = some (.cells #[.bool true, .int .i64 101, .int .i64 101, .int .u16 1, .int .u32 0, .int .u16 1, .int .u8 0, .int .u16 100, .int .u32 0, .int .u16 0, .int .u8 0] 27 (0, 0)) := (hb.block (w.heap.size) (by first | omega | (simp; done) | (simp; omega))).trans (Eq.trans (b := some (Obj.cells _ _ (0, 0))) (by repeat (first | (with_reducible assumption) | (with_reducible apply heap_set_row11) | (with_reducible apply heap_set_row4) | (with_reducible apply heap_set_same) | ((with_reducible apply heap_set_other'); (focus (first | omega | (simp; done) | (simp; omega)))) | ((with_reducible apply heap_alloc_new); (focus (first | omega | (simp; done) | (simp; omega)))) | (with_reducible apply heap_alloc_old') | (with_reducible apply (heap_drew_at _ _).trans) | (with_reducible apply (heap_drewN_at _ _ _).trans) | (simp only [List.size_toArray, List.length_cons, List.length_nil]; done))) (by exact rfl))
  have h1 : w3.heap[w1.heap.size]? = some (.cells #[.int .u16 100, .int .u32 0, .int .u16 0, .int .u8 0] 25 (0, 0)) := (hb.block (w1.heap.size) (by first | omega | (simp; done) | (simp; omega))).trans (Eq.trans (b := some (Obj.cells _ _ (0, 0))) (by repeat (first | (with_reducible assumption) | (with_reducible apply heap_set_row11) | (with_reducible apply heap_set_row4) | (with_reducible apply heap_set_same) | ((with_reducible apply heap_set_other'); (focus (first | omega | (simp; done) | (simp; omega)))) | ((with_reducible apply heap_alloc_new); (focus (first | omega | (simp; done) | (simp; omega)))) | (with_reducible apply heap_alloc_old') | (with_reducible apply (heap_drew_at _ _).trans) | (with_reducible apply (heap_drewN_at _ _ _).trans) | (simp only [List.size_toArray, List.length_cons, List.length_nil]; done))) (by exact rfl))
  clear hb
  (try clear g0)
  obtain ⟨c0, f0, z0⟩ := blk_facts h0
  (try clear g1)
  obtain ⟨c1, f1, z1⟩ := blk_facts h1
  have z3 := hB.size
  go_wp2_with fail
  with_reducible refine (switch_st ⟨true, 102, 101, ⟨1, 0, 1, 0⟩, ⟨101, 0, 8, 0⟩⟩ ⟨true, 7, 7, ⟨65441, 4294964301, 65527, 255⟩, ⟨102, 3000, 9, 1⟩⟩ ⟨7, 5, 0, 0⟩ ⟨102, 3000, 9, 1⟩ 3000 _ ex4.1 ex4.2 (by decide) (by decide)).mono ?_
  rintro e w4 ⟨rfl, hb⟩
  (try (have g0 := h0; clear h0 f0 c0))
  (try (have g1 := h1; clear h1 f1 c1))
  (try (have g2 := h2; clear h2 f2 c2))
  have hB := below_next (w := w) (by go_grown) hb
  have h0 : w4.heap[w.heap.size]? = some (.cells #[.bool true, .int .i64 102, .int .i64 101, .int .u16 1, .int .u32 0, .int .u16 1, .int .u8 0, .int .u16 101, .int .u32 0, .int .u16 8, .int .u8 0] 27 (0, 0)) := (hb.block (w.heap.size) (by first | omega | (simp; done) | (simp; omega))).trans (Eq.trans (b := some (Obj.cells _ _ (0, 0))) (by repeat (first | (with_reducible assumption) | (with_reducible apply heap_set_row11) | (with_reducible apply heap_set_row4) | (with_reducible apply heap_set_same) | ((with_reducible apply heap_set_other'); (focus (first | omega | (simp; done) | (simp; omega)))) | ((with_reducible apply heap_alloc_new); (focus (first | omega | (simp; done) | (simp; omega)))) | (with_reducible apply heap_alloc_old') | (with_reducible apply (heap_drew_at _ _).trans) | (with_reducible apply (heap_drewN_at _ _ _).trans) | (simp only [List.size_toArray, List.length_cons, List.length_nil]; done))) (by exact rfl))
  have h1 : w4.heap[w1.heap.size]? = some (.cells #[.int .u16 100, .int .u32 0, .int .u16 0, .int .u8 0] 25 (0, 0)) := (hb.block (w1.heap.size) (by first | omega | (simp; done) | (simp; omega))).trans (Eq.trans (b := some (Obj.cells _ _ (0, 0))) (by repeat (first | (with_reducible assumption) | (with_reducible apply heap_set_row11) | (with_reducible apply heap_set_row4) | (with_reducible apply heap_set_same) | ((with_reducible apply heap_set_other'); (focus (first | omega | (simp; done) | (simp; omega)))) | ((with_reducible apply heap_alloc_new); (focus (first | omega | (simp; done) | (simp; omega)))) | (with_reducible apply heap_alloc_old') | (with_reducible apply (heap_drew_at _ _).trans) | (with_reducible apply (heap_drewN_at _ _ _).trans) | (simp only [List.size_toArray, List.length_cons, List.length_nil]; done))) (by exact rfl))
  have h2 : w4.heap[w3.heap.size]? = some (.cells #[.int .u16 101, .int .u32 0, .int .u16 8, .int .u8 0] 25 (0, 0)) := (hb.block (w3.heap.size) (by first | omega | (simp; done) | (simp; omega))).trans (Eq.trans (b := some (Obj.cells _ _ (0, 0))) (by repeat (first | (with_reducible assumption) | (with_reducible apply heap_set_row11) | (with_reducible apply heap_set_row4) | (with_reducible apply heap_set_same) | ((with_reducible apply heap_set_other'); (focus (first | omega | (simp; done) | (simp; omega)))) | ((with_reducible apply heap_alloc_new); (focus (first | omega | (simp; done) | (simp; omega)))) | (with_reducible apply heap_alloc_old') | (with_reducible apply (heap_drew_at _ _).trans) | (with_reducible apply (heap_drewN_at _ _ _).trans) | (simp only [List.size_toArray, List.length_cons, List.length_nil]; done))) (by exact rfl))
  clear hb
  (try clear g0)
  obtain ⟨c0, f0, z0⟩ := blk_facts h0
  (try clear g1)
  obtain ⟨c1, f1, z1⟩ := blk_facts h1
  (try clear g2)
  obtain ⟨c2, f2, z2⟩ := blk_facts h2
  have z4 := hB.size
  go_wp2_with fail
  with_reducible refine (send_st ⟨true, 7, 7, ⟨65441, 4294964301, 65527, 255⟩, ⟨102, 3000, 9, 1⟩⟩ ⟨true, 7, 7, ⟨65441, 4294964301, 65527, 255⟩, ⟨102, 3000, 9, 1⟩⟩ ⟨6, 0, 0, 0⟩ ⟨0, 0, 0, 0⟩ false _ ex5 (by decide) (by decide)).mono ?_
  rintro e w5 ⟨rfl, hb⟩
  (try (have g0 := h0; clear h0 f0 c0))
  (try (have g1 := h1; clear h1 f1 c1))
  (try (have g2 := h2; clear h2 f2 c2))
  (try (have g3 := h3; clear h3 f3 c3))
  have hB := below_next (w := w) (by go_grown) hb
  have h0 : w5.heap[w.heap.size]? = some (.cells #[.bool true, .int .i64 7, .int .i64 7, .int .u16 65441, .int .u32 4294964301, .int .u16 65527, .int .u8 255, .int .u16 102, .int .u32 3000, .int .u16 9, .int .u8 1] 27 (0, 0)) := (hb.block (w.heap.size) (by first | omega | (simp; done) | (simp; omega))).trans (Eq.trans (b := some (Obj.cells _ _ (0, 0))) (by repeat (first | (with_reducible assumption) | (with_reducible apply heap_set_row11) | (with_reducible apply heap_set_row4) | (with_reducible apply heap_set_same) | ((with_reducible apply heap_set_other'); (focus (first | omega | (simp; done) | (simp; omega)))) | ((with_reducible apply heap_alloc_new); (focus (first | omega | (simp; done) | (simp; omega)))) | (with_reducible apply heap_alloc_old') | (with_reducible apply (heap_drew_at _ _).trans) | (with_reducible apply (heap_drewN_at _ _ _).trans) | (simp only [List.size_toArray, List.length_cons, List.length_nil]; done))) (by exact rfl))
  have h1 : w5.heap[w1.heap.size]? = some (.cells #[.int .u16 100, .int .u32 0, .int .u16 0, .int .u8 0] 25 (0, 0)) := (hb.block (w1.heap.size) (by first | omega | (simp; done) | (simp; omega))).trans (Eq.trans (b := some (Obj.cells _ _ (0, 0))) (by repeat (first | (with_reducible assumption) | (with_reducible apply heap_set_row11) | (with_reducible apply heap_set_row4) | (with_reducible apply heap_set_same) | ((with_reducible apply heap_set_other'); (focus (first | omega | (simp; done) | (simp; omega)))) | ((with_reducible apply heap_alloc_new); (focus (first | omega | (simp; done) | (simp; omega)))) | (with_reducible apply heap_alloc_old') | (with_reducible apply (heap_drew_at _ _).trans) | (with_reducible apply (heap_drewN_at _ _ _).trans) | (simp only [List.size_toArray, List.length_cons, List.length_nil]; done))) (by exact rfl))
  have h2 : w5.heap[w3.heap.size]? = some (.cells #[.int .u16 101, .int .u32 0, .int .u16 8, .int .u8 0] 25 (0, 0)) := (hb.block (w3.heap.size) (by first | omega | (simp; done) | (simp; omega))).trans (Eq.trans (b := some (Obj.cells _ _ (0, 0))) (by repeat (first | (with_reducible assumption) | (with_reducible apply heap_set_row11) | (with_reducible apply heap_set_row4) | (with_reducible apply heap_set_same) | ((with_reducible apply heap_set_other'); (focus (first | omega | (simp; done) | (simp; omega)))) | ((with_reducible apply heap_alloc_new); (focus (first | omega | (simp; done) | (simp; omega)))) | (with_reducible apply heap_alloc_old') | (with_reducible apply (heap_drew_at _ _).trans) | (with_reducible apply (heap_drewN_at _ _ _).trans) | (simp only [List.size_toArray, List.length_cons, List.length_nil]; done))) (by exact rfl))
  have h3 : w5.heap[w4.heap.size]? = some (.cells #[.int .u16 102, .int .u32 3000, .int .u16 9, .int .u8 1] 25 (0, 0)) := (hb.block (w4.heap.size) (by first | omega | (simp; done) | (simp; omega))).trans (Eq.trans (b := some (Obj.cells _ _ (0, 0))) (by repeat (first | (with_reducible assumption) | (with_reducible apply heap_set_row11) | (with_reducible apply heap_set_row4) | (with_reducible apply heap_set_same) | ((with_reducible apply heap_set_other'); (focus (first | omega | (simp; done) | (simp; omega)))) | ((with_reducible apply heap_alloc_new); (focus (first | omega | (simp; done) | (simp; omega)))) | (with_reducible apply heap_alloc_old') | (with_reducible apply (heap_drew_at _ _).trans) | (with_reducible apply (heap_drewN_at _ _ _).trans) | (simp only [List.size_toArray, List.length_cons, List.length_nil]; done))) (by exact rfl))
  clear hb
  (try clear g0)
  obtain ⟨c0, f0, z0⟩ := blk_facts h0
  (try clear g1)
  obtain ⟨c1, f1, z1⟩ := blk_facts h1
  (try clear g2)
  obtain ⟨c2, f2, z2⟩ := blk_facts h2
  (try clear g3)
  obtain ⟨c3, f3, z3⟩ := blk_facts h3
  have z5 := hB.size
  go_wp2_with fail
  go_ret
  exact ⟨rfl, by go_grown⟩
end Go.Proofs.Ytidpkmabcndknaa
