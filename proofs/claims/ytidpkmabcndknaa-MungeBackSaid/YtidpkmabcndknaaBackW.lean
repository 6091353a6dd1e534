/- The law MungeBack, walked. -/
import Derived.Test.YtidpkmabcndknaaAwake
namespace Go.Proofs.Ytidpkmabcndknaa
set_option linter.unusedSimpArgs false
set_option linter.unusedVariables false
open Go.RowKit

set_option maxRecDepth 100000 in
set_option maxHeartbeats 4000000 in
theorem back_walk (s : St) (x : Nu) (w : World) (hoff : s.off.Ok) (hout : s.out.Ok) (hx : x.Ok) :
    Calls Try.prog 8 #[.agg #[.bool s.on, .int .i64 s.high, .int .i64 s.since, .int .u16 s.off.seq, .int .u32 s.off.time, .int .u16 s.off.pic, .int .u8 s.off.tl0, .int .u16 s.out.seq, .int .u32 s.out.time, .int .u16 s.out.pic, .int .u8 s.out.tl0], .agg #[.int .u16 x.seq, .int .u32 x.time, .int .u16 x.pic, .int .u8 x.tl0]] w fun e w' => e = .returned (.bool true) ∧ Below w.heap.size w w' := by
  by_cases hh : 1099511627776 < s.high
  · go_enter Try.func8, Try.ntmps8
    go_wp2_with fail
    (with_reducible refine (awake_any _).mono ?_)
    rintro e w1 ⟨rfl, hb⟩
    (try (have g0 := h0; clear h0 f0 c0))
    (try (have g1 := h1; clear h1 f1 c1))
    have hB := below_next (w := w) (by go_grown) hb
    have h0 : w1.heap[w.heap.size]? = some (.cells #[.bool s.on, .int .i64 s.high, .int .i64 s.since, .int .u16 s.off.seq, .int .u32 s.off.time, .int .u16 s.off.pic, .int .u8 s.off.tl0, .int .u16 s.out.seq, .int .u32 s.out.time, .int .u16 s.out.pic, .int .u8 s.out.tl0] 27 (0, 0)) := (hb.block (w.heap.size) (by first | omega | (simp; done) | (simp; omega))).trans (Eq.trans (b := some (Obj.cells _ _ (0, 0))) (by repeat (first | (with_reducible assumption) | (with_reducible apply heap_set_row11) | (with_reducible apply heap_set_row4) | (with_reducible apply heap_set_same) | ((with_reducible apply heap_set_other'); (focus (first | omega | (simp; done) | (simp; omega)))) | ((with_reducible apply heap_alloc_new); (focus (first | omega | (simp; done) | (simp; omega)))) | (with_reducible apply heap_alloc_old') | (with_reducible apply (heap_drew_at _ _).trans) | (with_reducible apply (heap_drewN_at _ _ _).trans) | (simp only [List.size_toArray, List.length_cons, List.length_nil]; done))) (by exact rfl))
    have h1 : w1.heap[w.heap.size + 1]? = some (.cells #[.int .u16 x.seq, .int .u32 x.time, .int .u16 x.pic, .int .u8 x.tl0] 25 (0, 0)) := (hb.block (w.heap.size + 1) (by first | omega | (simp; done) | (simp; omega))).trans (Eq.trans (b := some (Obj.cells _ _ (0, 0))) (by repeat (first | (with_reducible assumption) | (with_reducible apply heap_set_row11) | (with_reducible apply heap_set_row4) | (with_reducible apply heap_set_same) | ((with_reducible apply heap_set_other'); (focus (first | omega | (simp; done) | (simp; omega)))) | ((with_reducible apply heap_alloc_new); (focus (first | omega | (simp; done) | (simp; omega)))) | (with_reducible apply heap_alloc_old') | (with_reducible apply (heap_drew_at _ _).trans) | (with_reducible apply (heap_drewN_at _ _ _).trans) | (simp only [List.size_toArray, List.length_cons, List.length_nil]; done))) (by exact rfl))
    clear hb
    (try clear g0)
    obtain ⟨c0, f0, z0⟩ := blk_facts h0
    (try clear g1)
    obtain ⟨c1, f1, z1⟩ := blk_facts h1
    go_wp2_with fail
    go_ret
    exact ⟨rfl, by go_grown⟩
  by_cases hl : s.high < -1099511627776
  · go_enter Try.func8, Try.ntmps8
    go_wp2_with fail
    (with_reducible refine (awake_any _).mono ?_)
    rintro e w1 ⟨rfl, hb⟩
    (try (have g0 := h0; clear h0 f0 c0))
    (try (have g1 := h1; clear h1 f1 c1))
    have hB := below_next (w := w) (by go_grown) hb
    have h0 : w1.heap[w.heap.size]? = some (.cells #[.bool s.on, .int .i64 s.high, .int .i64 s.since, .int .u16 s.off.seq, .int .u32 s.off.time, .int .u16 s.off.pic, .int .u8 s.off.tl0, .int .u16 s.out.seq, .int .u32 s.out.time, .int .u16 s.out.pic, .int .u8 s.out.tl0] 27 (0, 0)) := (hb.block (w.heap.size) (by first | omega | (simp; done) | (simp; omega))).trans (Eq.trans (b := some (Obj.cells _ _ (0, 0))) (by repeat (first | (with_reducible assumption) | (with_reducible apply heap_set_row11) | (with_reducible apply heap_set_row4) | (with_reducible apply heap_set_same) | ((with_reducible apply heap_set_other'); (focus (first | omega | (simp; done) | (simp; omega)))) | ((with_reducible apply heap_alloc_new); (focus (first | omega | (simp; done) | (simp; omega)))) | (with_reducible apply heap_alloc_old') | (with_reducible apply (heap_drew_at _ _).trans) | (with_reducible apply (heap_drewN_at _ _ _).trans) | (simp only [List.size_toArray, List.length_cons, List.length_nil]; done))) (by exact rfl))
    have h1 : w1.heap[w.heap.size + 1]? = some (.cells #[.int .u16 x.seq, .int .u32 x.time, .int .u16 x.pic, .int .u8 x.tl0] 25 (0, 0)) := (hb.block (w.heap.size + 1) (by first | omega | (simp; done) | (simp; omega))).trans (Eq.trans (b := some (Obj.cells _ _ (0, 0))) (by repeat (first | (with_reducible assumption) | (with_reducible apply heap_set_row11) | (with_reducible apply heap_set_row4) | (with_reducible apply heap_set_same) | ((with_reducible apply heap_set_other'); (focus (first | omega | (simp; done) | (simp; omega)))) | ((with_reducible apply heap_alloc_new); (focus (first | omega | (simp; done) | (simp; omega)))) | (with_reducible apply heap_alloc_old') | (with_reducible apply (heap_drew_at _ _).trans) | (with_reducible apply (heap_drewN_at _ _ _).trans) | (simp only [List.size_toArray, List.length_cons, List.length_nil]; done))) (by exact rfl))
    clear hb
    (try clear g0)
    obtain ⟨c0, f0, z0⟩ := blk_facts h0
    (try clear g1)
    obtain ⟨c1, f1, z1⟩ := blk_facts h1
    go_wp2_with fail
    go_ret
    exact ⟨rfl, by go_grown⟩
  obtain ⟨x0, x1, _⟩ := id hx
  obtain ⟨o, ho⟩ : ∃ o, toldF s x 9 = o := ⟨_, rfl⟩
  obtain ⟨d, hd⟩ : ∃ d, fromF o x = d := ⟨_, rfl⟩
  have hsb := switch_back s x 9 hx hout
  have hsd : (switchF s x 9).off = d := by rw [← hd, ← ho]; rfl
  rw [hsd, ho] at hsb
  obtain ⟨e1, e2, e3, e4⟩ := hsb
  rw [← u16_mod] at e1 e3
  have e2' := e2
  rw [← u32_mod] at e2
  rw [← u8_mod] at e4
  have HO := Lib.hid ho; clear ho
  have HD := Lib.hid hd; clear hd hsd
  have E1 := Lib.hid e1; clear e1
  have E2 := Lib.hid e2; clear e2
  have E2' := Lib.hid e2'; clear e2'
  have E3 := Lib.hid e3; clear e3
  have E4 := Lib.hid e4; clear e4
  have hsend := send_back s x hx hoff
  generalize hr : sendF s x = r at hsend
  obtain ⟨⟨on', h', si', off', out'⟩, ⟨ms, mt, mp, ml⟩, is⟩ := r
  dsimp only at hsend
  rcases hsend with ⟨rfl, q1, q2⟩ | ⟨rfl, q1, q2, q3, q4, q5⟩
  · rw [q1, q2] at hr
    have HR : Hid (sendF s x = (s, ⟨0, 0, 0, 0⟩, false)) := Lib.hid hr
    clear hr q1 q2
    go_enter Try.func8, Try.ntmps8
    go_wp2_with fail
    (with_reducible refine (awake_any _).mono ?_)
    rintro e w1 ⟨rfl, hb⟩
    (try (have g0 := h0; clear h0 f0 c0))
    (try (have g1 := h1; clear h1 f1 c1))
    have hB := below_next (w := w) (by go_grown) hb
    have h0 : w1.heap[w.heap.size]? = some (.cells #[.bool s.on, .int .i64 s.high, .int .i64 s.since, .int .u16 s.off.seq, .int .u32 s.off.time, .int .u16 s.off.pic, .int .u8 s.off.tl0, .int .u16 s.out.seq, .int .u32 s.out.time, .int .u16 s.out.pic, .int .u8 s.out.tl0] 27 (0, 0)) := (hb.block (w.heap.size) (by first | omega | (simp; done) | (simp; omega))).trans (Eq.trans (b := some (Obj.cells _ _ (0, 0))) (by repeat (first | (with_reducible assumption) | (with_reducible apply heap_set_row11) | (with_reducible apply heap_set_row4) | (with_reducible apply heap_set_same) | ((with_reducible apply heap_set_other'); (focus (first | omega | (simp; done) | (simp; omega)))) | ((with_reducible apply heap_alloc_new); (focus (first | omega | (simp; done) | (simp; omega)))) | (with_reducible apply heap_alloc_old') | (with_reducible apply (heap_drew_at _ _).trans) | (with_reducible apply (heap_drewN_at _ _ _).trans) | (simp only [List.size_toArray, List.length_cons, List.length_nil]; done))) (by exact rfl))
    have h1 : w1.heap[w.heap.size + 1]? = some (.cells #[.int .u16 x.seq, .int .u32 x.time, .int .u16 x.pic, .int .u8 x.tl0] 25 (0, 0)) := (hb.block (w.heap.size + 1) (by first | omega | (simp; done) | (simp; omega))).trans (Eq.trans (b := some (Obj.cells _ _ (0, 0))) (by repeat (first | (with_reducible assumption) | (with_reducible apply heap_set_row11) | (with_reducible apply heap_set_row4) | (with_reducible apply heap_set_same) | ((with_reducible apply heap_set_other'); (focus (first | omega | (simp; done) | (simp; omega)))) | ((with_reducible apply heap_alloc_new); (focus (first | omega | (simp; done) | (simp; omega)))) | (with_reducible apply heap_alloc_old') | (with_reducible apply (heap_drew_at _ _).trans) | (with_reducible apply (heap_drewN_at _ _ _).trans) | (simp only [List.size_toArray, List.length_cons, List.length_nil]; done))) (by exact rfl))
    clear hb
    (try clear g0)
    obtain ⟨c0, f0, z0⟩ := blk_facts h0
    (try clear g1)
    obtain ⟨c1, f1, z1⟩ := blk_facts h1
    have y1 := hB.size
    go_wp2_with fail
    with_reducible refine (send_st s s x ⟨0, 0, 0, 0⟩ false _ HR.out (by omega) (by omega)).mono ?_
    rintro e w2 ⟨rfl, hb⟩
    (try (have g0 := h0; clear h0 f0 c0))
    (try (have g1 := h1; clear h1 f1 c1))
    have hB := below_next (w := w) (by go_grown) hb
    have h0 : w2.heap[w.heap.size]? = some (.cells #[.bool s.on, .int .i64 s.high, .int .i64 s.since, .int .u16 s.off.seq, .int .u32 s.off.time, .int .u16 s.off.pic, .int .u8 s.off.tl0, .int .u16 s.out.seq, .int .u32 s.out.time, .int .u16 s.out.pic, .int .u8 s.out.tl0] 27 (0, 0)) := (hb.block (w.heap.size) (by first | omega | (simp; done) | (simp; omega))).trans (Eq.trans (b := some (Obj.cells _ _ (0, 0))) (by repeat (first | (with_reducible assumption) | (with_reducible apply heap_set_row11) | (with_reducible apply heap_set_row4) | (with_reducible apply heap_set_same) | ((with_reducible apply heap_set_other'); (focus (first | omega | (simp; done) | (simp; omega)))) | ((with_reducible apply heap_alloc_new); (focus (first | omega | (simp; done) | (simp; omega)))) | (with_reducible apply heap_alloc_old') | (with_reducible apply (heap_drew_at _ _).trans) | (with_reducible apply (heap_drewN_at _ _ _).trans) | (simp only [List.size_toArray, List.length_cons, List.length_nil]; done))) (by exact rfl))
    have h1 : w2.heap[w.heap.size + 1]? = some (.cells #[.int .u16 x.seq, .int .u32 x.time, .int .u16 x.pic, .int .u8 x.tl0] 25 (0, 0)) := (hb.block (w.heap.size + 1) (by first | omega | (simp; done) | (simp; omega))).trans (Eq.trans (b := some (Obj.cells _ _ (0, 0))) (by repeat (first | (with_reducible assumption) | (with_reducible apply heap_set_row11) | (with_reducible apply heap_set_row4) | (with_reducible apply heap_set_same) | ((with_reducible apply heap_set_other'); (focus (first | omega | (simp; done) | (simp; omega)))) | ((with_reducible apply heap_alloc_new); (focus (first | omega | (simp; done) | (simp; omega)))) | (with_reducible apply heap_alloc_old') | (with_reducible apply (heap_drew_at _ _).trans) | (with_reducible apply (heap_drewN_at _ _ _).trans) | (simp only [List.size_toArray, List.length_cons, List.length_nil]; done))) (by exact rfl))
    clear hb
    (try clear g0)
    obtain ⟨c0, f0, z0⟩ := blk_facts h0
    (try clear g1)
    obtain ⟨c1, f1, z1⟩ := blk_facts h1
    have y2 := hB.size
    go_wp2_with fail
    with_reducible refine (switch_eq s x o d 9 _ HO.out HD.out x0 x1).mono ?_
    rintro e w3 ⟨rfl, hb⟩
    (try (have g0 := h0; clear h0 f0 c0))
    (try (have g1 := h1; clear h1 f1 c1))
    (try (have g2 := h2; clear h2 f2 c2))
    (try (have g3 := h3; clear h3 f3 c3))
    have hB := below_next (w := w) (by go_grown) hb
    have h0 : w3.heap[w.heap.size]? = some (.cells #[.bool s.on, .int .i64 s.high, .int .i64 s.since, .int .u16 s.off.seq, .int .u32 s.off.time, .int .u16 s.off.pic, .int .u8 s.off.tl0, .int .u16 s.out.seq, .int .u32 s.out.time, .int .u16 s.out.pic, .int .u8 s.out.tl0] 27 (0, 0)) := (hb.block (w.heap.size) (by first | omega | (simp; done) | (simp; omega))).trans (Eq.trans (b := some (Obj.cells _ _ (0, 0))) (by repeat (first | (with_reducible assumption) | (with_reducible apply heap_set_row11) | (with_reducible apply heap_set_row4) | (with_reducible apply heap_set_same) | ((with_reducible apply heap_set_other'); (focus (first | omega | (simp; done) | (simp; omega)))) | ((with_reducible apply heap_alloc_new); (focus (first | omega | (simp; done) | (simp; omega)))) | (with_reducible apply heap_alloc_old') | (with_reducible apply (heap_drew_at _ _).trans) | (with_reducible apply (heap_drewN_at _ _ _).trans) | (simp only [List.size_toArray, List.length_cons, List.length_nil]; done))) (by exact rfl))
    have h1 : w3.heap[w.heap.size + 1]? = some (.cells #[.int .u16 x.seq, .int .u32 x.time, .int .u16 x.pic, .int .u8 x.tl0] 25 (0, 0)) := (hb.block (w.heap.size + 1) (by first | omega | (simp; done) | (simp; omega))).trans (Eq.trans (b := some (Obj.cells _ _ (0, 0))) (by repeat (first | (with_reducible assumption) | (with_reducible apply heap_set_row11) | (with_reducible apply heap_set_row4) | (with_reducible apply heap_set_same) | ((with_reducible apply heap_set_other'); (focus (first | omega | (simp; done) | (simp; omega)))) | ((with_reducible apply heap_alloc_new); (focus (first | omega | (simp; done) | (simp; omega)))) | (with_reducible apply heap_alloc_old') | (with_reducible apply (heap_drew_at _ _).trans) | (with_reducible apply (heap_drewN_at _ _ _).trans) | (simp only [List.size_toArray, List.length_cons, List.length_nil]; done))) (by exact rfl))
    have h2 : w3.heap[w2.heap.size]? = some (.cells #[.bool s.on, .int .i64 s.high, .int .i64 s.since, .int .u16 s.off.seq, .int .u32 s.off.time, .int .u16 s.off.pic, .int .u8 s.off.tl0, .int .u16 s.out.seq, .int .u32 s.out.time, .int .u16 s.out.pic, .int .u8 s.out.tl0] 27 (0, 0)) := (hb.block (w2.heap.size) (by first | omega | (simp; done) | (simp; omega))).trans (Eq.trans (b := some (Obj.cells _ _ (0, 0))) (by repeat (first | (with_reducible assumption) | (with_reducible apply heap_set_row11) | (with_reducible apply heap_set_row4) | (with_reducible apply heap_set_same) | ((with_reducible apply heap_set_other'); (focus (first | omega | (simp; done) | (simp; omega)))) | ((with_reducible apply heap_alloc_new); (focus (first | omega | (simp; done) | (simp; omega)))) | (with_reducible apply heap_alloc_old') | (with_reducible apply (heap_drew_at _ _).trans) | (with_reducible apply (heap_drewN_at _ _ _).trans) | (simp only [List.size_toArray, List.length_cons, List.length_nil]; done))) (by exact rfl))
    have h3 : w3.heap[w2.heap.size + 1]? = some (.cells #[.int .u16 0, .int .u32 0, .int .u16 0, .int .u8 0] 25 (0, 0)) := (hb.block (w2.heap.size + 1) (by first | omega | (simp; done) | (simp; omega))).trans (Eq.trans (b := some (Obj.cells _ _ (0, 0))) (by repeat (first | (with_reducible assumption) | (with_reducible apply heap_set_row11) | (with_reducible apply heap_set_row4) | (with_reducible apply heap_set_same) | ((with_reducible apply heap_set_other'); (focus (first | omega | (simp; done) | (simp; omega)))) | ((with_reducible apply heap_alloc_new); (focus (first | omega | (simp; done) | (simp; omega)))) | (with_reducible apply heap_alloc_old') | (with_reducible apply (heap_drew_at _ _).trans) | (with_reducible apply (heap_drewN_at _ _ _).trans) | (simp only [List.size_toArray, List.length_cons, List.length_nil]; done))) (by exact rfl))
    clear hb
    (try clear g0)
    obtain ⟨c0, f0, z0⟩ := blk_facts h0
    (try clear g1)
    obtain ⟨c1, f1, z1⟩ := blk_facts h1
    (try clear g2)
    obtain ⟨c2, f2, z2⟩ := blk_facts h2
    (try clear g3)
    obtain ⟨c3, f3, z3⟩ := blk_facts h3
    have y3 := hB.size
    have e1 := E1.out
    have e2 := E2.out
    have e2' := E2'.out
    have e3 := E3.out
    have e4 := E4.out
    go_wp2_with fail
    go_ret
    exact ⟨rfl, by go_grown⟩
  · subst q1
    have HR := Lib.hid hr; clear hr
    rw [← u16_mod] at q2 q3
    rw [← u8_mod] at q4
    have Q2 := Lib.hid q2; clear q2
    have Q3 := Lib.hid q3; clear q3
    have Q4 := Lib.hid q4; clear q4
    by_cases hq : (mt + s.off.time) % 4294967296 = x.time
    · have q5' : IntKind.u32.wrap (mt + s.off.time) = x.time := by rw [u32_mod]; exact hq
      have Q5 := Lib.hid hq; clear hq q5
      have Q5' := Lib.hid q5'; clear q5'
      go_enter Try.func8, Try.ntmps8
      go_wp2_with fail
      (with_reducible refine (awake_any _).mono ?_)
      rintro e w1 ⟨rfl, hb⟩
      (try (have g0 := h0; clear h0 f0 c0))
      (try (have g1 := h1; clear h1 f1 c1))
      have hB := below_next (w := w) (by go_grown) hb
      have h0 : w1.heap[w.heap.size]? = some (.cells #[.bool s.on, .int .i64 s.high, .int .i64 s.since, .int .u16 s.off.seq, .int .u32 s.off.time, .int .u16 s.off.pic, .int .u8 s.off.tl0, .int .u16 s.out.seq, .int .u32 s.out.time, .int .u16 s.out.pic, .int .u8 s.out.tl0] 27 (0, 0)) := (hb.block (w.heap.size) (by first | omega | (simp; done) | (simp; omega))).trans (Eq.trans (b := some (Obj.cells _ _ (0, 0))) (by repeat (first | (with_reducible assumption) | (with_reducible apply heap_set_row11) | (with_reducible apply heap_set_row4) | (with_reducible apply heap_set_same) | ((with_reducible apply heap_set_other'); (focus (first | omega | (simp; done) | (simp; omega)))) | ((with_reducible apply heap_alloc_new); (focus (first | omega | (simp; done) | (simp; omega)))) | (with_reducible apply heap_alloc_old') | (with_reducible apply (heap_drew_at _ _).trans) | (with_reducible apply (heap_drewN_at _ _ _).trans) | (simp only [List.size_toArray, List.length_cons, List.length_nil]; done))) (by exact rfl))
      have h1 : w1.heap[w.heap.size + 1]? = some (.cells #[.int .u16 x.seq, .int .u32 x.time, .int .u16 x.pic, .int .u8 x.tl0] 25 (0, 0)) := (hb.block (w.heap.size + 1) (by first | omega | (simp; done) | (simp; omega))).trans (Eq.trans (b := some (Obj.cells _ _ (0, 0))) (by repeat (first | (with_reducible assumption) | (with_reducible apply heap_set_row11) | (with_reducible apply heap_set_row4) | (with_reducible apply heap_set_same) | ((with_reducible apply heap_set_other'); (focus (first | omega | (simp; done) | (simp; omega)))) | ((with_reducible apply heap_alloc_new); (focus (first | omega | (simp; done) | (simp; omega)))) | (with_reducible apply heap_alloc_old') | (with_reducible apply (heap_drew_at _ _).trans) | (with_reducible apply (heap_drewN_at _ _ _).trans) | (simp only [List.size_toArray, List.length_cons, List.length_nil]; done))) (by exact rfl))
      clear hb
      (try clear g0)
      obtain ⟨c0, f0, z0⟩ := blk_facts h0
      (try clear g1)
      obtain ⟨c1, f1, z1⟩ := blk_facts h1
      have y1 := hB.size
      go_wp2_with fail
      with_reducible refine (send_st s ⟨on', h', si', s.off, out'⟩ x ⟨ms, mt, mp, ml⟩ true _ HR.out (by omega) (by omega)).mono ?_
      rintro e w2 ⟨rfl, hb⟩
      (try (have g0 := h0; clear h0 f0 c0))
      (try (have g1 := h1; clear h1 f1 c1))
      have hB := below_next (w := w) (by go_grown) hb
      have h0 : w2.heap[w.heap.size]? = some (.cells #[.bool s.on, .int .i64 s.high, .int .i64 s.since, .int .u16 s.off.seq, .int .u32 s.off.time, .int .u16 s.off.pic, .int .u8 s.off.tl0, .int .u16 s.out.seq, .int .u32 s.out.time, .int .u16 s.out.pic, .int .u8 s.out.tl0] 27 (0, 0)) := (hb.block (w.heap.size) (by first | omega | (simp; done) | (simp; omega))).trans (Eq.trans (b := some (Obj.cells _ _ (0, 0))) (by repeat (first | (with_reducible assumption) | (with_reducible apply heap_set_row11) | (with_reducible apply heap_set_row4) | (with_reducible apply heap_set_same) | ((with_reducible apply heap_set_other'); (focus (first | omega | (simp; done) | (simp; omega)))) | ((with_reducible apply heap_alloc_new); (focus (first | omega | (simp; done) | (simp; omega)))) | (with_reducible apply heap_alloc_old') | (with_reducible apply (heap_drew_at _ _).trans) | (with_reducible apply (heap_drewN_at _ _ _).trans) | (simp only [List.size_toArray, List.length_cons, List.length_nil]; done))) (by exact rfl))
      have h1 : w2.heap[w.heap.size + 1]? = some (.cells #[.int .u16 x.seq, .int .u32 x.time, .int .u16 x.pic, .int .u8 x.tl0] 25 (0, 0)) := (hb.block (w.heap.size + 1) (by first | omega | (simp; done) | (simp; omega))).trans (Eq.trans (b := some (Obj.cells _ _ (0, 0))) (by repeat (first | (with_reducible assumption) | (with_reducible apply heap_set_row11) | (with_reducible apply heap_set_row4) | (with_reducible apply heap_set_same) | ((with_reducible apply heap_set_other'); (focus (first | omega | (simp; done) | (simp; omega)))) | ((with_reducible apply heap_alloc_new); (focus (first | omega | (simp; done) | (simp; omega)))) | (with_reducible apply heap_alloc_old') | (with_reducible apply (heap_drew_at _ _).trans) | (with_reducible apply (heap_drewN_at _ _ _).trans) | (simp only [List.size_toArray, List.length_cons, List.length_nil]; done))) (by exact rfl))
      clear hb
      (try clear g0)
      obtain ⟨c0, f0, z0⟩ := blk_facts h0
      (try clear g1)
      obtain ⟨c1, f1, z1⟩ := blk_facts h1
      have y2 := hB.size
      go_wp2_with fail
      with_reducible refine (switch_eq s x o d 9 _ HO.out HD.out x0 x1).mono ?_
      rintro e w3 ⟨rfl, hb⟩
      (try (have g0 := h0; clear h0 f0 c0))
      (try (have g1 := h1; clear h1 f1 c1))
      (try (have g2 := h2; clear h2 f2 c2))
      (try (have g3 := h3; clear h3 f3 c3))
      have hB := below_next (w := w) (by go_grown) hb
      have h0 : w3.heap[w.heap.size]? = some (.cells #[.bool s.on, .int .i64 s.high, .int .i64 s.since, .int .u16 s.off.seq, .int .u32 s.off.time, .int .u16 s.off.pic, .int .u8 s.off.tl0, .int .u16 s.out.seq, .int .u32 s.out.time, .int .u16 s.out.pic, .int .u8 s.out.tl0] 27 (0, 0)) := (hb.block (w.heap.size) (by first | omega | (simp; done) | (simp; omega))).trans (Eq.trans (b := some (Obj.cells _ _ (0, 0))) (by repeat (first | (with_reducible assumption) | (with_reducible apply heap_set_row11) | (with_reducible apply heap_set_row4) | (with_reducible apply heap_set_same) | ((with_reducible apply heap_set_other'); (focus (first | omega | (simp; done) | (simp; omega)))) | ((with_reducible apply heap_alloc_new); (focus (first | omega | (simp; done) | (simp; omega)))) | (with_reducible apply heap_alloc_old') | (with_reducible apply (heap_drew_at _ _).trans) | (with_reducible apply (heap_drewN_at _ _ _).trans) | (simp only [List.size_toArray, List.length_cons, List.length_nil]; done))) (by exact rfl))
      have h1 : w3.heap[w.heap.size + 1]? = some (.cells #[.int .u16 x.seq, .int .u32 x.time, .int .u16 x.pic, .int .u8 x.tl0] 25 (0, 0)) := (hb.block (w.heap.size + 1) (by first | omega | (simp; done) | (simp; omega))).trans (Eq.trans (b := some (Obj.cells _ _ (0, 0))) (by repeat (first | (with_reducible assumption) | (with_reducible apply heap_set_row11) | (with_reducible apply heap_set_row4) | (with_reducible apply heap_set_same) | ((with_reducible apply heap_set_other'); (focus (first | omega | (simp; done) | (simp; omega)))) | ((with_reducible apply heap_alloc_new); (focus (first | omega | (simp; done) | (simp; omega)))) | (with_reducible apply heap_alloc_old') | (with_reducible apply (heap_drew_at _ _).trans) | (with_reducible apply (heap_drewN_at _ _ _).trans) | (simp only [List.size_toArray, List.length_cons, List.length_nil]; done))) (by exact rfl))
      have h2 : w3.heap[w2.heap.size]? = some (.cells #[.bool on', .int .i64 h', .int .i64 si', .int .u16 s.off.seq, .int .u32 s.off.time, .int .u16 s.off.pic, .int .u8 s.off.tl0, .int .u16 out'.seq, .int .u32 out'.time, .int .u16 out'.pic, .int .u8 out'.tl0] 27 (0, 0)) := (hb.block (w2.heap.size) (by first | omega | (simp; done) | (simp; omega))).trans (Eq.trans (b := some (Obj.cells _ _ (0, 0))) (by repeat (first | (with_reducible assumption) | (with_reducible apply heap_set_row11) | (with_reducible apply heap_set_row4) | (with_reducible apply heap_set_same) | ((with_reducible apply heap_set_other'); (focus (first | omega | (simp; done) | (simp; omega)))) | ((with_reducible apply heap_alloc_new); (focus (first | omega | (simp; done) | (simp; omega)))) | (with_reducible apply heap_alloc_old') | (with_reducible apply (heap_drew_at _ _).trans) | (with_reducible apply (heap_drewN_at _ _ _).trans) | (simp only [List.size_toArray, List.length_cons, List.length_nil]; done))) (by exact rfl))
      have h3 : w3.heap[w2.heap.size + 1]? = some (.cells #[.int .u16 ms, .int .u32 mt, .int .u16 mp, .int .u8 ml] 25 (0, 0)) := (hb.block (w2.heap.size + 1) (by first | omega | (simp; done) | (simp; omega))).trans (Eq.trans (b := some (Obj.cells _ _ (0, 0))) (by repeat (first | (with_reducible assumption) | (with_reducible apply heap_set_row11) | (with_reducible apply heap_set_row4) | (with_reducible apply heap_set_same) | ((with_reducible apply heap_set_other'); (focus (first | omega | (simp; done) | (simp; omega)))) | ((with_reducible apply heap_alloc_new); (focus (first | omega | (simp; done) | (simp; omega)))) | (with_reducible apply heap_alloc_old') | (with_reducible apply (heap_drew_at _ _).trans) | (with_reducible apply (heap_drewN_at _ _ _).trans) | (simp only [List.size_toArray, List.length_cons, List.length_nil]; done))) (by exact rfl))
      clear hb
      (try clear g0)
      obtain ⟨c0, f0, z0⟩ := blk_facts h0
      (try clear g1)
      obtain ⟨c1, f1, z1⟩ := blk_facts h1
      (try clear g2)
      obtain ⟨c2, f2, z2⟩ := blk_facts h2
      (try clear g3)
      obtain ⟨c3, f3, z3⟩ := blk_facts h3
      have y3 := hB.size
      have e1 := E1.out
      have e2 := E2.out
      have e2' := E2'.out
      have e3 := E3.out
      have e4 := E4.out
      have q2 := Q2.out
      have q3 := Q3.out
      have q4 := Q4.out
      have q5 := Q5.out
      have q5' := Q5'.out
      go_wp2_with fail
      go_ret
      exact ⟨rfl, by go_grown⟩
    · have q6 : mt = s.out.time := by rcases q5 with q | q; exact absurd q hq; exact q
      have hq1 : ((mt + s.off.time) % 4294967296 == x.time) = false := beq_eq_false_iff_ne.2 hq
      have hq2 : (IntKind.u32.wrap (mt + s.off.time) == x.time) = false := by rw [u32_mod]; exact hq1
      subst q6
      have Q5 := Lib.hid hq1; clear hq1 hq q5
      have Q5' := Lib.hid hq2; clear hq2
      go_enter Try.func8, Try.ntmps8
      go_wp2_with fail
      (with_reducible refine (awake_any _).mono ?_)
      rintro e w1 ⟨rfl, hb⟩
      (try (have g0 := h0; clear h0 f0 c0))
      (try (have g1 := h1; clear h1 f1 c1))
      have hB := below_next (w := w) (by go_grown) hb
      have h0 : w1.heap[w.heap.size]? = some (.cells #[.bool s.on, .int .i64 s.high, .int .i64 s.since, .int .u16 s.off.seq, .int .u32 s.off.time, .int .u16 s.off.pic, .int .u8 s.off.tl0, .int .u16 s.out.seq, .int .u32 s.out.time, .int .u16 s.out.pic, .int .u8 s.out.tl0] 27 (0, 0)) := (hb.block (w.heap.size) (by first | omega | (simp; done) | (simp; omega))).trans (Eq.trans (b := some (Obj.cells _ _ (0, 0))) (by repeat (first | (with_reducible assumption) | (with_reducible apply heap_set_row11) | (with_reducible apply heap_set_row4) | (with_reducible apply heap_set_same) | ((with_reducible apply heap_set_other'); (focus (first | omega | (simp; done) | (simp; omega)))) | ((with_reducible apply heap_alloc_new); (focus (first | omega | (simp; done) | (simp; omega)))) | (with_reducible apply heap_alloc_old') | (with_reducible apply (heap_drew_at _ _).trans) | (with_reducible apply (heap_drewN_at _ _ _).trans) | (simp only [List.size_toArray, List.length_cons, List.length_nil]; done))) (by exact rfl))
      have h1 : w1.heap[w.heap.size + 1]? = some (.cells #[.int .u16 x.seq, .int .u32 x.time, .int .u16 x.pic, .int .u8 x.tl0] 25 (0, 0)) := (hb.block (w.heap.size + 1) (by first | omega | (simp; done) | (simp; omega))).trans (Eq.trans (b := some (Obj.cells _ _ (0, 0))) (by repeat (first | (with_reducible assumption) | (with_reducible apply heap_set_row11) | (with_reducible apply heap_set_row4) | (with_reducible apply heap_set_same) | ((with_reducible apply heap_set_other'); (focus (first | omega | (simp; done) | (simp; omega)))) | ((with_reducible apply heap_alloc_new); (focus (first | omega | (simp; done) | (simp; omega)))) | (with_reducible apply heap_alloc_old') | (with_reducible apply (heap_drew_at _ _).trans) | (with_reducible apply (heap_drewN_at _ _ _).trans) | (simp only [List.size_toArray, List.length_cons, List.length_nil]; done))) (by exact rfl))
      clear hb
      (try clear g0)
      obtain ⟨c0, f0, z0⟩ := blk_facts h0
      (try clear g1)
      obtain ⟨c1, f1, z1⟩ := blk_facts h1
      have y1 := hB.size
      go_wp2_with fail
      with_reducible refine (send_st s ⟨on', h', si', s.off, out'⟩ x ⟨ms, s.out.time, mp, ml⟩ true _ HR.out (by omega) (by omega)).mono ?_
      rintro e w2 ⟨rfl, hb⟩
      (try (have g0 := h0; clear h0 f0 c0))
      (try (have g1 := h1; clear h1 f1 c1))
      have hB := below_next (w := w) (by go_grown) hb
      have h0 : w2.heap[w.heap.size]? = some (.cells #[.bool s.on, .int .i64 s.high, .int .i64 s.since, .int .u16 s.off.seq, .int .u32 s.off.time, .int .u16 s.off.pic, .int .u8 s.off.tl0, .int .u16 s.out.seq, .int .u32 s.out.time, .int .u16 s.out.pic, .int .u8 s.out.tl0] 27 (0, 0)) := (hb.block (w.heap.size) (by first | omega | (simp; done) | (simp; omega))).trans (Eq.trans (b := some (Obj.cells _ _ (0, 0))) (by repeat (first | (with_reducible assumption) | (with_reducible apply heap_set_row11) | (with_reducible apply heap_set_row4) | (with_reducible apply heap_set_same) | ((with_reducible apply heap_set_other'); (focus (first | omega | (simp; done) | (simp; omega)))) | ((with_reducible apply heap_alloc_new); (focus (first | omega | (simp; done) | (simp; omega)))) | (with_reducible apply heap_alloc_old') | (with_reducible apply (heap_drew_at _ _).trans) | (with_reducible apply (heap_drewN_at _ _ _).trans) | (simp only [List.size_toArray, List.length_cons, List.length_nil]; done))) (by exact rfl))
      have h1 : w2.heap[w.heap.size + 1]? = some (.cells #[.int .u16 x.seq, .int .u32 x.time, .int .u16 x.pic, .int .u8 x.tl0] 25 (0, 0)) := (hb.block (w.heap.size + 1) (by first | omega | (simp; done) | (simp; omega))).trans (Eq.trans (b := some (Obj.cells _ _ (0, 0))) (by repeat (first | (with_reducible assumption) | (with_reducible apply heap_set_row11) | (with_reducible apply heap_set_row4) | (with_reducible apply heap_set_same) | ((with_reducible apply heap_set_other'); (focus (first | omega | (simp; done) | (simp; omega)))) | ((with_reducible apply heap_alloc_new); (focus (first | omega | (simp; done) | (simp; omega)))) | (with_reducible apply heap_alloc_old') | (with_reducible apply (heap_drew_at _ _).trans) | (with_reducible apply (heap_drewN_at _ _ _).trans) | (simp only [List.size_toArray, List.length_cons, List.length_nil]; done))) (by exact rfl))
      clear hb
      (try clear g0)
      obtain ⟨c0, f0, z0⟩ := blk_facts h0
      (try clear g1)
      obtain ⟨c1, f1, z1⟩ := blk_facts h1
      have y2 := hB.size
      go_wp2_with fail
      with_reducible refine (switch_eq s x o d 9 _ HO.out HD.out x0 x1).mono ?_
      rintro e w3 ⟨rfl, hb⟩
      (try (have g0 := h0; clear h0 f0 c0))
      (try (have g1 := h1; clear h1 f1 c1))
      (try (have g2 := h2; clear h2 f2 c2))
      (try (have g3 := h3; clear h3 f3 c3))
      have hB := below_next (w := w) (by go_grown) hb
      have h0 : w3.heap[w.heap.size]? = some (.cells #[.bool s.on, .int .i64 s.high, .int .i64 s.since, .int .u16 s.off.seq, .int .u32 s.off.time, .int .u16 s.off.pic, .int .u8 s.off.tl0, .int .u16 s.out.seq, .int .u32 s.out.time, .int .u16 s.out.pic, .int .u8 s.out.tl0] 27 (0, 0)) := (hb.block (w.heap.size) (by first | omega | (simp; done) | (simp; omega))).trans (Eq.trans (b := some (Obj.cells _ _ (0, 0))) (by repeat (first | (with_reducible assumption) | (with_reducible apply heap_set_row11) | (with_reducible apply heap_set_row4) | (with_reducible apply heap_set_same) | ((with_reducible apply heap_set_other'); (focus (first | omega | (simp; done) | (simp; omega)))) | ((with_reducible apply heap_alloc_new); (focus (first | omega | (simp; done) | (simp; omega)))) | (with_reducible apply heap_alloc_old') | (with_reducible apply (heap_drew_at _ _).trans) | (with_reducible apply (heap_drewN_at _ _ _).trans) | (simp only [List.size_toArray, List.length_cons, List.length_nil]; done))) (by exact rfl))
      have h1 : w3.heap[w.heap.size + 1]? = some (.cells #[.int .u16 x.seq, .int .u32 x.time, .int .u16 x.pic, .int .u8 x.tl0] 25 (0, 0)) := (hb.block (w.heap.size + 1) (by first | omega | (simp; done) | (simp; omega))).trans (Eq.trans (b := some (Obj.cells _ _ (0, 0))) (by repeat (first | (with_reducible assumption) | (with_reducible apply heap_set_row11) | (with_reducible apply heap_set_row4) | (with_reducible apply heap_set_same) | ((with_reducible apply heap_set_other'); (focus (first | omega | (simp; done) | (simp; omega)))) | ((with_reducible apply heap_alloc_new); (focus (first | omega | (simp; done) | (simp; omega)))) | (with_reducible apply heap_alloc_old') | (with_reducible apply (heap_drew_at _ _).trans) | (with_reducible apply (heap_drewN_at _ _ _).trans) | (simp only [List.size_toArray, List.length_cons, List.length_nil]; done))) (by exact rfl))
      have h2 : w3.heap[w2.heap.size]? = some (.cells #[.bool on', .int .i64 h', .int .i64 si', .int .u16 s.off.seq, .int .u32 s.off.time, .int .u16 s.off.pic, .int .u8 s.off.tl0, .int .u16 out'.seq, .int .u32 out'.time, .int .u16 out'.pic, .int .u8 out'.tl0] 27 (0, 0)) := (hb.block (w2.heap.size) (by first | omega | (simp; done) | (simp; omega))).trans (Eq.trans (b := some (Obj.cells _ _ (0, 0))) (by repeat (first | (with_reducible assumption) | (with_reducible apply heap_set_row11) | (with_reducible apply heap_set_row4) | (with_reducible apply heap_set_same) | ((with_reducible apply heap_set_other'); (focus (first | omega | (simp; done) | (simp; omega)))) | ((with_reducible apply heap_alloc_new); (focus (first | omega | (simp; done) | (simp; omega)))) | (with_reducible apply heap_alloc_old') | (with_reducible apply (heap_drew_at _ _).trans) | (with_reducible apply (heap_drewN_at _ _ _).trans) | (simp only [List.size_toArray, List.length_cons, List.length_nil]; done))) (by exact rfl))
      have h3 : w3.heap[w2.heap.size + 1]? = some (.cells #[.int .u16 ms, .int .u32 s.out.time, .int .u16 mp, .int .u8 ml] 25 (0, 0)) := (hb.block (w2.heap.size + 1) (by first | omega | (simp; done) | (simp; omega))).trans (Eq.trans (b := some (Obj.cells _ _ (0, 0))) (by repeat (first | (with_reducible assumption) | (with_reducible apply heap_set_row11) | (with_reducible apply heap_set_row4) | (with_reducible apply heap_set_same) | ((with_reducible apply heap_set_other'); (focus (first | omega | (simp; done) | (simp; omega)))) | ((with_reducible apply heap_alloc_new); (focus (first | omega | (simp; done) | (simp; omega)))) | (with_reducible apply heap_alloc_old') | (with_reducible apply (heap_drew_at _ _).trans) | (with_reducible apply (heap_drewN_at _ _ _).trans) | (simp only [List.size_toArray, List.length_cons, List.length_nil]; done))) (by exact rfl))
      clear hb
      (try clear g0)
      obtain ⟨c0, f0, z0⟩ := blk_facts h0
      (try clear g1)
      obtain ⟨c1, f1, z1⟩ := blk_facts h1
      (try clear g2)
      obtain ⟨c2, f2, z2⟩ := blk_facts h2
      (try clear g3)
      obtain ⟨c3, f3, z3⟩ := blk_facts h3
      have y3 := hB.size
      have e1 := E1.out
      have e2 := E2.out
      have e2' := E2'.out
      have e3 := E3.out
      have e4 := E4.out
      have q2 := Q2.out
      have q3 := Q3.out
      have q4 := Q4.out
      have q5 := Q5.out
      have q5' := Q5'.out
      go_wp2_with fail
      go_ret
      exact ⟨rfl, by go_grown⟩
end Go.Proofs.Ytidpkmabcndknaa
