/- The law MungeTimes, walked. -/
import Derived.Test.YtidpkmabcndknaaSteps
namespace Go.Proofs.Ytidpkmabcndknaa
set_option linter.unusedSimpArgs false
set_option linter.unusedVariables false
open Go.RowKit

set_option maxRecDepth 100000 in
set_option maxHeartbeats 4000000 in
theorem times_walk (A : Option Addr) (len cap : Nat) (z : Nat → StepV) (w : World) (hl : len ≤ 9223372036854775807) (hz : ∀ i, i < len → StepAt w A i (z i)) :
    Calls Try.prog 7 #[.slice A len cap] w fun e w' => e = .returned (.bool true) ∧ Below w.heap.size w w' := by
  have HZ := Lib.hid hz; clear hz
  by_cases h60 : 200 < len
  · go_enter Try.func7, Try.ntmps7
    go_wp2_with fail
    (with_reducible refine (awake_any _).mono ?_)
    rintro e w1 ⟨rfl, hb⟩
    go_wp2_with fail
    go_ret
    exact ⟨rfl, hb⟩
  go_enter Try.func7, Try.ntmps7
  go_wp2_with fail
  (with_reducible refine (awake_any _).mono ?_)
  rintro e w1 ⟨rfl, hB⟩
  have y1 := hB.size
  go_wp2_with fail
  go_loopw [5] (fun i wr => ∃ (k : Nat) (s : St), k ≤ len ∧ i = .int .i64 k ∧ wr.heap[w1.heap.size]? = some (.cells #[.bool s.on, .int .i64 s.high, .int .i64 s.since, .int .u16 s.off.seq, .int .u32 s.off.time, .int .u16 s.off.pic, .int .u8 s.off.tl0, .int .u16 s.out.seq, .int .u32 s.out.time, .int .u16 s.out.pic, .int .u8 s.out.tl0] 27 (0, 0)) ∧ Hid (s.Ok (65536 * (k + 1))) ∧ Below w.heap.size w wr) (fun i _ => len - (intOf i).toNat)
  case atStart => exact ⟨0, ⟨false, 0, 0, ⟨0, 0, 0, 0⟩, ⟨0, 0, 0, 0⟩⟩, by omega, rfl, (Eq.trans (b := some (Obj.cells _ _ (0, 0))) (by repeat (first | (with_reducible assumption) | (with_reducible apply heap_set_row11) | (with_reducible apply heap_set_row4) | (with_reducible apply heap_set_same) | ((with_reducible apply heap_set_other'); (focus (first | omega | (simp; done) | (simp; omega)))) | ((with_reducible apply heap_alloc_new); (focus (first | omega | (simp; done) | (simp; omega)))) | (with_reducible apply heap_alloc_old') | (with_reducible apply (heap_drew_at _ _).trans) | (with_reducible apply (heap_drewN_at _ _ _).trans) | (simp only [List.size_toArray, List.length_cons, List.length_nil]; done))) (by exact rfl)), Lib.hid ⟨by decide, by decide, ok0, ok0⟩, by go_grown⟩
  case round =>
    clear hB
    obtain ⟨k, s, hk, rfl, h0, HK0, hB⟩ := hrel
    have yr := hB.size
    obtain ⟨c0, f0, z0⟩ := blk_facts h0
    have z0a : w1.heap.size < wr.heap.size + 1 := by omega
    have z0b : w1.heap.size < wr.heap.size + 1 + 1 := by omega
    by_cases hlt : k < len
    · obtain ⟨ab, ao, rfl, hab, d0, d1, d2, d3, d4, d5, d6, hok, m0, m1⟩ := HZ.out k hlt
      generalize z k = v at *
      obtain ⟨kd, q, t, p, l, tm, bg⟩ := v
      dsimp only at d0 d1 d2 d3 d4 d5 d6 hok m0 m1
      replace d0 := (hB.cell (p := ⟨ab, ao + k * 7, none⟩) hab).trans d0
      replace d1 := (hB.cell (p := ⟨ab, ao + k * 7 + 1, none⟩) hab).trans d1
      replace d2 := (hB.cell (p := ⟨ab, ao + k * 7 + 2, none⟩) hab).trans d2
      replace d3 := (hB.cell (p := ⟨ab, ao + k * 7 + 3, none⟩) hab).trans d3
      replace d4 := (hB.cell (p := ⟨ab, ao + k * 7 + 4, none⟩) hab).trans d4
      replace d5 := (hB.cell (p := ⟨ab, ao + k * 7 + 5, none⟩) hab).trans d5
      replace d6 := (hB.cell (p := ⟨ab, ao + k * 7 + 6, none⟩) hab).trans d6
      have hb1 := Nat.lt_of_lt_of_le hab hB.size
      by_cases htm : 2147483648 ≤ tm
      · go_wp2_with fail
        go_ret
        exact ⟨rfl, by go_grown⟩
      obtain ⟨q0, q1, _⟩ := id hok
      have sb0 := HK0.out.h0
      have sb1 := HK0.out.h1
      have f0' := HK0.out.off.s0
      have f1' := HK0.out.off.s1
      have sok := HK0.out
      have SOK := Lib.hid sok; clear sok
      by_cases hk0 : kd = 0
      · subst hk0
        obtain ⟨o, ho⟩ : ∃ o, toldF s ⟨q, t, p, l⟩ tm = o := ⟨_, rfl⟩
        have hlt' : s.on = true → ¬ 0 < far32 o.time s.out.time := fun hon => by rw [← ho]; exact switch_time s _ tm SOK.out.out m0 (by omega) hon
        have HK : Hid ((switchF s ⟨q, t, p, l⟩ tm).Ok (65536 * (k + 1) + 65536)) := Lib.hid (switchF_ok hok (by omega))
        have hro : o = (switchF s ⟨q, t, p, l⟩ tm).out := ho.symm
        generalize hr : switchF s ⟨q, t, p, l⟩ tm = r at *
        obtain ⟨ron, rh, rsi, roff, rout⟩ := r
        dsimp only at hro
        subst hro
        have HRr := Lib.hid hr; clear hr
        have HO := Lib.hid ho; clear ho
        have HLT := Lib.hid hlt'; clear hlt'
        cases hon : s.on
        · have HON := Lib.hid hon
          clear hon
          go_wp2_with fail
          with_reducible refine (switch_st s ⟨ron, rh, rsi, roff, o⟩ ⟨q, t, p, l⟩ o tm _ HRr.out HO.out q0 q1).mono ?_
          rintro e w3 ⟨rfl, hb⟩
          (try (have g0 := h0; clear h0 f0 c0))
          (try (have g1 := h1; clear h1 f1 c1))
          (try (have g2 := h2; clear h2 f2 c2))
          (try (have g3 := h3; clear h3 f3 c3))
          have hB := below_next (w := w) (by go_grown) hb
          have h0 : w3.heap[w1.heap.size]? = some (.cells #[.bool s.on, .int .i64 s.high, .int .i64 s.since, .int .u16 s.off.seq, .int .u32 s.off.time, .int .u16 s.off.pic, .int .u8 s.off.tl0, .int .u16 s.out.seq, .int .u32 s.out.time, .int .u16 s.out.pic, .int .u8 s.out.tl0] 27 (0, 0)) := (hb.block (w1.heap.size) (by first | omega | (simp; done) | (simp; omega))).trans (Eq.trans (b := some (Obj.cells _ _ (0, 0))) (by repeat (first | (with_reducible assumption) | (with_reducible apply heap_set_row11) | (with_reducible apply heap_set_row4) | (with_reducible apply heap_set_same) | ((with_reducible apply heap_set_other'); (focus (first | omega | (simp; done) | (simp; omega)))) | ((with_reducible apply heap_alloc_new); (focus (first | omega | (simp; done) | (simp; omega)))) | (with_reducible apply heap_alloc_old') | (with_reducible apply (heap_drew_at _ _).trans) | (with_reducible apply (heap_drewN_at _ _ _).trans) | (simp only [List.size_toArray, List.length_cons, List.length_nil]; done))) (by exact rfl))
          have h1 : w3.heap[wr.heap.size]? = some (.cells #[.int .i64 0, .int .u16 q, .int .u32 t, .int .u16 p, .int .u8 l, .int .u32 tm, .bool bg] 29 (0, 0)) := (hb.block (wr.heap.size) (by first | omega | (simp; done) | (simp; omega))).trans (Eq.trans (b := some (Obj.cells _ _ (0, 0))) (by repeat (first | (with_reducible assumption) | (with_reducible apply heap_set_row11) | (with_reducible apply heap_set_row4) | (with_reducible apply heap_set_same) | ((with_reducible apply heap_set_other'); (focus (first | omega | (simp; done) | (simp; omega)))) | ((with_reducible apply heap_alloc_new); (focus (first | omega | (simp; done) | (simp; omega)))) | (with_reducible apply heap_alloc_old') | (with_reducible apply (heap_drew_at _ _).trans) | (with_reducible apply (heap_drewN_at _ _ _).trans) | (simp only [List.size_toArray, List.length_cons, List.length_nil]; done))) (by exact rfl))
          have h2 : w3.heap[wr.heap.size + 1]? = some (.cells #[.bool s.on, .int .i64 s.high, .int .i64 s.since, .int .u16 s.off.seq, .int .u32 s.off.time, .int .u16 s.off.pic, .int .u8 s.off.tl0, .int .u16 s.out.seq, .int .u32 s.out.time, .int .u16 s.out.pic, .int .u8 s.out.tl0] 27 (0, 0)) := (hb.block (wr.heap.size + 1) (by first | omega | (simp; done) | (simp; omega))).trans (Eq.trans (b := some (Obj.cells _ _ (0, 0))) (by repeat (first | (with_reducible assumption) | (with_reducible apply heap_set_row11) | (with_reducible apply heap_set_row4) | (with_reducible apply heap_set_same) | ((with_reducible apply heap_set_other'); (focus (first | omega | (simp; done) | (simp; omega)))) | ((with_reducible apply heap_alloc_new); (focus (first | omega | (simp; done) | (simp; omega)))) | (with_reducible apply heap_alloc_old') | (with_reducible apply (heap_drew_at _ _).trans) | (with_reducible apply (heap_drewN_at _ _ _).trans) | (simp only [List.size_toArray, List.length_cons, List.length_nil]; done))) (by exact rfl))
          have h3 : w3.heap[wr.heap.size + 2]? = some (.cells #[.int .u16 s.out.seq, .int .u32 s.out.time, .int .u16 s.out.pic, .int .u8 s.out.tl0] 25 (0, 0)) := (hb.block (wr.heap.size + 2) (by first | omega | (simp; done) | (simp; omega))).trans (Eq.trans (b := some (Obj.cells _ _ (0, 0))) (by repeat (first | (with_reducible assumption) | (with_reducible apply heap_set_row11) | (with_reducible apply heap_set_row4) | (with_reducible apply heap_set_same) | ((with_reducible apply heap_set_other'); (focus (first | omega | (simp; done) | (simp; omega)))) | ((with_reducible apply heap_alloc_new); (focus (first | omega | (simp; done) | (simp; omega)))) | (with_reducible apply heap_alloc_old') | (with_reducible apply (heap_drew_at _ _).trans) | (with_reducible apply (heap_drewN_at _ _ _).trans) | (simp only [List.size_toArray, List.length_cons, List.length_nil]; done))) (by exact rfl))
          clear hb
          (try clear g0)
          obtain ⟨c0, f0, z0⟩ := blk_facts h0
          (try clear g1)
          obtain ⟨c1, f1, z1⟩ := blk_facts h1
          (try clear g2)
          obtain ⟨c2, f2, z2⟩ := blk_facts h2
          (try clear g3)
          obtain ⟨c3, f3, z3⟩ := blk_facts h3
          have y3 := hB.size
          have hon := HON.out
          go_wp2_with fail
          clear hon
          go_roundw
          case rel => exact ⟨k + 1, ⟨ron, rh, rsi, roff, o⟩, by omega, by go_num, (Eq.trans (b := some (Obj.cells _ _ (0, 0))) (by repeat (first | (with_reducible assumption) | (with_reducible apply heap_set_row11) | (with_reducible apply heap_set_row4) | (with_reducible apply heap_set_same) | ((with_reducible apply heap_set_other'); (focus (first | omega | (simp; done) | (simp; omega)))) | ((with_reducible apply heap_alloc_new); (focus (first | omega | (simp; done) | (simp; omega)))) | (with_reducible apply heap_alloc_old') | (with_reducible apply (heap_drew_at _ _).trans) | (with_reducible apply (heap_drewN_at _ _ _).trans) | (simp only [List.size_toArray, List.length_cons, List.length_nil]; done))) (by exact rfl)), Lib.hid (ok_more HK.out (by push_cast; omega)), by go_grown⟩
          case measure => simp [intOf]; omega
        · have HON := Lib.hid hon
          clear hon
          have HL : Hid (decide (0 < far32 o.time s.out.time) = false) := Lib.hid (by simpa using HLT.out HON.out)
          go_wp2_with fail
          with_reducible refine (switch_st s ⟨ron, rh, rsi, roff, o⟩ ⟨q, t, p, l⟩ o tm _ HRr.out HO.out q0 q1).mono ?_
          rintro e w3 ⟨rfl, hb⟩
          (try (have g0 := h0; clear h0 f0 c0))
          (try (have g1 := h1; clear h1 f1 c1))
          (try (have g2 := h2; clear h2 f2 c2))
          (try (have g3 := h3; clear h3 f3 c3))
          have hB := below_next (w := w) (by go_grown) hb
          have h0 : w3.heap[w1.heap.size]? = some (.cells #[.bool s.on, .int .i64 s.high, .int .i64 s.since, .int .u16 s.off.seq, .int .u32 s.off.time, .int .u16 s.off.pic, .int .u8 s.off.tl0, .int .u16 s.out.seq, .int .u32 s.out.time, .int .u16 s.out.pic, .int .u8 s.out.tl0] 27 (0, 0)) := (hb.block (w1.heap.size) (by first | omega | (simp; done) | (simp; omega))).trans (Eq.trans (b := some (Obj.cells _ _ (0, 0))) (by repeat (first | (with_reducible assumption) | (with_reducible apply heap_set_row11) | (with_reducible apply heap_set_row4) | (with_reducible apply heap_set_same) | ((with_reducible apply heap_set_other'); (focus (first | omega | (simp; done) | (simp; omega)))) | ((with_reducible apply heap_alloc_new); (focus (first | omega | (simp; done) | (simp; omega)))) | (with_reducible apply heap_alloc_old') | (with_reducible apply (heap_drew_at _ _).trans) | (with_reducible apply (heap_drewN_at _ _ _).trans) | (simp only [List.size_toArray, List.length_cons, List.length_nil]; done))) (by exact rfl))
          have h1 : w3.heap[wr.heap.size]? = some (.cells #[.int .i64 0, .int .u16 q, .int .u32 t, .int .u16 p, .int .u8 l, .int .u32 tm, .bool bg] 29 (0, 0)) := (hb.block (wr.heap.size) (by first | omega | (simp; done) | (simp; omega))).trans (Eq.trans (b := some (Obj.cells _ _ (0, 0))) (by repeat (first | (with_reducible assumption) | (with_reducible apply heap_set_row11) | (with_reducible apply heap_set_row4) | (with_reducible apply heap_set_same) | ((with_reducible apply heap_set_other'); (focus (first | omega | (simp; done) | (simp; omega)))) | ((with_reducible apply heap_alloc_new); (focus (first | omega | (simp; done) | (simp; omega)))) | (with_reducible apply heap_alloc_old') | (with_reducible apply (heap_drew_at _ _).trans) | (with_reducible apply (heap_drewN_at _ _ _).trans) | (simp only [List.size_toArray, List.length_cons, List.length_nil]; done))) (by exact rfl))
          have h2 : w3.heap[wr.heap.size + 1]? = some (.cells #[.bool s.on, .int .i64 s.high, .int .i64 s.since, .int .u16 s.off.seq, .int .u32 s.off.time, .int .u16 s.off.pic, .int .u8 s.off.tl0, .int .u16 s.out.seq, .int .u32 s.out.time, .int .u16 s.out.pic, .int .u8 s.out.tl0] 27 (0, 0)) := (hb.block (wr.heap.size + 1) (by first | omega | (simp; done) | (simp; omega))).trans (Eq.trans (b := some (Obj.cells _ _ (0, 0))) (by repeat (first | (with_reducible assumption) | (with_reducible apply heap_set_row11) | (with_reducible apply heap_set_row4) | (with_reducible apply heap_set_same) | ((with_reducible apply heap_set_other'); (focus (first | omega | (simp; done) | (simp; omega)))) | ((with_reducible apply heap_alloc_new); (focus (first | omega | (simp; done) | (simp; omega)))) | (with_reducible apply heap_alloc_old') | (with_reducible apply (heap_drew_at _ _).trans) | (with_reducible apply (heap_drewN_at _ _ _).trans) | (simp only [List.size_toArray, List.length_cons, List.length_nil]; done))) (by exact rfl))
          have h3 : w3.heap[wr.heap.size + 2]? = some (.cells #[.int .u16 s.out.seq, .int .u32 s.out.time, .int .u16 s.out.pic, .int .u8 s.out.tl0] 25 (0, 0)) := (hb.block (wr.heap.size + 2) (by first | omega | (simp; done) | (simp; omega))).trans (Eq.trans (b := some (Obj.cells _ _ (0, 0))) (by repeat (first | (with_reducible assumption) | (with_reducible apply heap_set_row11) | (with_reducible apply heap_set_row4) | (with_reducible apply heap_set_same) | ((with_reducible apply heap_set_other'); (focus (first | omega | (simp; done) | (simp; omega)))) | ((with_reducible apply heap_alloc_new); (focus (first | omega | (simp; done) | (simp; omega)))) | (with_reducible apply heap_alloc_old') | (with_reducible apply (heap_drew_at _ _).trans) | (with_reducible apply (heap_drewN_at _ _ _).trans) | (simp only [List.size_toArray, List.length_cons, List.length_nil]; done))) (by exact rfl))
          clear hb
          (try clear g0)
          obtain ⟨c0, f0, z0⟩ := blk_facts h0
          (try clear g1)
          obtain ⟨c1, f1, z1⟩ := blk_facts h1
          (try clear g2)
          obtain ⟨c2, f2, z2⟩ := blk_facts h2
          (try clear g3)
          obtain ⟨c3, f3, z3⟩ := blk_facts h3
          have y3 := hB.size
          have hon := HON.out
          go_wp2_with (first | (go_at_call 19; (with_reducible refine (Less32_any _ _ _).mono ?_); rintro e w' ⟨rfl, rfl⟩; rw [HL.out]))
          clear hon
          go_roundw
          case rel => exact ⟨k + 1, ⟨ron, rh, rsi, roff, o⟩, by omega, by go_num, (Eq.trans (b := some (Obj.cells _ _ (0, 0))) (by repeat (first | (with_reducible assumption) | (with_reducible apply heap_set_row11) | (with_reducible apply heap_set_row4) | (with_reducible apply heap_set_same) | ((with_reducible apply heap_set_other'); (focus (first | omega | (simp; done) | (simp; omega)))) | ((with_reducible apply heap_alloc_new); (focus (first | omega | (simp; done) | (simp; omega)))) | (with_reducible apply heap_alloc_old') | (with_reducible apply (heap_drew_at _ _).trans) | (with_reducible apply (heap_drewN_at _ _ _).trans) | (simp only [List.size_toArray, List.length_cons, List.length_nil]; done))) (by exact rfl)), Lib.hid (ok_more HK.out (by push_cast; omega)), by go_grown⟩
          case measure => simp [intOf]; omega
      · have hk0' : (kd == 0) = false := beq_eq_false_iff_ne.2 hk0
        by_cases hk1 : kd = 1
        · subst hk1
          obtain ⟨hdt, hdo⟩ := drop_time s ⟨q, t, p, l⟩ bg
          have HK : Hid ((dropF s ⟨q, t, p, l⟩ bg).Ok (65536 * (k + 1) + 65536)) := Lib.hid (dropF_ok SOK.out)
          generalize hr : dropF s ⟨q, t, p, l⟩ bg = r at *
          obtain ⟨ron, rh, rsi, roff, rout⟩ := r
          dsimp only at hdo
          subst hdo
          have HRr := Lib.hid hr; clear hr
          have HL : Hid (decide (0 < far32 s.out.time s.out.time) = false) := Lib.hid (by rw [far32_self]; rfl)
          clear hdt hk0 hk0'
          cases hon : s.on
          · have HON := Lib.hid hon
            clear hon
            go_wp2_with fail
            with_reducible refine (drop_eq s ⟨ron, rh, rsi, roff, s.out⟩ ⟨q, t, p, l⟩ bg _ HRr.out (by omega) (by omega) f0' f1').mono ?_
            rintro e w3 ⟨rfl, hb⟩
            (try (have g0 := h0; clear h0 f0 c0))
            (try (have g1 := h1; clear h1 f1 c1))
            (try (have g2 := h2; clear h2 f2 c2))
            (try (have g3 := h3; clear h3 f3 c3))
            have hB := below_next (w := w) (by go_grown) hb
            have h0 : w3.heap[w1.heap.size]? = some (.cells #[.bool s.on, .int .i64 s.high, .int .i64 s.since, .int .u16 s.off.seq, .int .u32 s.off.time, .int .u16 s.off.pic, .int .u8 s.off.tl0, .int .u16 s.out.seq, .int .u32 s.out.time, .int .u16 s.out.pic, .int .u8 s.out.tl0] 27 (0, 0)) := (hb.block (w1.heap.size) (by first | omega | (simp; done) | (simp; omega))).trans (Eq.trans (b := some (Obj.cells _ _ (0, 0))) (by repeat (first | (with_reducible assumption) | (with_reducible apply heap_set_row11) | (with_reducible apply heap_set_row4) | (with_reducible apply heap_set_same) | ((with_reducible apply heap_set_other'); (focus (first | omega | (simp; done) | (simp; omega)))) | ((with_reducible apply heap_alloc_new); (focus (first | omega | (simp; done) | (simp; omega)))) | (with_reducible apply heap_alloc_old') | (with_reducible apply (heap_drew_at _ _).trans) | (with_reducible apply (heap_drewN_at _ _ _).trans) | (simp only [List.size_toArray, List.length_cons, List.length_nil]; done))) (by exact rfl))
            have h1 : w3.heap[wr.heap.size]? = some (.cells #[.int .i64 1, .int .u16 q, .int .u32 t, .int .u16 p, .int .u8 l, .int .u32 tm, .bool bg] 29 (0, 0)) := (hb.block (wr.heap.size) (by first | omega | (simp; done) | (simp; omega))).trans (Eq.trans (b := some (Obj.cells _ _ (0, 0))) (by repeat (first | (with_reducible assumption) | (with_reducible apply heap_set_row11) | (with_reducible apply heap_set_row4) | (with_reducible apply heap_set_same) | ((with_reducible apply heap_set_other'); (focus (first | omega | (simp; done) | (simp; omega)))) | ((with_reducible apply heap_alloc_new); (focus (first | omega | (simp; done) | (simp; omega)))) | (with_reducible apply heap_alloc_old') | (with_reducible apply (heap_drew_at _ _).trans) | (with_reducible apply (heap_drewN_at _ _ _).trans) | (simp only [List.size_toArray, List.length_cons, List.length_nil]; done))) (by exact rfl))
            have h2 : w3.heap[wr.heap.size + 1]? = some (.cells #[.bool s.on, .int .i64 s.high, .int .i64 s.since, .int .u16 s.off.seq, .int .u32 s.off.time, .int .u16 s.off.pic, .int .u8 s.off.tl0, .int .u16 s.out.seq, .int .u32 s.out.time, .int .u16 s.out.pic, .int .u8 s.out.tl0] 27 (0, 0)) := (hb.block (wr.heap.size + 1) (by first | omega | (simp; done) | (simp; omega))).trans (Eq.trans (b := some (Obj.cells _ _ (0, 0))) (by repeat (first | (with_reducible assumption) | (with_reducible apply heap_set_row11) | (with_reducible apply heap_set_row4) | (with_reducible apply heap_set_same) | ((with_reducible apply heap_set_other'); (focus (first | omega | (simp; done) | (simp; omega)))) | ((with_reducible apply heap_alloc_new); (focus (first | omega | (simp; done) | (simp; omega)))) | (with_reducible apply heap_alloc_old') | (with_reducible apply (heap_drew_at _ _).trans) | (with_reducible apply (heap_drewN_at _ _ _).trans) | (simp only [List.size_toArray, List.length_cons, List.length_nil]; done))) (by exact rfl))
            have h3 : w3.heap[wr.heap.size + 2]? = some (.cells #[.int .u16 s.out.seq, .int .u32 s.out.time, .int .u16 s.out.pic, .int .u8 s.out.tl0] 25 (0, 0)) := (hb.block (wr.heap.size + 2) (by first | omega | (simp; done) | (simp; omega))).trans (Eq.trans (b := some (Obj.cells _ _ (0, 0))) (by repeat (first | (with_reducible assumption) | (with_reducible apply heap_set_row11) | (with_reducible apply heap_set_row4) | (with_reducible apply heap_set_same) | ((with_reducible apply heap_set_other'); (focus (first | omega | (simp; done) | (simp; omega)))) | ((with_reducible apply heap_alloc_new); (focus (first | omega | (simp; done) | (simp; omega)))) | (with_reducible apply heap_alloc_old') | (with_reducible apply (heap_drew_at _ _).trans) | (with_reducible apply (heap_drewN_at _ _ _).trans) | (simp only [List.size_toArray, List.length_cons, List.length_nil]; done))) (by exact rfl))
            clear hb
            (try clear g0)
            obtain ⟨c0, f0, z0⟩ := blk_facts h0
            (try clear g1)
            obtain ⟨c1, f1, z1⟩ := blk_facts h1
            (try clear g2)
            obtain ⟨c2, f2, z2⟩ := blk_facts h2
            (try clear g3)
            obtain ⟨c3, f3, z3⟩ := blk_facts h3
            have y3 := hB.size
            have hon := HON.out
            go_wp2_with (first | (go_at_call 19; (with_reducible refine (Less32_any _ _ _).mono ?_); rintro e w' ⟨rfl, rfl⟩; rw [HL.out]))
            clear hon
            go_roundw
            case rel => exact ⟨k + 1, ⟨ron, rh, rsi, roff, s.out⟩, by omega, by go_num, (Eq.trans (b := some (Obj.cells _ _ (0, 0))) (by repeat (first | (with_reducible assumption) | (with_reducible apply heap_set_row11) | (with_reducible apply heap_set_row4) | (with_reducible apply heap_set_same) | ((with_reducible apply heap_set_other'); (focus (first | omega | (simp; done) | (simp; omega)))) | ((with_reducible apply heap_alloc_new); (focus (first | omega | (simp; done) | (simp; omega)))) | (with_reducible apply heap_alloc_old') | (with_reducible apply (heap_drew_at _ _).trans) | (with_reducible apply (heap_drewN_at _ _ _).trans) | (simp only [List.size_toArray, List.length_cons, List.length_nil]; done))) (by exact rfl)), Lib.hid (ok_more HK.out (by push_cast; omega)), by go_grown⟩
            case measure => simp [intOf]; omega
          · have HON := Lib.hid hon
            clear hon
            go_wp2_with fail
            with_reducible refine (drop_eq s ⟨ron, rh, rsi, roff, s.out⟩ ⟨q, t, p, l⟩ bg _ HRr.out (by omega) (by omega) f0' f1').mono ?_
            rintro e w3 ⟨rfl, hb⟩
            (try (have g0 := h0; clear h0 f0 c0))
            (try (have g1 := h1; clear h1 f1 c1))
            (try (have g2 := h2; clear h2 f2 c2))
            (try (have g3 := h3; clear h3 f3 c3))
            have hB := below_next (w := w) (by go_grown) hb
            have h0 : w3.heap[w1.heap.size]? = some (.cells #[.bool s.on, .int .i64 s.high, .int .i64 s.since, .int .u16 s.off.seq, .int .u32 s.off.time, .int .u16 s.off.pic, .int .u8 s.off.tl0, .int .u16 s.out.seq, .int .u32 s.out.time, .int .u16 s.out.pic, .int .u8 s.out.tl0] 27 (0, 0)) := (hb.block (w1.heap.size) (by first | omega | (simp; done) | (simp; omega))).trans (Eq.trans (b := some (Obj.cells _ _ (0, 0))) (by repeat (first | (with_reducible assumption) | (with_reducible apply heap_set_row11) | (with_reducible apply heap_set_row4) | (with_reducible apply heap_set_same) | ((with_reducible apply heap_set_other'); (focus (first | omega | (simp; done) | (simp; omega)))) | ((with_reducible apply heap_alloc_new); (focus (first | omega | (simp; done) | (simp; omega)))) | (with_reducible apply heap_alloc_old') | (with_reducible apply (heap_drew_at _ _).trans) | (with_reducible apply (heap_drewN_at _ _ _).trans) | (simp only [List.size_toArray, List.length_cons, List.length_nil]; done))) (by exact rfl))
            have h1 : w3.heap[wr.heap.size]? = some (.cells #[.int .i64 1, .int .u16 q, .int .u32 t, .int .u16 p, .int .u8 l, .int .u32 tm, .bool bg] 29 (0, 0)) := (hb.block (wr.heap.size) (by first | omega | (simp; done) | (simp; omega))).trans (Eq.trans (b := some (Obj.cells _ _ (0, 0))) (by repeat (first | (with_reducible assumption) | (with_reducible apply heap_set_row11) | (with_reducible apply heap_set_row4) | (with_reducible apply heap_set_same) | ((with_reducible apply heap_set_other'); (focus (first | omega | (simp; done) | (simp; omega)))) | ((with_reducible apply heap_alloc_new); (focus (first | omega | (simp; done) | (simp; omega)))) | (with_reducible apply heap_alloc_old') | (with_reducible apply (heap_drew_at _ _).trans) | (with_reducible apply (heap_drewN_at _ _ _).trans) | (simp only [List.size_toArray, List.length_cons, List.length_nil]; done))) (by exact rfl))
            have h2 : w3.heap[wr.heap.size + 1]? = some (.cells #[.bool s.on, .int .i64 s.high, .int .i64 s.since, .int .u16 s.off.seq, .int .u32 s.off.time, .int .u16 s.off.pic, .int .u8 s.off.tl0, .int .u16 s.out.seq, .int .u32 s.out.time, .int .u16 s.out.pic, .int .u8 s.out.tl0] 27 (0, 0)) := (hb.block (wr.heap.size + 1) (by first | omega | (simp; done) | (simp; omega))).trans (Eq.trans (b := some (Obj.cells _ _ (0, 0))) (by repeat (first | (with_reducible assumption) | (with_reducible apply heap_set_row11) | (with_reducible apply heap_set_row4) | (with_reducible apply heap_set_same) | ((with_reducible apply heap_set_other'); (focus (first | omega | (simp; done) | (simp; omega)))) | ((with_reducible apply heap_alloc_new); (focus (first | omega | (simp; done) | (simp; omega)))) | (with_reducible apply heap_alloc_old') | (with_reducible apply (heap_drew_at _ _).trans) | (with_reducible apply (heap_drewN_at _ _ _).trans) | (simp only [List.size_toArray, List.length_cons, List.length_nil]; done))) (by exact rfl))
            have h3 : w3.heap[wr.heap.size + 2]? = some (.cells #[.int .u16 s.out.seq, .int .u32 s.out.time, .int .u16 s.out.pic, .int .u8 s.out.tl0] 25 (0, 0)) := (hb.block (wr.heap.size + 2) (by first | omega | (simp; done) | (simp; omega))).trans (Eq.trans (b := some (Obj.cells _ _ (0, 0))) (by repeat (first | (with_reducible assumption) | (with_reducible apply heap_set_row11) | (with_reducible apply heap_set_row4) | (with_reducible apply heap_set_same) | ((with_reducible apply heap_set_other'); (focus (first | omega | (simp; done) | (simp; omega)))) | ((with_reducible apply heap_alloc_new); (focus (first | omega | (simp; done) | (simp; omega)))) | (with_reducible apply heap_alloc_old') | (with_reducible apply (heap_drew_at _ _).trans) | (with_reducible apply (heap_drewN_at _ _ _).trans) | (simp only [List.size_toArray, List.length_cons, List.length_nil]; done))) (by exact rfl))
            clear hb
            (try clear g0)
            obtain ⟨c0, f0, z0⟩ := blk_facts h0
            (try clear g1)
            obtain ⟨c1, f1, z1⟩ := blk_facts h1
            (try clear g2)
            obtain ⟨c2, f2, z2⟩ := blk_facts h2
            (try clear g3)
            obtain ⟨c3, f3, z3⟩ := blk_facts h3
            have y3 := hB.size
            have hon := HON.out
            go_wp2_with (first | (go_at_call 19; (with_reducible refine (Less32_any _ _ _).mono ?_); rintro e w' ⟨rfl, rfl⟩; rw [HL.out]))
            clear hon
            go_roundw
            case rel => exact ⟨k + 1, ⟨ron, rh, rsi, roff, s.out⟩, by omega, by go_num, (Eq.trans (b := some (Obj.cells _ _ (0, 0))) (by repeat (first | (with_reducible assumption) | (with_reducible apply heap_set_row11) | (with_reducible apply heap_set_row4) | (with_reducible apply heap_set_same) | ((with_reducible apply heap_set_other'); (focus (first | omega | (simp; done) | (simp; omega)))) | ((with_reducible apply heap_alloc_new); (focus (first | omega | (simp; done) | (simp; omega)))) | (with_reducible apply heap_alloc_old') | (with_reducible apply (heap_drew_at _ _).trans) | (with_reducible apply (heap_drewN_at _ _ _).trans) | (simp only [List.size_toArray, List.length_cons, List.length_nil]; done))) (by exact rfl)), Lib.hid (ok_more HK.out (by push_cast; omega)), by go_grown⟩
            case measure => simp [intOf]; omega
        · have hk1' : (kd == 1) = false := beq_eq_false_iff_ne.2 hk1
          have hst := send_time s ⟨q, t, p, l⟩
          have HK : Hid ((sendF s ⟨q, t, p, l⟩).1.Ok (65536 * (k + 1) + 65536)) := Lib.hid (sendF_ok SOK.out)
          generalize hr : sendF s ⟨q, t, p, l⟩ = r at *
          obtain ⟨⟨ron, rh, rsi, roff, rout⟩, m, is⟩ := r
          dsimp only at hst
          have HRr := Lib.hid hr; clear hr
          have HL : Hid (decide (0 < far32 rout.time s.out.time) = false) := Lib.hid (by simpa using hst)
          clear hst hk0 hk1
          cases hon : s.on
          · have HON := Lib.hid hon
            clear hon
            go_wp2_with fail
            with_reducible refine (send_st s ⟨ron, rh, rsi, roff, rout⟩ ⟨q, t, p, l⟩ m is _ HRr.out (by omega) (by omega)).mono ?_
            rintro e w3 ⟨rfl, hb⟩
            (try (have g0 := h0; clear h0 f0 c0))
            (try (have g1 := h1; clear h1 f1 c1))
            (try (have g2 := h2; clear h2 f2 c2))
            (try (have g3 := h3; clear h3 f3 c3))
            have hB := below_next (w := w) (by go_grown) hb
            have h0 : w3.heap[w1.heap.size]? = some (.cells #[.bool s.on, .int .i64 s.high, .int .i64 s.since, .int .u16 s.off.seq, .int .u32 s.off.time, .int .u16 s.off.pic, .int .u8 s.off.tl0, .int .u16 s.out.seq, .int .u32 s.out.time, .int .u16 s.out.pic, .int .u8 s.out.tl0] 27 (0, 0)) := (hb.block (w1.heap.size) (by first | omega | (simp; done) | (simp; omega))).trans (Eq.trans (b := some (Obj.cells _ _ (0, 0))) (by repeat (first | (with_reducible assumption) | (with_reducible apply heap_set_row11) | (with_reducible apply heap_set_row4) | (with_reducible apply heap_set_same) | ((with_reducible apply heap_set_other'); (focus (first | omega | (simp; done) | (simp; omega)))) | ((with_reducible apply heap_alloc_new); (focus (first | omega | (simp; done) | (simp; omega)))) | (with_reducible apply heap_alloc_old') | (with_reducible apply (heap_drew_at _ _).trans) | (with_reducible apply (heap_drewN_at _ _ _).trans) | (simp only [List.size_toArray, List.length_cons, List.length_nil]; done))) (by exact rfl))
            have h1 : w3.heap[wr.heap.size]? = some (.cells #[.int .i64 kd, .int .u16 q, .int .u32 t, .int .u16 p, .int .u8 l, .int .u32 tm, .bool bg] 29 (0, 0)) := (hb.block (wr.heap.size) (by first | omega | (simp; done) | (simp; omega))).trans (Eq.trans (b := some (Obj.cells _ _ (0, 0))) (by repeat (first | (with_reducible assumption) | (with_reducible apply heap_set_row11) | (with_reducible apply heap_set_row4) | (with_reducible apply heap_set_same) | ((with_reducible apply heap_set_other'); (focus (first | omega | (simp; done) | (simp; omega)))) | ((with_reducible apply heap_alloc_new); (focus (first | omega | (simp; done) | (simp; omega)))) | (with_reducible apply heap_alloc_old') | (with_reducible apply (heap_drew_at _ _).trans) | (with_reducible apply (heap_drewN_at _ _ _).trans) | (simp only [List.size_toArray, List.length_cons, List.length_nil]; done))) (by exact rfl))
            have h2 : w3.heap[wr.heap.size + 1]? = some (.cells #[.bool s.on, .int .i64 s.high, .int .i64 s.since, .int .u16 s.off.seq, .int .u32 s.off.time, .int .u16 s.off.pic, .int .u8 s.off.tl0, .int .u16 s.out.seq, .int .u32 s.out.time, .int .u16 s.out.pic, .int .u8 s.out.tl0] 27 (0, 0)) := (hb.block (wr.heap.size + 1) (by first | omega | (simp; done) | (simp; omega))).trans (Eq.trans (b := some (Obj.cells _ _ (0, 0))) (by repeat (first | (with_reducible assumption) | (with_reducible apply heap_set_row11) | (with_reducible apply heap_set_row4) | (with_reducible apply heap_set_same) | ((with_reducible apply heap_set_other'); (focus (first | omega | (simp; done) | (simp; omega)))) | ((with_reducible apply heap_alloc_new); (focus (first | omega | (simp; done) | (simp; omega)))) | (with_reducible apply heap_alloc_old') | (with_reducible apply (heap_drew_at _ _).trans) | (with_reducible apply (heap_drewN_at _ _ _).trans) | (simp only [List.size_toArray, List.length_cons, List.length_nil]; done))) (by exact rfl))
            have h3 : w3.heap[wr.heap.size + 2]? = some (.cells #[.int .u16 s.out.seq, .int .u32 s.out.time, .int .u16 s.out.pic, .int .u8 s.out.tl0] 25 (0, 0)) := (hb.block (wr.heap.size + 2) (by first | omega | (simp; done) | (simp; omega))).trans (Eq.trans (b := some (Obj.cells _ _ (0, 0))) (by repeat (first | (with_reducible assumption) | (with_reducible apply heap_set_row11) | (with_reducible apply heap_set_row4) | (with_reducible apply heap_set_same) | ((with_reducible apply heap_set_other'); (focus (first | omega | (simp; done) | (simp; omega)))) | ((with_reducible apply heap_alloc_new); (focus (first | omega | (simp; done) | (simp; omega)))) | (with_reducible apply heap_alloc_old') | (with_reducible apply (heap_drew_at _ _).trans) | (with_reducible apply (heap_drewN_at _ _ _).trans) | (simp only [List.size_toArray, List.length_cons, List.length_nil]; done))) (by exact rfl))
            clear hb
            (try clear g0)
            obtain ⟨c0, f0, z0⟩ := blk_facts h0
            (try clear g1)
            obtain ⟨c1, f1, z1⟩ := blk_facts h1
            (try clear g2)
            obtain ⟨c2, f2, z2⟩ := blk_facts h2
            (try clear g3)
            obtain ⟨c3, f3, z3⟩ := blk_facts h3
            have y3 := hB.size
            have hon := HON.out
            go_wp2_with (first | (go_at_call 19; (with_reducible refine (Less32_any _ _ _).mono ?_); rintro e w' ⟨rfl, rfl⟩; rw [HL.out]))
            clear hon
            go_roundw
            case rel => exact ⟨k + 1, ⟨ron, rh, rsi, roff, rout⟩, by omega, by go_num, (Eq.trans (b := some (Obj.cells _ _ (0, 0))) (by repeat (first | (with_reducible assumption) | (with_reducible apply heap_set_row11) | (with_reducible apply heap_set_row4) | (with_reducible apply heap_set_same) | ((with_reducible apply heap_set_other'); (focus (first | omega | (simp; done) | (simp; omega)))) | ((with_reducible apply heap_alloc_new); (focus (first | omega | (simp; done) | (simp; omega)))) | (with_reducible apply heap_alloc_old') | (with_reducible apply (heap_drew_at _ _).trans) | (with_reducible apply (heap_drewN_at _ _ _).trans) | (simp only [List.size_toArray, List.length_cons, List.length_nil]; done))) (by exact rfl)), Lib.hid (ok_more HK.out (by push_cast; omega)), by go_grown⟩
            case measure => simp [intOf]; omega
          · have HON := Lib.hid hon
            clear hon
            go_wp2_with fail
            with_reducible refine (send_st s ⟨ron, rh, rsi, roff, rout⟩ ⟨q, t, p, l⟩ m is _ HRr.out (by omega) (by omega)).mono ?_
            rintro e w3 ⟨rfl, hb⟩
            (try (have g0 := h0; clear h0 f0 c0))
            (try (have g1 := h1; clear h1 f1 c1))
            (try (have g2 := h2; clear h2 f2 c2))
            (try (have g3 := h3; clear h3 f3 c3))
            have hB := below_next (w := w) (by go_grown) hb
            have h0 : w3.heap[w1.heap.size]? = some (.cells #[.bool s.on, .int .i64 s.high, .int .i64 s.since, .int .u16 s.off.seq, .int .u32 s.off.time, .int .u16 s.off.pic, .int .u8 s.off.tl0, .int .u16 s.out.seq, .int .u32 s.out.time, .int .u16 s.out.pic, .int .u8 s.out.tl0] 27 (0, 0)) := (hb.block (w1.heap.size) (by first | omega | (simp; done) | (simp; omega))).trans (Eq.trans (b := some (Obj.cells _ _ (0, 0))) (by repeat (first | (with_reducible assumption) | (with_reducible apply heap_set_row11) | (with_reducible apply heap_set_row4) | (with_reducible apply heap_set_same) | ((with_reducible apply heap_set_other'); (focus (first | omega | (simp; done) | (simp; omega)))) | ((with_reducible apply heap_alloc_new); (focus (first | omega | (simp; done) | (simp; omega)))) | (with_reducible apply heap_alloc_old') | (with_reducible apply (heap_drew_at _ _).trans) | (with_reducible apply (heap_drewN_at _ _ _).trans) | (simp only [List.size_toArray, List.length_cons, List.length_nil]; done))) (by exact rfl))
            have h1 : w3.heap[wr.heap.size]? = some (.cells #[.int .i64 kd, .int .u16 q, .int .u32 t, .int .u16 p, .int .u8 l, .int .u32 tm, .bool bg] 29 (0, 0)) := (hb.block (wr.heap.size) (by first | omega | (simp; done) | (simp; omega))).trans (Eq.trans (b := some (Obj.cells _ _ (0, 0))) (by repeat (first | (with_reducible assumption) | (with_reducible apply heap_set_row11) | (with_reducible apply heap_set_row4) | (with_reducible apply heap_set_same) | ((with_reducible apply heap_set_other'); (focus (first | omega | (simp; done) | (simp; omega)))) | ((with_reducible apply heap_alloc_new); (focus (first | omega | (simp; done) | (simp; omega)))) | (with_reducible apply heap_alloc_old') | (with_reducible apply (heap_drew_at _ _).trans) | (with_reducible apply (heap_drewN_at _ _ _).trans) | (simp only [List.size_toArray, List.length_cons, List.length_nil]; done))) (by exact rfl))
            have h2 : w3.heap[wr.heap.size + 1]? = some (.cells #[.bool s.on, .int .i64 s.high, .int .i64 s.since, .int .u16 s.off.seq, .int .u32 s.off.time, .int .u16 s.off.pic, .int .u8 s.off.tl0, .int .u16 s.out.seq, .int .u32 s.out.time, .int .u16 s.out.pic, .int .u8 s.out.tl0] 27 (0, 0)) := (hb.block (wr.heap.size + 1) (by first | omega | (simp; done) | (simp; omega))).trans (Eq.trans (b := some (Obj.cells _ _ (0, 0))) (by repeat (first | (with_reducible assumption) | (with_reducible apply heap_set_row11) | (with_reducible apply heap_set_row4) | (with_reducible apply heap_set_same) | ((with_reducible apply heap_set_other'); (focus (first | omega | (simp; done) | (simp; omega)))) | ((with_reducible apply heap_alloc_new); (focus (first | omega | (simp; done) | (simp; omega)))) | (with_reducible apply heap_alloc_old') | (with_reducible apply (heap_drew_at _ _).trans) | (with_reducible apply (heap_drewN_at _ _ _).trans) | (simp only [List.size_toArray, List.length_cons, List.length_nil]; done))) (by exact rfl))
            have h3 : w3.heap[wr.heap.size + 2]? = some (.cells #[.int .u16 s.out.seq, .int .u32 s.out.time, .int .u16 s.out.pic, .int .u8 s.out.tl0] 25 (0, 0)) := (hb.block (wr.heap.size + 2) (by first | omega | (simp; done) | (simp; omega))).trans (Eq.trans (b := some (Obj.cells _ _ (0, 0))) (by repeat (first | (with_reducible assumption) | (with_reducible apply heap_set_row11) | (with_reducible apply heap_set_row4) | (with_reducible apply heap_set_same) | ((with_reducible apply heap_set_other'); (focus (first | omega | (simp; done) | (simp; omega)))) | ((with_reducible apply heap_alloc_new); (focus (first | omega | (simp; done) | (simp; omega)))) | (with_reducible apply heap_alloc_old') | (with_reducible apply (heap_drew_at _ _).trans) | (with_reducible apply (heap_drewN_at _ _ _).trans) | (simp only [List.size_toArray, List.length_cons, List.length_nil]; done))) (by exact rfl))
            clear hb
            (try clear g0)
            obtain ⟨c0, f0, z0⟩ := blk_facts h0
            (try clear g1)
            obtain ⟨c1, f1, z1⟩ := blk_facts h1
            (try clear g2)
            obtain ⟨c2, f2, z2⟩ := blk_facts h2
            (try clear g3)
            obtain ⟨c3, f3, z3⟩ := blk_facts h3
            have y3 := hB.size
            have hon := HON.out
            go_wp2_with (first | (go_at_call 19; (with_reducible refine (Less32_any _ _ _).mono ?_); rintro e w' ⟨rfl, rfl⟩; rw [HL.out]))
            clear hon
            go_roundw
            case rel => exact ⟨k + 1, ⟨ron, rh, rsi, roff, rout⟩, by omega, by go_num, (Eq.trans (b := some (Obj.cells _ _ (0, 0))) (by repeat (first | (with_reducible assumption) | (with_reducible apply heap_set_row11) | (with_reducible apply heap_set_row4) | (with_reducible apply heap_set_same) | ((with_reducible apply heap_set_other'); (focus (first | omega | (simp; done) | (simp; omega)))) | ((with_reducible apply heap_alloc_new); (focus (first | omega | (simp; done) | (simp; omega)))) | (with_reducible apply heap_alloc_old') | (with_reducible apply (heap_drew_at _ _).trans) | (with_reducible apply (heap_drewN_at _ _ _).trans) | (simp only [List.size_toArray, List.length_cons, List.length_nil]; done))) (by exact rfl)), Lib.hid (ok_more HK.out (by push_cast; omega)), by go_grown⟩
            case measure => simp [intOf]; omega
    · go_wp2_with fail
      go_ret
      exact ⟨rfl, hB⟩
end Go.Proofs.Ytidpkmabcndknaa
