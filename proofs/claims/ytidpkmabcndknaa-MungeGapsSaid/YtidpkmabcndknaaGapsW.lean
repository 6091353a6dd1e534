/- The law MungeGaps, walked. -/
import Derived.Test.YtidpkmabcndknaaAwake
import Derived.Test.YtidpkmabcndknaaOwn
namespace Go.Proofs.Ytidpkmabcndknaa
set_option linter.unusedSimpArgs false
set_option linter.unusedVariables false
open Go.RowKit

theorem send_seq (s : St) (i : Nu) : 0 ≤ (sendF s i).2.1.seq ∧ (sendF s i).2.1.seq ≤ 65535 := by
  have h1 := fromF_ok s.off i
  have h2 : (outF s i).seq = (fromF s.off i).seq := by unfold outF; split <;> rfl
  rcases send_ways s i with ⟨_, e⟩ | ⟨_, _, e⟩ | ⟨_, _, e⟩ <;> rw [e]
  · exact ⟨by show (0 : Int) ≤ 0; omega, by show (0 : Int) ≤ 65535; omega⟩
  · exact ⟨h1.s0, h1.s1⟩
  · exact ⟨by rw [h2]; exact h1.s0, by rw [h2]; exact h1.s1⟩
set_option maxRecDepth 100000 in
set_option maxHeartbeats 4000000 in
theorem gaps_walk (x : Nu) (A : Option Addr) (len cap : Nat) (zs : List Int) (w : World) (hx : x.Ok) (hlen : zs.length = len) (hl : len ≤ 9223372036854775807) (hp : IntsAt w A .i8 zs) (hr : ∀ z ∈ zs, -128 ≤ z ∧ z ≤ 127) :
    Calls Try.prog 9 #[.agg #[.int .u16 x.seq, .int .u32 x.time, .int .u16 x.pic, .int .u8 x.tl0], .slice A len cap] w fun e w' => e = .returned (.bool true) ∧ Below w.heap.size w w' := by
  subst hlen
  have HR := Lib.hid hr; clear hr
  have HP := Lib.hid hp; clear hp
  obtain ⟨x0, x1, _⟩ := id hx
  by_cases h60 : 100 < zs.length
  · go_enter Try.func9, Try.ntmps9
    go_wp2_with fail
    (with_reducible refine (awake_any _).mono ?_)
    rintro e w1 ⟨rfl, hb⟩
    (try (have g0 := h0; clear h0 f0 c0))
    have hB := below_next (w := w) (by go_grown) hb
    have h0 : w1.heap[w.heap.size]? = some (.cells #[.int .u16 x.seq, .int .u32 x.time, .int .u16 x.pic, .int .u8 x.tl0] 25 (0, 0)) := (hb.block (w.heap.size) (by first | omega | (simp; done) | (simp; omega))).trans (Eq.trans (b := some (Obj.cells _ _ (0, 0))) (by repeat (first | (with_reducible assumption) | (with_reducible apply heap_set_row11) | (with_reducible apply heap_set_row4) | (with_reducible apply heap_set_same) | ((with_reducible apply heap_set_other'); (focus (first | omega | (simp; done) | (simp; omega)))) | ((with_reducible apply heap_alloc_new); (focus (first | omega | (simp; done) | (simp; omega)))) | (with_reducible apply heap_alloc_old') | (with_reducible apply (heap_drew_at _ _).trans) | (with_reducible apply (heap_drewN_at _ _ _).trans) | (simp only [List.size_toArray, List.length_cons, List.length_nil]; done))) (by exact rfl))
    clear hb
    (try clear g0)
    obtain ⟨c0, f0, z0⟩ := blk_facts h0
    go_wp2_with fail
    go_ret
    exact ⟨rfl, by go_grown⟩
  obtain ⟨hst, hto⟩ := wide_start x hx ⟨false, 0, 0, ⟨0, 0, 0, 0⟩, ⟨0, 0, 0, 0⟩⟩ rfl 0
  obtain ⟨s1, hs1⟩ : ∃ s1, switchF ⟨false, 0, 0, ⟨0, 0, 0, 0⟩, ⟨0, 0, 0, 0⟩⟩ x 0 = s1 := ⟨_, rfl⟩
  rw [hs1] at hst
  have HS1 := Lib.hid hs1; clear hs1
  have HTO := Lib.hid hto; clear hto
  have HST := Lib.hid hst; clear hst
  go_enter Try.func9, Try.ntmps9
  go_wp2_with fail
  (with_reducible refine (awake_any _).mono ?_)
  rintro e w1 ⟨rfl, hb⟩
  (try (have g0 := h0; clear h0 f0 c0))
  have hB := below_next (w := w) (by go_grown) hb
  have h0 : w1.heap[w.heap.size]? = some (.cells #[.int .u16 x.seq, .int .u32 x.time, .int .u16 x.pic, .int .u8 x.tl0] 25 (0, 0)) := (hb.block (w.heap.size) (by first | omega | (simp; done) | (simp; omega))).trans (Eq.trans (b := some (Obj.cells _ _ (0, 0))) (by repeat (first | (with_reducible assumption) | (with_reducible apply heap_set_row11) | (with_reducible apply heap_set_row4) | (with_reducible apply heap_set_same) | ((with_reducible apply heap_set_other'); (focus (first | omega | (simp; done) | (simp; omega)))) | ((with_reducible apply heap_alloc_new); (focus (first | omega | (simp; done) | (simp; omega)))) | (with_reducible apply heap_alloc_old') | (with_reducible apply (heap_drew_at _ _).trans) | (with_reducible apply (heap_drewN_at _ _ _).trans) | (simp only [List.size_toArray, List.length_cons, List.length_nil]; done))) (by exact rfl))
  clear hb
  (try clear g0)
  obtain ⟨c0, f0, z0⟩ := blk_facts h0
  have y1 := hB.size
  go_wp2_with fail
  with_reducible refine (switch_st ⟨false, 0, 0, ⟨0, 0, 0, 0⟩, ⟨0, 0, 0, 0⟩⟩ s1 x x 0 _ HS1.out HTO.out x0 x1).mono ?_
  rintro e w2 ⟨rfl, hb⟩
  (try (have g0 := h0; clear h0 f0 c0))
  (try (have g1 := h1; clear h1 f1 c1))
  have hB := below_next (w := w) (by go_grown) hb
  have h0 : w2.heap[w.heap.size]? = some (.cells #[.int .u16 x.seq, .int .u32 x.time, .int .u16 x.pic, .int .u8 x.tl0] 25 (0, 0)) := (hb.block (w.heap.size) (by first | omega | (simp; done) | (simp; omega))).trans (Eq.trans (b := some (Obj.cells _ _ (0, 0))) (by repeat (first | (with_reducible assumption) | (with_reducible apply heap_set_row11) | (with_reducible apply heap_set_row4) | (with_reducible apply heap_set_same) | ((with_reducible apply heap_set_other'); (focus (first | omega | (simp; done) | (simp; omega)))) | ((with_reducible apply heap_alloc_new); (focus (first | omega | (simp; done) | (simp; omega)))) | (with_reducible apply heap_alloc_old') | (with_reducible apply (heap_drew_at _ _).trans) | (with_reducible apply (heap_drewN_at _ _ _).trans) | (simp only [List.size_toArray, List.length_cons, List.length_nil]; done))) (by exact rfl))
  have h1 : w2.heap[w1.heap.size]? = some (.cells #[.bool false, .int .i64 0, .int .i64 0, .int .u16 0, .int .u32 0, .int .u16 0, .int .u8 0, .int .u16 0, .int .u32 0, .int .u16 0, .int .u8 0] 27 (0, 0)) := (hb.block (w1.heap.size) (by first | omega | (simp; done) | (simp; omega))).trans (Eq.trans (b := some (Obj.cells _ _ (0, 0))) (by repeat (first | (with_reducible assumption) | (with_reducible apply heap_set_row11) | (with_reducible apply heap_set_row4) | (with_reducible apply heap_set_same) | ((with_reducible apply heap_set_other'); (focus (first | omega | (simp; done) | (simp; omega)))) | ((with_reducible apply heap_alloc_new); (focus (first | omega | (simp; done) | (simp; omega)))) | (with_reducible apply heap_alloc_old') | (with_reducible apply (heap_drew_at _ _).trans) | (with_reducible apply (heap_drewN_at _ _ _).trans) | (simp only [List.size_toArray, List.length_cons, List.length_nil]; done))) (by exact rfl))
  clear hb
  (try clear g0)
  obtain ⟨c0, f0, z0⟩ := blk_facts h0
  (try clear g1)
  obtain ⟨c1, f1, z1⟩ := blk_facts h1
  have y2 := hB.size
  have y12 : w1.heap.size < w2.heap.size := by omega
  go_wp2_with fail
  go_loopw [8, 9] (fun u8 i wr => ∃ (k : Nat) (s : St) (bu by_ : Int), k ≤ zs.length ∧ i = .int .i64 k ∧ u8 = .int .u16 bu ∧ 0 ≤ bu ∧ bu ≤ 65535 ∧ Hid ((bu - by_) % 65536 = 0 ∧ Wide s x.seq k) ∧ -(128 * k) ≤ by_ ∧ by_ ≤ 128 * k ∧ wr.heap[w.heap.size]? = some (.cells #[.int .u16 x.seq, .int .u32 x.time, .int .u16 x.pic, .int .u8 x.tl0] 25 (0, 0)) ∧ wr.heap[w1.heap.size]? = some (.cells #[.bool s.on, .int .i64 s.high, .int .i64 s.since, .int .u16 s.off.seq, .int .u32 s.off.time, .int .u16 s.off.pic, .int .u8 s.off.tl0, .int .u16 s.out.seq, .int .u32 s.out.time, .int .u16 s.out.pic, .int .u8 s.out.tl0] 27 (0, 0)) ∧ wr.heap[w2.heap.size]? = some (.cells #[.int .u16 x.seq, .int .u32 x.time, .int .u16 x.pic, .int .u8 x.tl0] 25 (0, 0)) ∧ Below w.heap.size w wr) (fun _ i _ => zs.length - (intOf i).toNat)
  case atStart => exact ⟨0, s1, 0, 0, by omega, rfl, rfl, by omega, by omega, Lib.hid ⟨by omega, HST.out⟩, by omega, by omega, (Eq.trans (b := some (Obj.cells _ _ (0, 0))) (by repeat (first | (with_reducible assumption) | (with_reducible apply heap_set_row11) | (with_reducible apply heap_set_row4) | (with_reducible apply heap_set_same) | ((with_reducible apply heap_set_other'); (focus (first | omega | (simp; done) | (simp; omega)))) | ((with_reducible apply heap_alloc_new); (focus (first | omega | (simp; done) | (simp; omega)))) | (with_reducible apply heap_alloc_old') | (with_reducible apply (heap_drew_at _ _).trans) | (with_reducible apply (heap_drewN_at _ _ _).trans) | (simp only [List.size_toArray, List.length_cons, List.length_nil]; done))) (by exact rfl)), (Eq.trans (b := some (Obj.cells _ _ (0, 0))) (by repeat (first | (with_reducible assumption) | (with_reducible apply heap_set_row11) | (with_reducible apply heap_set_row4) | (with_reducible apply heap_set_same) | ((with_reducible apply heap_set_other'); (focus (first | omega | (simp; done) | (simp; omega)))) | ((with_reducible apply heap_alloc_new); (focus (first | omega | (simp; done) | (simp; omega)))) | (with_reducible apply heap_alloc_old') | (with_reducible apply (heap_drew_at _ _).trans) | (with_reducible apply (heap_drewN_at _ _ _).trans) | (simp only [List.size_toArray, List.length_cons, List.length_nil]; done))) (by exact rfl)), (Eq.trans (b := some (Obj.cells _ _ (0, 0))) (by repeat (first | (with_reducible assumption) | (with_reducible apply heap_set_row11) | (with_reducible apply heap_set_row4) | (with_reducible apply heap_set_same) | ((with_reducible apply heap_set_other'); (focus (first | omega | (simp; done) | (simp; omega)))) | ((with_reducible apply heap_alloc_new); (focus (first | omega | (simp; done) | (simp; omega)))) | (with_reducible apply heap_alloc_old') | (with_reducible apply (heap_drew_at _ _).trans) | (with_reducible apply (heap_drewN_at _ _ _).trans) | (simp only [List.size_toArray, List.length_cons, List.length_nil]; done))) (by exact rfl)), by go_grown⟩
  case round =>
    clear hB h0 c0 f0 z0
    (try clear h1 c1 f1 z1)
    obtain ⟨k, s, bu, by_, hk, rfl, rfl, bu0, bu1, HG, by0, by1, h0, h1, h2, hB⟩ := hrel
    have yr := hB.size
    obtain ⟨c0, f0, z0⟩ := blk_facts h0
    obtain ⟨c1, f1, z1⟩ := blk_facts h1
    obtain ⟨c2, f2, z2⟩ := blk_facts h2
    by_cases hlt : k < zs.length
    · obtain ⟨ab, ao, rfl, hab, q0⟩ := HP.out k hlt
      have hz := HR.out (zs.getD k 0) (by simp [List.getD, hlt])
      generalize zs.getD k 0 = z at *
      obtain ⟨zl, zu⟩ := hz
      replace q0 := (hB.cell (p := ⟨ab, ao + k, none⟩) hab).trans q0
      have hb1 := Nat.lt_of_lt_of_le hab hB.size
      obtain ⟨hbu, hwi⟩ := HG.out
      have wlo := hwi.lo
      have whi := hwi.hi
      have hsd := wide_send hwi (by omega) (by_ + z) (by push_cast; omega) (by push_cast; omega) ⟨(IntKind.u16.wrap (x.seq + IntKind.u16.wrap (bu + IntKind.u16.wrap z))), x.time, x.pic, x.tl0⟩ (by simp only [u16_mod]; omega)
      have hsq := send_seq s ⟨(IntKind.u16.wrap (x.seq + IntKind.u16.wrap (bu + IntKind.u16.wrap z))), x.time, x.pic, x.tl0⟩
      have hfar : far16 x.seq (IntKind.u16.wrap (x.seq + IntKind.u16.wrap (bu + IntKind.u16.wrap z))) = by_ + z := far16_of' _ _ _ (by omega) (by omega) (by simp only [u16_mod]; omega)
      have hX0 : 0 ≤ IntKind.u16.wrap (bu + IntKind.u16.wrap z) ∧ IntKind.u16.wrap (bu + IntKind.u16.wrap z) ≤ 65535 := by simp only [u16_mod]; omega
      have hbu2 : (IntKind.u16.wrap (bu + IntKind.u16.wrap z) - (by_ + z)) % 65536 = 0 := by simp only [u16_mod]; omega
      obtain ⟨hX0, hX1⟩ := hX0
      generalize hr : sendF s ⟨(IntKind.u16.wrap (x.seq + IntKind.u16.wrap (bu + IntKind.u16.wrap z))), x.time, x.pic, x.tl0⟩ = r at *
      obtain ⟨r, ⟨ms, mt, mp, ml⟩, is⟩ := r
      obtain ⟨hw2, hse, his⟩ := hsd
      dsimp only at hw2 hse his hsq
      have HW2 := Lib.hid hw2; clear hw2
      have HRr := Lib.hid hr; clear hr
      have HBU := Lib.hid hbu2; clear hbu2 hbu
      have HSE := Lib.hid hse; clear hse
      have HSQ := Lib.hid hsq; clear hsq
      have HFA := Lib.hid hfar; clear hfar
      have hcase : (is = true ∧ 0 < by_ + z) ∨ (is = true ∧ ¬ 0 < by_ + z ∧ (r.high != s.high) = true) ∨ (is = false ∧ ¬ 0 < by_ + z ∧ (r.high != s.high) = false) := by
        by_cases c1 : 0 < by_ + z
        · left; rw [his]; simp [c1]
        · right
          by_cases c2 : r.high = s.high
          · right; rw [his]; simp [c1, c2]
          · left; rw [his]; simp [c1, c2]
      clear his
      rcases hcase with ⟨rfl, c1⟩ | ⟨rfl, c1, c2⟩ | ⟨rfl, c1, c2⟩
      · have hms : ms = (IntKind.u16.wrap (x.seq + IntKind.u16.wrap (bu + IntKind.u16.wrap z))) := by have e1 := HSE.out rfl; have e2 := HSQ.out; have e3 := HBU.out; simp only [u16_mod] at *; omega
        subst hms
        have HL : Hid (decide (0 < far16 x.seq (IntKind.u16.wrap (x.seq + IntKind.u16.wrap (bu + IntKind.u16.wrap z)))) = true) := Lib.hid (by rw [HFA.out]; simpa using c1)
        clear c1
        go_wp2_with fail
        with_reducible refine (send_st s r ⟨(IntKind.u16.wrap (x.seq + IntKind.u16.wrap (bu + IntKind.u16.wrap z))), x.time, x.pic, x.tl0⟩ ⟨(IntKind.u16.wrap (x.seq + IntKind.u16.wrap (bu + IntKind.u16.wrap z))), mt, mp, ml⟩ true _ HRr.out (by omega) (by omega)).mono ?_
        rintro e w3 ⟨rfl, hb⟩
        (try (have g0 := h0; clear h0 f0 c0))
        (try (have g1 := h1; clear h1 f1 c1))
        (try (have g2 := h2; clear h2 f2 c2))
        (try (have g3 := h3; clear h3 f3 c3))
        have hB := below_next (w := w) (by go_grown) hb
        have h0 : w3.heap[w.heap.size]? = some (.cells #[.int .u16 x.seq, .int .u32 x.time, .int .u16 x.pic, .int .u8 x.tl0] 25 (0, 0)) := (hb.block (w.heap.size) (by first | omega | (simp; done) | (simp; omega))).trans (Eq.trans (b := some (Obj.cells _ _ (0, 0))) (by repeat (first | (with_reducible assumption) | (with_reducible apply heap_set_row11) | (with_reducible apply heap_set_row4) | (with_reducible apply heap_set_same) | ((with_reducible apply heap_set_other'); (focus (first | omega | (simp; done) | (simp; omega)))) | ((with_reducible apply heap_alloc_new); (focus (first | omega | (simp; done) | (simp; omega)))) | (with_reducible apply heap_alloc_old') | (with_reducible apply (heap_drew_at _ _).trans) | (with_reducible apply (heap_drewN_at _ _ _).trans) | (simp only [List.size_toArray, List.length_cons, List.length_nil]; done))) (by exact rfl))
        have h1 : w3.heap[w1.heap.size]? = some (.cells #[.bool s.on, .int .i64 s.high, .int .i64 s.since, .int .u16 s.off.seq, .int .u32 s.off.time, .int .u16 s.off.pic, .int .u8 s.off.tl0, .int .u16 s.out.seq, .int .u32 s.out.time, .int .u16 s.out.pic, .int .u8 s.out.tl0] 27 (0, 0)) := (hb.block (w1.heap.size) (by first | omega | (simp; done) | (simp; omega))).trans (Eq.trans (b := some (Obj.cells _ _ (0, 0))) (by repeat (first | (with_reducible assumption) | (with_reducible apply heap_set_row11) | (with_reducible apply heap_set_row4) | (with_reducible apply heap_set_same) | ((with_reducible apply heap_set_other'); (focus (first | omega | (simp; done) | (simp; omega)))) | ((with_reducible apply heap_alloc_new); (focus (first | omega | (simp; done) | (simp; omega)))) | (with_reducible apply heap_alloc_old') | (with_reducible apply (heap_drew_at _ _).trans) | (with_reducible apply (heap_drewN_at _ _ _).trans) | (simp only [List.size_toArray, List.length_cons, List.length_nil]; done))) (by exact rfl))
        have h2 : w3.heap[w2.heap.size]? = some (.cells #[.int .u16 x.seq, .int .u32 x.time, .int .u16 x.pic, .int .u8 x.tl0] 25 (0, 0)) := (hb.block (w2.heap.size) (by first | omega | (simp; done) | (simp; omega))).trans (Eq.trans (b := some (Obj.cells _ _ (0, 0))) (by repeat (first | (with_reducible assumption) | (with_reducible apply heap_set_row11) | (with_reducible apply heap_set_row4) | (with_reducible apply heap_set_same) | ((with_reducible apply heap_set_other'); (focus (first | omega | (simp; done) | (simp; omega)))) | ((with_reducible apply heap_alloc_new); (focus (first | omega | (simp; done) | (simp; omega)))) | (with_reducible apply heap_alloc_old') | (with_reducible apply (heap_drew_at _ _).trans) | (with_reducible apply (heap_drewN_at _ _ _).trans) | (simp only [List.size_toArray, List.length_cons, List.length_nil]; done))) (by exact rfl))
        have h3 : w3.heap[wr.heap.size]? = some (.cells #[.int .u16 (IntKind.u16.wrap (x.seq + IntKind.u16.wrap (bu + IntKind.u16.wrap z))), .int .u32 x.time, .int .u16 x.pic, .int .u8 x.tl0] 25 (0, 0)) := (hb.block (wr.heap.size) (by first | omega | (simp; done) | (simp; omega))).trans (Eq.trans (b := some (Obj.cells _ _ (0, 0))) (by repeat (first | (with_reducible assumption) | (with_reducible apply heap_set_row11) | (with_reducible apply heap_set_row4) | (with_reducible apply heap_set_same) | ((with_reducible apply heap_set_other'); (focus (first | omega | (simp; done) | (simp; omega)))) | ((with_reducible apply heap_alloc_new); (focus (first | omega | (simp; done) | (simp; omega)))) | (with_reducible apply heap_alloc_old') | (with_reducible apply (heap_drew_at _ _).trans) | (with_reducible apply (heap_drewN_at _ _ _).trans) | (simp only [List.size_toArray, List.length_cons, List.length_nil]; done))) (by exact rfl))
        clear hb
        (try clear g0)
        obtain ⟨c0, f0, z0⟩ := blk_facts h0
        (try clear g1)
        obtain ⟨c1, f1, z1⟩ := blk_facts h1
        (try clear g2)
        obtain ⟨c2, f2, z2⟩ := blk_facts h2
        (try clear g3)
        obtain ⟨c3, f3, z3⟩ := blk_facts h3
        have y3 := hB.size
        go_wp2_with (first | (go_at_call 20; (with_reducible refine (Less16_any _ _ _).mono ?_); rintro e w' ⟨rfl, rfl⟩; rw [HL.out]))
        go_roundw
        case rel => exact ⟨k + 1, r, _, by_ + z, by omega, by go_num, rfl, hX0, hX1, Lib.hid ⟨HBU.out, HW2.out⟩, by push_cast; omega, by push_cast; omega, (Eq.trans (b := some (Obj.cells _ _ (0, 0))) (by repeat (first | (with_reducible assumption) | (with_reducible apply heap_set_row11) | (with_reducible apply heap_set_row4) | (with_reducible apply heap_set_same) | ((with_reducible apply heap_set_other'); (focus (first | omega | (simp; done) | (simp; omega)))) | ((with_reducible apply heap_alloc_new); (focus (first | omega | (simp; done) | (simp; omega)))) | (with_reducible apply heap_alloc_old') | (with_reducible apply (heap_drew_at _ _).trans) | (with_reducible apply (heap_drewN_at _ _ _).trans) | (simp only [List.size_toArray, List.length_cons, List.length_nil]; done))) (by exact rfl)), (Eq.trans (b := some (Obj.cells _ _ (0, 0))) (by repeat (first | (with_reducible assumption) | (with_reducible apply heap_set_row11) | (with_reducible apply heap_set_row4) | (with_reducible apply heap_set_same) | ((with_reducible apply heap_set_other'); (focus (first | omega | (simp; done) | (simp; omega)))) | ((with_reducible apply heap_alloc_new); (focus (first | omega | (simp; done) | (simp; omega)))) | (with_reducible apply heap_alloc_old') | (with_reducible apply (heap_drew_at _ _).trans) | (with_reducible apply (heap_drewN_at _ _ _).trans) | (simp only [List.size_toArray, List.length_cons, List.length_nil]; done))) (by exact rfl)), (Eq.trans (b := some (Obj.cells _ _ (0, 0))) (by repeat (first | (with_reducible assumption) | (with_reducible apply heap_set_row11) | (with_reducible apply heap_set_row4) | (with_reducible apply heap_set_same) | ((with_reducible apply heap_set_other'); (focus (first | omega | (simp; done) | (simp; omega)))) | ((with_reducible apply heap_alloc_new); (focus (first | omega | (simp; done) | (simp; omega)))) | (with_reducible apply heap_alloc_old') | (with_reducible apply (heap_drew_at _ _).trans) | (with_reducible apply (heap_drewN_at _ _ _).trans) | (simp only [List.size_toArray, List.length_cons, List.length_nil]; done))) (by exact rfl)), by go_grown⟩
        case measure => simp [intOf]; omega
      · have hms : ms = (IntKind.u16.wrap (x.seq + IntKind.u16.wrap (bu + IntKind.u16.wrap z))) := by have e1 := HSE.out rfl; have e2 := HSQ.out; have e3 := HBU.out; simp only [u16_mod] at *; omega
        subst hms
        have HL : Hid (decide (0 < far16 x.seq (IntKind.u16.wrap (x.seq + IntKind.u16.wrap (bu + IntKind.u16.wrap z)))) = false) := Lib.hid (by rw [HFA.out]; simpa using c1)
        clear c1
        have C2 := Lib.hid c2; clear c2
        go_wp2_with fail
        with_reducible refine (send_st s r ⟨(IntKind.u16.wrap (x.seq + IntKind.u16.wrap (bu + IntKind.u16.wrap z))), x.time, x.pic, x.tl0⟩ ⟨(IntKind.u16.wrap (x.seq + IntKind.u16.wrap (bu + IntKind.u16.wrap z))), mt, mp, ml⟩ true _ HRr.out (by omega) (by omega)).mono ?_
        rintro e w3 ⟨rfl, hb⟩
        (try (have g0 := h0; clear h0 f0 c0))
        (try (have g1 := h1; clear h1 f1 c1))
        (try (have g2 := h2; clear h2 f2 c2))
        (try (have g3 := h3; clear h3 f3 c3))
        have hB := below_next (w := w) (by go_grown) hb
        have h0 : w3.heap[w.heap.size]? = some (.cells #[.int .u16 x.seq, .int .u32 x.time, .int .u16 x.pic, .int .u8 x.tl0] 25 (0, 0)) := (hb.block (w.heap.size) (by first | omega | (simp; done) | (simp; omega))).trans (Eq.trans (b := some (Obj.cells _ _ (0, 0))) (by repeat (first | (with_reducible assumption) | (with_reducible apply heap_set_row11) | (with_reducible apply heap_set_row4) | (with_reducible apply heap_set_same) | ((with_reducible apply heap_set_other'); (focus (first | omega | (simp; done) | (simp; omega)))) | ((with_reducible apply heap_alloc_new); (focus (first | omega | (simp; done) | (simp; omega)))) | (with_reducible apply heap_alloc_old') | (with_reducible apply (heap_drew_at _ _).trans) | (with_reducible apply (heap_drewN_at _ _ _).trans) | (simp only [List.size_toArray, List.length_cons, List.length_nil]; done))) (by exact rfl))
        have h1 : w3.heap[w1.heap.size]? = some (.cells #[.bool s.on, .int .i64 s.high, .int .i64 s.since, .int .u16 s.off.seq, .int .u32 s.off.time, .int .u16 s.off.pic, .int .u8 s.off.tl0, .int .u16 s.out.seq, .int .u32 s.out.time, .int .u16 s.out.pic, .int .u8 s.out.tl0] 27 (0, 0)) := (hb.block (w1.heap.size) (by first | omega | (simp; done) | (simp; omega))).trans (Eq.trans (b := some (Obj.cells _ _ (0, 0))) (by repeat (first | (with_reducible assumption) | (with_reducible apply heap_set_row11) | (with_reducible apply heap_set_row4) | (with_reducible apply heap_set_same) | ((with_reducible apply heap_set_other'); (focus (first | omega | (simp; done) | (simp; omega)))) | ((with_reducible apply heap_alloc_new); (focus (first | omega | (simp; done) | (simp; omega)))) | (with_reducible apply heap_alloc_old') | (with_reducible apply (heap_drew_at _ _).trans) | (with_reducible apply (heap_drewN_at _ _ _).trans) | (simp only [List.size_toArray, List.length_cons, List.length_nil]; done))) (by exact rfl))
        have h2 : w3.heap[w2.heap.size]? = some (.cells #[.int .u16 x.seq, .int .u32 x.time, .int .u16 x.pic, .int .u8 x.tl0] 25 (0, 0)) := (hb.block (w2.heap.size) (by first | omega | (simp; done) | (simp; omega))).trans (Eq.trans (b := some (Obj.cells _ _ (0, 0))) (by repeat (first | (with_reducible assumption) | (with_reducible apply heap_set_row11) | (with_reducible apply heap_set_row4) | (with_reducible apply heap_set_same) | ((with_reducible apply heap_set_other'); (focus (first | omega | (simp; done) | (simp; omega)))) | ((with_reducible apply heap_alloc_new); (focus (first | omega | (simp; done) | (simp; omega)))) | (with_reducible apply heap_alloc_old') | (with_reducible apply (heap_drew_at _ _).trans) | (with_reducible apply (heap_drewN_at _ _ _).trans) | (simp only [List.size_toArray, List.length_cons, List.length_nil]; done))) (by exact rfl))
        have h3 : w3.heap[wr.heap.size]? = some (.cells #[.int .u16 (IntKind.u16.wrap (x.seq + IntKind.u16.wrap (bu + IntKind.u16.wrap z))), .int .u32 x.time, .int .u16 x.pic, .int .u8 x.tl0] 25 (0, 0)) := (hb.block (wr.heap.size) (by first | omega | (simp; done) | (simp; omega))).trans (Eq.trans (b := some (Obj.cells _ _ (0, 0))) (by repeat (first | (with_reducible assumption) | (with_reducible apply heap_set_row11) | (with_reducible apply heap_set_row4) | (with_reducible apply heap_set_same) | ((with_reducible apply heap_set_other'); (focus (first | omega | (simp; done) | (simp; omega)))) | ((with_reducible apply heap_alloc_new); (focus (first | omega | (simp; done) | (simp; omega)))) | (with_reducible apply heap_alloc_old') | (with_reducible apply (heap_drew_at _ _).trans) | (with_reducible apply (heap_drewN_at _ _ _).trans) | (simp only [List.size_toArray, List.length_cons, List.length_nil]; done))) (by exact rfl))
        clear hb
        (try clear g0)
        obtain ⟨c0, f0, z0⟩ := blk_facts h0
        (try clear g1)
        obtain ⟨c1, f1, z1⟩ := blk_facts h1
        (try clear g2)
        obtain ⟨c2, f2, z2⟩ := blk_facts h2
        (try clear g3)
        obtain ⟨c3, f3, z3⟩ := blk_facts h3
        have y3 := hB.size
        have c2 := C2.out
        go_wp2_with (first | (go_at_call 20; (with_reducible refine (Less16_any _ _ _).mono ?_); rintro e w' ⟨rfl, rfl⟩; rw [HL.out]))
        go_roundw
        case rel => exact ⟨k + 1, r, _, by_ + z, by omega, by go_num, rfl, hX0, hX1, Lib.hid ⟨HBU.out, HW2.out⟩, by push_cast; omega, by push_cast; omega, (Eq.trans (b := some (Obj.cells _ _ (0, 0))) (by repeat (first | (with_reducible assumption) | (with_reducible apply heap_set_row11) | (with_reducible apply heap_set_row4) | (with_reducible apply heap_set_same) | ((with_reducible apply heap_set_other'); (focus (first | omega | (simp; done) | (simp; omega)))) | ((with_reducible apply heap_alloc_new); (focus (first | omega | (simp; done) | (simp; omega)))) | (with_reducible apply heap_alloc_old') | (with_reducible apply (heap_drew_at _ _).trans) | (with_reducible apply (heap_drewN_at _ _ _).trans) | (simp only [List.size_toArray, List.length_cons, List.length_nil]; done))) (by exact rfl)), (Eq.trans (b := some (Obj.cells _ _ (0, 0))) (by repeat (first | (with_reducible assumption) | (with_reducible apply heap_set_row11) | (with_reducible apply heap_set_row4) | (with_reducible apply heap_set_same) | ((with_reducible apply heap_set_other'); (focus (first | omega | (simp; done) | (simp; omega)))) | ((with_reducible apply heap_alloc_new); (focus (first | omega | (simp; done) | (simp; omega)))) | (with_reducible apply heap_alloc_old') | (with_reducible apply (heap_drew_at _ _).trans) | (with_reducible apply (heap_drewN_at _ _ _).trans) | (simp only [List.size_toArray, List.length_cons, List.length_nil]; done))) (by exact rfl)), (Eq.trans (b := some (Obj.cells _ _ (0, 0))) (by repeat (first | (with_reducible assumption) | (with_reducible apply heap_set_row11) | (with_reducible apply heap_set_row4) | (with_reducible apply heap_set_same) | ((with_reducible apply heap_set_other'); (focus (first | omega | (simp; done) | (simp; omega)))) | ((with_reducible apply heap_alloc_new); (focus (first | omega | (simp; done) | (simp; omega)))) | (with_reducible apply heap_alloc_old') | (with_reducible apply (heap_drew_at _ _).trans) | (with_reducible apply (heap_drewN_at _ _ _).trans) | (simp only [List.size_toArray, List.length_cons, List.length_nil]; done))) (by exact rfl)), by go_grown⟩
        case measure => simp [intOf]; omega
      · have HL : Hid (decide (0 < far16 x.seq (IntKind.u16.wrap (x.seq + IntKind.u16.wrap (bu + IntKind.u16.wrap z)))) = false) := Lib.hid (by rw [HFA.out]; simpa using c1)
        clear c1
        have C2 := Lib.hid c2; clear c2
        go_wp2_with fail
        with_reducible refine (send_st s r ⟨(IntKind.u16.wrap (x.seq + IntKind.u16.wrap (bu + IntKind.u16.wrap z))), x.time, x.pic, x.tl0⟩ ⟨ms, mt, mp, ml⟩ false _ HRr.out (by omega) (by omega)).mono ?_
        rintro e w3 ⟨rfl, hb⟩
        (try (have g0 := h0; clear h0 f0 c0))
        (try (have g1 := h1; clear h1 f1 c1))
        (try (have g2 := h2; clear h2 f2 c2))
        (try (have g3 := h3; clear h3 f3 c3))
        have hB := below_next (w := w) (by go_grown) hb
        have h0 : w3.heap[w.heap.size]? = some (.cells #[.int .u16 x.seq, .int .u32 x.time, .int .u16 x.pic, .int .u8 x.tl0] 25 (0, 0)) := (hb.block (w.heap.size) (by first | omega | (simp; done) | (simp; omega))).trans (Eq.trans (b := some (Obj.cells _ _ (0, 0))) (by repeat (first | (with_reducible assumption) | (with_reducible apply heap_set_row11) | (with_reducible apply heap_set_row4) | (with_reducible apply heap_set_same) | ((with_reducible apply heap_set_other'); (focus (first | omega | (simp; done) | (simp; omega)))) | ((with_reducible apply heap_alloc_new); (focus (first | omega | (simp; done) | (simp; omega)))) | (with_reducible apply heap_alloc_old') | (with_reducible apply (heap_drew_at _ _).trans) | (with_reducible apply (heap_drewN_at _ _ _).trans) | (simp only [List.size_toArray, List.length_cons, List.length_nil]; done))) (by exact rfl))
        have h1 : w3.heap[w1.heap.size]? = some (.cells #[.bool s.on, .int .i64 s.high, .int .i64 s.since, .int .u16 s.off.seq, .int .u32 s.off.time, .int .u16 s.off.pic, .int .u8 s.off.tl0, .int .u16 s.out.seq, .int .u32 s.out.time, .int .u16 s.out.pic, .int .u8 s.out.tl0] 27 (0, 0)) := (hb.block (w1.heap.size) (by first | omega | (simp; done) | (simp; omega))).trans (Eq.trans (b := some (Obj.cells _ _ (0, 0))) (by repeat (first | (with_reducible assumption) | (with_reducible apply heap_set_row11) | (with_reducible apply heap_set_row4) | (with_reducible apply heap_set_same) | ((with_reducible apply heap_set_other'); (focus (first | omega | (simp; done) | (simp; omega)))) | ((with_reducible apply heap_alloc_new); (focus (first | omega | (simp; done) | (simp; omega)))) | (with_reducible apply heap_alloc_old') | (with_reducible apply (heap_drew_at _ _).trans) | (with_reducible apply (heap_drewN_at _ _ _).trans) | (simp only [List.size_toArray, List.length_cons, List.length_nil]; done))) (by exact rfl))
        have h2 : w3.heap[w2.heap.size]? = some (.cells #[.int .u16 x.seq, .int .u32 x.time, .int .u16 x.pic, .int .u8 x.tl0] 25 (0, 0)) := (hb.block (w2.heap.size) (by first | omega | (simp; done) | (simp; omega))).trans (Eq.trans (b := some (Obj.cells _ _ (0, 0))) (by repeat (first | (with_reducible assumption) | (with_reducible apply heap_set_row11) | (with_reducible apply heap_set_row4) | (with_reducible apply heap_set_same) | ((with_reducible apply heap_set_other'); (focus (first | omega | (simp; done) | (simp; omega)))) | ((with_reducible apply heap_alloc_new); (focus (first | omega | (simp; done) | (simp; omega)))) | (with_reducible apply heap_alloc_old') | (with_reducible apply (heap_drew_at _ _).trans) | (with_reducible apply (heap_drewN_at _ _ _).trans) | (simp only [List.size_toArray, List.length_cons, List.length_nil]; done))) (by exact rfl))
        have h3 : w3.heap[wr.heap.size]? = some (.cells #[.int .u16 (IntKind.u16.wrap (x.seq + IntKind.u16.wrap (bu + IntKind.u16.wrap z))), .int .u32 x.time, .int .u16 x.pic, .int .u8 x.tl0] 25 (0, 0)) := (hb.block (wr.heap.size) (by first | omega | (simp; done) | (simp; omega))).trans (Eq.trans (b := some (Obj.cells _ _ (0, 0))) (by repeat (first | (with_reducible assumption) | (with_reducible apply heap_set_row11) | (with_reducible apply heap_set_row4) | (with_reducible apply heap_set_same) | ((with_reducible apply heap_set_other'); (focus (first | omega | (simp; done) | (simp; omega)))) | ((with_reducible apply heap_alloc_new); (focus (first | omega | (simp; done) | (simp; omega)))) | (with_reducible apply heap_alloc_old') | (with_reducible apply (heap_drew_at _ _).trans) | (with_reducible apply (heap_drewN_at _ _ _).trans) | (simp only [List.size_toArray, List.length_cons, List.length_nil]; done))) (by exact rfl))
        clear hb
        (try clear g0)
        obtain ⟨c0, f0, z0⟩ := blk_facts h0
        (try clear g1)
        obtain ⟨c1, f1, z1⟩ := blk_facts h1
        (try clear g2)
        obtain ⟨c2, f2, z2⟩ := blk_facts h2
        (try clear g3)
        obtain ⟨c3, f3, z3⟩ := blk_facts h3
        have y3 := hB.size
        have c2 := C2.out
        go_wp2_with (first | (go_at_call 20; (with_reducible refine (Less16_any _ _ _).mono ?_); rintro e w' ⟨rfl, rfl⟩; rw [HL.out]))
        go_roundw
        case rel => exact ⟨k + 1, r, _, by_ + z, by omega, by go_num, rfl, hX0, hX1, Lib.hid ⟨HBU.out, HW2.out⟩, by push_cast; omega, by push_cast; omega, (Eq.trans (b := some (Obj.cells _ _ (0, 0))) (by repeat (first | (with_reducible assumption) | (with_reducible apply heap_set_row11) | (with_reducible apply heap_set_row4) | (with_reducible apply heap_set_same) | ((with_reducible apply heap_set_other'); (focus (first | omega | (simp; done) | (simp; omega)))) | ((with_reducible apply heap_alloc_new); (focus (first | omega | (simp; done) | (simp; omega)))) | (with_reducible apply heap_alloc_old') | (with_reducible apply (heap_drew_at _ _).trans) | (with_reducible apply (heap_drewN_at _ _ _).trans) | (simp only [List.size_toArray, List.length_cons, List.length_nil]; done))) (by exact rfl)), (Eq.trans (b := some (Obj.cells _ _ (0, 0))) (by repeat (first | (with_reducible assumption) | (with_reducible apply heap_set_row11) | (with_reducible apply heap_set_row4) | (with_reducible apply heap_set_same) | ((with_reducible apply heap_set_other'); (focus (first | omega | (simp; done) | (simp; omega)))) | ((with_reducible apply heap_alloc_new); (focus (first | omega | (simp; done) | (simp; omega)))) | (with_reducible apply heap_alloc_old') | (with_reducible apply (heap_drew_at _ _).trans) | (with_reducible apply (heap_drewN_at _ _ _).trans) | (simp only [List.size_toArray, List.length_cons, List.length_nil]; done))) (by exact rfl)), (Eq.trans (b := some (Obj.cells _ _ (0, 0))) (by repeat (first | (with_reducible assumption) | (with_reducible apply heap_set_row11) | (with_reducible apply heap_set_row4) | (with_reducible apply heap_set_same) | ((with_reducible apply heap_set_other'); (focus (first | omega | (simp; done) | (simp; omega)))) | ((with_reducible apply heap_alloc_new); (focus (first | omega | (simp; done) | (simp; omega)))) | (with_reducible apply heap_alloc_old') | (with_reducible apply (heap_drew_at _ _).trans) | (with_reducible apply (heap_drewN_at _ _ _).trans) | (simp only [List.size_toArray, List.length_cons, List.length_nil]; done))) (by exact rfl)), by go_grown⟩
        case measure => simp [intOf]; omega
    · go_wp2_with fail
      go_ret
      exact ⟨rfl, hB⟩
end Go.Proofs.Ytidpkmabcndknaa
