/- The law MungePlays, walked. -/
import Derived.Test.YtidpkmabcndknaaOfW
import Derived.Test.YtidpkmabcndknaaVia
import Derived.Test.YtidpkmabcndknaaSteps
import Derived.Deep.RegionHeld3
import Derived.Deep.DeepCutAuto
import Derived.Deep.CutBlock
namespace Go.Proofs.Ytidpkmabcndknaa
set_option linter.unusedSimpArgs false
set_option linter.unusedVariables false
open Go.RowKit

theorem ne_ty {w : World} {a b : Nat} {cs ds : Array Value} {s t : TypeId} (h : w.heap[a]? = some (.cells cs s (0, 0))) (k : w.heap[b]? = some (.cells ds t (0, 0))) (ht : s ≠ t) : a ≠ b := fun e => by
  subst e
  rw [h] at k
  simp only [Option.some.injEq, Obj.cells.injEq] at k
  exact ht k.2.1
theorem below_set1 {w w' : World} {B : Nat} {p : Addr} {v : Value} (hp : B ≤ p.block) (h : Below B w w') : Below B w (w'.setCell p v) := h.setCell hp v
theorem below_drewx {B : Nat} {a w : World} (h : Below B a w) : Below B a w.drew := ⟨h.os, h.tape, h.output, h.size, h.block⟩
theorem take_l {P : Program} {l : List Oper} {Q : Exit → Act → World → Prop} {md : Region.Mode} {S : World → Prop} {i : Nat} {oi : Oper} {v : Value} {fuel : Nat} {listed : Array Bool} {a : Act} {w : World} (hi : l[i]? = some oi)
    (hs : Region.noSelect l.toArray = true) (hf : Region.free md l.toArray listed i = true) (hr : (Region.ready md l.toArray listed).contains i = true)
    (hQ : ∀ c a w, Q (.panic c) (a.put oi.dst v) w → Q (.panic c) a w) (hy : YieldsIf P l.toArray S oi v a) (hS : S w)
    (h : wpAnyH P md l.toArray Q S fuel (listed.setIfInBounds i true) (a.put oi.dst v) w) : wpAnyH P md l.toArray Q S (fuel + 1) listed a w :=
  wpAnyH_take (by simpa using hi) hs hf hr hQ hy hS h
theorem cons_l {P : Program} {l : List Oper} {Q : Exit → Act → World → Prop} {md : Region.Mode} {S : World → Prop} {fuel : Nat} {listed : Array Bool} {a : Act} {w : World} {i : Nat} {o : Oper} {rs : List Nat} (ho : l[i]? = some o)
    (h : ∀ K' : Act → World → Prop, Shut (∀ a w, S w → (S w → wpAnyH P md l.toArray Q S fuel (listed.setIfInBounds i true) a w) → K' a w) → if Region.wanted o (yielded l.toArray a.tmps) = true then Oper.wp P o a w K' Q else K' (a.put o.dst undef) w)
    (hs : AllReadyH P md l.toArray Q S fuel listed a w rs) : AllReadyH P md l.toArray Q S fuel listed a w (i :: rs) :=
  AllReadyH.cons (by simpa using ho) h hs

def Two (wx : World) (T U : Nat) (B : Int) : Prop := ∃ r : St, wx.heap[T]? = some (.cells #[.bool r.on, .int .i64 r.high, .int .i64 r.since, .int .u16 r.off.seq, .int .u32 r.off.time, .int .u16 r.off.pic, .int .u8 r.off.tl0, .int .u16 r.out.seq, .int .u32 r.out.time, .int .u16 r.out.pic, .int .u8 r.out.tl0] 27 (0, 0)) ∧ wx.heap[U]? = some (.cells #[.bool r.on, .int .i64 r.high, .int .i64 r.since, .int .i64 r.off.seq, .int .i64 r.off.time, .int .i64 r.off.pic, .int .i64 r.off.tl0, .int .i64 r.out.seq, .int .i64 r.out.time, .int .i64 r.out.pic, .int .i64 r.out.tl0] 36 (0, 0)) ∧ r.Ok B
theorem sendF_mok2 {s : St} {i : Nu} (h : s.out.Ok) : (sendF s i).2.1.Ok := by
  rcases send_ways s i with ⟨_, e⟩ | ⟨_, _, e⟩ | ⟨_, _, e⟩ <;> rw [e]
  · exact ok0
  · exact fromF_ok _ _
  · exact outF_ok h
set_option maxRecDepth 100000 in
set_option maxHeartbeats 40000000 in
theorem plays_walk (A : Option Addr) (len cap : Nat) (z : Nat → StepV) (w : World) (hl : len ≤ 9223372036854775807) (hz : ∀ i, i < len → StepAt w A i (z i)) :
    Calls Try.prog 4 #[.slice A len cap] w fun e w' => e = .returned (.bool true) ∧ Below w.heap.size w w' := by
  have HZ := Lib.hid hz; clear hz
  by_cases h60 : 200 < len
  · go_enter Try.func4, Try.ntmps4
    go_wp2_with fail
    (with_reducible refine (awake_any _).mono ?_)
    rintro e w1 ⟨rfl, hb⟩
    go_wp2_with fail
    go_ret
    exact ⟨rfl, hb⟩
  go_enter Try.func4, Try.ntmps4
  go_wp2_with fail
  (with_reducible refine (awake_any _).mono ?_)
  rintro e w1 ⟨rfl, hB⟩
  have y1 := hB.size
  obtain ⟨T, hTe⟩ : ∃ T, T = w1.heap.size := ⟨_, rfl⟩
  obtain ⟨U, hUe⟩ : ∃ U, U = w1.heap.size + 1 := ⟨_, rfl⟩
  go_wp2_with fail
  rw [show w1.heap.size + 1 = U from hUe.symm, show w1.heap.size = T from hTe.symm]
  have HTE := Lib.hid hTe; clear hTe
  have HUE := Lib.hid hUe; clear hUe
  go_loopw [6] (fun i wr => ∃ (k : Nat) (s : St), k ≤ len ∧ i = .int .i64 k ∧ wr.heap[T]? = some (.cells #[.bool s.on, .int .i64 s.high, .int .i64 s.since, .int .u16 s.off.seq, .int .u32 s.off.time, .int .u16 s.off.pic, .int .u8 s.off.tl0, .int .u16 s.out.seq, .int .u32 s.out.time, .int .u16 s.out.pic, .int .u8 s.out.tl0] 27 (0, 0)) ∧ wr.heap[U]? = some (.cells #[.bool s.on, .int .i64 s.high, .int .i64 s.since, .int .i64 s.off.seq, .int .i64 s.off.time, .int .i64 s.off.pic, .int .i64 s.off.tl0, .int .i64 s.out.seq, .int .i64 s.out.time, .int .i64 s.out.pic, .int .i64 s.out.tl0] 36 (0, 0)) ∧ Hid (s.Ok (65536 * (k + 1))) ∧ Below w.heap.size w wr) (fun i _ => len - (intOf i).toNat)
  case atStart => exact ⟨0, ⟨false, 0, 0, ⟨0, 0, 0, 0⟩, ⟨0, 0, 0, 0⟩⟩, by omega, rfl, by rw [HTE.out]; exact (Eq.trans (b := some (Obj.cells _ _ (0, 0))) (by repeat (first | (with_reducible assumption) | (with_reducible apply heap_set_row11) | (with_reducible apply heap_set_row4) | (with_reducible apply heap_set_same) | ((with_reducible apply heap_set_other'); (focus (first | omega | (simp; done) | (simp; omega)))) | ((with_reducible apply heap_alloc_new); (focus (first | omega | (simp; done) | (simp; omega)))) | (with_reducible apply heap_alloc_old') | (with_reducible apply (heap_drew_at _ _).trans) | (with_reducible apply (heap_drewN_at _ _ _).trans) | (simp only [List.size_toArray, List.length_cons, List.length_nil]; done))) (by exact rfl)), by rw [HUE.out]; exact (Eq.trans (b := some (Obj.cells _ _ (0, 0))) (by repeat (first | (with_reducible assumption) | (with_reducible apply heap_set_row11) | (with_reducible apply heap_set_row4) | (with_reducible apply heap_set_same) | ((with_reducible apply heap_set_other'); (focus (first | omega | (simp; done) | (simp; omega)))) | ((with_reducible apply heap_alloc_new); (focus (first | omega | (simp; done) | (simp; omega)))) | (with_reducible apply heap_alloc_old') | (with_reducible apply (heap_drew_at _ _).trans) | (with_reducible apply (heap_drewN_at _ _ _).trans) | (simp only [List.size_toArray, List.length_cons, List.length_nil]; done))) (by exact rfl)), Lib.hid ⟨by decide, by decide, ok0, ok0⟩, by go_grown⟩
  case round =>
    clear hB
    obtain ⟨k, s, hk, rfl, h0, h1, HK0, hB⟩ := hrel
    have yr := hB.size
    obtain ⟨c0, f0, z0⟩ := blk_facts h0
    obtain ⟨c1, f1, z1⟩ := blk_facts h1
    by_cases hlt : k < len
    · obtain ⟨ab, ao, rfl, hab, d0, d1, d2, d3, d4, d5, d6, hok, m0, m1⟩ := HZ.out k hlt
      generalize z k = v at d0 d1 d2 d3 d4 d5 d6 hok m0 m1
      obtain ⟨kd, q, t, p, l, tm, bg⟩ := v
      dsimp only at d0 d1 d2 d3 d4 d5 d6 hok m0 m1
      replace d0 := (hB.cell (p := ⟨ab, ao + k * 7, none⟩) hab).trans d0
      replace d1 := (hB.cell (p := ⟨ab, ao + k * 7 + 1, none⟩) hab).trans d1
      replace d2 := (hB.cell (p := ⟨ab, ao + k * 7 + 2, none⟩) hab).trans d2
      replace d3 := (hB.cell (p := ⟨ab, ao + k * 7 + 3, none⟩) hab).trans d3
      replace d4 := (hB.cell (p := ⟨ab, ao + k * 7 + 4, none⟩) hab).trans d4
      replace d5 := (hB.cell (p := ⟨ab, ao + k * 7 + 5, none⟩) hab).trans d5
      replace d6 := (hB.cell (p := ⟨ab, ao + k * 7 + 6, none⟩) hab).trans d6
      have hb1 := Nat.lt_of_lt_of_le hab hB.size
      obtain ⟨q0, q1, _⟩ := id hok
      have sb0 : -1000000000000000000 ≤ s.high := by have := HK0.out.h0; omega
      have sb1 : s.high ≤ 1000000000000000000 := by have := HK0.out.h1; omega
      have f0x := HK0.out.off.s0
      have f1x := HK0.out.off.s1
      have p0x := HK0.out.off.p0
      have p1x := HK0.out.off.p1
      have SOK := Lib.hid HK0.out
      have HX := Lib.hid hok; clear hok
      have hti := i64_in tm (by omega) (by omega)
      go_upto_block 2 with fail
      have h2 := heap_alloc_new wr (.cells #[.int .i64 kd, .int .u16 q, .int .u32 t, .int .u16 p, .int .u8 l, .int .u32 tm, .bool bg] 29) _ rfl
      have h0a := heap_alloc_old' (o := .cells #[.int .i64 kd, .int .u16 q, .int .u32 t, .int .u16 p, .int .u8 l, .int .u32 tm, .bool bg] 29) h0
      have h1a := heap_alloc_old' (o := .cells #[.int .i64 kd, .int .u16 q, .int .u32 t, .int .u16 p, .int .u8 l, .int .u32 tm, .bool bg] 29) h1
      have hBa : Below w.heap.size w (wr.alloc (.cells #[.int .i64 kd, .int .u16 q, .int .u32 t, .int .u16 p, .int .u8 l, .int .u32 tm, .bool bg] 29)) := Below.alloc hB hB.size _
      clear h0 h1 c0 c1 f0 f1 z0 z1 d0 d1 d2 d3 d4 d5 d6 hb1 hB
      obtain ⟨wA, hu⟩ : ∃ u, u = wr.alloc (.cells #[.int .i64 kd, .int .u16 q, .int .u32 t, .int .u16 p, .int .u8 l, .int .u32 tm, .bool bg] 29) := ⟨_, rfl⟩
      rw [← hu] at h2 h0a h1a hBa ⊢
      clear hu
      obtain ⟨X, hXe⟩ : ∃ X, X = wr.heap.size := ⟨_, rfl⟩
      rw [← hXe] at h2 ⊢
      clear hXe
      have h0 := h0a
      have h1 := h1a
      have hB := hBa
      clear h0a h1a hBa
      obtain ⟨c0, f0, z0⟩ := blk_facts h0
      obtain ⟨c1, f1, z1⟩ := blk_facts h1
      obtain ⟨c2, f2, z2⟩ := blk_facts h2
      have zA := hB.size
      have hTB : w.heap.size ≤ T := by have := HTE.out; omega
      have hUB : w.heap.size ≤ U := by have := HUE.out; omega
      have hXT : X ≠ T := ne_ty h2 h0 (by decide)
      have hXU : X ≠ U := ne_ty h2 h1 (by decide)
      have hTU : T ≠ U := by have := HTE.out; have := HUE.out; omega
      go_cut [8, 9, 10, 11, 12, 13, 14, 15, 16, 17] from 37 to 111 (fun s8 s9 s10 s11 s12 s13 s14 s15 s16 s17 wx => Two wx T U (65536 * (k + 1) + 65536) ∧ Below w.heap.size w wx)
      case first =>
        by_cases hk0 : kd = 0
        · subst hk0
          obtain ⟨o, ho⟩ : ∃ o, toldF s ⟨q, t, p, l⟩ tm = o := ⟨_, rfl⟩
          have HK : Hid ((switchF s ⟨q, t, p, l⟩ tm).Ok (65536 * (k + 1) + 65536)) := Lib.hid (switchF_ok HX.out (by omega))
          have HOO : Hid o.Ok := Lib.hid (by rw [← ho]; exact toldF_ok HX.out)
          generalize hr : switchF s ⟨q, t, p, l⟩ tm = r at *
          have HRr := Lib.hid hr; clear hr
          have HO := Lib.hid ho; clear ho
          go_upto_region 20 with fail
          go_cut [8, 9] from 37 to 111 (fun s8 s9 wx => ∃ g8 : Nat, ∃ g9 : Nat, s8 = .pointer (some ⟨g8, 0, none⟩) ∧ s9 = .pointer (some ⟨g9, 0, none⟩) ∧ wx.heap[g8]? = some (.cells #[.bool r.on, .int .i64 r.high, .int .i64 r.since, .int .u16 r.off.seq, .int .u32 r.off.time, .int .u16 r.off.pic, .int .u8 r.off.tl0, .int .u16 r.out.seq, .int .u32 r.out.time, .int .u16 r.out.pic, .int .u8 r.out.tl0] 27 (0, 0)) ∧ wx.heap[g9]? = some (.cells #[.int .u16 o.seq, .int .u32 o.time, .int .u16 o.pic, .int .u8 o.tl0] 25 (0, 0)) ∧ Below wA.heap.size wA wx)
          case first =>
            go_wp2_with fail
            with_reducible refine (switch_st s r ⟨q, t, p, l⟩ o tm _ HRr.out HO.out q0 q1).mono ?_
            rintro e wd ⟨rfl, hb⟩
            have hBy := hb
            have zS := hb.size
            clear hb
            all_goals (go_wp2_with fail; go_meet; go_split_ands; as_aux_lemma => exact ⟨_, _, rfl, rfl, (Eq.trans (b := some (Obj.cells _ _ (0, 0))) (by repeat (first | (with_reducible assumption) | (with_reducible apply heap_set_row11) | (with_reducible apply heap_set_row4) | (with_reducible apply heap_set_same) | ((with_reducible apply heap_set_other'); (focus (first | omega | (simp; done) | (simp; omega)))) | ((with_reducible apply heap_alloc_new); (focus (first | omega | (simp; done) | (simp; omega)))) | (with_reducible apply heap_alloc_old') | (with_reducible apply (heap_drew_at _ _).trans) | (with_reducible apply (heap_drewN_at _ _ _).trans) | (simp only [List.size_toArray, List.length_cons, List.length_nil]; done))) (by exact rfl)), (Eq.trans (b := some (Obj.cells _ _ (0, 0))) (by repeat (first | (with_reducible assumption) | (with_reducible apply heap_set_row11) | (with_reducible apply heap_set_row4) | (with_reducible apply heap_set_same) | ((with_reducible apply heap_set_other'); (focus (first | omega | (simp; done) | (simp; omega)))) | ((with_reducible apply heap_alloc_new); (focus (first | omega | (simp; done) | (simp; omega)))) | (with_reducible apply heap_alloc_old') | (with_reducible apply (heap_drew_at _ _).trans) | (with_reducible apply (heap_drewN_at _ _ _).trans) | (simp only [List.size_toArray, List.length_cons, List.length_nil]; done))) (by exact rfl)), by first | (with_reducible exact Below.refl _ _) | go_grown⟩)
          case rest =>
            obtain ⟨g8, g9, rfl, rfl, h3, h4, hBx⟩ := hcut
            obtain ⟨u1, hwc⟩ : ∃ wq, wq = wc := ⟨_, rfl⟩
            subst hwc
            have h0n := (hBx.block _ z0).trans h0
            clear h0 c0 f0 z0
            have h0 := h0n
            clear h0n
            have h1n := (hBx.block _ z1).trans h1
            clear h1 c1 f1 z1
            have h1 := h1n
            clear h1n
            have h2n := (hBx.block _ z2).trans h2
            clear h2 c2 f2 z2
            have h2 := h2n
            clear h2n
            have hB : Below w.heap.size w u1 := below_next (w := w) hB hBx
            have yb := hB.size
            have yu := hBx.size
            clear hBx
            obtain ⟨c0, f0, z0⟩ := blk_facts h0
            obtain ⟨c1, f1, z1⟩ := blk_facts h1
            obtain ⟨c2, f2, z2⟩ := blk_facts h2
            obtain ⟨c3, f3, z3⟩ := blk_facts h3
            obtain ⟨c4, f4, z4⟩ := blk_facts h4
            go_upto_region 21 with fail
            go_cut [10, 11] from 37 to 111 (fun s10 s11 wx => ∃ g10 : Nat, ∃ g11 : Nat, s10 = .pointer (some ⟨g10, 0, none⟩) ∧ s11 = .pointer (some ⟨g11, 0, none⟩) ∧ wx.heap[g10]? = some (.cells #[.bool r.on, .int .i64 r.high, .int .i64 r.since, .int .i64 r.off.seq, .int .i64 r.off.time, .int .i64 r.off.pic, .int .i64 r.off.tl0, .int .i64 r.out.seq, .int .i64 r.out.time, .int .i64 r.out.pic, .int .i64 r.out.tl0] 36 (0, 0)) ∧ wx.heap[g11]? = some (.cells #[.int .i64 o.seq, .int .i64 o.time, .int .i64 o.pic, .int .i64 o.tl0] 34 (0, 0)) ∧ Below u1.heap.size u1 wx)
            case first =>
              go_region_held3 (fun w' => (∀ j, w'.cell? ⟨U, j, none⟩ = #[.bool s.on, .int .i64 s.high, .int .i64 s.since, .int .i64 s.off.seq, .int .i64 s.off.time, .int .i64 s.off.pic, .int .i64 s.off.tl0, .int .i64 s.out.seq, .int .i64 s.out.time, .int .i64 s.out.pic, .int .i64 s.out.tl0][j]?) ∧ (∀ j, w'.cell? ⟨X, j, none⟩ = #[.int .i64 0, .int .u16 q, .int .u32 t, .int .u16 p, .int .u8 l, .int .u32 tm, .bool bg][j]?) ∧ Below u1.heap.size u1 w') (((as_aux_lemma => ((refine keep2 z1 c1 z2 c2 ?_; (first | (with_reducible exact Below.refl _ _) | (go_split_ands; first | (with_reducible assumption) | go_grown))))))) (first | (go_at_call 14; go_split_ands; (with_reducible refine (nums_eq ⟨q, t, p, l⟩ _ HX.out).mono ?_); rintro e w2 ⟨rfl, hb⟩; have hB := below_next (w := u1) (by first | (with_reducible exact Below.refl _ _) | (with_reducible assumption) | go_grown) hb; have zS := hB.size; (try first | ((have hn := heap_below hb (by first | omega | (simp; done) | (simp; omega)) hP); clear hP fP cP; have hP := hn; clear hn; (try simp only [size_alloc] at hP); obtain ⟨cP, fP, zP⟩ := blk_facts hP) | ((have hn := heap_below hb (by first | omega | (simp; done) | (simp; omega)) (heap_alloc_old' hP)); clear hP fP cP; have hP := hn; clear hn; (try simp only [size_alloc] at hP); obtain ⟨cP, fP, zP⟩ := blk_facts hP) | ((have hn := heap_below hb (by first | omega | (simp; done) | (simp; omega)) (heap_alloc_old' (heap_alloc_old' hP))); clear hP fP cP; have hP := hn; clear hn; (try simp only [size_alloc] at hP); obtain ⟨cP, fP, zP⟩ := blk_facts hP) | ((have hP : w2.heap[(_ : Nat)]? = some (Obj.cells _ 36 (0, 0)) := (hb.block _ (lt_alloc _ _)).trans (heap_alloc_new _ _ _ rfl)); (try simp only [size_alloc] at hP); obtain ⟨cP, fP, zP⟩ := blk_facts hP) | ((have hP : w2.heap[(_ : Nat)]? = some (Obj.cells _ 36 (0, 0)) := (hb.block _ (Nat.lt_trans (lt_alloc _ _) (lt_alloc _ _))).trans (heap_alloc_old' (heap_alloc_new _ _ _ rfl))); (try simp only [size_alloc] at hP); obtain ⟨cP, fP, zP⟩ := blk_facts hP)); (try first | ((have hn := heap_below hb (by first | omega | (simp; done) | (simp; omega)) hQ); clear hQ fQ cQ; have hQ := hn; clear hn; (try simp only [size_alloc] at hQ); obtain ⟨cQ, fQ, zQ⟩ := blk_facts hQ) | ((have hn := heap_below hb (by first | omega | (simp; done) | (simp; omega)) (heap_alloc_old' hQ)); clear hQ fQ cQ; have hQ := hn; clear hn; (try simp only [size_alloc] at hQ); obtain ⟨cQ, fQ, zQ⟩ := blk_facts hQ) | ((have hn := heap_below hb (by first | omega | (simp; done) | (simp; omega)) (heap_alloc_old' (heap_alloc_old' hQ))); clear hQ fQ cQ; have hQ := hn; clear hn; (try simp only [size_alloc] at hQ); obtain ⟨cQ, fQ, zQ⟩ := blk_facts hQ) | ((have hQ : w2.heap[(_ : Nat)]? = some (Obj.cells _ 34 (0, 0)) := (hb.block _ (lt_alloc _ _)).trans (heap_alloc_new _ _ _ rfl)); (try simp only [size_alloc] at hQ); obtain ⟨cQ, fQ, zQ⟩ := blk_facts hQ) | ((have hQ : w2.heap[(_ : Nat)]? = some (Obj.cells _ 34 (0, 0)) := (hb.block _ (Nat.lt_trans (lt_alloc _ _) (lt_alloc _ _))).trans (heap_alloc_old' (heap_alloc_new _ _ _ rfl))); (try simp only [size_alloc] at hQ); obtain ⟨cQ, fQ, zQ⟩ := blk_facts hQ)); clear hb) | (go_at_call 12; go_split_ands; (with_reducible refine (refSwitch_st s r ⟨q, t, p, l⟩ o tm _ HRr.out HO.out HX.out SOK.out.out m0 m1).mono ?_); rintro e w2 ⟨rfl, hb⟩; have hB := below_next (w := u1) (by first | (with_reducible exact Below.refl _ _) | (with_reducible assumption) | go_grown) hb; have zS := hB.size; (try first | ((have hn := heap_below hb (by first | omega | (simp; done) | (simp; omega)) hP); clear hP fP cP; have hP := hn; clear hn; (try simp only [size_alloc] at hP); obtain ⟨cP, fP, zP⟩ := blk_facts hP) | ((have hn := heap_below hb (by first | omega | (simp; done) | (simp; omega)) (heap_alloc_old' hP)); clear hP fP cP; have hP := hn; clear hn; (try simp only [size_alloc] at hP); obtain ⟨cP, fP, zP⟩ := blk_facts hP) | ((have hn := heap_below hb (by first | omega | (simp; done) | (simp; omega)) (heap_alloc_old' (heap_alloc_old' hP))); clear hP fP cP; have hP := hn; clear hn; (try simp only [size_alloc] at hP); obtain ⟨cP, fP, zP⟩ := blk_facts hP) | ((have hP : w2.heap[(_ : Nat)]? = some (Obj.cells _ 36 (0, 0)) := (hb.block _ (lt_alloc _ _)).trans (heap_alloc_new _ _ _ rfl)); (try simp only [size_alloc] at hP); obtain ⟨cP, fP, zP⟩ := blk_facts hP) | ((have hP : w2.heap[(_ : Nat)]? = some (Obj.cells _ 36 (0, 0)) := (hb.block _ (Nat.lt_trans (lt_alloc _ _) (lt_alloc _ _))).trans (heap_alloc_old' (heap_alloc_new _ _ _ rfl))); (try simp only [size_alloc] at hP); obtain ⟨cP, fP, zP⟩ := blk_facts hP)); (try first | ((have hn := heap_below hb (by first | omega | (simp; done) | (simp; omega)) hQ); clear hQ fQ cQ; have hQ := hn; clear hn; (try simp only [size_alloc] at hQ); obtain ⟨cQ, fQ, zQ⟩ := blk_facts hQ) | ((have hn := heap_below hb (by first | omega | (simp; done) | (simp; omega)) (heap_alloc_old' hQ)); clear hQ fQ cQ; have hQ := hn; clear hn; (try simp only [size_alloc] at hQ); obtain ⟨cQ, fQ, zQ⟩ := blk_facts hQ) | ((have hn := heap_below hb (by first | omega | (simp; done) | (simp; omega)) (heap_alloc_old' (heap_alloc_old' hQ))); clear hQ fQ cQ; have hQ := hn; clear hn; (try simp only [size_alloc] at hQ); obtain ⟨cQ, fQ, zQ⟩ := blk_facts hQ) | ((have hQ : w2.heap[(_ : Nat)]? = some (Obj.cells _ 34 (0, 0)) := (hb.block _ (lt_alloc _ _)).trans (heap_alloc_new _ _ _ rfl)); (try simp only [size_alloc] at hQ); obtain ⟨cQ, fQ, zQ⟩ := blk_facts hQ) | ((have hQ : w2.heap[(_ : Nat)]? = some (Obj.cells _ 34 (0, 0)) := (hb.block _ (Nat.lt_trans (lt_alloc _ _) (lt_alloc _ _))).trans (heap_alloc_old' (heap_alloc_new _ _ _ rfl))); (try simp only [size_alloc] at hQ); obtain ⟨cQ, fQ, zQ⟩ := blk_facts hQ)); clear hb))
              all_goals (go_wp2_with fail; go_meet; go_split_ands; as_aux_lemma => exact ⟨_, _, rfl, rfl, (Eq.trans (b := some (Obj.cells _ _ (0, 0))) (by repeat (first | (with_reducible assumption) | (with_reducible apply heap_set_row11) | (with_reducible apply heap_set_row4) | (with_reducible apply heap_set_same) | ((with_reducible apply heap_set_other'); (focus (first | omega | (simp; done) | (simp; omega)))) | ((with_reducible apply heap_alloc_new); (focus (first | omega | (simp; done) | (simp; omega)))) | (with_reducible apply heap_alloc_old') | (with_reducible apply (heap_drew_at _ _).trans) | (with_reducible apply (heap_drewN_at _ _ _).trans) | (simp only [List.size_toArray, List.length_cons, List.length_nil]; done))) (by exact rfl)), (Eq.trans (b := some (Obj.cells _ _ (0, 0))) (by repeat (first | (with_reducible assumption) | (with_reducible apply heap_set_row11) | (with_reducible apply heap_set_row4) | (with_reducible apply heap_set_same) | ((with_reducible apply heap_set_other'); (focus (first | omega | (simp; done) | (simp; omega)))) | ((with_reducible apply heap_alloc_new); (focus (first | omega | (simp; done) | (simp; omega)))) | (with_reducible apply heap_alloc_old') | (with_reducible apply (heap_drew_at _ _).trans) | (with_reducible apply (heap_drewN_at _ _ _).trans) | (simp only [List.size_toArray, List.length_cons, List.length_nil]; done))) (by exact rfl)), by first | (with_reducible exact Below.refl _ _) | go_grown⟩)
            case rest =>
              obtain ⟨g10, g11, rfl, rfl, h5, h6, hBx⟩ := hcut
              obtain ⟨u2, hwc⟩ : ∃ wq, wq = wc := ⟨_, rfl⟩
              subst hwc
              have h0n := (hBx.block _ z0).trans h0
              clear h0 c0 f0 z0
              have h0 := h0n
              clear h0n
              have h1n := (hBx.block _ z1).trans h1
              clear h1 c1 f1 z1
              have h1 := h1n
              clear h1n
              have h2n := (hBx.block _ z2).trans h2
              clear h2 c2 f2 z2
              have h2 := h2n
              clear h2n
              have h3n := (hBx.block _ z3).trans h3
              clear h3 c3 f3 z3
              have h3 := h3n
              clear h3n
              have h4n := (hBx.block _ z4).trans h4
              clear h4 c4 f4 z4
              have h4 := h4n
              clear h4n
              have hB : Below w.heap.size w u2 := below_next (w := w) hB hBx
              have yb := hB.size
              have yu := hBx.size
              clear hBx
              obtain ⟨c0, f0, z0⟩ := blk_facts h0
              obtain ⟨c1, f1, z1⟩ := blk_facts h1
              obtain ⟨c2, f2, z2⟩ := blk_facts h2
              obtain ⟨c3, f3, z3⟩ := blk_facts h3
              obtain ⟨c4, f4, z4⟩ := blk_facts h4
              obtain ⟨c5, f5, z5⟩ := blk_facts h5
              obtain ⟨c6, f6, z6⟩ := blk_facts h6
              have n9T : g9 ≠ T := ne_ty h4 h0 (by decide)
              have n10T : g10 ≠ T := ne_ty h5 h0 (by decide)
              have n11T : g11 ≠ T := ne_ty h6 h0 (by decide)
              have n11U : g11 ≠ U := ne_ty h6 h1 (by decide)
              have n9U : g9 ≠ U := ne_ty h4 h1 (by decide)
              go_upto_region 22 with fail
              go_cut [7] from 37 to 111 (fun s7 wx => s7 = .pointer (some ⟨X, 0, none⟩) ∧ wx.heap[T]? = some (.cells #[.bool r.on, .int .i64 r.high, .int .i64 r.since, .int .u16 r.off.seq, .int .u32 r.off.time, .int .u16 r.off.pic, .int .u8 r.off.tl0, .int .u16 r.out.seq, .int .u32 r.out.time, .int .u16 r.out.pic, .int .u8 r.out.tl0] 27 (0, 0)) ∧ wx.heap[U]? = some (.cells #[.bool s.on, .int .i64 s.high, .int .i64 s.since, .int .i64 s.off.seq, .int .i64 s.off.time, .int .i64 s.off.pic, .int .i64 s.off.tl0, .int .i64 s.out.seq, .int .i64 s.out.time, .int .i64 s.out.pic, .int .i64 s.out.tl0] 36 (0, 0)) ∧ wx.heap[g9]? = some (.cells #[.int .u16 o.seq, .int .u32 o.time, .int .u16 o.pic, .int .u8 o.tl0] 25 (0, 0)) ∧ wx.heap[g10]? = some (.cells #[.bool r.on, .int .i64 r.high, .int .i64 r.since, .int .i64 r.off.seq, .int .i64 r.off.time, .int .i64 r.off.pic, .int .i64 r.off.tl0, .int .i64 r.out.seq, .int .i64 r.out.time, .int .i64 r.out.pic, .int .i64 r.out.tl0] 36 (0, 0)) ∧ wx.heap[g11]? = some (.cells #[.int .i64 o.seq, .int .i64 o.time, .int .i64 o.pic, .int .i64 o.tl0] 34 (0, 0)) ∧ Below w.heap.size w wx)
              case first =>
                all_goals (go_wp2_with fail; go_meet; go_split_ands; exact ⟨rfl, (Eq.trans (b := some (Obj.cells _ _ (0, 0))) (by repeat (first | (with_reducible assumption) | (with_reducible apply heap_set_row11) | (with_reducible apply heap_set_row4) | (with_reducible apply heap_set_same) | ((with_reducible apply heap_set_other'); (focus (first | omega | (simp; done) | (simp; omega)))) | ((with_reducible apply heap_alloc_new); (focus (first | omega | (simp; done) | (simp; omega)))) | (with_reducible apply heap_alloc_old') | (with_reducible apply (heap_drew_at _ _).trans) | (with_reducible apply (heap_drewN_at _ _ _).trans) | (simp only [List.size_toArray, List.length_cons, List.length_nil]; done))) (by exact rfl)), (Eq.trans (b := some (Obj.cells _ _ (0, 0))) (by repeat (first | (with_reducible assumption) | (with_reducible apply heap_set_row11) | (with_reducible apply heap_set_row4) | (with_reducible apply heap_set_same) | ((with_reducible apply heap_set_other'); (focus (first | omega | (simp; done) | (simp; omega)))) | ((with_reducible apply heap_alloc_new); (focus (first | omega | (simp; done) | (simp; omega)))) | (with_reducible apply heap_alloc_old') | (with_reducible apply (heap_drew_at _ _).trans) | (with_reducible apply (heap_drewN_at _ _ _).trans) | (simp only [List.size_toArray, List.length_cons, List.length_nil]; done))) (by exact rfl)), (Eq.trans (b := some (Obj.cells _ _ (0, 0))) (by repeat (first | (with_reducible assumption) | (with_reducible apply heap_set_row11) | (with_reducible apply heap_set_row4) | (with_reducible apply heap_set_same) | ((with_reducible apply heap_set_other'); (focus (first | omega | (simp; done) | (simp; omega)))) | ((with_reducible apply heap_alloc_new); (focus (first | omega | (simp; done) | (simp; omega)))) | (with_reducible apply heap_alloc_old') | (with_reducible apply (heap_drew_at _ _).trans) | (with_reducible apply (heap_drewN_at _ _ _).trans) | (simp only [List.size_toArray, List.length_cons, List.length_nil]; done))) (by exact rfl)), (Eq.trans (b := some (Obj.cells _ _ (0, 0))) (by repeat (first | (with_reducible assumption) | (with_reducible apply heap_set_row11) | (with_reducible apply heap_set_row4) | (with_reducible apply heap_set_same) | ((with_reducible apply heap_set_other'); (focus (first | omega | (simp; done) | (simp; omega)))) | ((with_reducible apply heap_alloc_new); (focus (first | omega | (simp; done) | (simp; omega)))) | (with_reducible apply heap_alloc_old') | (with_reducible apply (heap_drew_at _ _).trans) | (with_reducible apply (heap_drewN_at _ _ _).trans) | (simp only [List.size_toArray, List.length_cons, List.length_nil]; done))) (by exact rfl)), (Eq.trans (b := some (Obj.cells _ _ (0, 0))) (by repeat (first | (with_reducible assumption) | (with_reducible apply heap_set_row11) | (with_reducible apply heap_set_row4) | (with_reducible apply heap_set_same) | ((with_reducible apply heap_set_other'); (focus (first | omega | (simp; done) | (simp; omega)))) | ((with_reducible apply heap_alloc_new); (focus (first | omega | (simp; done) | (simp; omega)))) | (with_reducible apply heap_alloc_old') | (with_reducible apply (heap_drew_at _ _).trans) | (with_reducible apply (heap_drewN_at _ _ _).trans) | (simp only [List.size_toArray, List.length_cons, List.length_nil]; done))) (by exact rfl)), by first | (with_reducible assumption) | go_grown⟩)
              case rest =>
                obtain ⟨rfl, k0, k1, k4, k5, k6, hBn⟩ := hcut
                clear hB h0 c0 f0 z0 h1 c1 f1 z1 h2 c2 f2 z2 h3 c3 f3 z3 h4 c4 f4 z4 h5 c5 f5 z5 h6 c6 f6 z6
                have hB := hBn
                clear hBn
                obtain ⟨v1, hwc⟩ : ∃ wq, wq = wc := ⟨_, rfl⟩
                subst hwc
                have h0 := k0
                clear k0
                obtain ⟨c0, f0, z0⟩ := blk_facts h0
                have h1 := k1
                clear k1
                obtain ⟨c1, f1, z1⟩ := blk_facts h1
                have h4 := k4
                clear k4
                obtain ⟨c4, f4, z4⟩ := blk_facts h4
                have h5 := k5
                clear k5
                obtain ⟨c5, f5, z5⟩ := blk_facts h5
                have h6 := k6
                clear k6
                obtain ⟨c6, f6, z6⟩ := blk_facts h6
                have yb := hB.size
                go_upto_region 23 with fail
                go_cut [7] from 37 to 111 (fun s7 wx => s7 = .pointer (some ⟨X, 0, none⟩) ∧ wx.heap[T]? = some (.cells #[.bool r.on, .int .i64 r.high, .int .i64 r.since, .int .u16 r.off.seq, .int .u32 r.off.time, .int .u16 r.off.pic, .int .u8 r.off.tl0, .int .u16 r.out.seq, .int .u32 r.out.time, .int .u16 r.out.pic, .int .u8 r.out.tl0] 27 (0, 0)) ∧ wx.heap[U]? = some (.cells #[.bool r.on, .int .i64 r.high, .int .i64 r.since, .int .i64 r.off.seq, .int .i64 r.off.time, .int .i64 r.off.pic, .int .i64 r.off.tl0, .int .i64 r.out.seq, .int .i64 r.out.time, .int .i64 r.out.pic, .int .i64 r.out.tl0] 36 (0, 0)) ∧ wx.heap[g9]? = some (.cells #[.int .u16 o.seq, .int .u32 o.time, .int .u16 o.pic, .int .u8 o.tl0] 25 (0, 0)) ∧ wx.heap[g11]? = some (.cells #[.int .i64 o.seq, .int .i64 o.time, .int .i64 o.pic, .int .i64 o.tl0] 34 (0, 0)) ∧ Below w.heap.size w wx)
                case first =>
                  all_goals (go_wp2_with fail; go_meet; go_split_ands; exact ⟨rfl, (Eq.trans (b := some (Obj.cells _ _ (0, 0))) (by repeat (first | (with_reducible assumption) | (with_reducible apply heap_set_row11) | (with_reducible apply heap_set_row4) | (with_reducible apply heap_set_same) | ((with_reducible apply heap_set_other'); (focus (first | omega | (simp; done) | (simp; omega)))) | ((with_reducible apply heap_alloc_new); (focus (first | omega | (simp; done) | (simp; omega)))) | (with_reducible apply heap_alloc_old') | (with_reducible apply (heap_drew_at _ _).trans) | (with_reducible apply (heap_drewN_at _ _ _).trans) | (simp only [List.size_toArray, List.length_cons, List.length_nil]; done))) (by exact rfl)), (Eq.trans (b := some (Obj.cells _ _ (0, 0))) (by repeat (first | (with_reducible assumption) | (with_reducible apply heap_set_row11) | (with_reducible apply heap_set_row4) | (with_reducible apply heap_set_same) | ((with_reducible apply heap_set_other'); (focus (first | omega | (simp; done) | (simp; omega)))) | ((with_reducible apply heap_alloc_new); (focus (first | omega | (simp; done) | (simp; omega)))) | (with_reducible apply heap_alloc_old') | (with_reducible apply (heap_drew_at _ _).trans) | (with_reducible apply (heap_drewN_at _ _ _).trans) | (simp only [List.size_toArray, List.length_cons, List.length_nil]; done))) (by exact rfl)), (Eq.trans (b := some (Obj.cells _ _ (0, 0))) (by repeat (first | (with_reducible assumption) | (with_reducible apply heap_set_row11) | (with_reducible apply heap_set_row4) | (with_reducible apply heap_set_same) | ((with_reducible apply heap_set_other'); (focus (first | omega | (simp; done) | (simp; omega)))) | ((with_reducible apply heap_alloc_new); (focus (first | omega | (simp; done) | (simp; omega)))) | (with_reducible apply heap_alloc_old') | (with_reducible apply (heap_drew_at _ _).trans) | (with_reducible apply (heap_drewN_at _ _ _).trans) | (simp only [List.size_toArray, List.length_cons, List.length_nil]; done))) (by exact rfl)), (Eq.trans (b := some (Obj.cells _ _ (0, 0))) (by repeat (first | (with_reducible assumption) | (with_reducible apply heap_set_row11) | (with_reducible apply heap_set_row4) | (with_reducible apply heap_set_same) | ((with_reducible apply heap_set_other'); (focus (first | omega | (simp; done) | (simp; omega)))) | ((with_reducible apply heap_alloc_new); (focus (first | omega | (simp; done) | (simp; omega)))) | (with_reducible apply heap_alloc_old') | (with_reducible apply (heap_drew_at _ _).trans) | (with_reducible apply (heap_drewN_at _ _ _).trans) | (simp only [List.size_toArray, List.length_cons, List.length_nil]; done))) (by exact rfl)), by first | (with_reducible assumption) | go_grown⟩)
                case rest =>
                  obtain ⟨rfl, k0, k1, k4, k6, hBn⟩ := hcut
                  clear hB h0 c0 f0 z0 h1 c1 f1 z1 h4 c4 f4 z4 h5 c5 f5 z5 h6 c6 f6 z6
                  have hB := hBn
                  clear hBn
                  obtain ⟨v2, hwc⟩ : ∃ wq, wq = wc := ⟨_, rfl⟩
                  subst hwc
                  have h0 := k0
                  clear k0
                  obtain ⟨c0, f0, z0⟩ := blk_facts h0
                  have h1 := k1
                  clear k1
                  obtain ⟨c1, f1, z1⟩ := blk_facts h1
                  have h4 := k4
                  clear k4
                  obtain ⟨c4, f4, z4⟩ := blk_facts h4
                  have h6 := k6
                  clear k6
                  obtain ⟨c6, f6, z6⟩ := blk_facts h6
                  have yb := hB.size
                  go_upto_region 24 with fail
                  go_region_held3 (fun w' => (w'.heap[T]? = some (.cells #[.bool r.on, .int .i64 r.high, .int .i64 r.since, .int .u16 r.off.seq, .int .u32 r.off.time, .int .u16 r.off.pic, .int .u8 r.off.tl0, .int .u16 r.out.seq, .int .u32 r.out.time, .int .u16 r.out.pic, .int .u8 r.out.tl0] 27 (0, 0)) ∧ (∀ j, w'.cell? ⟨T, j, none⟩ = #[.bool r.on, .int .i64 r.high, .int .i64 r.since, .int .u16 r.off.seq, .int .u32 r.off.time, .int .u16 r.off.pic, .int .u8 r.off.tl0, .int .u16 r.out.seq, .int .u32 r.out.time, .int .u16 r.out.pic, .int .u8 r.out.tl0][j]?) ∧ (∀ j, w'.frozen? ⟨T, j, none⟩ = false) ∧ T < w'.heap.size) ∧ (w'.heap[U]? = some (.cells #[.bool r.on, .int .i64 r.high, .int .i64 r.since, .int .i64 r.off.seq, .int .i64 r.off.time, .int .i64 r.off.pic, .int .i64 r.off.tl0, .int .i64 r.out.seq, .int .i64 r.out.time, .int .i64 r.out.pic, .int .i64 r.out.tl0] 36 (0, 0)) ∧ (∀ j, w'.cell? ⟨U, j, none⟩ = #[.bool r.on, .int .i64 r.high, .int .i64 r.since, .int .i64 r.off.seq, .int .i64 r.off.time, .int .i64 r.off.pic, .int .i64 r.off.tl0, .int .i64 r.out.seq, .int .i64 r.out.time, .int .i64 r.out.pic, .int .i64 r.out.tl0][j]?) ∧ (∀ j, w'.frozen? ⟨U, j, none⟩ = false) ∧ U < w'.heap.size) ∧ (w'.heap[g9]? = some (.cells #[.int .u16 o.seq, .int .u32 o.time, .int .u16 o.pic, .int .u8 o.tl0] 25 (0, 0)) ∧ (∀ j, w'.cell? ⟨g9, j, none⟩ = #[.int .u16 o.seq, .int .u32 o.time, .int .u16 o.pic, .int .u8 o.tl0][j]?) ∧ (∀ j, w'.frozen? ⟨g9, j, none⟩ = false) ∧ g9 < w'.heap.size) ∧ (w'.heap[g11]? = some (.cells #[.int .i64 o.seq, .int .i64 o.time, .int .i64 o.pic, .int .i64 o.tl0] 34 (0, 0)) ∧ (∀ j, w'.cell? ⟨g11, j, none⟩ = #[.int .i64 o.seq, .int .i64 o.time, .int .i64 o.pic, .int .i64 o.tl0][j]?) ∧ (∀ j, w'.frozen? ⟨g11, j, none⟩ = false) ∧ g11 < w'.heap.size) ∧ Below w.heap.size w w') ((go_split_ands; exact ⟨blk_all (Eq.trans (b := some (Obj.cells _ _ (0, 0))) (by repeat (first | (with_reducible assumption) | (with_reducible apply heap_set_row11) | (with_reducible apply heap_set_row4) | (with_reducible apply heap_set_same) | ((with_reducible apply heap_set_other'); (focus (first | omega | (simp; done) | (simp; omega)))) | ((with_reducible apply heap_alloc_new); (focus (first | omega | (simp; done) | (simp; omega)))) | (with_reducible apply heap_alloc_old') | (with_reducible apply (heap_drew_at _ _).trans) | (with_reducible apply (heap_drewN_at _ _ _).trans) | (simp only [List.size_toArray, List.length_cons, List.length_nil]; done))) (by exact rfl)), blk_all (Eq.trans (b := some (Obj.cells _ _ (0, 0))) (by repeat (first | (with_reducible assumption) | (with_reducible apply heap_set_row11) | (with_reducible apply heap_set_row4) | (with_reducible apply heap_set_same) | ((with_reducible apply heap_set_other'); (focus (first | omega | (simp; done) | (simp; omega)))) | ((with_reducible apply heap_alloc_new); (focus (first | omega | (simp; done) | (simp; omega)))) | (with_reducible apply heap_alloc_old') | (with_reducible apply (heap_drew_at _ _).trans) | (with_reducible apply (heap_drewN_at _ _ _).trans) | (simp only [List.size_toArray, List.length_cons, List.length_nil]; done))) (by exact rfl)), blk_all (Eq.trans (b := some (Obj.cells _ _ (0, 0))) (by repeat (first | (with_reducible assumption) | (with_reducible apply heap_set_row11) | (with_reducible apply heap_set_row4) | (with_reducible apply heap_set_same) | ((with_reducible apply heap_set_other'); (focus (first | omega | (simp; done) | (simp; omega)))) | ((with_reducible apply heap_alloc_new); (focus (first | omega | (simp; done) | (simp; omega)))) | (with_reducible apply heap_alloc_old') | (with_reducible apply (heap_drew_at _ _).trans) | (with_reducible apply (heap_drewN_at _ _ _).trans) | (simp only [List.size_toArray, List.length_cons, List.length_nil]; done))) (by exact rfl)), blk_all (Eq.trans (b := some (Obj.cells _ _ (0, 0))) (by repeat (first | (with_reducible assumption) | (with_reducible apply heap_set_row11) | (with_reducible apply heap_set_row4) | (with_reducible apply heap_set_same) | ((with_reducible apply heap_set_other'); (focus (first | omega | (simp; done) | (simp; omega)))) | ((with_reducible apply heap_alloc_new); (focus (first | omega | (simp; done) | (simp; omega)))) | (with_reducible apply heap_alloc_old') | (with_reducible apply (heap_drew_at _ _).trans) | (with_reducible apply (heap_drewN_at _ _ _).trans) | (simp only [List.size_toArray, List.length_cons, List.length_nil]; done))) (by exact rfl)), by first | ((repeat (first | (with_reducible exact Below.refl _ _) | (with_reducible apply Below.drew))); done) | go_grown⟩)) (first | (go_at_call 14; go_split_ands; (with_reducible refine (nums_eq o _ HOO.out).mono ?_); rintro e w2 ⟨rfl, hb⟩; have hB := below_next (w := w) (by go_grown) hb; have zS := hB.size; have hr0 : w2.heap[T]? = some (.cells #[.bool r.on, .int .i64 r.high, .int .i64 r.since, .int .u16 r.off.seq, .int .u32 r.off.time, .int .u16 r.off.pic, .int .u8 r.off.tl0, .int .u16 r.out.seq, .int .u32 r.out.time, .int .u16 r.out.pic, .int .u8 r.out.tl0] 27 (0, 0)) := (hb.block (T) (by first | omega | (simp; done) | (simp; omega))).trans (Eq.trans (b := some (Obj.cells _ _ (0, 0))) (by repeat (first | (with_reducible assumption) | (with_reducible apply heap_set_row11) | (with_reducible apply heap_set_row4) | (with_reducible apply heap_set_same) | ((with_reducible apply heap_set_other'); (focus (first | omega | (simp; done) | (simp; omega)))) | ((with_reducible apply heap_alloc_new); (focus (first | omega | (simp; done) | (simp; omega)))) | (with_reducible apply heap_alloc_old') | (with_reducible apply (heap_drew_at _ _).trans) | (with_reducible apply (heap_drewN_at _ _ _).trans) | (simp only [List.size_toArray, List.length_cons, List.length_nil]; done))) (by exact rfl)); have hr1 : w2.heap[U]? = some (.cells #[.bool r.on, .int .i64 r.high, .int .i64 r.since, .int .i64 r.off.seq, .int .i64 r.off.time, .int .i64 r.off.pic, .int .i64 r.off.tl0, .int .i64 r.out.seq, .int .i64 r.out.time, .int .i64 r.out.pic, .int .i64 r.out.tl0] 36 (0, 0)) := (hb.block (U) (by first | omega | (simp; done) | (simp; omega))).trans (Eq.trans (b := some (Obj.cells _ _ (0, 0))) (by repeat (first | (with_reducible assumption) | (with_reducible apply heap_set_row11) | (with_reducible apply heap_set_row4) | (with_reducible apply heap_set_same) | ((with_reducible apply heap_set_other'); (focus (first | omega | (simp; done) | (simp; omega)))) | ((with_reducible apply heap_alloc_new); (focus (first | omega | (simp; done) | (simp; omega)))) | (with_reducible apply heap_alloc_old') | (with_reducible apply (heap_drew_at _ _).trans) | (with_reducible apply (heap_drewN_at _ _ _).trans) | (simp only [List.size_toArray, List.length_cons, List.length_nil]; done))) (by exact rfl)); have hr2 : w2.heap[g9]? = some (.cells #[.int .u16 o.seq, .int .u32 o.time, .int .u16 o.pic, .int .u8 o.tl0] 25 (0, 0)) := (hb.block (g9) (by first | omega | (simp; done) | (simp; omega))).trans (Eq.trans (b := some (Obj.cells _ _ (0, 0))) (by repeat (first | (with_reducible assumption) | (with_reducible apply heap_set_row11) | (with_reducible apply heap_set_row4) | (with_reducible apply heap_set_same) | ((with_reducible apply heap_set_other'); (focus (first | omega | (simp; done) | (simp; omega)))) | ((with_reducible apply heap_alloc_new); (focus (first | omega | (simp; done) | (simp; omega)))) | (with_reducible apply heap_alloc_old') | (with_reducible apply (heap_drew_at _ _).trans) | (with_reducible apply (heap_drewN_at _ _ _).trans) | (simp only [List.size_toArray, List.length_cons, List.length_nil]; done))) (by exact rfl)); have hr3 : w2.heap[g11]? = some (.cells #[.int .i64 o.seq, .int .i64 o.time, .int .i64 o.pic, .int .i64 o.tl0] 34 (0, 0)) := (hb.block (g11) (by first | omega | (simp; done) | (simp; omega))).trans (Eq.trans (b := some (Obj.cells _ _ (0, 0))) (by repeat (first | (with_reducible assumption) | (with_reducible apply heap_set_row11) | (with_reducible apply heap_set_row4) | (with_reducible apply heap_set_same) | ((with_reducible apply heap_set_other'); (focus (first | omega | (simp; done) | (simp; omega)))) | ((with_reducible apply heap_alloc_new); (focus (first | omega | (simp; done) | (simp; omega)))) | (with_reducible apply heap_alloc_old') | (with_reducible apply (heap_drew_at _ _).trans) | (with_reducible apply (heap_drewN_at _ _ _).trans) | (simp only [List.size_toArray, List.length_cons, List.length_nil]; done))) (by exact rfl)); have zr0 := blk_lt hr0; have zr1 := blk_lt hr1; have zr2 := blk_lt hr2; have zr3 := blk_lt hr3; clear hb))
                  all_goals
                    go_wp2_with fail
                    go_meet
                    go_split_ands
                    exact ⟨⟨r, (Eq.trans (b := some (Obj.cells _ _ (0, 0))) (by repeat (first | (with_reducible assumption) | (with_reducible apply heap_set_row11) | (with_reducible apply heap_set_row4) | (with_reducible apply heap_set_same) | ((with_reducible apply heap_set_other'); (focus (first | omega | (simp; done) | (simp; omega)))) | ((with_reducible apply heap_alloc_new); (focus (first | omega | (simp; done) | (simp; omega)))) | (with_reducible apply heap_alloc_old') | (with_reducible apply (heap_drew_at _ _).trans) | (with_reducible apply (heap_drewN_at _ _ _).trans) | (simp only [List.size_toArray, List.length_cons, List.length_nil]; done))) (by exact rfl)), (Eq.trans (b := some (Obj.cells _ _ (0, 0))) (by repeat (first | (with_reducible assumption) | (with_reducible apply heap_set_row11) | (with_reducible apply heap_set_row4) | (with_reducible apply heap_set_same) | ((with_reducible apply heap_set_other'); (focus (first | omega | (simp; done) | (simp; omega)))) | ((with_reducible apply heap_alloc_new); (focus (first | omega | (simp; done) | (simp; omega)))) | (with_reducible apply heap_alloc_old') | (with_reducible apply (heap_drew_at _ _).trans) | (with_reducible apply (heap_drewN_at _ _ _).trans) | (simp only [List.size_toArray, List.length_cons, List.length_nil]; done))) (by exact rfl)), HK.out⟩, by first | (with_reducible assumption) | go_grown⟩
        · by_cases hk1 : kd = 1
          · subst hk1
            have HK : Hid ((dropF s ⟨q, t, p, l⟩ bg).Ok (65536 * (k + 1) + 65536)) := Lib.hid (dropF_ok SOK.out)
            generalize hr : dropF s ⟨q, t, p, l⟩ bg = r at *
            have HRr := Lib.hid hr; clear hr
            go_upto_region 27 with fail
            go_cut [7] from 37 to 111 (fun s7 wx => s7 = .pointer (some ⟨X, 0, none⟩) ∧ wx.heap[T]? = some (.cells #[.bool r.on, .int .i64 r.high, .int .i64 r.since, .int .u16 r.off.seq, .int .u32 r.off.time, .int .u16 r.off.pic, .int .u8 r.off.tl0, .int .u16 r.out.seq, .int .u32 r.out.time, .int .u16 r.out.pic, .int .u8 r.out.tl0] 27 (0, 0)) ∧ wx.heap[U]? = some (.cells #[.bool s.on, .int .i64 s.high, .int .i64 s.since, .int .i64 s.off.seq, .int .i64 s.off.time, .int .i64 s.off.pic, .int .i64 s.off.tl0, .int .i64 s.out.seq, .int .i64 s.out.time, .int .i64 s.out.pic, .int .i64 s.out.tl0] 36 (0, 0)) ∧ wx.heap[X]? = some (.cells #[.int .i64 1, .int .u16 q, .int .u32 t, .int .u16 p, .int .u8 l, .int .u32 tm, .bool bg] 29 (0, 0)) ∧ Below w.heap.size w wx)
            case first =>
              go_wp2_with fail
              with_reducible refine (drop_eq s r ⟨q, t, p, l⟩ bg _ HRr.out sb0 sb1 f0x f1x).mono ?_
              rintro e wd ⟨rfl, hb⟩
              have hBy := hb
              have zS := hb.size
              clear hb
              have hB2 := below_next (w := w) hB hBy
              have k0 := heap_below hBy z0 h0
              have k1 := heap_below hBy z1 h1
              have k2 := heap_below hBy z2 h2
              clear h0 h1 h2 c0 c1 c2 f0 f1 f2 z0 z1 z2
              obtain ⟨c0, f0, z0⟩ := blk_facts k0
              obtain ⟨c1, f1, z1⟩ := blk_facts k1
              obtain ⟨c2, f2, z2⟩ := blk_facts k2
              all_goals (go_wp2_with fail; go_meet; go_split_ands; exact ⟨rfl, (Eq.trans (b := some (Obj.cells _ _ (0, 0))) (by repeat (first | (with_reducible assumption) | (with_reducible apply heap_set_row11) | (with_reducible apply heap_set_row4) | (with_reducible apply heap_set_same) | ((with_reducible apply heap_set_other'); (focus (first | omega | (simp; done) | (simp; omega)))) | ((with_reducible apply heap_alloc_new); (focus (first | omega | (simp; done) | (simp; omega)))) | (with_reducible apply heap_alloc_old') | (with_reducible apply (heap_drew_at _ _).trans) | (with_reducible apply (heap_drewN_at _ _ _).trans) | (simp only [List.size_toArray, List.length_cons, List.length_nil]; done))) (by exact rfl)), (Eq.trans (b := some (Obj.cells _ _ (0, 0))) (by repeat (first | (with_reducible assumption) | (with_reducible apply heap_set_row11) | (with_reducible apply heap_set_row4) | (with_reducible apply heap_set_same) | ((with_reducible apply heap_set_other'); (focus (first | omega | (simp; done) | (simp; omega)))) | ((with_reducible apply heap_alloc_new); (focus (first | omega | (simp; done) | (simp; omega)))) | (with_reducible apply heap_alloc_old') | (with_reducible apply (heap_drew_at _ _).trans) | (with_reducible apply (heap_drewN_at _ _ _).trans) | (simp only [List.size_toArray, List.length_cons, List.length_nil]; done))) (by exact rfl)), (Eq.trans (b := some (Obj.cells _ _ (0, 0))) (by repeat (first | (with_reducible assumption) | (with_reducible apply heap_set_row11) | (with_reducible apply heap_set_row4) | (with_reducible apply heap_set_same) | ((with_reducible apply heap_set_other'); (focus (first | omega | (simp; done) | (simp; omega)))) | ((with_reducible apply heap_alloc_new); (focus (first | omega | (simp; done) | (simp; omega)))) | (with_reducible apply heap_alloc_old') | (with_reducible apply (heap_drew_at _ _).trans) | (with_reducible apply (heap_drewN_at _ _ _).trans) | (simp only [List.size_toArray, List.length_cons, List.length_nil]; done))) (by exact rfl)), by first | (with_reducible assumption) | go_grown⟩)
            case rest =>
              obtain ⟨rfl, k0, k1, k2, hBn⟩ := hcut
              clear hB h0 c0 f0 z0 h1 c1 f1 z1 h2 c2 f2 z2
              have hB := hBn
              clear hBn
              obtain ⟨v1, hwc⟩ : ∃ wq, wq = wc := ⟨_, rfl⟩
              subst hwc
              have h0 := k0
              clear k0
              obtain ⟨c0, f0, z0⟩ := blk_facts h0
              have h1 := k1
              clear k1
              obtain ⟨c1, f1, z1⟩ := blk_facts h1
              have h2 := k2
              clear k2
              obtain ⟨c2, f2, z2⟩ := blk_facts h2
              have yb := hB.size
              go_upto_region 28 with fail
              have HBO := Lib.hid hB
              clear hB
              have c1d : ∀ j, v1.drew.cell? ⟨U, j, none⟩ = _ := c1
              have f1d : ∀ j, v1.drew.frozen? ⟨U, j, none⟩ = false := f1
              have z1d : U < v1.drew.heap.size := z1
              refine wp_region_held_drew (S := (fun w' => (∀ j, w'.cell? ⟨X, j, none⟩ = #[.int .i64 1, .int .u16 q, .int .u32 t, .int .u16 p, .int .u8 l, .int .u32 tm, .bool bg][j]?) ∧ Below w.heap.size w w')) (by kernel_rfl) ?_ (fun hHeld0 => ?_)
              · exact ⟨(blk_facts (cs := #[.int .i64 1, .int .u16 q, .int .u32 t, .int .u16 p, .int .u8 l, .int .u32 tm, .bool bg]) (t := 29) (by repeat (first | (with_reducible assumption) | (with_reducible apply heap_set_row11) | (with_reducible apply heap_set_row4) | (with_reducible apply heap_set_same) | ((with_reducible apply heap_set_other'); (focus (first | omega | (simp; done) | (simp; omega)))) | ((with_reducible apply heap_alloc_new); (focus (first | omega | (simp; done) | (simp; omega)))) | (with_reducible apply heap_alloc_old') | (with_reducible apply (heap_drew_at _ _).trans) | (with_reducible apply (heap_drewN_at _ _ _).trans) | (simp only [List.size_toArray, List.length_cons, List.length_nil]; done)))).1, (by repeat (first | ((with_reducible apply below_set1); (focus (first | omega | (simp; omega)))) | (with_reducible exact HBO.out) | (with_reducible exact below_drewx HBO.out) | (with_reducible exact below_next (w := w) HBO.out hB) | (with_reducible exact below_next (w := w) HBO.out (below_drewx hB))))⟩
              refine take_l (i := 1) (v := ?_) rfl (by kernel_rfl) (by kernel_rfl) (by kernel_rfl) (fun _ _ _ h => h) (Or.inl ⟨by rfl, ?_⟩) (by assumption) ?_
              rotate_left
              · (intro wz hSw; (try dsimp only at hSw); go_simp; (try with_reducible rfl))
              try simp only [Act.put, List.setIfInBounds_toArray, List.set_cons_zero, List.set_cons_succ]
              refine take_l (i := 2) (v := ?_) rfl (by kernel_rfl) (by kernel_rfl) (by kernel_rfl) (fun _ _ _ h => h) (Or.inl ⟨by rfl, ?_⟩) (by assumption) ?_
              rotate_left
              · (intro wz hSw; (try dsimp only at hSw); go_simp; (try with_reducible rfl))
              try simp only [Act.put, List.setIfInBounds_toArray, List.set_cons_zero, List.set_cons_succ]
              refine take_l (i := 4) (v := ?_) rfl (by kernel_rfl) (by kernel_rfl) (by kernel_rfl) (fun _ _ _ h => h) (Or.inl ⟨by rfl, ?_⟩) (by assumption) ?_
              rotate_left
              · (intro wz hSw; (try dsimp only at hSw); go_simp; (try with_reducible rfl))
              try simp only [Act.put, List.setIfInBounds_toArray, List.set_cons_zero, List.set_cons_succ]
              refine take_l (i := 5) (v := ?_) rfl (by kernel_rfl) (by kernel_rfl) (by kernel_rfl) (fun _ _ _ h => h) (Or.inl ⟨by rfl, ?_⟩) (by assumption) ?_
              rotate_left
              · (intro wz hSw; (try dsimp only at hSw); go_simp; (try with_reducible rfl))
              try simp only [Act.put, List.setIfInBounds_toArray, List.set_cons_zero, List.set_cons_succ]
              refine wpAnyH_ready (rs := [0, 3]) (by kernel_rfl) (by simp) ?_
              refine cons_l rfl (fun K hK => ?_) ?_
              · -- operation 0, then 3
                go_simp
                refine hK.out _ _ ?_ (fun hHeld1 => ?_)
                · exact ⟨(blk_facts (cs := #[.int .i64 1, .int .u16 q, .int .u32 t, .int .u16 p, .int .u8 l, .int .u32 tm, .bool bg]) (t := 29) (by repeat (first | (with_reducible assumption) | (with_reducible apply heap_set_row11) | (with_reducible apply heap_set_row4) | (with_reducible apply heap_set_same) | ((with_reducible apply heap_set_other'); (focus (first | omega | (simp; done) | (simp; omega)))) | ((with_reducible apply heap_alloc_new); (focus (first | omega | (simp; done) | (simp; omega)))) | (with_reducible apply heap_alloc_old') | (with_reducible apply (heap_drew_at _ _).trans) | (with_reducible apply (heap_drewN_at _ _ _).trans) | (simp only [List.size_toArray, List.length_cons, List.length_nil]; done)))).1, (by repeat (first | ((with_reducible apply below_set1); (focus (first | omega | (simp; omega)))) | (with_reducible exact HBO.out) | (with_reducible exact below_drewx HBO.out) | (with_reducible exact below_next (w := w) HBO.out hB) | (with_reducible exact below_next (w := w) HBO.out (below_drewx hB))))⟩
                clear hK K hHeld0
                try simp only [Act.put, List.setIfInBounds_toArray, List.set_cons_zero, List.set_cons_succ]
                -- operation 3
                refine wpAnyH_ready (rs := [3]) (by kernel_rfl) (by simp) ?_
                refine cons_l rfl (fun K hK => ?_) AllReadyH.nil
                go_simp
                (go_at_call 14; (with_reducible refine (nums_eq ⟨q, t, p, l⟩ _ HX.out).mono ?_); rintro e w2 ⟨rfl, hb⟩; have hB := below_next (w := v1) (by first | (with_reducible exact Below.refl _ _) | (with_reducible assumption) | go_grown) hb; have zS := hB.size; clear hb; have h0w := (hB.block _ z0).trans h0; have h1w := (hB.block _ z1).trans h1; have h2w := (hB.block _ z2).trans h2; obtain ⟨c0w, f0w, z0w⟩ := blk_facts h0w; obtain ⟨c1w, f1w, z1w⟩ := blk_facts h1w; obtain ⟨c2w, f2w, z2w⟩ := blk_facts h2w)
                refine hK.out _ _ ?_ (fun hHeld2 => ?_)
                · exact ⟨(blk_facts (cs := #[.int .i64 1, .int .u16 q, .int .u32 t, .int .u16 p, .int .u8 l, .int .u32 tm, .bool bg]) (t := 29) (by repeat (first | (with_reducible assumption) | (with_reducible apply heap_set_row11) | (with_reducible apply heap_set_row4) | (with_reducible apply heap_set_same) | ((with_reducible apply heap_set_other'); (focus (first | omega | (simp; done) | (simp; omega)))) | ((with_reducible apply heap_alloc_new); (focus (first | omega | (simp; done) | (simp; omega)))) | (with_reducible apply heap_alloc_old') | (with_reducible apply (heap_drew_at _ _).trans) | (with_reducible apply (heap_drewN_at _ _ _).trans) | (simp only [List.size_toArray, List.length_cons, List.length_nil]; done)))).1, (by repeat (first | ((with_reducible apply below_set1); (focus (first | omega | (simp; omega)))) | (with_reducible exact HBO.out) | (with_reducible exact below_drewx HBO.out) | (with_reducible exact below_next (w := w) HBO.out hB) | (with_reducible exact below_next (w := w) HBO.out (below_drewx hB))))⟩
                clear hK K hHeld1
                try simp only [Act.put, List.setIfInBounds_toArray, List.set_cons_zero, List.set_cons_succ]
                -- operation 6
                refine wpAnyH_ready (rs := [6]) (by kernel_rfl) (by simp) ?_
                refine cons_l rfl (fun K hK => ?_) AllReadyH.nil
                go_simp
                (go_at_call 18; (with_reducible refine (refDrop_eq s r ⟨q, t, p, l⟩ bg _ HRr.out sb0 sb1 f0x f1x p0x p1x q0 q1).mono ?_); rintro e w2 ⟨rfl, hb⟩; have hB := below_next (w := v1) (by first | (with_reducible exact Below.refl _ _) | (with_reducible assumption) | go_grown) hb; have zS := hB.size; clear hb; have h0w := (hB.block _ z0).trans h0; have h1w := (hB.block _ z1).trans h1; have h2w := (hB.block _ z2).trans h2; obtain ⟨c0w, f0w, z0w⟩ := blk_facts h0w; obtain ⟨c1w, f1w, z1w⟩ := blk_facts h1w; obtain ⟨c2w, f2w, z2w⟩ := blk_facts h2w)
                refine hK.out _ _ ?_ (fun hHeld3 => ?_)
                · exact ⟨(blk_facts (cs := #[.int .i64 1, .int .u16 q, .int .u32 t, .int .u16 p, .int .u8 l, .int .u32 tm, .bool bg]) (t := 29) (by repeat (first | (with_reducible assumption) | (with_reducible apply heap_set_row11) | (with_reducible apply heap_set_row4) | (with_reducible apply heap_set_same) | ((with_reducible apply heap_set_other'); (focus (first | omega | (simp; done) | (simp; omega)))) | ((with_reducible apply heap_alloc_new); (focus (first | omega | (simp; done) | (simp; omega)))) | (with_reducible apply heap_alloc_old') | (with_reducible apply (heap_drew_at _ _).trans) | (with_reducible apply (heap_drewN_at _ _ _).trans) | (simp only [List.size_toArray, List.length_cons, List.length_nil]; done)))).1, (by repeat (first | ((with_reducible apply below_set1); (focus (first | omega | (simp; omega)))) | (with_reducible exact HBO.out) | (with_reducible exact below_drewx HBO.out) | (with_reducible exact below_next (w := w) HBO.out hB) | (with_reducible exact below_next (w := w) HBO.out (below_drewx hB))))⟩
                clear hK K hHeld2
                try simp only [Act.put, List.setIfInBounds_toArray, List.set_cons_zero, List.set_cons_succ]
                -- operation 7
                refine wpAnyH_ready (rs := [7]) (by kernel_rfl) (by simp) ?_
                refine cons_l rfl (fun K hK => ?_) AllReadyH.nil
                go_simp
                refine hK.out _ _ ?_ (fun hHeld4 => ?_)
                · exact ⟨(blk_facts (cs := #[.int .i64 1, .int .u16 q, .int .u32 t, .int .u16 p, .int .u8 l, .int .u32 tm, .bool bg]) (t := 29) (by repeat (first | (with_reducible assumption) | (with_reducible apply heap_set_row11) | (with_reducible apply heap_set_row4) | (with_reducible apply heap_set_same) | ((with_reducible apply heap_set_other'); (focus (first | omega | (simp; done) | (simp; omega)))) | ((with_reducible apply heap_alloc_new); (focus (first | omega | (simp; done) | (simp; omega)))) | (with_reducible apply heap_alloc_old') | (with_reducible apply (heap_drew_at _ _).trans) | (with_reducible apply (heap_drewN_at _ _ _).trans) | (simp only [List.size_toArray, List.length_cons, List.length_nil]; done)))).1, (by repeat (first | ((with_reducible apply below_set1); (focus (first | omega | (simp; omega)))) | (with_reducible exact HBO.out) | (with_reducible exact below_drewx HBO.out) | (with_reducible exact below_next (w := w) HBO.out hB) | (with_reducible exact below_next (w := w) HBO.out (below_drewx hB))))⟩
                clear hK K hHeld3
                try simp only [Act.put, List.setIfInBounds_toArray, List.set_cons_zero, List.set_cons_succ]
                refine wpAnyH_done (by kernel_rfl) ?_ _
                go_wp2_with fail
                go_meet
                go_split_ands
                exact ⟨⟨r, (Eq.trans (b := some (Obj.cells _ _ (0, 0))) (by repeat (first | (with_reducible assumption) | (with_reducible apply heap_set_row11) | (with_reducible apply heap_set_row4) | (with_reducible apply heap_set_same) | ((with_reducible apply heap_set_other'); (focus (first | omega | (simp; done) | (simp; omega)))) | ((with_reducible apply heap_alloc_new); (focus (first | omega | (simp; done) | (simp; omega)))) | (with_reducible apply heap_alloc_old') | (with_reducible apply (heap_drew_at _ _).trans) | (with_reducible apply (heap_drewN_at _ _ _).trans) | (simp only [List.size_toArray, List.length_cons, List.length_nil]; done))) (by exact rfl)), (Eq.trans (b := some (Obj.cells _ _ (0, 0))) (by repeat (first | (with_reducible assumption) | (with_reducible apply heap_set_row11) | (with_reducible apply heap_set_row4) | (with_reducible apply heap_set_same) | ((with_reducible apply heap_set_other'); (focus (first | omega | (simp; done) | (simp; omega)))) | ((with_reducible apply heap_alloc_new); (focus (first | omega | (simp; done) | (simp; omega)))) | (with_reducible apply heap_alloc_old') | (with_reducible apply (heap_drew_at _ _).trans) | (with_reducible apply (heap_drewN_at _ _ _).trans) | (simp only [List.size_toArray, List.length_cons, List.length_nil]; done))) (by exact rfl)), HK.out⟩, (by with_reducible assumption)⟩
              · refine cons_l rfl (fun K hK => ?_) AllReadyH.nil
                -- operation 3, then 0
                go_simp
                (go_at_call 14; (with_reducible refine (nums_eq ⟨q, t, p, l⟩ _ HX.out).mono ?_); rintro e w2 ⟨rfl, hb⟩; have hB := below_next (w := v1) (by first | (with_reducible exact Below.refl _ _) | (with_reducible assumption) | go_grown) hb; have zS := hB.size; clear hb; have h0w := (hB.block _ z0).trans h0; have h1w := (hB.block _ z1).trans h1; have h2w := (hB.block _ z2).trans h2; obtain ⟨c0w, f0w, z0w⟩ := blk_facts h0w; obtain ⟨c1w, f1w, z1w⟩ := blk_facts h1w; obtain ⟨c2w, f2w, z2w⟩ := blk_facts h2w)
                refine hK.out _ _ ?_ (fun hHeld1 => ?_)
                · exact ⟨(blk_facts (cs := #[.int .i64 1, .int .u16 q, .int .u32 t, .int .u16 p, .int .u8 l, .int .u32 tm, .bool bg]) (t := 29) (by repeat (first | (with_reducible assumption) | (with_reducible apply heap_set_row11) | (with_reducible apply heap_set_row4) | (with_reducible apply heap_set_same) | ((with_reducible apply heap_set_other'); (focus (first | omega | (simp; done) | (simp; omega)))) | ((with_reducible apply heap_alloc_new); (focus (first | omega | (simp; done) | (simp; omega)))) | (with_reducible apply heap_alloc_old') | (with_reducible apply (heap_drew_at _ _).trans) | (with_reducible apply (heap_drewN_at _ _ _).trans) | (simp only [List.size_toArray, List.length_cons, List.length_nil]; done)))).1, (by repeat (first | ((with_reducible apply below_set1); (focus (first | omega | (simp; omega)))) | (with_reducible exact HBO.out) | (with_reducible exact below_drewx HBO.out) | (with_reducible exact below_next (w := w) HBO.out hB) | (with_reducible exact below_next (w := w) HBO.out (below_drewx hB))))⟩
                clear hK K hHeld0
                try simp only [Act.put, List.setIfInBounds_toArray, List.set_cons_zero, List.set_cons_succ]
                -- operation 0
                refine wpAnyH_ready (rs := [0]) (by kernel_rfl) (by simp) ?_
                refine cons_l rfl (fun K hK => ?_) AllReadyH.nil
                go_simp
                refine hK.out _ _ ?_ (fun hHeld2 => ?_)
                · exact ⟨(blk_facts (cs := #[.int .i64 1, .int .u16 q, .int .u32 t, .int .u16 p, .int .u8 l, .int .u32 tm, .bool bg]) (t := 29) (by repeat (first | (with_reducible assumption) | (with_reducible apply heap_set_row11) | (with_reducible apply heap_set_row4) | (with_reducible apply heap_set_same) | ((with_reducible apply heap_set_other'); (focus (first | omega | (simp; done) | (simp; omega)))) | ((with_reducible apply heap_alloc_new); (focus (first | omega | (simp; done) | (simp; omega)))) | (with_reducible apply heap_alloc_old') | (with_reducible apply (heap_drew_at _ _).trans) | (with_reducible apply (heap_drewN_at _ _ _).trans) | (simp only [List.size_toArray, List.length_cons, List.length_nil]; done)))).1, (by repeat (first | ((with_reducible apply below_set1); (focus (first | omega | (simp; omega)))) | (with_reducible exact HBO.out) | (with_reducible exact below_drewx HBO.out) | (with_reducible exact below_next (w := w) HBO.out hB) | (with_reducible exact below_next (w := w) HBO.out (below_drewx hB))))⟩
                clear hK K hHeld1
                try simp only [Act.put, List.setIfInBounds_toArray, List.set_cons_zero, List.set_cons_succ]
                -- operation 6
                refine wpAnyH_ready (rs := [6]) (by kernel_rfl) (by simp) ?_
                refine cons_l rfl (fun K hK => ?_) AllReadyH.nil
                go_simp
                (go_at_call 18; (with_reducible refine (refDrop_eq s r ⟨q, t, p, l⟩ bg _ HRr.out sb0 sb1 f0x f1x p0x p1x q0 q1).mono ?_); rintro e w2 ⟨rfl, hb⟩; have hB := below_next (w := v1) (by first | (with_reducible exact Below.refl _ _) | (with_reducible assumption) | go_grown) hb; have zS := hB.size; clear hb; have h0w := (hB.block _ z0).trans h0; have h1w := (hB.block _ z1).trans h1; have h2w := (hB.block _ z2).trans h2; obtain ⟨c0w, f0w, z0w⟩ := blk_facts h0w; obtain ⟨c1w, f1w, z1w⟩ := blk_facts h1w; obtain ⟨c2w, f2w, z2w⟩ := blk_facts h2w)
                refine hK.out _ _ ?_ (fun hHeld3 => ?_)
                · exact ⟨(blk_facts (cs := #[.int .i64 1, .int .u16 q, .int .u32 t, .int .u16 p, .int .u8 l, .int .u32 tm, .bool bg]) (t := 29) (by repeat (first | (with_reducible assumption) | (with_reducible apply heap_set_row11) | (with_reducible apply heap_set_row4) | (with_reducible apply heap_set_same) | ((with_reducible apply heap_set_other'); (focus (first | omega | (simp; done) | (simp; omega)))) | ((with_reducible apply heap_alloc_new); (focus (first | omega | (simp; done) | (simp; omega)))) | (with_reducible apply heap_alloc_old') | (with_reducible apply (heap_drew_at _ _).trans) | (with_reducible apply (heap_drewN_at _ _ _).trans) | (simp only [List.size_toArray, List.length_cons, List.length_nil]; done)))).1, (by repeat (first | ((with_reducible apply below_set1); (focus (first | omega | (simp; omega)))) | (with_reducible exact HBO.out) | (with_reducible exact below_drewx HBO.out) | (with_reducible exact below_next (w := w) HBO.out hB) | (with_reducible exact below_next (w := w) HBO.out (below_drewx hB))))⟩
                clear hK K hHeld2
                try simp only [Act.put, List.setIfInBounds_toArray, List.set_cons_zero, List.set_cons_succ]
                -- operation 7
                refine wpAnyH_ready (rs := [7]) (by kernel_rfl) (by simp) ?_
                refine cons_l rfl (fun K hK => ?_) AllReadyH.nil
                go_simp
                refine hK.out _ _ ?_ (fun hHeld4 => ?_)
                · exact ⟨(blk_facts (cs := #[.int .i64 1, .int .u16 q, .int .u32 t, .int .u16 p, .int .u8 l, .int .u32 tm, .bool bg]) (t := 29) (by repeat (first | (with_reducible assumption) | (with_reducible apply heap_set_row11) | (with_reducible apply heap_set_row4) | (with_reducible apply heap_set_same) | ((with_reducible apply heap_set_other'); (focus (first | omega | (simp; done) | (simp; omega)))) | ((with_reducible apply heap_alloc_new); (focus (first | omega | (simp; done) | (simp; omega)))) | (with_reducible apply heap_alloc_old') | (with_reducible apply (heap_drew_at _ _).trans) | (with_reducible apply (heap_drewN_at _ _ _).trans) | (simp only [List.size_toArray, List.length_cons, List.length_nil]; done)))).1, (by repeat (first | ((with_reducible apply below_set1); (focus (first | omega | (simp; omega)))) | (with_reducible exact HBO.out) | (with_reducible exact below_drewx HBO.out) | (with_reducible exact below_next (w := w) HBO.out hB) | (with_reducible exact below_next (w := w) HBO.out (below_drewx hB))))⟩
                clear hK K hHeld3
                try simp only [Act.put, List.setIfInBounds_toArray, List.set_cons_zero, List.set_cons_succ]
                refine wpAnyH_done (by kernel_rfl) ?_ _
                go_wp2_with fail
                go_meet
                go_split_ands
                exact ⟨⟨r, (Eq.trans (b := some (Obj.cells _ _ (0, 0))) (by repeat (first | (with_reducible assumption) | (with_reducible apply heap_set_row11) | (with_reducible apply heap_set_row4) | (with_reducible apply heap_set_same) | ((with_reducible apply heap_set_other'); (focus (first | omega | (simp; done) | (simp; omega)))) | ((with_reducible apply heap_alloc_new); (focus (first | omega | (simp; done) | (simp; omega)))) | (with_reducible apply heap_alloc_old') | (with_reducible apply (heap_drew_at _ _).trans) | (with_reducible apply (heap_drewN_at _ _ _).trans) | (simp only [List.size_toArray, List.length_cons, List.length_nil]; done))) (by exact rfl)), (Eq.trans (b := some (Obj.cells _ _ (0, 0))) (by repeat (first | (with_reducible assumption) | (with_reducible apply heap_set_row11) | (with_reducible apply heap_set_row4) | (with_reducible apply heap_set_same) | ((with_reducible apply heap_set_other'); (focus (first | omega | (simp; done) | (simp; omega)))) | ((with_reducible apply heap_alloc_new); (focus (first | omega | (simp; done) | (simp; omega)))) | (with_reducible apply heap_alloc_old') | (with_reducible apply (heap_drew_at _ _).trans) | (with_reducible apply (heap_drewN_at _ _ _).trans) | (simp only [List.size_toArray, List.length_cons, List.length_nil]; done))) (by exact rfl)), HK.out⟩, (by with_reducible assumption)⟩
          · have HK : Hid ((sendF s ⟨q, t, p, l⟩).1.Ok (65536 * (k + 1) + 65536)) := Lib.hid (sendF_ok SOK.out)
            have HOO : Hid ((sendF s ⟨q, t, p, l⟩).2.1.Ok) := Lib.hid (sendF_mok2 SOK.out.out)
            generalize hr : sendF s ⟨q, t, p, l⟩ = r3 at *
            obtain ⟨r, m, is⟩ := r3
            dsimp only at HK HOO
            have HRr := Lib.hid hr; clear hr
            go_upto_region 13 with fail
            go_cut [12, 13, 14] from 37 to 111 (fun s12 s13 s14 wx => ∃ g8 : Nat, ∃ g9 : Nat, s12 = .pointer (some ⟨g8, 0, none⟩) ∧ s13 = .pointer (some ⟨g9, 0, none⟩) ∧ s14 = .bool is ∧ wx.heap[g8]? = some (.cells #[.bool r.on, .int .i64 r.high, .int .i64 r.since, .int .u16 r.off.seq, .int .u32 r.off.time, .int .u16 r.off.pic, .int .u8 r.off.tl0, .int .u16 r.out.seq, .int .u32 r.out.time, .int .u16 r.out.pic, .int .u8 r.out.tl0] 27 (0, 0)) ∧ wx.heap[g9]? = some (.cells #[.int .u16 m.seq, .int .u32 m.time, .int .u16 m.pic, .int .u8 m.tl0] 25 (0, 0)) ∧ Below wA.heap.size wA wx)
            case first =>
              go_wp2_with fail
              with_reducible refine (send_st s r ⟨q, t, p, l⟩ m is _ HRr.out sb0 sb1).mono ?_
              rintro e wd ⟨rfl, hb⟩
              have hBy := hb
              have zS := hb.size
              clear hb
              all_goals (go_wp2_with fail; go_meet; go_split_ands; as_aux_lemma => exact ⟨_, _, rfl, rfl, rfl, (Eq.trans (b := some (Obj.cells _ _ (0, 0))) (by repeat (first | (with_reducible assumption) | (with_reducible apply heap_set_row11) | (with_reducible apply heap_set_row4) | (with_reducible apply heap_set_same) | ((with_reducible apply heap_set_other'); (focus (first | omega | (simp; done) | (simp; omega)))) | ((with_reducible apply heap_alloc_new); (focus (first | omega | (simp; done) | (simp; omega)))) | (with_reducible apply heap_alloc_old') | (with_reducible apply (heap_drew_at _ _).trans) | (with_reducible apply (heap_drewN_at _ _ _).trans) | (simp only [List.size_toArray, List.length_cons, List.length_nil]; done))) (by exact rfl)), (Eq.trans (b := some (Obj.cells _ _ (0, 0))) (by repeat (first | (with_reducible assumption) | (with_reducible apply heap_set_row11) | (with_reducible apply heap_set_row4) | (with_reducible apply heap_set_same) | ((with_reducible apply heap_set_other'); (focus (first | omega | (simp; done) | (simp; omega)))) | ((with_reducible apply heap_alloc_new); (focus (first | omega | (simp; done) | (simp; omega)))) | (with_reducible apply heap_alloc_old') | (with_reducible apply (heap_drew_at _ _).trans) | (with_reducible apply (heap_drewN_at _ _ _).trans) | (simp only [List.size_toArray, List.length_cons, List.length_nil]; done))) (by exact rfl)), by first | (with_reducible exact Below.refl _ _) | go_grown⟩)
            case rest =>
              obtain ⟨g8, g9, rfl, rfl, rfl, h3, h4, hBx⟩ := hcut
              obtain ⟨u1, hwc⟩ : ∃ wq, wq = wc := ⟨_, rfl⟩
              subst hwc
              have h0n := (hBx.block _ z0).trans h0
              clear h0 c0 f0 z0
              have h0 := h0n
              clear h0n
              have h1n := (hBx.block _ z1).trans h1
              clear h1 c1 f1 z1
              have h1 := h1n
              clear h1n
              have h2n := (hBx.block _ z2).trans h2
              clear h2 c2 f2 z2
              have h2 := h2n
              clear h2n
              have hB : Below w.heap.size w u1 := below_next (w := w) hB hBx
              have yb := hB.size
              have yu := hBx.size
              clear hBx
              obtain ⟨c0, f0, z0⟩ := blk_facts h0
              obtain ⟨c1, f1, z1⟩ := blk_facts h1
              obtain ⟨c2, f2, z2⟩ := blk_facts h2
              obtain ⟨c3, f3, z3⟩ := blk_facts h3
              obtain ⟨c4, f4, z4⟩ := blk_facts h4
              go_upto_region 14 with fail
              go_cut [15, 16, 17] from 37 to 111 (fun s15 s16 s17 wx => ∃ g10 : Nat, ∃ g11 : Nat, s15 = .pointer (some ⟨g10, 0, none⟩) ∧ s16 = .pointer (some ⟨g11, 0, none⟩) ∧ s17 = .bool is ∧ wx.heap[g10]? = some (.cells #[.bool r.on, .int .i64 r.high, .int .i64 r.since, .int .i64 r.off.seq, .int .i64 r.off.time, .int .i64 r.off.pic, .int .i64 r.off.tl0, .int .i64 r.out.seq, .int .i64 r.out.time, .int .i64 r.out.pic, .int .i64 r.out.tl0] 36 (0, 0)) ∧ wx.heap[g11]? = some (.cells #[.int .i64 m.seq, .int .i64 m.time, .int .i64 m.pic, .int .i64 m.tl0] 34 (0, 0)) ∧ Below u1.heap.size u1 wx)
              case first =>
                go_region_held3 (fun w' => (∀ j, w'.cell? ⟨U, j, none⟩ = #[.bool s.on, .int .i64 s.high, .int .i64 s.since, .int .i64 s.off.seq, .int .i64 s.off.time, .int .i64 s.off.pic, .int .i64 s.off.tl0, .int .i64 s.out.seq, .int .i64 s.out.time, .int .i64 s.out.pic, .int .i64 s.out.tl0][j]?) ∧ (∀ j, w'.cell? ⟨X, j, none⟩ = #[.int .i64 kd, .int .u16 q, .int .u32 t, .int .u16 p, .int .u8 l, .int .u32 tm, .bool bg][j]?) ∧ Below u1.heap.size u1 w') (((as_aux_lemma => ((refine keep2 z1 c1 z2 c2 ?_; (first | (with_reducible exact Below.refl _ _) | (go_split_ands; first | (with_reducible assumption) | go_grown))))))) (first | (go_at_call 14; go_split_ands; (with_reducible refine (nums_eq ⟨q, t, p, l⟩ _ HX.out).mono ?_); rintro e w2 ⟨rfl, hb⟩; have hB := below_next (w := u1) (by first | (with_reducible exact Below.refl _ _) | (with_reducible assumption) | go_grown) hb; have zS := hB.size; (try first | ((have hn := heap_below hb (by first | omega | (simp; done) | (simp; omega)) hP); clear hP fP cP; have hP := hn; clear hn; (try simp only [size_alloc] at hP); obtain ⟨cP, fP, zP⟩ := blk_facts hP) | ((have hn := heap_below hb (by first | omega | (simp; done) | (simp; omega)) (heap_alloc_old' hP)); clear hP fP cP; have hP := hn; clear hn; (try simp only [size_alloc] at hP); obtain ⟨cP, fP, zP⟩ := blk_facts hP) | ((have hn := heap_below hb (by first | omega | (simp; done) | (simp; omega)) (heap_alloc_old' (heap_alloc_old' hP))); clear hP fP cP; have hP := hn; clear hn; (try simp only [size_alloc] at hP); obtain ⟨cP, fP, zP⟩ := blk_facts hP) | ((have hP : w2.heap[(_ : Nat)]? = some (Obj.cells _ 36 (0, 0)) := (hb.block _ (lt_alloc _ _)).trans (heap_alloc_new _ _ _ rfl)); (try simp only [size_alloc] at hP); obtain ⟨cP, fP, zP⟩ := blk_facts hP) | ((have hP : w2.heap[(_ : Nat)]? = some (Obj.cells _ 36 (0, 0)) := (hb.block _ (Nat.lt_trans (lt_alloc _ _) (lt_alloc _ _))).trans (heap_alloc_old' (heap_alloc_new _ _ _ rfl))); (try simp only [size_alloc] at hP); obtain ⟨cP, fP, zP⟩ := blk_facts hP)); (try first | ((have hn := heap_below hb (by first | omega | (simp; done) | (simp; omega)) hQ); clear hQ fQ cQ; have hQ := hn; clear hn; (try simp only [size_alloc] at hQ); obtain ⟨cQ, fQ, zQ⟩ := blk_facts hQ) | ((have hn := heap_below hb (by first | omega | (simp; done) | (simp; omega)) (heap_alloc_old' hQ)); clear hQ fQ cQ; have hQ := hn; clear hn; (try simp only [size_alloc] at hQ); obtain ⟨cQ, fQ, zQ⟩ := blk_facts hQ) | ((have hn := heap_below hb (by first | omega | (simp; done) | (simp; omega)) (heap_alloc_old' (heap_alloc_old' hQ))); clear hQ fQ cQ; have hQ := hn; clear hn; (try simp only [size_alloc] at hQ); obtain ⟨cQ, fQ, zQ⟩ := blk_facts hQ) | ((have hQ : w2.heap[(_ : Nat)]? = some (Obj.cells _ 34 (0, 0)) := (hb.block _ (lt_alloc _ _)).trans (heap_alloc_new _ _ _ rfl)); (try simp only [size_alloc] at hQ); obtain ⟨cQ, fQ, zQ⟩ := blk_facts hQ) | ((have hQ : w2.heap[(_ : Nat)]? = some (Obj.cells _ 34 (0, 0)) := (hb.block _ (Nat.lt_trans (lt_alloc _ _) (lt_alloc _ _))).trans (heap_alloc_old' (heap_alloc_new _ _ _ rfl))); (try simp only [size_alloc] at hQ); obtain ⟨cQ, fQ, zQ⟩ := blk_facts hQ)); clear hb) | (go_at_call 16; go_split_ands; (with_reducible refine (refSend_st s r ⟨q, t, p, l⟩ m is _ HRr.out sb0 sb1 HX.out SOK.out.off SOK.out.out).mono ?_); rintro e w2 ⟨rfl, hb⟩; have hB := below_next (w := u1) (by first | (with_reducible exact Below.refl _ _) | (with_reducible assumption) | go_grown) hb; have zS := hB.size; (try first | ((have hn := heap_below hb (by first | omega | (simp; done) | (simp; omega)) hP); clear hP fP cP; have hP := hn; clear hn; (try simp only [size_alloc] at hP); obtain ⟨cP, fP, zP⟩ := blk_facts hP) | ((have hn := heap_below hb (by first | omega | (simp; done) | (simp; omega)) (heap_alloc_old' hP)); clear hP fP cP; have hP := hn; clear hn; (try simp only [size_alloc] at hP); obtain ⟨cP, fP, zP⟩ := blk_facts hP) | ((have hn := heap_below hb (by first | omega | (simp; done) | (simp; omega)) (heap_alloc_old' (heap_alloc_old' hP))); clear hP fP cP; have hP := hn; clear hn; (try simp only [size_alloc] at hP); obtain ⟨cP, fP, zP⟩ := blk_facts hP) | ((have hP : w2.heap[(_ : Nat)]? = some (Obj.cells _ 36 (0, 0)) := (hb.block _ (lt_alloc _ _)).trans (heap_alloc_new _ _ _ rfl)); (try simp only [size_alloc] at hP); obtain ⟨cP, fP, zP⟩ := blk_facts hP) | ((have hP : w2.heap[(_ : Nat)]? = some (Obj.cells _ 36 (0, 0)) := (hb.block _ (Nat.lt_trans (lt_alloc _ _) (lt_alloc _ _))).trans (heap_alloc_old' (heap_alloc_new _ _ _ rfl))); (try simp only [size_alloc] at hP); obtain ⟨cP, fP, zP⟩ := blk_facts hP)); (try first | ((have hn := heap_below hb (by first | omega | (simp; done) | (simp; omega)) hQ); clear hQ fQ cQ; have hQ := hn; clear hn; (try simp only [size_alloc] at hQ); obtain ⟨cQ, fQ, zQ⟩ := blk_facts hQ) | ((have hn := heap_below hb (by first | omega | (simp; done) | (simp; omega)) (heap_alloc_old' hQ)); clear hQ fQ cQ; have hQ := hn; clear hn; (try simp only [size_alloc] at hQ); obtain ⟨cQ, fQ, zQ⟩ := blk_facts hQ) | ((have hn := heap_below hb (by first | omega | (simp; done) | (simp; omega)) (heap_alloc_old' (heap_alloc_old' hQ))); clear hQ fQ cQ; have hQ := hn; clear hn; (try simp only [size_alloc] at hQ); obtain ⟨cQ, fQ, zQ⟩ := blk_facts hQ) | ((have hQ : w2.heap[(_ : Nat)]? = some (Obj.cells _ 34 (0, 0)) := (hb.block _ (lt_alloc _ _)).trans (heap_alloc_new _ _ _ rfl)); (try simp only [size_alloc] at hQ); obtain ⟨cQ, fQ, zQ⟩ := blk_facts hQ) | ((have hQ : w2.heap[(_ : Nat)]? = some (Obj.cells _ 34 (0, 0)) := (hb.block _ (Nat.lt_trans (lt_alloc _ _) (lt_alloc _ _))).trans (heap_alloc_old' (heap_alloc_new _ _ _ rfl))); (try simp only [size_alloc] at hQ); obtain ⟨cQ, fQ, zQ⟩ := blk_facts hQ)); clear hb))
                all_goals (go_wp2_with fail; go_meet; go_split_ands; as_aux_lemma => exact ⟨_, _, rfl, rfl, rfl, (Eq.trans (b := some (Obj.cells _ _ (0, 0))) (by repeat (first | (with_reducible assumption) | (with_reducible apply heap_set_row11) | (with_reducible apply heap_set_row4) | (with_reducible apply heap_set_same) | ((with_reducible apply heap_set_other'); (focus (first | omega | (simp; done) | (simp; omega)))) | ((with_reducible apply heap_alloc_new); (focus (first | omega | (simp; done) | (simp; omega)))) | (with_reducible apply heap_alloc_old') | (with_reducible apply (heap_drew_at _ _).trans) | (with_reducible apply (heap_drewN_at _ _ _).trans) | (simp only [List.size_toArray, List.length_cons, List.length_nil]; done))) (by exact rfl)), (Eq.trans (b := some (Obj.cells _ _ (0, 0))) (by repeat (first | (with_reducible assumption) | (with_reducible apply heap_set_row11) | (with_reducible apply heap_set_row4) | (with_reducible apply heap_set_same) | ((with_reducible apply heap_set_other'); (focus (first | omega | (simp; done) | (simp; omega)))) | ((with_reducible apply heap_alloc_new); (focus (first | omega | (simp; done) | (simp; omega)))) | (with_reducible apply heap_alloc_old') | (with_reducible apply (heap_drew_at _ _).trans) | (with_reducible apply (heap_drewN_at _ _ _).trans) | (simp only [List.size_toArray, List.length_cons, List.length_nil]; done))) (by exact rfl)), by first | (with_reducible exact Below.refl _ _) | go_grown⟩)
              case rest =>
                obtain ⟨g10, g11, rfl, rfl, rfl, h5, h6, hBx⟩ := hcut
                obtain ⟨u2, hwc⟩ : ∃ wq, wq = wc := ⟨_, rfl⟩
                subst hwc
                have h0n := (hBx.block _ z0).trans h0
                clear h0 c0 f0 z0
                have h0 := h0n
                clear h0n
                have h1n := (hBx.block _ z1).trans h1
                clear h1 c1 f1 z1
                have h1 := h1n
                clear h1n
                have h2n := (hBx.block _ z2).trans h2
                clear h2 c2 f2 z2
                have h2 := h2n
                clear h2n
                have h3n := (hBx.block _ z3).trans h3
                clear h3 c3 f3 z3
                have h3 := h3n
                clear h3n
                have h4n := (hBx.block _ z4).trans h4
                clear h4 c4 f4 z4
                have h4 := h4n
                clear h4n
                have hB : Below w.heap.size w u2 := below_next (w := w) hB hBx
                have yb := hB.size
                have yu := hBx.size
                clear hBx
                obtain ⟨c0, f0, z0⟩ := blk_facts h0
                obtain ⟨c1, f1, z1⟩ := blk_facts h1
                obtain ⟨c2, f2, z2⟩ := blk_facts h2
                obtain ⟨c3, f3, z3⟩ := blk_facts h3
                obtain ⟨c4, f4, z4⟩ := blk_facts h4
                obtain ⟨c5, f5, z5⟩ := blk_facts h5
                obtain ⟨c6, f6, z6⟩ := blk_facts h6
                have n9T : g9 ≠ T := ne_ty h4 h0 (by decide)
                have n10T : g10 ≠ T := ne_ty h5 h0 (by decide)
                have n11T : g11 ≠ T := ne_ty h6 h0 (by decide)
                have n11U : g11 ≠ U := ne_ty h6 h1 (by decide)
                have n9U : g9 ≠ U := ne_ty h4 h1 (by decide)
                go_upto_region 15 with fail
                go_cut [7] from 37 to 111 (fun s7 wx => s7 = .pointer (some ⟨X, 0, none⟩) ∧ wx.heap[T]? = some (.cells #[.bool r.on, .int .i64 r.high, .int .i64 r.since, .int .u16 r.off.seq, .int .u32 r.off.time, .int .u16 r.off.pic, .int .u8 r.off.tl0, .int .u16 r.out.seq, .int .u32 r.out.time, .int .u16 r.out.pic, .int .u8 r.out.tl0] 27 (0, 0)) ∧ wx.heap[U]? = some (.cells #[.bool s.on, .int .i64 s.high, .int .i64 s.since, .int .i64 s.off.seq, .int .i64 s.off.time, .int .i64 s.off.pic, .int .i64 s.off.tl0, .int .i64 s.out.seq, .int .i64 s.out.time, .int .i64 s.out.pic, .int .i64 s.out.tl0] 36 (0, 0)) ∧ wx.heap[g9]? = some (.cells #[.int .u16 m.seq, .int .u32 m.time, .int .u16 m.pic, .int .u8 m.tl0] 25 (0, 0)) ∧ wx.heap[g10]? = some (.cells #[.bool r.on, .int .i64 r.high, .int .i64 r.since, .int .i64 r.off.seq, .int .i64 r.off.time, .int .i64 r.off.pic, .int .i64 r.off.tl0, .int .i64 r.out.seq, .int .i64 r.out.time, .int .i64 r.out.pic, .int .i64 r.out.tl0] 36 (0, 0)) ∧ wx.heap[g11]? = some (.cells #[.int .i64 m.seq, .int .i64 m.time, .int .i64 m.pic, .int .i64 m.tl0] 34 (0, 0)) ∧ Below w.heap.size w wx)
                case first =>
                  all_goals (go_wp2_with fail; go_meet; go_split_ands; exact ⟨rfl, (Eq.trans (b := some (Obj.cells _ _ (0, 0))) (by repeat (first | (with_reducible assumption) | (with_reducible apply heap_set_row11) | (with_reducible apply heap_set_row4) | (with_reducible apply heap_set_same) | ((with_reducible apply heap_set_other'); (focus (first | omega | (simp; done) | (simp; omega)))) | ((with_reducible apply heap_alloc_new); (focus (first | omega | (simp; done) | (simp; omega)))) | (with_reducible apply heap_alloc_old') | (with_reducible apply (heap_drew_at _ _).trans) | (with_reducible apply (heap_drewN_at _ _ _).trans) | (simp only [List.size_toArray, List.length_cons, List.length_nil]; done))) (by exact rfl)), (Eq.trans (b := some (Obj.cells _ _ (0, 0))) (by repeat (first | (with_reducible assumption) | (with_reducible apply heap_set_row11) | (with_reducible apply heap_set_row4) | (with_reducible apply heap_set_same) | ((with_reducible apply heap_set_other'); (focus (first | omega | (simp; done) | (simp; omega)))) | ((with_reducible apply heap_alloc_new); (focus (first | omega | (simp; done) | (simp; omega)))) | (with_reducible apply heap_alloc_old') | (with_reducible apply (heap_drew_at _ _).trans) | (with_reducible apply (heap_drewN_at _ _ _).trans) | (simp only [List.size_toArray, List.length_cons, List.length_nil]; done))) (by exact rfl)), (Eq.trans (b := some (Obj.cells _ _ (0, 0))) (by repeat (first | (with_reducible assumption) | (with_reducible apply heap_set_row11) | (with_reducible apply heap_set_row4) | (with_reducible apply heap_set_same) | ((with_reducible apply heap_set_other'); (focus (first | omega | (simp; done) | (simp; omega)))) | ((with_reducible apply heap_alloc_new); (focus (first | omega | (simp; done) | (simp; omega)))) | (with_reducible apply heap_alloc_old') | (with_reducible apply (heap_drew_at _ _).trans) | (with_reducible apply (heap_drewN_at _ _ _).trans) | (simp only [List.size_toArray, List.length_cons, List.length_nil]; done))) (by exact rfl)), (Eq.trans (b := some (Obj.cells _ _ (0, 0))) (by repeat (first | (with_reducible assumption) | (with_reducible apply heap_set_row11) | (with_reducible apply heap_set_row4) | (with_reducible apply heap_set_same) | ((with_reducible apply heap_set_other'); (focus (first | omega | (simp; done) | (simp; omega)))) | ((with_reducible apply heap_alloc_new); (focus (first | omega | (simp; done) | (simp; omega)))) | (with_reducible apply heap_alloc_old') | (with_reducible apply (heap_drew_at _ _).trans) | (with_reducible apply (heap_drewN_at _ _ _).trans) | (simp only [List.size_toArray, List.length_cons, List.length_nil]; done))) (by exact rfl)), (Eq.trans (b := some (Obj.cells _ _ (0, 0))) (by repeat (first | (with_reducible assumption) | (with_reducible apply heap_set_row11) | (with_reducible apply heap_set_row4) | (with_reducible apply heap_set_same) | ((with_reducible apply heap_set_other'); (focus (first | omega | (simp; done) | (simp; omega)))) | ((with_reducible apply heap_alloc_new); (focus (first | omega | (simp; done) | (simp; omega)))) | (with_reducible apply heap_alloc_old') | (with_reducible apply (heap_drew_at _ _).trans) | (with_reducible apply (heap_drewN_at _ _ _).trans) | (simp only [List.size_toArray, List.length_cons, List.length_nil]; done))) (by exact rfl)), by first | (with_reducible assumption) | go_grown⟩)
                case rest =>
                  obtain ⟨rfl, k0, k1, k4, k5, k6, hBn⟩ := hcut
                  clear hB h0 c0 f0 z0 h1 c1 f1 z1 h2 c2 f2 z2 h3 c3 f3 z3 h4 c4 f4 z4 h5 c5 f5 z5 h6 c6 f6 z6
                  have hB := hBn
                  clear hBn
                  obtain ⟨v1, hwc⟩ : ∃ wq, wq = wc := ⟨_, rfl⟩
                  subst hwc
                  have h0 := k0
                  clear k0
                  obtain ⟨c0, f0, z0⟩ := blk_facts h0
                  have h1 := k1
                  clear k1
                  obtain ⟨c1, f1, z1⟩ := blk_facts h1
                  have h4 := k4
                  clear k4
                  obtain ⟨c4, f4, z4⟩ := blk_facts h4
                  have h5 := k5
                  clear k5
                  obtain ⟨c5, f5, z5⟩ := blk_facts h5
                  have h6 := k6
                  clear k6
                  obtain ⟨c6, f6, z6⟩ := blk_facts h6
                  have yb := hB.size
                  go_upto_region 16 with fail
                  go_cut [7] from 37 to 111 (fun s7 wx => s7 = .pointer (some ⟨X, 0, none⟩) ∧ wx.heap[T]? = some (.cells #[.bool r.on, .int .i64 r.high, .int .i64 r.since, .int .u16 r.off.seq, .int .u32 r.off.time, .int .u16 r.off.pic, .int .u8 r.off.tl0, .int .u16 r.out.seq, .int .u32 r.out.time, .int .u16 r.out.pic, .int .u8 r.out.tl0] 27 (0, 0)) ∧ wx.heap[U]? = some (.cells #[.bool r.on, .int .i64 r.high, .int .i64 r.since, .int .i64 r.off.seq, .int .i64 r.off.time, .int .i64 r.off.pic, .int .i64 r.off.tl0, .int .i64 r.out.seq, .int .i64 r.out.time, .int .i64 r.out.pic, .int .i64 r.out.tl0] 36 (0, 0)) ∧ wx.heap[g9]? = some (.cells #[.int .u16 m.seq, .int .u32 m.time, .int .u16 m.pic, .int .u8 m.tl0] 25 (0, 0)) ∧ wx.heap[g11]? = some (.cells #[.int .i64 m.seq, .int .i64 m.time, .int .i64 m.pic, .int .i64 m.tl0] 34 (0, 0)) ∧ Below w.heap.size w wx)
                  case first =>
                    all_goals (go_wp2_with fail; go_meet; go_split_ands; exact ⟨rfl, (Eq.trans (b := some (Obj.cells _ _ (0, 0))) (by repeat (first | (with_reducible assumption) | (with_reducible apply heap_set_row11) | (with_reducible apply heap_set_row4) | (with_reducible apply heap_set_same) | ((with_reducible apply heap_set_other'); (focus (first | omega | (simp; done) | (simp; omega)))) | ((with_reducible apply heap_alloc_new); (focus (first | omega | (simp; done) | (simp; omega)))) | (with_reducible apply heap_alloc_old') | (with_reducible apply (heap_drew_at _ _).trans) | (with_reducible apply (heap_drewN_at _ _ _).trans) | (simp only [List.size_toArray, List.length_cons, List.length_nil]; done))) (by exact rfl)), (Eq.trans (b := some (Obj.cells _ _ (0, 0))) (by repeat (first | (with_reducible assumption) | (with_reducible apply heap_set_row11) | (with_reducible apply heap_set_row4) | (with_reducible apply heap_set_same) | ((with_reducible apply heap_set_other'); (focus (first | omega | (simp; done) | (simp; omega)))) | ((with_reducible apply heap_alloc_new); (focus (first | omega | (simp; done) | (simp; omega)))) | (with_reducible apply heap_alloc_old') | (with_reducible apply (heap_drew_at _ _).trans) | (with_reducible apply (heap_drewN_at _ _ _).trans) | (simp only [List.size_toArray, List.length_cons, List.length_nil]; done))) (by exact rfl)), (Eq.trans (b := some (Obj.cells _ _ (0, 0))) (by repeat (first | (with_reducible assumption) | (with_reducible apply heap_set_row11) | (with_reducible apply heap_set_row4) | (with_reducible apply heap_set_same) | ((with_reducible apply heap_set_other'); (focus (first | omega | (simp; done) | (simp; omega)))) | ((with_reducible apply heap_alloc_new); (focus (first | omega | (simp; done) | (simp; omega)))) | (with_reducible apply heap_alloc_old') | (with_reducible apply (heap_drew_at _ _).trans) | (with_reducible apply (heap_drewN_at _ _ _).trans) | (simp only [List.size_toArray, List.length_cons, List.length_nil]; done))) (by exact rfl)), (Eq.trans (b := some (Obj.cells _ _ (0, 0))) (by repeat (first | (with_reducible assumption) | (with_reducible apply heap_set_row11) | (with_reducible apply heap_set_row4) | (with_reducible apply heap_set_same) | ((with_reducible apply heap_set_other'); (focus (first | omega | (simp; done) | (simp; omega)))) | ((with_reducible apply heap_alloc_new); (focus (first | omega | (simp; done) | (simp; omega)))) | (with_reducible apply heap_alloc_old') | (with_reducible apply (heap_drew_at _ _).trans) | (with_reducible apply (heap_drewN_at _ _ _).trans) | (simp only [List.size_toArray, List.length_cons, List.length_nil]; done))) (by exact rfl)), by first | (with_reducible assumption) | go_grown⟩)
                  case rest =>
                    obtain ⟨rfl, k0, k1, k4, k6, hBn⟩ := hcut
                    clear hB h0 c0 f0 z0 h1 c1 f1 z1 h4 c4 f4 z4 h5 c5 f5 z5 h6 c6 f6 z6
                    have hB := hBn
                    clear hBn
                    obtain ⟨v2, hwc⟩ : ∃ wq, wq = wc := ⟨_, rfl⟩
                    subst hwc
                    have h0 := k0
                    clear k0
                    obtain ⟨c0, f0, z0⟩ := blk_facts h0
                    have h1 := k1
                    clear k1
                    obtain ⟨c1, f1, z1⟩ := blk_facts h1
                    have h4 := k4
                    clear k4
                    obtain ⟨c4, f4, z4⟩ := blk_facts h4
                    have h6 := k6
                    clear k6
                    obtain ⟨c6, f6, z6⟩ := blk_facts h6
                    have yb := hB.size
                    go_upto_region 17 with fail
                    go_region_held3 (fun w' => (w'.heap[T]? = some (.cells #[.bool r.on, .int .i64 r.high, .int .i64 r.since, .int .u16 r.off.seq, .int .u32 r.off.time, .int .u16 r.off.pic, .int .u8 r.off.tl0, .int .u16 r.out.seq, .int .u32 r.out.time, .int .u16 r.out.pic, .int .u8 r.out.tl0] 27 (0, 0)) ∧ (∀ j, w'.cell? ⟨T, j, none⟩ = #[.bool r.on, .int .i64 r.high, .int .i64 r.since, .int .u16 r.off.seq, .int .u32 r.off.time, .int .u16 r.off.pic, .int .u8 r.off.tl0, .int .u16 r.out.seq, .int .u32 r.out.time, .int .u16 r.out.pic, .int .u8 r.out.tl0][j]?) ∧ (∀ j, w'.frozen? ⟨T, j, none⟩ = false) ∧ T < w'.heap.size) ∧ (w'.heap[U]? = some (.cells #[.bool r.on, .int .i64 r.high, .int .i64 r.since, .int .i64 r.off.seq, .int .i64 r.off.time, .int .i64 r.off.pic, .int .i64 r.off.tl0, .int .i64 r.out.seq, .int .i64 r.out.time, .int .i64 r.out.pic, .int .i64 r.out.tl0] 36 (0, 0)) ∧ (∀ j, w'.cell? ⟨U, j, none⟩ = #[.bool r.on, .int .i64 r.high, .int .i64 r.since, .int .i64 r.off.seq, .int .i64 r.off.time, .int .i64 r.off.pic, .int .i64 r.off.tl0, .int .i64 r.out.seq, .int .i64 r.out.time, .int .i64 r.out.pic, .int .i64 r.out.tl0][j]?) ∧ (∀ j, w'.frozen? ⟨U, j, none⟩ = false) ∧ U < w'.heap.size) ∧ (w'.heap[g9]? = some (.cells #[.int .u16 m.seq, .int .u32 m.time, .int .u16 m.pic, .int .u8 m.tl0] 25 (0, 0)) ∧ (∀ j, w'.cell? ⟨g9, j, none⟩ = #[.int .u16 m.seq, .int .u32 m.time, .int .u16 m.pic, .int .u8 m.tl0][j]?) ∧ (∀ j, w'.frozen? ⟨g9, j, none⟩ = false) ∧ g9 < w'.heap.size) ∧ (w'.heap[g11]? = some (.cells #[.int .i64 m.seq, .int .i64 m.time, .int .i64 m.pic, .int .i64 m.tl0] 34 (0, 0)) ∧ (∀ j, w'.cell? ⟨g11, j, none⟩ = #[.int .i64 m.seq, .int .i64 m.time, .int .i64 m.pic, .int .i64 m.tl0][j]?) ∧ (∀ j, w'.frozen? ⟨g11, j, none⟩ = false) ∧ g11 < w'.heap.size) ∧ Below w.heap.size w w') ((go_split_ands; exact ⟨blk_all (Eq.trans (b := some (Obj.cells _ _ (0, 0))) (by repeat (first | (with_reducible assumption) | (with_reducible apply heap_set_row11) | (with_reducible apply heap_set_row4) | (with_reducible apply heap_set_same) | ((with_reducible apply heap_set_other'); (focus (first | omega | (simp; done) | (simp; omega)))) | ((with_reducible apply heap_alloc_new); (focus (first | omega | (simp; done) | (simp; omega)))) | (with_reducible apply heap_alloc_old') | (with_reducible apply (heap_drew_at _ _).trans) | (with_reducible apply (heap_drewN_at _ _ _).trans) | (simp only [List.size_toArray, List.length_cons, List.length_nil]; done))) (by exact rfl)), blk_all (Eq.trans (b := some (Obj.cells _ _ (0, 0))) (by repeat (first | (with_reducible assumption) | (with_reducible apply heap_set_row11) | (with_reducible apply heap_set_row4) | (with_reducible apply heap_set_same) | ((with_reducible apply heap_set_other'); (focus (first | omega | (simp; done) | (simp; omega)))) | ((with_reducible apply heap_alloc_new); (focus (first | omega | (simp; done) | (simp; omega)))) | (with_reducible apply heap_alloc_old') | (with_reducible apply (heap_drew_at _ _).trans) | (with_reducible apply (heap_drewN_at _ _ _).trans) | (simp only [List.size_toArray, List.length_cons, List.length_nil]; done))) (by exact rfl)), blk_all (Eq.trans (b := some (Obj.cells _ _ (0, 0))) (by repeat (first | (with_reducible assumption) | (with_reducible apply heap_set_row11) | (with_reducible apply heap_set_row4) | (with_reducible apply heap_set_same) | ((with_reducible apply heap_set_other'); (focus (first | omega | (simp; done) | (simp; omega)))) | ((with_reducible apply heap_alloc_new); (focus (first | omega | (simp; done) | (simp; omega)))) | (with_reducible apply heap_alloc_old') | (with_reducible apply (heap_drew_at _ _).trans) | (with_reducible apply (heap_drewN_at _ _ _).trans) | (simp only [List.size_toArray, List.length_cons, List.length_nil]; done))) (by exact rfl)), blk_all (Eq.trans (b := some (Obj.cells _ _ (0, 0))) (by repeat (first | (with_reducible assumption) | (with_reducible apply heap_set_row11) | (with_reducible apply heap_set_row4) | (with_reducible apply heap_set_same) | ((with_reducible apply heap_set_other'); (focus (first | omega | (simp; done) | (simp; omega)))) | ((with_reducible apply heap_alloc_new); (focus (first | omega | (simp; done) | (simp; omega)))) | (with_reducible apply heap_alloc_old') | (with_reducible apply (heap_drew_at _ _).trans) | (with_reducible apply (heap_drewN_at _ _ _).trans) | (simp only [List.size_toArray, List.length_cons, List.length_nil]; done))) (by exact rfl)), by first | ((repeat (first | (with_reducible exact Below.refl _ _) | (with_reducible apply Below.drew))); done) | go_grown⟩)) (first | (go_at_call 14; go_split_ands; (with_reducible refine (nums_eq m _ HOO.out).mono ?_); rintro e w2 ⟨rfl, hb⟩; have hB := below_next (w := w) (by go_grown) hb; have zS := hB.size; have hr0 : w2.heap[T]? = some (.cells #[.bool r.on, .int .i64 r.high, .int .i64 r.since, .int .u16 r.off.seq, .int .u32 r.off.time, .int .u16 r.off.pic, .int .u8 r.off.tl0, .int .u16 r.out.seq, .int .u32 r.out.time, .int .u16 r.out.pic, .int .u8 r.out.tl0] 27 (0, 0)) := (hb.block (T) (by first | omega | (simp; done) | (simp; omega))).trans (Eq.trans (b := some (Obj.cells _ _ (0, 0))) (by repeat (first | (with_reducible assumption) | (with_reducible apply heap_set_row11) | (with_reducible apply heap_set_row4) | (with_reducible apply heap_set_same) | ((with_reducible apply heap_set_other'); (focus (first | omega | (simp; done) | (simp; omega)))) | ((with_reducible apply heap_alloc_new); (focus (first | omega | (simp; done) | (simp; omega)))) | (with_reducible apply heap_alloc_old') | (with_reducible apply (heap_drew_at _ _).trans) | (with_reducible apply (heap_drewN_at _ _ _).trans) | (simp only [List.size_toArray, List.length_cons, List.length_nil]; done))) (by exact rfl)); have hr1 : w2.heap[U]? = some (.cells #[.bool r.on, .int .i64 r.high, .int .i64 r.since, .int .i64 r.off.seq, .int .i64 r.off.time, .int .i64 r.off.pic, .int .i64 r.off.tl0, .int .i64 r.out.seq, .int .i64 r.out.time, .int .i64 r.out.pic, .int .i64 r.out.tl0] 36 (0, 0)) := (hb.block (U) (by first | omega | (simp; done) | (simp; omega))).trans (Eq.trans (b := some (Obj.cells _ _ (0, 0))) (by repeat (first | (with_reducible assumption) | (with_reducible apply heap_set_row11) | (with_reducible apply heap_set_row4) | (with_reducible apply heap_set_same) | ((with_reducible apply heap_set_other'); (focus (first | omega | (simp; done) | (simp; omega)))) | ((with_reducible apply heap_alloc_new); (focus (first | omega | (simp; done) | (simp; omega)))) | (with_reducible apply heap_alloc_old') | (with_reducible apply (heap_drew_at _ _).trans) | (with_reducible apply (heap_drewN_at _ _ _).trans) | (simp only [List.size_toArray, List.length_cons, List.length_nil]; done))) (by exact rfl)); have hr2 : w2.heap[g9]? = some (.cells #[.int .u16 m.seq, .int .u32 m.time, .int .u16 m.pic, .int .u8 m.tl0] 25 (0, 0)) := (hb.block (g9) (by first | omega | (simp; done) | (simp; omega))).trans (Eq.trans (b := some (Obj.cells _ _ (0, 0))) (by repeat (first | (with_reducible assumption) | (with_reducible apply heap_set_row11) | (with_reducible apply heap_set_row4) | (with_reducible apply heap_set_same) | ((with_reducible apply heap_set_other'); (focus (first | omega | (simp; done) | (simp; omega)))) | ((with_reducible apply heap_alloc_new); (focus (first | omega | (simp; done) | (simp; omega)))) | (with_reducible apply heap_alloc_old') | (with_reducible apply (heap_drew_at _ _).trans) | (with_reducible apply (heap_drewN_at _ _ _).trans) | (simp only [List.size_toArray, List.length_cons, List.length_nil]; done))) (by exact rfl)); have hr3 : w2.heap[g11]? = some (.cells #[.int .i64 m.seq, .int .i64 m.time, .int .i64 m.pic, .int .i64 m.tl0] 34 (0, 0)) := (hb.block (g11) (by first | omega | (simp; done) | (simp; omega))).trans (Eq.trans (b := some (Obj.cells _ _ (0, 0))) (by repeat (first | (with_reducible assumption) | (with_reducible apply heap_set_row11) | (with_reducible apply heap_set_row4) | (with_reducible apply heap_set_same) | ((with_reducible apply heap_set_other'); (focus (first | omega | (simp; done) | (simp; omega)))) | ((with_reducible apply heap_alloc_new); (focus (first | omega | (simp; done) | (simp; omega)))) | (with_reducible apply heap_alloc_old') | (with_reducible apply (heap_drew_at _ _).trans) | (with_reducible apply (heap_drewN_at _ _ _).trans) | (simp only [List.size_toArray, List.length_cons, List.length_nil]; done))) (by exact rfl)); have zr0 := blk_lt hr0; have zr1 := blk_lt hr1; have zr2 := blk_lt hr2; have zr3 := blk_lt hr3; clear hb))
                    all_goals
                      go_wp2_with fail
                      go_meet
                      go_split_ands
                      exact ⟨⟨r, (Eq.trans (b := some (Obj.cells _ _ (0, 0))) (by repeat (first | (with_reducible assumption) | (with_reducible apply heap_set_row11) | (with_reducible apply heap_set_row4) | (with_reducible apply heap_set_same) | ((with_reducible apply heap_set_other'); (focus (first | omega | (simp; done) | (simp; omega)))) | ((with_reducible apply heap_alloc_new); (focus (first | omega | (simp; done) | (simp; omega)))) | (with_reducible apply heap_alloc_old') | (with_reducible apply (heap_drew_at _ _).trans) | (with_reducible apply (heap_drewN_at _ _ _).trans) | (simp only [List.size_toArray, List.length_cons, List.length_nil]; done))) (by exact rfl)), (Eq.trans (b := some (Obj.cells _ _ (0, 0))) (by repeat (first | (with_reducible assumption) | (with_reducible apply heap_set_row11) | (with_reducible apply heap_set_row4) | (with_reducible apply heap_set_same) | ((with_reducible apply heap_set_other'); (focus (first | omega | (simp; done) | (simp; omega)))) | ((with_reducible apply heap_alloc_new); (focus (first | omega | (simp; done) | (simp; omega)))) | (with_reducible apply heap_alloc_old') | (with_reducible apply (heap_drew_at _ _).trans) | (with_reducible apply (heap_drewN_at _ _ _).trans) | (simp only [List.size_toArray, List.length_cons, List.length_nil]; done))) (by exact rfl)), HK.out⟩, by first | (with_reducible assumption) | go_grown⟩
      case rest =>
      obtain ⟨⟨r, k0, k1, hOK⟩, hBn⟩ := hcut
      clear hB h0 h1 h2 c0 f0 z0 c1 f1 z1 c2 f2 z2
      have hB := hBn
      clear hBn
      have ROK := Lib.hid hOK; clear hOK
      obtain ⟨v9, hwc⟩ : ∃ wq, wq = wc := ⟨_, rfl⟩
      subst hwc
      have h0 := k0
      have h1 := k1
      clear k0 k1
      obtain ⟨c0, f0, z0⟩ := blk_facts h0
      obtain ⟨c1, f1, z1⟩ := blk_facts h1
      have yb := hB.size
      go_upto_region 29 with fail
      go_region_held3 (fun w' => (w'.heap[T]? = some (.cells #[.bool r.on, .int .i64 r.high, .int .i64 r.since, .int .u16 r.off.seq, .int .u32 r.off.time, .int .u16 r.off.pic, .int .u8 r.off.tl0, .int .u16 r.out.seq, .int .u32 r.out.time, .int .u16 r.out.pic, .int .u8 r.out.tl0] 27 (0, 0)) ∧ (∀ j, w'.cell? ⟨T, j, none⟩ = #[.bool r.on, .int .i64 r.high, .int .i64 r.since, .int .u16 r.off.seq, .int .u32 r.off.time, .int .u16 r.off.pic, .int .u8 r.off.tl0, .int .u16 r.out.seq, .int .u32 r.out.time, .int .u16 r.out.pic, .int .u8 r.out.tl0][j]?) ∧ (∀ j, w'.frozen? ⟨T, j, none⟩ = false) ∧ T < w'.heap.size) ∧ (w'.heap[U]? = some (.cells #[.bool r.on, .int .i64 r.high, .int .i64 r.since, .int .i64 r.off.seq, .int .i64 r.off.time, .int .i64 r.off.pic, .int .i64 r.off.tl0, .int .i64 r.out.seq, .int .i64 r.out.time, .int .i64 r.out.pic, .int .i64 r.out.tl0] 36 (0, 0)) ∧ (∀ j, w'.cell? ⟨U, j, none⟩ = #[.bool r.on, .int .i64 r.high, .int .i64 r.since, .int .i64 r.off.seq, .int .i64 r.off.time, .int .i64 r.off.pic, .int .i64 r.off.tl0, .int .i64 r.out.seq, .int .i64 r.out.time, .int .i64 r.out.pic, .int .i64 r.out.tl0][j]?) ∧ (∀ j, w'.frozen? ⟨U, j, none⟩ = false) ∧ U < w'.heap.size) ∧ Below w.heap.size w w') ((go_split_ands; exact ⟨blk_all (Eq.trans (b := some (Obj.cells _ _ (0, 0))) (by repeat (first | (with_reducible assumption) | (with_reducible apply heap_set_row11) | (with_reducible apply heap_set_row4) | (with_reducible apply heap_set_same) | ((with_reducible apply heap_set_other'); (focus (first | omega | (simp; done) | (simp; omega)))) | ((with_reducible apply heap_alloc_new); (focus (first | omega | (simp; done) | (simp; omega)))) | (with_reducible apply heap_alloc_old') | (with_reducible apply (heap_drew_at _ _).trans) | (with_reducible apply (heap_drewN_at _ _ _).trans) | (simp only [List.size_toArray, List.length_cons, List.length_nil]; done))) (by exact rfl)), blk_all (Eq.trans (b := some (Obj.cells _ _ (0, 0))) (by repeat (first | (with_reducible assumption) | (with_reducible apply heap_set_row11) | (with_reducible apply heap_set_row4) | (with_reducible apply heap_set_same) | ((with_reducible apply heap_set_other'); (focus (first | omega | (simp; done) | (simp; omega)))) | ((with_reducible apply heap_alloc_new); (focus (first | omega | (simp; done) | (simp; omega)))) | (with_reducible apply heap_alloc_old') | (with_reducible apply (heap_drew_at _ _).trans) | (with_reducible apply (heap_drewN_at _ _ _).trans) | (simp only [List.size_toArray, List.length_cons, List.length_nil]; done))) (by exact rfl)), by first | ((repeat (first | (with_reducible exact Below.refl _ _) | (with_reducible apply Below.drew))); done) | go_grown⟩)) (first | (go_at_call 13; go_split_ands; (with_reducible refine (of_eq r _ ROK.out.off ROK.out.out).mono ?_); rintro e w2 ⟨rfl, hb⟩; have hB := below_next (w := w) (by go_grown) hb; have zS := hB.size; have hr0 : w2.heap[T]? = some (.cells #[.bool r.on, .int .i64 r.high, .int .i64 r.since, .int .u16 r.off.seq, .int .u32 r.off.time, .int .u16 r.off.pic, .int .u8 r.off.tl0, .int .u16 r.out.seq, .int .u32 r.out.time, .int .u16 r.out.pic, .int .u8 r.out.tl0] 27 (0, 0)) := (hb.block (T) (by first | omega | (simp; done) | (simp; omega))).trans (Eq.trans (b := some (Obj.cells _ _ (0, 0))) (by repeat (first | (with_reducible assumption) | (with_reducible apply heap_set_row11) | (with_reducible apply heap_set_row4) | (with_reducible apply heap_set_same) | ((with_reducible apply heap_set_other'); (focus (first | omega | (simp; done) | (simp; omega)))) | ((with_reducible apply heap_alloc_new); (focus (first | omega | (simp; done) | (simp; omega)))) | (with_reducible apply heap_alloc_old') | (with_reducible apply (heap_drew_at _ _).trans) | (with_reducible apply (heap_drewN_at _ _ _).trans) | (simp only [List.size_toArray, List.length_cons, List.length_nil]; done))) (by exact rfl)); have hr1 : w2.heap[U]? = some (.cells #[.bool r.on, .int .i64 r.high, .int .i64 r.since, .int .i64 r.off.seq, .int .i64 r.off.time, .int .i64 r.off.pic, .int .i64 r.off.tl0, .int .i64 r.out.seq, .int .i64 r.out.time, .int .i64 r.out.pic, .int .i64 r.out.tl0] 36 (0, 0)) := (hb.block (U) (by first | omega | (simp; done) | (simp; omega))).trans (Eq.trans (b := some (Obj.cells _ _ (0, 0))) (by repeat (first | (with_reducible assumption) | (with_reducible apply heap_set_row11) | (with_reducible apply heap_set_row4) | (with_reducible apply heap_set_same) | ((with_reducible apply heap_set_other'); (focus (first | omega | (simp; done) | (simp; omega)))) | ((with_reducible apply heap_alloc_new); (focus (first | omega | (simp; done) | (simp; omega)))) | (with_reducible apply heap_alloc_old') | (with_reducible apply (heap_drew_at _ _).trans) | (with_reducible apply (heap_drewN_at _ _ _).trans) | (simp only [List.size_toArray, List.length_cons, List.length_nil]; done))) (by exact rfl)); have zr0 := blk_lt hr0; have zr1 := blk_lt hr1; clear hb))
      all_goals
        go_wp2_with fail
        go_roundw
        case rel => exact ⟨k + 1, r, by omega, by go_num, (Eq.trans (b := some (Obj.cells _ _ (0, 0))) (by repeat (first | (with_reducible assumption) | (with_reducible apply heap_set_row11) | (with_reducible apply heap_set_row4) | (with_reducible apply heap_set_same) | ((with_reducible apply heap_set_other'); (focus (first | omega | (simp; done) | (simp; omega)))) | ((with_reducible apply heap_alloc_new); (focus (first | omega | (simp; done) | (simp; omega)))) | (with_reducible apply heap_alloc_old') | (with_reducible apply (heap_drew_at _ _).trans) | (with_reducible apply (heap_drewN_at _ _ _).trans) | (simp only [List.size_toArray, List.length_cons, List.length_nil]; done))) (by exact rfl)), (Eq.trans (b := some (Obj.cells _ _ (0, 0))) (by repeat (first | (with_reducible assumption) | (with_reducible apply heap_set_row11) | (with_reducible apply heap_set_row4) | (with_reducible apply heap_set_same) | ((with_reducible apply heap_set_other'); (focus (first | omega | (simp; done) | (simp; omega)))) | ((with_reducible apply heap_alloc_new); (focus (first | omega | (simp; done) | (simp; omega)))) | (with_reducible apply heap_alloc_old') | (with_reducible apply (heap_drew_at _ _).trans) | (with_reducible apply (heap_drewN_at _ _ _).trans) | (simp only [List.size_toArray, List.length_cons, List.length_nil]; done))) (by exact rfl)), Lib.hid ⟨by have := ROK.out.h0; push_cast; omega, by have := ROK.out.h1; push_cast; omega, ROK.out.off, ROK.out.out⟩, by first | (with_reducible assumption) | go_grown⟩
        case measure => simp [intOf]; omega
    · go_wp2_with fail
      go_ret
      exact ⟨rfl, hB⟩
end Go.Proofs.Ytidpkmabcndknaa
