/- The law MungeOrder, walked. -/
import Derived.Test.YtidpkmabcndknaaParts
import Derived.Test.YtidpkmabcndknaaVia
import Derived.Deep.RegionHeld3
import Derived.Deep.DeepCutAuto
namespace Go.Proofs.Ytidpkmabcndknaa
set_option linter.unusedSimpArgs false
set_option linter.unusedVariables false
open Go.RowKit

theorem ok_more {s : St} {B D : Int} (h : s.Ok B) (hb : B ≤ D) : s.Ok D := ⟨by have := h.h0; omega, by have := h.h1; omega, h.off, h.out⟩
theorem keepd {u w : World} {n g b a0 a1 a2 a3 a4 : Nat} {s : Array Value} {v0 v1 v2 v3 v4 : Value} (z0 : g < n) (c0 : ∀ j, u.cell? ⟨g, j, none⟩ = s[j]?) (hb : b < n)
    (d0 : u.cell? ⟨b, a0, none⟩ = some v0) (d1 : u.cell? ⟨b, a1, none⟩ = some v1) (d2 : u.cell? ⟨b, a2, none⟩ = some v2) (d3 : u.cell? ⟨b, a3, none⟩ = some v3) (d4 : u.cell? ⟨b, a4, none⟩ = some v4) (h : Below n u w) :
    (∀ j, w.cell? ⟨g, j, none⟩ = s[j]?) ∧ w.cell? ⟨b, a0, none⟩ = some v0 ∧ w.cell? ⟨b, a1, none⟩ = some v1 ∧ w.cell? ⟨b, a2, none⟩ = some v2 ∧ w.cell? ⟨b, a3, none⟩ = some v3 ∧ w.cell? ⟨b, a4, none⟩ = some v4 ∧ Below n u w :=
  ⟨cells_below h z0 c0, (h.cell (p := ⟨b, a0, none⟩) hb).trans d0, (h.cell (p := ⟨b, a1, none⟩) hb).trans d1, (h.cell (p := ⟨b, a2, none⟩) hb).trans d2, (h.cell (p := ⟨b, a3, none⟩) hb).trans d3, (h.cell (p := ⟨b, a4, none⟩) hb).trans d4, h⟩
set_option maxRecDepth 100000 in
set_option maxHeartbeats 8000000 in
theorem order_walk (A : Option Addr) (len cap : Nat) (z : Nat → PartV) (w : World) (hl : len ≤ 9223372036854775807) (hz : ∀ i, i < len → PartAt w A i (z i)) :
    Calls Try.prog 5 #[.slice A len cap] w fun e w' => e = .returned (.bool true) ∧ Below w.heap.size w w' := by
  have HZ := Lib.hid hz; clear hz
  by_cases h20 : 20 < len
  · go_enter Try.func5, Try.ntmps5
    go_wp2_with fail
    (with_reducible refine (awake_any _).mono ?_)
    rintro e w1 ⟨rfl, hb⟩
    go_wp2_with fail
    go_ret
    exact ⟨rfl, hb⟩
  go_enter Try.func5, Try.ntmps5
  go_wp2_with fail
  (with_reducible refine (awake_any _).mono ?_)
  rintro e w1 ⟨rfl, hB⟩
  have y1 := hB.size
  go_wp2_with fail
  go_loopw [5, 6] (fun wt i wr => ∃ (k : Nat) (s : St) (wn : Int), k ≤ len ∧ i = .int .i64 k ∧ wt = .int .u16 wn ∧ 0 ≤ wn ∧ wn ≤ 65535 ∧ wr.heap[w1.heap.size]? = some (.cells #[.bool s.on, .int .i64 s.high, .int .i64 s.since, .int .u16 s.off.seq, .int .u32 s.off.time, .int .u16 s.off.pic, .int .u8 s.off.tl0, .int .u16 s.out.seq, .int .u32 s.out.time, .int .u16 s.out.pic, .int .u8 s.out.tl0] 27 (0, 0)) ∧ Hid ((k = 0 → s.on = false) ∧ (0 < k → s.on = true ∧ (s.out.seq - (wn - 1)) % 65536 = 0)) ∧ Below w.heap.size w wr) (fun _ i _ => len - (intOf i).toNat)
  case atStart => exact ⟨0, ⟨false, 0, 0, ⟨0, 0, 0, 0⟩, ⟨0, 0, 0, 0⟩⟩, 0, by omega, rfl, rfl, by omega, by omega, (Eq.trans (b := some (Obj.cells _ _ (0, 0))) (by repeat (first | (with_reducible assumption) | (with_reducible apply heap_set_row11) | (with_reducible apply heap_set_row4) | (with_reducible apply heap_set_same) | ((with_reducible apply heap_set_other'); (focus (first | omega | (simp; done) | (simp; omega)))) | ((with_reducible apply heap_alloc_new); (focus (first | omega | (simp; done) | (simp; omega)))) | (with_reducible apply heap_alloc_old') | (with_reducible apply (heap_drew_at _ _).trans) | (with_reducible apply (heap_drewN_at _ _ _).trans) | (simp only [List.size_toArray, List.length_cons, List.length_nil]; done))) (by exact rfl)), Lib.hid ⟨fun _ => rfl, fun h => absurd h (by omega)⟩, by go_grown⟩
  case round =>
    clear hB
    obtain ⟨k, s, wn, hk, rfl, rfl, wn0, wn1, h0, HS, hB⟩ := hrel
    have yr := hB.size
    obtain ⟨c0, f0, z0⟩ := blk_facts h0
    have z0a : w1.heap.size < wr.heap.size + 1 := by omega
    by_cases hlt : k < len
    · obtain ⟨ab, ao, hA, hab, e0, e1, e2, e3, e4, e5, hok, hgl, hgn, hgs⟩ := HZ.out k hlt
      subst hA
      have HZ0 : Hid (k = 0 → (z 0).q = (z k).q) := Lib.hid (fun h => by rw [h])
      generalize z k = v at *
      obtain ⟨q, t, p, l, st, B, bn, bc, gs⟩ := v
      dsimp only at e0 e1 e2 e3 e4 e5 hok hgl hgn hgs
      subst hgl
      have HGS := Lib.hid hgs; clear hgs
      have E0 := Lib.hid e0; clear e0
      have E1 := Lib.hid e1; clear e1
      have E2 := Lib.hid e2; clear e2
      have E3 := Lib.hid e3; clear e3
      have E4 := Lib.hid e4; clear e4
      have E5 := Lib.hid e5; clear e5
      have d0 := (hB.cell (p := ⟨ab, ao + k * 6, none⟩) hab).trans E0.out
      have d1 := (hB.cell (p := ⟨ab, ao + k * 6 + 1, none⟩) hab).trans E1.out
      have d2 := (hB.cell (p := ⟨ab, ao + k * 6 + 2, none⟩) hab).trans E2.out
      have d3 := (hB.cell (p := ⟨ab, ao + k * 6 + 3, none⟩) hab).trans E3.out
      have d4 := (hB.cell (p := ⟨ab, ao + k * 6 + 4, none⟩) hab).trans E4.out
      have d5 := (hB.cell (p := ⟨ab, ao + k * 6 + 5, none⟩) hab).trans E5.out
      have hb1 := Nat.lt_of_lt_of_le hab hB.size
      by_cases h60 : 60 < gs.length
      · go_wp2_with fail
        go_ret
        exact ⟨rfl, by go_grown⟩
      obtain ⟨q0, q1, _⟩ := id hok
      obtain ⟨o, ho⟩ : ∃ o, toldF s ⟨q, t, p, l⟩ st = o := ⟨_, rfl⟩
      obtain ⟨r, hr⟩ : ∃ r, switchF s ⟨q, t, p, l⟩ st = r := ⟨_, rfl⟩
      obtain ⟨wn', hwn'⟩ : ∃ wn' : Int, wn' = if k = 0 then q else wn := ⟨_, rfl⟩
      have hrow : o.seq = wn' ∧ Row r q (wn' + 1) ∧ 0 ≤ wn' ∧ wn' ≤ 65535 ∧ r.Ok 65536 := by
        have h1 := row_switch s ⟨q, t, p, l⟩ st wn' hok (fun hs => by
          by_cases hk0 : k = 0
          · rw [HS.out.1 hk0] at hs; cases hs
          · rw [hwn', if_neg hk0]; exact (HS.out.2 (by omega)).2) (fun hs => by
          by_cases hk0 : k = 0
          · rw [hwn', if_pos hk0]
          · rw [(HS.out.2 (by omega)).1] at hs; cases hs) (by rw [hwn']; split <;> omega) (by rw [hwn']; split <;> omega)
        rw [ho, hr] at h1
        exact ⟨h1.1, h1.2, by rw [hwn']; split <;> omega, by rw [hwn']; split <;> omega, by rw [← hr]; exact switchF_ok hok (by omega)⟩
      obtain ⟨hos, hrow, wp0, wp1, hrok⟩ := hrow
      have HROW := Lib.hid hrow; clear hrow
      have HROK := Lib.hid hrok; clear hrok
      have HOS := Lib.hid hos; clear hos
      have HW := Lib.hid hwn'; clear hwn'
      have HO := Lib.hid ho; clear ho
      have HRr := Lib.hid hr; clear hr
      have HX := Lib.hid hok; clear hok
      obtain ⟨wo, hwo⟩ : ∃ wo, wo = wr := ⟨_, rfl⟩
      subst hwo
      go_upto_region 13 with fail
      go_cut [7, 8] from 20 to 119 (fun s7 s8 wx => ∃ g7 g8 : Nat, s7 = .pointer (some ⟨g7, 0, none⟩) ∧ s8 = .pointer (some ⟨g8, 0, none⟩) ∧ wo.heap.size ≤ g7 ∧ wo.heap.size ≤ g8 ∧ wx.heap[g7]? = some (.cells #[.bool r.on, .int .i64 r.high, .int .i64 r.since, .int .u16 r.off.seq, .int .u32 r.off.time, .int .u16 r.off.pic, .int .u8 r.off.tl0, .int .u16 r.out.seq, .int .u32 r.out.time, .int .u16 r.out.pic, .int .u8 r.out.tl0] 27 (0, 0)) ∧ wx.heap[g8]? = some (.cells #[.int .u16 o.seq, .int .u32 o.time, .int .u16 o.pic, .int .u8 o.tl0] 25 (0, 0)) ∧ Below wo.heap.size wo wx)
      case first =>
        go_region_held3 (fun w' => (∀ j, w'.cell? ⟨w1.heap.size, j, none⟩ = #[.bool s.on, .int .i64 s.high, .int .i64 s.since, .int .u16 s.off.seq, .int .u32 s.off.time, .int .u16 s.off.pic, .int .u8 s.off.tl0, .int .u16 s.out.seq, .int .u32 s.out.time, .int .u16 s.out.pic, .int .u8 s.out.tl0][j]?) ∧ w'.cell? ⟨ab, ao + k * 6, none⟩ = some (.int .u16 q) ∧ w'.cell? ⟨ab, ao + k * 6 + 1, none⟩ = some (.int .u32 t) ∧ w'.cell? ⟨ab, ao + k * 6 + 2, none⟩ = some (.int .u16 p) ∧ w'.cell? ⟨ab, ao + k * 6 + 3, none⟩ = some (.int .u8 l) ∧ w'.cell? ⟨ab, ao + k * 6 + 4, none⟩ = some (.int .u32 st) ∧ Below wo.heap.size wo w') ((refine keepd z0 c0 hb1 d0 d1 d2 d3 d4 ?_; (first | (with_reducible exact Below.refl _ _) | (go_split_ands; first | (with_reducible assumption) | go_grown)))) (first | (go_at_call 11; go_split_ands; (with_reducible refine (switch_st s r ⟨q, t, p, l⟩ o st _ HRr.out HO.out q0 q1).mono ?_); rintro e w2 ⟨rfl, hb⟩; have hB := below_next (w := wo) (by first | (with_reducible exact Below.refl _ _) | (with_reducible assumption) | go_grown) hb; have zS := hB.size; (try first | ((have hn := heap_below hb (by first | omega | (simp; done) | (simp; omega)) hP); clear hP fP cP; have hP := hn; clear hn; (try simp only [size_alloc] at hP); obtain ⟨cP, fP, zP⟩ := blk_facts hP) | ((have hn := heap_below hb (by first | omega | (simp; done) | (simp; omega)) (heap_alloc_old' hP)); clear hP fP cP; have hP := hn; clear hn; (try simp only [size_alloc] at hP); obtain ⟨cP, fP, zP⟩ := blk_facts hP) | ((have hn := heap_below hb (by first | omega | (simp; done) | (simp; omega)) (heap_alloc_old' (heap_alloc_old' hP))); clear hP fP cP; have hP := hn; clear hn; (try simp only [size_alloc] at hP); obtain ⟨cP, fP, zP⟩ := blk_facts hP) | ((have hP : w2.heap[(_ : Nat)]? = some (Obj.cells _ 27 (0, 0)) := (hb.block _ (lt_alloc _ _)).trans (heap_alloc_new _ _ _ rfl)); (try simp only [size_alloc] at hP); obtain ⟨cP, fP, zP⟩ := blk_facts hP) | ((have hP : w2.heap[(_ : Nat)]? = some (Obj.cells _ 27 (0, 0)) := (hb.block _ (Nat.lt_trans (lt_alloc _ _) (lt_alloc _ _))).trans (heap_alloc_old' (heap_alloc_new _ _ _ rfl))); (try simp only [size_alloc] at hP); obtain ⟨cP, fP, zP⟩ := blk_facts hP)); (try first | ((have hn := heap_below hb (by first | omega | (simp; done) | (simp; omega)) hQ); clear hQ fQ cQ; have hQ := hn; clear hn; (try simp only [size_alloc] at hQ); obtain ⟨cQ, fQ, zQ⟩ := blk_facts hQ) | ((have hn := heap_below hb (by first | omega | (simp; done) | (simp; omega)) (heap_alloc_old' hQ)); clear hQ fQ cQ; have hQ := hn; clear hn; (try simp only [size_alloc] at hQ); obtain ⟨cQ, fQ, zQ⟩ := blk_facts hQ) | ((have hn := heap_below hb (by first | omega | (simp; done) | (simp; omega)) (heap_alloc_old' (heap_alloc_old' hQ))); clear hQ fQ cQ; have hQ := hn; clear hn; (try simp only [size_alloc] at hQ); obtain ⟨cQ, fQ, zQ⟩ := blk_facts hQ) | ((have hQ : w2.heap[(_ : Nat)]? = some (Obj.cells _ 25 (0, 0)) := (hb.block _ (lt_alloc _ _)).trans (heap_alloc_new _ _ _ rfl)); (try simp only [size_alloc] at hQ); obtain ⟨cQ, fQ, zQ⟩ := blk_facts hQ) | ((have hQ : w2.heap[(_ : Nat)]? = some (Obj.cells _ 25 (0, 0)) := (hb.block _ (Nat.lt_trans (lt_alloc _ _) (lt_alloc _ _))).trans (heap_alloc_old' (heap_alloc_new _ _ _ rfl))); (try simp only [size_alloc] at hQ); obtain ⟨cQ, fQ, zQ⟩ := blk_facts hQ)); clear hb))
        all_goals (go_wp2_with fail; go_meet; go_split_ands; exact ⟨_, _, rfl, rfl, by omega, by omega, (Eq.trans (b := some (Obj.cells _ _ (0, 0))) (by repeat (first | (with_reducible assumption) | (with_reducible apply heap_set_row11) | (with_reducible apply heap_set_row4) | (with_reducible apply heap_set_same) | ((with_reducible apply heap_set_other'); (focus (first | omega | (simp; done) | (simp; omega)))) | ((with_reducible apply heap_alloc_new); (focus (first | omega | (simp; done) | (simp; omega)))) | (with_reducible apply heap_alloc_old') | (with_reducible apply (heap_drew_at _ _).trans) | (with_reducible apply (heap_drewN_at _ _ _).trans) | (simp only [List.size_toArray, List.length_cons, List.length_nil]; done))) (by exact rfl)), (Eq.trans (b := some (Obj.cells _ _ (0, 0))) (by repeat (first | (with_reducible assumption) | (with_reducible apply heap_set_row11) | (with_reducible apply heap_set_row4) | (with_reducible apply heap_set_same) | ((with_reducible apply heap_set_other'); (focus (first | omega | (simp; done) | (simp; omega)))) | ((with_reducible apply heap_alloc_new); (focus (first | omega | (simp; done) | (simp; omega)))) | (with_reducible apply heap_alloc_old') | (with_reducible apply (heap_drew_at _ _).trans) | (with_reducible apply (heap_drewN_at _ _ _).trans) | (simp only [List.size_toArray, List.length_cons, List.length_nil]; done))) (by exact rfl)), by first | (with_reducible exact Below.refl _ _) | go_grown⟩)
      case rest =>
        obtain ⟨g7, g8, rfl, rfl, hg7, hg8, h7, h8, hBx⟩ := hcut
        have hB2 : Below w.heap.size w wc := below_next (w := w) hB hBx
        have hT := (hBx.block _ z0).trans h0
        clear hB c0 f0 h0 d0 d1 d2 d3 d4 d5 hb1
        have hB := hB2
        clear hB2
        have y2 := hB.size
        have zT : w1.heap.size < wc.heap.size := Nat.lt_of_lt_of_le z0 hBx.size
        have zU := hBx.size
        clear hBx
        obtain ⟨cT, fT, _⟩ := blk_facts hT
        obtain ⟨c7, f7, z7⟩ := blk_facts h7
        obtain ⟨c8, f8, z8⟩ := blk_facts h8
        have d0 := (hB.cell (p := ⟨ab, ao + k * 6, none⟩) hab).trans E0.out
        have d5 := (hB.cell (p := ⟨ab, ao + k * 6 + 5, none⟩) hab).trans E5.out
        have hb1 := Nat.lt_of_lt_of_le hab hB.size
        go_upto_region 14 with fail
        go_cut [8] from 20 to 119 (fun s8 wx => s8 = .pointer (some ⟨g8, 0, none⟩) ∧ wx.heap[w1.heap.size]? = some (.cells #[.bool r.on, .int .i64 r.high, .int .i64 r.since, .int .u16 r.off.seq, .int .u32 r.off.time, .int .u16 r.off.pic, .int .u8 r.off.tl0, .int .u16 r.out.seq, .int .u32 r.out.time, .int .u16 r.out.pic, .int .u8 r.out.tl0] 27 (0, 0)) ∧ wx.heap[g8]? = some (.cells #[.int .u16 o.seq, .int .u32 o.time, .int .u16 o.pic, .int .u8 o.tl0] 25 (0, 0)) ∧ Below w.heap.size w wx)
        case first =>
          go_wp2_with fail
          go_meet
          go_split_ands
          exact ⟨rfl, (Eq.trans (b := some (Obj.cells _ _ (0, 0))) (by repeat (first | (with_reducible assumption) | (with_reducible apply heap_set_row11) | (with_reducible apply heap_set_row4) | (with_reducible apply heap_set_same) | ((with_reducible apply heap_set_other'); (focus (first | omega | (simp; done) | (simp; omega)))) | ((with_reducible apply heap_alloc_new); (focus (first | omega | (simp; done) | (simp; omega)))) | (with_reducible apply heap_alloc_old') | (with_reducible apply (heap_drew_at _ _).trans) | (with_reducible apply (heap_drewN_at _ _ _).trans) | (simp only [List.size_toArray, List.length_cons, List.length_nil]; done))) (by exact rfl)), (Eq.trans (b := some (Obj.cells _ _ (0, 0))) (by repeat (first | (with_reducible assumption) | (with_reducible apply heap_set_row11) | (with_reducible apply heap_set_row4) | (with_reducible apply heap_set_same) | ((with_reducible apply heap_set_other'); (focus (first | omega | (simp; done) | (simp; omega)))) | ((with_reducible apply heap_alloc_new); (focus (first | omega | (simp; done) | (simp; omega)))) | (with_reducible apply heap_alloc_old') | (with_reducible apply (heap_drew_at _ _).trans) | (with_reducible apply (heap_drewN_at _ _ _).trans) | (simp only [List.size_toArray, List.length_cons, List.length_nil]; done))) (by exact rfl)), by go_grown⟩
        case rest =>
        obtain ⟨rfl, hT, h8, hB2⟩ := hcut
        clear hB cT fT h7 c7 f7 z7 c8 f8 z8 d0 d5 hb1 zT zU
        have hB := hB2
        clear hB2
        have y2 := hB.size
        obtain ⟨cT, fT, zT⟩ := blk_facts hT
        obtain ⟨c8, f8, z8⟩ := blk_facts h8
        have d0 := (hB.cell (p := ⟨ab, ao + k * 6, none⟩) hab).trans E0.out
        have d5 := (hB.cell (p := ⟨ab, ao + k * 6 + 5, none⟩) hab).trans E5.out
        have hb1 := Nat.lt_of_lt_of_le hab hB.size
        have hne : (o.seq != wn') = false := by simp [HOS.out]
        obtain ⟨wp, hwp⟩ : ∃ wp, wp = wc := ⟨_, rfl⟩
        subst hwp
        by_cases hk0 : k = 0
        · have e : q = wn' := by rw [HW.out, if_pos hk0]
          have dz : wp.cell? ⟨ab, ao, none⟩ = some (.int .u16 q) := by rw [hk0] at d0; simpa using d0
          have hk0' : ((k : Int) == 0) = true := by rw [hk0]; rfl
          clear hk0
          subst e
          go_wp2_with fail
          go_loopw [5, 9] (fun wt i wr => ∃ (m : Nat) (s : St) (wn : Int), m ≤ gs.length ∧ i = .int .i64 m ∧ wt = .int .u16 wn ∧ 0 ≤ wn ∧ wn ≤ 65535 ∧ wr.heap[w1.heap.size]? = some (.cells #[.bool s.on, .int .i64 s.high, .int .i64 s.since, .int .u16 s.off.seq, .int .u32 s.off.time, .int .u16 s.off.pic, .int .u8 s.off.tl0, .int .u16 s.out.seq, .int .u32 s.out.time, .int .u16 s.out.pic, .int .u8 s.out.tl0] 27 (0, 0)) ∧ Hid (Row s (q + m) wn ∧ s.Ok (65536 * (m + 1))) ∧ Below w.heap.size w wr) (fun _ i _ => gs.length - (intOf i).toNat)
          case atStart => exact ⟨0, r, _, by omega, rfl, rfl, by rw [u16_mod]; omega, by rw [u16_mod]; omega, (Eq.trans (b := some (Obj.cells _ _ (0, 0))) (by repeat (first | (with_reducible assumption) | (with_reducible apply heap_set_row11) | (with_reducible apply heap_set_row4) | (with_reducible apply heap_set_same) | ((with_reducible apply heap_set_other'); (focus (first | omega | (simp; done) | (simp; omega)))) | ((with_reducible apply heap_alloc_new); (focus (first | omega | (simp; done) | (simp; omega)))) | (with_reducible apply heap_alloc_old') | (with_reducible apply (heap_drew_at _ _).trans) | (with_reducible apply (heap_drewN_at _ _ _).trans) | (simp only [List.size_toArray, List.length_cons, List.length_nil]; done))) (by exact rfl)), Lib.hid ⟨(by simpa using HROW.out.wrap (w' := IntKind.u16.wrap (q + 1)) (by rw [u16_mod]; omega)), by simpa using HROK.out⟩, by go_grown⟩
          case round =>
            try clear dz
            clear hB hT cT fT zT h8 c8 f8 z8 d0 d5 hb1
            obtain ⟨m, s2, wm, hm, rfl, rfl, wm0, wm1, h0, HS2, hB⟩ := hrel
            have yr := hB.size
            obtain ⟨c0, f0, z0⟩ := blk_facts h0
            have z0a : w1.heap.size < wr.heap.size + 1 := by omega
            have z0b : w1.heap.size < wr.heap.size + 1 + 1 := by omega
            have d0 := (hB.cell (p := ⟨ab, ao + k * 6, none⟩) hab).trans E0.out
            have d1 := (hB.cell (p := ⟨ab, ao + k * 6 + 1, none⟩) hab).trans E1.out
            have d2 := (hB.cell (p := ⟨ab, ao + k * 6 + 2, none⟩) hab).trans E2.out
            have d3 := (hB.cell (p := ⟨ab, ao + k * 6 + 3, none⟩) hab).trans E3.out
            have d4 := (hB.cell (p := ⟨ab, ao + k * 6 + 4, none⟩) hab).trans E4.out
            have d5 := (hB.cell (p := ⟨ab, ao + k * 6 + 5, none⟩) hab).trans E5.out
            have hb1 := Nat.lt_of_lt_of_le hab hB.size
            by_cases hmt : m < gs.length
            · obtain ⟨gb, go, hB2, hgb, p0⟩ := HGS.out m hmt
              subst hB2
              replace p0 := (hB.cell (p := ⟨gb, go + m, none⟩) hgb).trans p0
              have hgb1 := Nat.lt_of_lt_of_le hgb hB.size
              have hX0 : 0 ≤ IntKind.u16.wrap (q + ((m : Int) + 1)) ∧ IntKind.u16.wrap (q + ((m : Int) + 1)) ≤ 65535 := by simp only [u16_mod]; omega
              have hXs : Hid ((IntKind.u16.wrap (q + ((m : Int) + 1)) - (q + m + 1)) % 65536 = 0) := Lib.hid (by simp only [u16_mod]; omega)
              obtain ⟨hX0, hX1⟩ := hX0
              have sb0 : -1000000000000000000 ≤ s2.high := by have := HS2.out.2.h0; omega
              have sb1 : s2.high ≤ 1000000000000000000 := by have := HS2.out.2.h1; omega
              have f0' := HS2.out.2.off.s0
              have f1' := HS2.out.2.off.s1
              generalize gs.getD m false = gn at *
              cases gn with
              | true =>
                obtain ⟨r2, hr2⟩ : ∃ r2, dropF s2 ⟨IntKind.u16.wrap (q + ((m : Int) + 1)), ((t + (m : Int) * 9) % 4294967296), p, l⟩ true = r2 := ⟨_, rfl⟩
                have hn := row_drop HS2.out.1 ⟨IntKind.u16.wrap (q + ((m : Int) + 1)), ((t + (m : Int) * 9) % 4294967296), p, l⟩ hXs.out true
                have hn2 := dropF_ok (i := ⟨IntKind.u16.wrap (q + ((m : Int) + 1)), ((t + (m : Int) * 9) % 4294967296), p, l⟩) (b := true) HS2.out.2
                rw [hr2] at hn hn2
                have HN := Lib.hid (And.intro hn hn2); clear hn hn2
                have HR2 := Lib.hid hr2; clear hr2
                go_wp2_with fail
                with_reducible refine (drop_eq s2 r2 ⟨IntKind.u16.wrap (q + ((m : Int) + 1)), ((t + (m : Int) * 9) % 4294967296), p, l⟩ true _ HR2.out sb0 sb1 f0' f1').mono ?_
                rintro e w6 ⟨rfl, hb⟩
                (try (have g0 := h0; clear h0 f0 c0))
                have hB := below_next (w := w) (by go_grown) hb
                have h0 : w6.heap[w1.heap.size]? = some (.cells #[.bool s2.on, .int .i64 s2.high, .int .i64 s2.since, .int .u16 s2.off.seq, .int .u32 s2.off.time, .int .u16 s2.off.pic, .int .u8 s2.off.tl0, .int .u16 s2.out.seq, .int .u32 s2.out.time, .int .u16 s2.out.pic, .int .u8 s2.out.tl0] 27 (0, 0)) := (hb.block (w1.heap.size) (by first | omega | (simp; done) | (simp; omega))).trans (Eq.trans (b := some (Obj.cells _ _ (0, 0))) (by repeat (first | (with_reducible assumption) | (with_reducible apply heap_set_row11) | (with_reducible apply heap_set_row4) | (with_reducible apply heap_set_same) | ((with_reducible apply heap_set_other'); (focus (first | omega | (simp; done) | (simp; omega)))) | ((with_reducible apply heap_alloc_new); (focus (first | omega | (simp; done) | (simp; omega)))) | (with_reducible apply heap_alloc_old') | (with_reducible apply (heap_drew_at _ _).trans) | (with_reducible apply (heap_drewN_at _ _ _).trans) | (simp only [List.size_toArray, List.length_cons, List.length_nil]; done))) (by exact rfl))
                clear hb
                (try clear g0)
                obtain ⟨c0, f0, z0⟩ := blk_facts h0
                go_wp2_with fail
                go_roundw
                case rel => exact ⟨m + 1, r2, wm, by omega, by go_num, rfl, wm0, wm1, (Eq.trans (b := some (Obj.cells _ _ (0, 0))) (by repeat (first | (with_reducible assumption) | (with_reducible apply heap_set_row11) | (with_reducible apply heap_set_row4) | (with_reducible apply heap_set_same) | ((with_reducible apply heap_set_other'); (focus (first | omega | (simp; done) | (simp; omega)))) | ((with_reducible apply heap_alloc_new); (focus (first | omega | (simp; done) | (simp; omega)))) | (with_reducible apply heap_alloc_old') | (with_reducible apply (heap_drew_at _ _).trans) | (with_reducible apply (heap_drewN_at _ _ _).trans) | (simp only [List.size_toArray, List.length_cons, List.length_nil]; done))) (by exact rfl)), Lib.hid ⟨(by have := HN.out.1; push_cast; rw [← Int.add_assoc]; exact this), ok_more HN.out.2 (by push_cast; omega)⟩, by go_grown⟩
                case measure => simp [intOf]; omega
              | false =>
                have hn := row_send HS2.out.1 ⟨IntKind.u16.wrap (q + ((m : Int) + 1)), ((t + (m : Int) * 9) % 4294967296), p, l⟩ hXs.out wm0 wm1
                have hn2 := sendF_ok (i := ⟨IntKind.u16.wrap (q + ((m : Int) + 1)), ((t + (m : Int) * 9) % 4294967296), p, l⟩) HS2.out.2
                generalize hr2 : sendF s2 ⟨IntKind.u16.wrap (q + ((m : Int) + 1)), ((t + (m : Int) * 9) % 4294967296), p, l⟩ = r2 at *
                obtain ⟨r2, ⟨ms, mt, mp, ml⟩, is⟩ := r2
                dsimp only at hn hn2
                obtain ⟨rfl, rfl, hn⟩ := hn
                have HN := Lib.hid (And.intro hn hn2); clear hn hn2
                have HR2 := Lib.hid hr2; clear hr2
                go_wp2_with fail
                with_reducible refine (send_st s2 r2 ⟨IntKind.u16.wrap (q + ((m : Int) + 1)), ((t + (m : Int) * 9) % 4294967296), p, l⟩ ⟨ms, mt, mp, ml⟩ true _ HR2.out sb0 sb1).mono ?_
                rintro e w6 ⟨rfl, hb⟩
                (try (have g0 := h0; clear h0 f0 c0))
                have hB := below_next (w := w) (by go_grown) hb
                have h0 : w6.heap[w1.heap.size]? = some (.cells #[.bool s2.on, .int .i64 s2.high, .int .i64 s2.since, .int .u16 s2.off.seq, .int .u32 s2.off.time, .int .u16 s2.off.pic, .int .u8 s2.off.tl0, .int .u16 s2.out.seq, .int .u32 s2.out.time, .int .u16 s2.out.pic, .int .u8 s2.out.tl0] 27 (0, 0)) := (hb.block (w1.heap.size) (by first | omega | (simp; done) | (simp; omega))).trans (Eq.trans (b := some (Obj.cells _ _ (0, 0))) (by repeat (first | (with_reducible assumption) | (with_reducible apply heap_set_row11) | (with_reducible apply heap_set_row4) | (with_reducible apply heap_set_same) | ((with_reducible apply heap_set_other'); (focus (first | omega | (simp; done) | (simp; omega)))) | ((with_reducible apply heap_alloc_new); (focus (first | omega | (simp; done) | (simp; omega)))) | (with_reducible apply heap_alloc_old') | (with_reducible apply (heap_drew_at _ _).trans) | (with_reducible apply (heap_drewN_at _ _ _).trans) | (simp only [List.size_toArray, List.length_cons, List.length_nil]; done))) (by exact rfl))
                clear hb
                (try clear g0)
                obtain ⟨c0, f0, z0⟩ := blk_facts h0
                go_wp2_with fail
                go_roundw
                case rel => exact ⟨m + 1, r2, _, by omega, by go_num, rfl, by rw [u16_mod]; omega, by rw [u16_mod]; omega, (Eq.trans (b := some (Obj.cells _ _ (0, 0))) (by repeat (first | (with_reducible assumption) | (with_reducible apply heap_set_row11) | (with_reducible apply heap_set_row4) | (with_reducible apply heap_set_same) | ((with_reducible apply heap_set_other'); (focus (first | omega | (simp; done) | (simp; omega)))) | ((with_reducible apply heap_alloc_new); (focus (first | omega | (simp; done) | (simp; omega)))) | (with_reducible apply heap_alloc_old') | (with_reducible apply (heap_drew_at _ _).trans) | (with_reducible apply (heap_drewN_at _ _ _).trans) | (simp only [List.size_toArray, List.length_cons, List.length_nil]; done))) (by exact rfl)), Lib.hid ⟨(by have := HN.out.1.wrap (w' := IntKind.u16.wrap (ms + 1)) (by rw [u16_mod]; omega); push_cast; rw [← Int.add_assoc]; exact this), ok_more HN.out.2 (by push_cast; omega)⟩, by go_grown⟩
                case measure => simp [intOf]; omega
            · go_wp2_with fail
              go_roundw
              case rel => exact ⟨k + 1, s2, wm, by omega, by go_num, rfl, wm0, wm1, h0, Lib.hid ⟨fun h => absurd h (by omega), fun _ => ⟨HS2.out.1.on, HS2.out.1.out⟩⟩, hB⟩
              case measure => simp [intOf]; omega
        · have e : wn = wn' := by rw [HW.out, if_neg hk0]
          have hk0' : ((k : Int) == 0) = false := beq_eq_false_iff_ne.2 (by omega)
          subst e
          go_wp2_with fail
          go_loopw [5, 9] (fun wt i wr => ∃ (m : Nat) (s : St) (wn : Int), m ≤ gs.length ∧ i = .int .i64 m ∧ wt = .int .u16 wn ∧ 0 ≤ wn ∧ wn ≤ 65535 ∧ wr.heap[w1.heap.size]? = some (.cells #[.bool s.on, .int .i64 s.high, .int .i64 s.since, .int .u16 s.off.seq, .int .u32 s.off.time, .int .u16 s.off.pic, .int .u8 s.off.tl0, .int .u16 s.out.seq, .int .u32 s.out.time, .int .u16 s.out.pic, .int .u8 s.out.tl0] 27 (0, 0)) ∧ Hid (Row s (q + m) wn ∧ s.Ok (65536 * (m + 1))) ∧ Below w.heap.size w wr) (fun _ i _ => gs.length - (intOf i).toNat)
          case atStart => exact ⟨0, r, _, by omega, rfl, rfl, by rw [u16_mod]; omega, by rw [u16_mod]; omega, (Eq.trans (b := some (Obj.cells _ _ (0, 0))) (by repeat (first | (with_reducible assumption) | (with_reducible apply heap_set_row11) | (with_reducible apply heap_set_row4) | (with_reducible apply heap_set_same) | ((with_reducible apply heap_set_other'); (focus (first | omega | (simp; done) | (simp; omega)))) | ((with_reducible apply heap_alloc_new); (focus (first | omega | (simp; done) | (simp; omega)))) | (with_reducible apply heap_alloc_old') | (with_reducible apply (heap_drew_at _ _).trans) | (with_reducible apply (heap_drewN_at _ _ _).trans) | (simp only [List.size_toArray, List.length_cons, List.length_nil]; done))) (by exact rfl)), Lib.hid ⟨(by simpa using HROW.out.wrap (w' := IntKind.u16.wrap (wn + 1)) (by rw [u16_mod]; omega)), by simpa using HROK.out⟩, by go_grown⟩
          case round =>
            try clear dz
            clear hB hT cT fT zT h8 c8 f8 z8 d0 d5 hb1
            obtain ⟨m, s2, wm, hm, rfl, rfl, wm0, wm1, h0, HS2, hB⟩ := hrel
            have yr := hB.size
            obtain ⟨c0, f0, z0⟩ := blk_facts h0
            have z0a : w1.heap.size < wr.heap.size + 1 := by omega
            have z0b : w1.heap.size < wr.heap.size + 1 + 1 := by omega
            have d0 := (hB.cell (p := ⟨ab, ao + k * 6, none⟩) hab).trans E0.out
            have d1 := (hB.cell (p := ⟨ab, ao + k * 6 + 1, none⟩) hab).trans E1.out
            have d2 := (hB.cell (p := ⟨ab, ao + k * 6 + 2, none⟩) hab).trans E2.out
            have d3 := (hB.cell (p := ⟨ab, ao + k * 6 + 3, none⟩) hab).trans E3.out
            have d4 := (hB.cell (p := ⟨ab, ao + k * 6 + 4, none⟩) hab).trans E4.out
            have d5 := (hB.cell (p := ⟨ab, ao + k * 6 + 5, none⟩) hab).trans E5.out
            have hb1 := Nat.lt_of_lt_of_le hab hB.size
            by_cases hmt : m < gs.length
            · obtain ⟨gb, go, hB2, hgb, p0⟩ := HGS.out m hmt
              subst hB2
              replace p0 := (hB.cell (p := ⟨gb, go + m, none⟩) hgb).trans p0
              have hgb1 := Nat.lt_of_lt_of_le hgb hB.size
              have hX0 : 0 ≤ IntKind.u16.wrap (q + ((m : Int) + 1)) ∧ IntKind.u16.wrap (q + ((m : Int) + 1)) ≤ 65535 := by simp only [u16_mod]; omega
              have hXs : Hid ((IntKind.u16.wrap (q + ((m : Int) + 1)) - (q + m + 1)) % 65536 = 0) := Lib.hid (by simp only [u16_mod]; omega)
              obtain ⟨hX0, hX1⟩ := hX0
              have sb0 : -1000000000000000000 ≤ s2.high := by have := HS2.out.2.h0; omega
              have sb1 : s2.high ≤ 1000000000000000000 := by have := HS2.out.2.h1; omega
              have f0' := HS2.out.2.off.s0
              have f1' := HS2.out.2.off.s1
              generalize gs.getD m false = gn at *
              cases gn with
              | true =>
                obtain ⟨r2, hr2⟩ : ∃ r2, dropF s2 ⟨IntKind.u16.wrap (q + ((m : Int) + 1)), ((t + (m : Int) * 9) % 4294967296), p, l⟩ true = r2 := ⟨_, rfl⟩
                have hn := row_drop HS2.out.1 ⟨IntKind.u16.wrap (q + ((m : Int) + 1)), ((t + (m : Int) * 9) % 4294967296), p, l⟩ hXs.out true
                have hn2 := dropF_ok (i := ⟨IntKind.u16.wrap (q + ((m : Int) + 1)), ((t + (m : Int) * 9) % 4294967296), p, l⟩) (b := true) HS2.out.2
                rw [hr2] at hn hn2
                have HN := Lib.hid (And.intro hn hn2); clear hn hn2
                have HR2 := Lib.hid hr2; clear hr2
                go_wp2_with fail
                with_reducible refine (drop_eq s2 r2 ⟨IntKind.u16.wrap (q + ((m : Int) + 1)), ((t + (m : Int) * 9) % 4294967296), p, l⟩ true _ HR2.out sb0 sb1 f0' f1').mono ?_
                rintro e w6 ⟨rfl, hb⟩
                (try (have g0 := h0; clear h0 f0 c0))
                have hB := below_next (w := w) (by go_grown) hb
                have h0 : w6.heap[w1.heap.size]? = some (.cells #[.bool s2.on, .int .i64 s2.high, .int .i64 s2.since, .int .u16 s2.off.seq, .int .u32 s2.off.time, .int .u16 s2.off.pic, .int .u8 s2.off.tl0, .int .u16 s2.out.seq, .int .u32 s2.out.time, .int .u16 s2.out.pic, .int .u8 s2.out.tl0] 27 (0, 0)) := (hb.block (w1.heap.size) (by first | omega | (simp; done) | (simp; omega))).trans (Eq.trans (b := some (Obj.cells _ _ (0, 0))) (by repeat (first | (with_reducible assumption) | (with_reducible apply heap_set_row11) | (with_reducible apply heap_set_row4) | (with_reducible apply heap_set_same) | ((with_reducible apply heap_set_other'); (focus (first | omega | (simp; done) | (simp; omega)))) | ((with_reducible apply heap_alloc_new); (focus (first | omega | (simp; done) | (simp; omega)))) | (with_reducible apply heap_alloc_old') | (with_reducible apply (heap_drew_at _ _).trans) | (with_reducible apply (heap_drewN_at _ _ _).trans) | (simp only [List.size_toArray, List.length_cons, List.length_nil]; done))) (by exact rfl))
                clear hb
                (try clear g0)
                obtain ⟨c0, f0, z0⟩ := blk_facts h0
                go_wp2_with fail
                go_roundw
                case rel => exact ⟨m + 1, r2, wm, by omega, by go_num, rfl, wm0, wm1, (Eq.trans (b := some (Obj.cells _ _ (0, 0))) (by repeat (first | (with_reducible assumption) | (with_reducible apply heap_set_row11) | (with_reducible apply heap_set_row4) | (with_reducible apply heap_set_same) | ((with_reducible apply heap_set_other'); (focus (first | omega | (simp; done) | (simp; omega)))) | ((with_reducible apply heap_alloc_new); (focus (first | omega | (simp; done) | (simp; omega)))) | (with_reducible apply heap_alloc_old') | (with_reducible apply (heap_drew_at _ _).trans) | (with_reducible apply (heap_drewN_at _ _ _).trans) | (simp only [List.size_toArray, List.length_cons, List.length_nil]; done))) (by exact rfl)), Lib.hid ⟨(by have := HN.out.1; push_cast; rw [← Int.add_assoc]; exact this), ok_more HN.out.2 (by push_cast; omega)⟩, by go_grown⟩
                case measure => simp [intOf]; omega
              | false =>
                have hn := row_send HS2.out.1 ⟨IntKind.u16.wrap (q + ((m : Int) + 1)), ((t + (m : Int) * 9) % 4294967296), p, l⟩ hXs.out wm0 wm1
                have hn2 := sendF_ok (i := ⟨IntKind.u16.wrap (q + ((m : Int) + 1)), ((t + (m : Int) * 9) % 4294967296), p, l⟩) HS2.out.2
                generalize hr2 : sendF s2 ⟨IntKind.u16.wrap (q + ((m : Int) + 1)), ((t + (m : Int) * 9) % 4294967296), p, l⟩ = r2 at *
                obtain ⟨r2, ⟨ms, mt, mp, ml⟩, is⟩ := r2
                dsimp only at hn hn2
                obtain ⟨rfl, rfl, hn⟩ := hn
                have HN := Lib.hid (And.intro hn hn2); clear hn hn2
                have HR2 := Lib.hid hr2; clear hr2
                go_wp2_with fail
                with_reducible refine (send_st s2 r2 ⟨IntKind.u16.wrap (q + ((m : Int) + 1)), ((t + (m : Int) * 9) % 4294967296), p, l⟩ ⟨ms, mt, mp, ml⟩ true _ HR2.out sb0 sb1).mono ?_
                rintro e w6 ⟨rfl, hb⟩
                (try (have g0 := h0; clear h0 f0 c0))
                have hB := below_next (w := w) (by go_grown) hb
                have h0 : w6.heap[w1.heap.size]? = some (.cells #[.bool s2.on, .int .i64 s2.high, .int .i64 s2.since, .int .u16 s2.off.seq, .int .u32 s2.off.time, .int .u16 s2.off.pic, .int .u8 s2.off.tl0, .int .u16 s2.out.seq, .int .u32 s2.out.time, .int .u16 s2.out.pic, .int .u8 s2.out.tl0] 27 (0, 0)) := (hb.block (w1.heap.size) (by first | omega | (simp; done) | (simp; omega))).trans (Eq.trans (b := some (Obj.cells _ _ (0, 0))) (by repeat (first | (with_reducible assumption) | (with_reducible apply heap_set_row11) | (with_reducible apply heap_set_row4) | (with_reducible apply heap_set_same) | ((with_reducible apply heap_set_other'); (focus (first | omega | (simp; done) | (simp; omega)))) | ((with_reducible apply heap_alloc_new); (focus (first | omega | (simp; done) | (simp; omega)))) | (with_reducible apply heap_alloc_old') | (with_reducible apply (heap_drew_at _ _).trans) | (with_reducible apply (heap_drewN_at _ _ _).trans) | (simp only [List.size_toArray, List.length_cons, List.length_nil]; done))) (by exact rfl))
                clear hb
                (try clear g0)
                obtain ⟨c0, f0, z0⟩ := blk_facts h0
                go_wp2_with fail
                go_roundw
                case rel => exact ⟨m + 1, r2, _, by omega, by go_num, rfl, by rw [u16_mod]; omega, by rw [u16_mod]; omega, (Eq.trans (b := some (Obj.cells _ _ (0, 0))) (by repeat (first | (with_reducible assumption) | (with_reducible apply heap_set_row11) | (with_reducible apply heap_set_row4) | (with_reducible apply heap_set_same) | ((with_reducible apply heap_set_other'); (focus (first | omega | (simp; done) | (simp; omega)))) | ((with_reducible apply heap_alloc_new); (focus (first | omega | (simp; done) | (simp; omega)))) | (with_reducible apply heap_alloc_old') | (with_reducible apply (heap_drew_at _ _).trans) | (with_reducible apply (heap_drewN_at _ _ _).trans) | (simp only [List.size_toArray, List.length_cons, List.length_nil]; done))) (by exact rfl)), Lib.hid ⟨(by have := HN.out.1.wrap (w' := IntKind.u16.wrap (ms + 1)) (by rw [u16_mod]; omega); push_cast; rw [← Int.add_assoc]; exact this), ok_more HN.out.2 (by push_cast; omega)⟩, by go_grown⟩
                case measure => simp [intOf]; omega
            · go_wp2_with fail
              go_roundw
              case rel => exact ⟨k + 1, s2, wm, by omega, by go_num, rfl, wm0, wm1, h0, Lib.hid ⟨fun h => absurd h (by omega), fun _ => ⟨HS2.out.1.on, HS2.out.1.out⟩⟩, hB⟩
              case measure => simp [intOf]; omega
    · go_wp2_with fail
      go_ret
      exact ⟨rfl, hB⟩
end Go.Proofs.Ytidpkmabcndknaa
