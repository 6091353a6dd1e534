/- The law DedupPlays, walked. -/
import Derived.Test.YtlncekdoaddifaaRef2W
import Derived.Deep.RegionHeld3
import Derived.Deep.DeepCutAuto
import Derived.Test.YtlncekdoaddifaaVia
namespace Go.Proofs.Ytlncekdoaddifaa
set_option linter.unusedSimpArgs false
set_option linter.unusedVariables false
open Go.RowKit

theorem dat_alloc {w : World} {A : Option Addr} {c : Nat} {L : List En} (h : DAt w A c L) (o : Obj) : DAt (w.alloc o) A c L := h.below (Below.alloc (Below.refl _ _) (Nat.le_refl _) o)
theorem dat_set {w : World} {A : Option Addr} {c : Nat} {L : List En} {p : Addr} {v : Value} {cs : Array Value} (hp : w.heap[p.block]? = some (.cells cs 28 (0, 0))) (h : DAt w A c L) : DAt (w.setCell p v) A c L := by
  rcases h with q | ⟨b, o, cur, rfl, h2, h3⟩
  · exact .inl q
  · exact .inr ⟨b, o, cur, rfl, heap_set_other' (fun e => by subst e; rw [h2] at hp; simp at hp) h2, h3⟩
theorem dat_moved {w w' : World} {T M B room n : Nat} {L0 : List En} {A : Option Addr} {c : Nat} {L : List En} (h : DAt w A c L) (ht : TabAt w T M B room n L0) (hm : Moved T B w w') : DAt w' A c L := by
  obtain ⟨v, hT, _⟩ := ht.row
  rcases h with q | ⟨b, o, cur, rfl, h2, h3⟩
  · exact .inl q
  · exact .inr ⟨b, o, cur, rfl, hm.other b cur 53 h2 (fun e => by subst e; rw [h2] at hT; simp at hT) (by decide), h3⟩
theorem tab_set {w : World} {T M B room n : Nat} {L : List En} {p : Addr} {v : Value} {cs : Array Value} (hp : w.heap[p.block]? = some (.cells cs 28 (0, 0))) (h : TabAt w T M B room n L) : TabAt (w.setCell p v) T M B room n L := by
  obtain ⟨u, hT, hq⟩ := h.row
  refine ⟨⟨u, heap_set_other' (fun e => by subst e; rw [hT] at hp; simp at hp) hT, qrow_set hp (by decide) hq⟩, h.map.set (h.map.not_cells hp) v, h.bT, h.bM, by rw [size_set]; exact h.bw⟩
theorem keepP {u w : World} {g b a0 : Nat} {s : Array Value} {v0 : Value} (z0 : g < u.heap.size) (c0 : ∀ j, u.cell? ⟨g, j, none⟩ = s[j]?) (hb : b < u.heap.size) (d0 : u.cell? ⟨b, a0, none⟩ = some v0) (h : Below u.heap.size u w) :
    (∀ j, w.cell? ⟨g, j, none⟩ = s[j]?) ∧ w.cell? ⟨b, a0, none⟩ = some v0 ∧ b < w.heap.size ∧ Below u.heap.size u w :=
  ⟨cells_below h z0 c0, (h.cell (p := ⟨b, a0, none⟩) hb).trans d0, Nat.lt_of_lt_of_le hb h.size, h⟩
set_option maxRecDepth 100000 in
set_option maxHeartbeats 4000000 in
theorem plays_walk (room : Int) (A : Option Addr) (len cap : Nat) (z : Nat → ActV) (w : World) (r0 : 0 ≤ room) (r1 : room ≤ 255) (hl : len ≤ 9223372036854775807) (hz : ∀ i, i < len → ActAt w A i (z i)) :
    Calls Try.prog 3 #[.int .u8 room, .slice A len cap] w fun e w' => e = .returned (.bool true) ∧ Below w.heap.size w w' := by
  have HZ := Lib.hid hz; clear hz
  by_cases h200 : 200 < len
  · go_enter Try.func3, Try.ntmps3
    go_wp2_with fail
    (with_reducible refine (awake_any _).mono ?_)
    rintro e w1 ⟨rfl, hb⟩
    go_wp2_with fail
    go_ret
    exact ⟨rfl, hb⟩
  obtain ⟨n, hn⟩ : ∃ n : Nat, room % 6 + 1 = n := ⟨(room % 6 + 1).toNat, by omega⟩
  have hn0 : 1 ≤ n := by omega
  have hn1 : n ≤ 6 := by omega
  go_enter Try.func3, Try.ntmps3
  go_wp2_with fail
  (with_reducible refine (awake_any _).mono ?_)
  rintro e w1 ⟨rfl, hb⟩
  have hB := hb
  clear hb
  have y1 := hB.size
  go_wp2_with fail
  with_reducible refine (new_t _ n rfl _ (by omega) (by omega)).mono ?_
  rintro e w2 ⟨T, M, rfl, h, hb⟩
  have y2 := hb.size
  replace hB := below_next (w := w) hB hb
  clear hb
  obtain ⟨P, hPe⟩ : ∃ P, P = w2.heap.size := ⟨_, rfl⟩
  have hPT : P ≠ T := by have := h.lt; omega
  have HPE := Lib.hid hPe; clear hPe
  go_wp2_with fail
  rw [show w2.heap.size = P from HPE.out.symm]
  go_loopw [8] (fun i wr => ∃ (k : Nat) (L : List En) (A9 : Option Addr) (c9 : Nat), k ≤ len ∧ i = .int .i64 k ∧ Hid (TabAt wr T M w1.heap.size n k L) ∧ Hid (Ok L n) ∧ wr.heap[P]? = some (.cells #[.slice A9 L.length c9, .int .i64 n] 28 (0, 0)) ∧ Hid (DAt wr A9 c9 L) ∧ Below w.heap.size w wr) (fun i _ => len - (intOf i).toNat)
  case atStart => exact ⟨0, [], none, 0, by omega, rfl, Lib.hid (h.alloc _), Lib.hid (ok_nil n), by rw [HPE.out]; exact heap_alloc_new _ _ _ rfl, Lib.hid (.inl ⟨rfl, rfl, rfl⟩), by go_grown⟩
  case round =>
    clear hB h
    obtain ⟨k, L, A9, c9, hk, rfl, H, hok, hP, hD, hB⟩ := hrel
    have hPl : w1.heap.size ≤ P := by rw [HPE.out]; exact y2
    obtain ⟨cP, fP, zP⟩ := blk_facts hP
    by_cases hlt : k < len
    · have hlim := hok.out.le
      obtain ⟨ab, ao, rfl, hab, d0, d1, d2, l0, l1⟩ := HZ.out k hlt
      generalize z k = v at d0 d1 d2 l0 l1
      obtain ⟨ev, id, s⟩ := v
      dsimp only at d0 d1 d2 l0 l1
      replace d0 := (hB.cell (p := ⟨ab, ao + k * 3, none⟩) hab).trans d0
      replace d1 := (hB.cell (p := ⟨ab, ao + k * 3 + 1, none⟩) hab).trans d1
      replace d2 := (hB.cell (p := ⟨ab, ao + k * 3 + 2, none⟩) hab).trans d2
      have hb1 := Nat.lt_of_lt_of_le hab hB.size
      cases ev with
      | true =>
        obtain ⟨⟨L', c⟩, he⟩ : ∃ r, endF L id s = r := ⟨_, rfl⟩
        have hok2 := Lib.hid (show Ok L' n by have := endF_ok hok.out (x := id) (a := s); rw [he] at this; exact this)
        have HE := Lib.hid he; clear he
        go_wp2_with fail
        with_reducible refine (end_r _ A9 c9 n L id s (dat_alloc hD.out _) (by omega) hok.out L' c HE.out).mono ?_
        rintro e w3 ⟨⟨A3, c3, rfl, hD3⟩, hb⟩
        have hP3 : w3.heap[P]? = some (.cells #[.slice A9 L.length c9, .int .i64 n] 28 (0, 0)) := (hb.block _ (by rw [size_alloc]; omega)).trans (heap_alloc_old' hP)
        have hg3 : w3.heap[wr.heap.size]? = some (.cells #[.bool true, .int .u64 id, .string s] 31 (0, 0)) := (hb.block _ (by rw [size_alloc]; omega)).trans (heap_alloc_new _ _ _ rfl)
        have H3 : TabAt w3 T M w1.heap.size n k L := (H.out.alloc _).below hb
        have hB3 : Below w.heap.size w w3 := below_next (w := w) (Below.alloc hB hB.size _) hb
        have y3 := hB3.size
        have z3 := hb.size
        rw [size_alloc] at z3
        have hPg : P ≠ wr.heap.size := by omega
        clear hb hB H hP cP fP zP hD
        obtain ⟨cP, fP, zP⟩ := blk_facts hP3
        obtain ⟨cg, fg, zg⟩ := blk_facts hg3
        have D3 := Lib.hid hD3; clear hD3
        have HT3 := Lib.hid H3; clear H3
        have hPb := heap_set_same 0 (.slice A3 L'.length c3) hP3
        have hPd := heap_set_same 1 (.int .i64 n) hPb
        have hPc := heap_alloc_old' (o := .cells #[.slice A3 L'.length c3, .int .i64 n] 28) hPd
        have H5 : TabAt (((w3.setCell ⟨P, 0, none⟩ (.slice A3 L'.length c3)).setCell ⟨P, 1, none⟩ (.int .i64 n)).alloc (.cells #[.slice A3 L'.length c3, .int .i64 n] 28)) T M w1.heap.size n k L := (tab_set hPb (tab_set hP3 HT3.out)).alloc _
        have D5 : DAt (((w3.setCell ⟨P, 0, none⟩ (.slice A3 L'.length c3)).setCell ⟨P, 1, none⟩ (.int .i64 n)).alloc (.cells #[.slice A3 L'.length c3, .int .i64 n] 28)) A3 c3 L' := dat_alloc (dat_set hPb (dat_set hP3 D3.out)) _
        have hB5 : Below w.heap.size w (((w3.setCell ⟨P, 0, none⟩ (.slice A3 L'.length c3)).setCell ⟨P, 1, none⟩ (.int .i64 n)).alloc (.cells #[.slice A3 L'.length c3, .int .i64 n] 28)) := Below.alloc ((hB3.setCell (p := ⟨P, 0, none⟩) (by show w.heap.size ≤ P; omega) _).setCell (p := ⟨P, 1, none⟩) (by show w.heap.size ≤ P; omega) _) (by rw [size_set, size_set]; omega) _
        have K5 := Lib.hid (And.intro H5 (And.intro D5 (And.intro hB5 hPc)))
        clear H5 D5 hB5 hPb hPd hPc
        go_wp2_with fail
        with_reducible refine (end_t _ T M _ n _ L id s K5.out.1 l0 l1 (by omega) L' c HE.out).mono ?_
        rintro e w6 ⟨rfl, H6, hm6⟩
        have hP6 : w6.heap[P]? = some (.cells #[.slice A3 L'.length c3, .int .i64 n] 28 (0, 0)) := hm6.other P _ 28 K5.out.2.2.2 hPT (by decide)
        have D6 := Lib.hid (dat_moved K5.out.2.1 K5.out.1 hm6)
        have hB6 : Below w.heap.size w w6 := K5.out.2.2.1.trans (hm6.below.mono y1)
        have HT6 := Lib.hid H6; clear H6 hm6 K5 D3 HT3 hB3 hP3 hg3 cP fP zP cg fg zg
        have hlim2 := hok2.out.le
        have hll : L'.length ≤ 1000000 := by omega
        clear hPg z3 y3 hlim
        go_wp2_with fail
        go_loopw [14] (fun i wx => ∃ j : Nat, j ≤ k + 1 ∧ i = .int .i64 j ∧ Hid (TabAt wx T M w1.heap.size n (k + 1) L') ∧ wx.heap[P]? = some (.cells #[.slice A3 L'.length c3, .int .i64 n] 28 (0, 0)) ∧ Hid (DAt wx A3 c3 L') ∧ Below w.heap.size w wx) (fun i _ => k + 1 - (intOf i).toNat)
        case atStart => exact ⟨0, by omega, rfl, HT6, hP6, D6, hB6⟩
        case round =>
          clear HT6 hP6 D6 hB6
          obtain ⟨j, hj, rfl, HT, hP, hD, hB⟩ := hrel
          obtain ⟨cP, fP, zP⟩ := blk_facts hP
          by_cases hlt2 : j < k + 1
          · have hjk : (j : Int) ≤ (k : Int) := by omega
            have hjl : j < len := by omega
            obtain ⟨ab2, ao2, hA2, hab2, _, d1, _, x0, x1⟩ := HZ.out j (by omega)
            cases hA2
            generalize (z j).id = x at *
            obtain ⟨⟨a, d, is⟩, hf⟩ : ∃ r, findV L' x = r := ⟨_, rfl⟩
            have HF := Lib.hid hf; clear hf
            have e1 := (hB.cell (p := ⟨ab, ao + j * 3 + 1, none⟩) hab).trans d1
            have hb1 := Nat.lt_of_lt_of_le hab hB.size
            go_wp2_with fail
            (with_reducible refine (find_t _ T M _ n _ L' x HT.out x0 x1 a d is HF.out).mono ?_)
            rintro e w8 ⟨rfl, hb⟩
            have hP8 := heap_below hb zP hP
            have hD8 := Lib.hid (hD.out.below hb)
            have HT8 := Lib.hid (HT.out.below hb)
            have hB8 := below_next (w := w) hB hb
            clear hP cP fP zP hD HT hB hb e1 hb1
            obtain ⟨cP, fP, zP⟩ := blk_facts hP8
            have e1 := (hB8.cell (p := ⟨ab, ao + j * 3 + 1, none⟩) hab).trans d1
            have hb1 := Nat.lt_of_lt_of_le hab hB8.size
            obtain ⟨w8a, hwc⟩ : ∃ wq, wq = w8 := ⟨_, rfl⟩
            subst hwc
            go_upto_region 25 with fail
            go_cut [18, 19, 20] from 81 to 120 (fun s18 s19 s20 wx => s18 = .string a ∧ s19 = .bool d ∧ s20 = .bool is ∧ Below w8a.heap.size w8a wx)
            case first =>
              go_region_held3 (fun w' => (∀ j, w'.cell? ⟨P, j, none⟩ = #[.slice A3 L'.length c3, .int .i64 n][j]?) ∧ w'.cell? ⟨ab, ao + j * 3 + 1, none⟩ = some (.int .u64 x) ∧ ab < w'.heap.size ∧ Below w8a.heap.size w8a w') ((refine keepP zP cP hb1 e1 ?_; (first | (with_reducible exact Below.refl _ _) | (go_split_ands; first | (with_reducible assumption) | go_grown)))) (first | (go_at_call 15; go_split_ands; (with_reducible refine (refFind _ A3 c3 n L' x (hD8.out.below (by first | (with_reducible exact Below.refl _ _) | (with_reducible assumption) | go_grown)) hll a d is HF.out).mono ?_); rintro e w9 ⟨rfl, hb⟩; have hB9 := below_next (w := w8a) (by first | (with_reducible exact Below.refl _ _) | (with_reducible assumption) | go_grown) hb; have zS := hB9.size; clear hb))
              all_goals (go_wp2_with fail; go_meet; go_split_ands; exact ⟨rfl, rfl, rfl, by first | (with_reducible exact Below.refl _ _) | (with_reducible assumption) | exact hB9 | go_grown⟩)
            case rest =>
              obtain ⟨rfl, rfl, rfl, hBx⟩ := hcut
              have hP9 := heap_below hBx zP hP8
              have hD9 := Lib.hid (hD8.out.below hBx)
              have HT9 := Lib.hid (HT8.out.below hBx)
              have hB9 := below_next (w := w) hB8 hBx
              clear hP8 cP fP zP hD8 HT8 hB8 hBx e1 hb1
              go_wp2_with fail
              (try go_quiet (fail))
              go_wp2_with fail
              go_roundw
              case rel => exact ⟨j + 1, by omega, by go_num, HT9, hP9, hD9, hB9⟩
              case measure => simp [intOf]; omega
          · have hjk : (k : Int) < (j : Int) := by omega
            clear hj
            obtain ⟨a, ha⟩ : ∃ a, waitsF L' = a := ⟨_, rfl⟩
            have HA := Lib.hid ha; clear ha
            obtain ⟨w8a, hwc⟩ : ∃ wq, wq = wr := ⟨_, rfl⟩
            subst hwc
            go_upto_region 28 with fail
            go_cut [133] from 37 to 133 (fun s133 wx => s133 = .bool false ∧ Below w8a.heap.size w8a wx)
            case first =>
              go_region_held3 (fun w' => (∀ j, w'.cell? ⟨P, j, none⟩ = #[.slice A3 L'.length c3, .int .i64 n][j]?) ∧ Below w8a.heap.size w8a w') ((refine keep1 zP cP ?_; (first | (with_reducible exact Below.refl _ _) | (go_split_ands; first | (with_reducible assumption) | go_grown)))) (first | (go_at_call 16; go_split_ands; (with_reducible refine (len_v _ T M _ n _ L' L'.length (HT.out.below (by first | (with_reducible exact Below.refl _ _) | (with_reducible assumption) | go_grown)) rfl).mono ?_); rintro e w9 ⟨rfl, rfl⟩) | (go_at_call 17; go_split_ands; (with_reducible refine (waits_v _ T M _ n _ L' a (HT.out.below (by first | (with_reducible exact Below.refl _ _) | (with_reducible assumption) | go_grown)) hok2.out (by omega) HA.out).mono ?_); rintro e w9 ⟨rfl, hb⟩; have hB9 := below_next (w := w8a) (by first | (with_reducible exact Below.refl _ _) | (with_reducible assumption) | go_grown) hb; have zS := hB9.size; clear hb) | (go_at_call 18; go_split_ands; (with_reducible refine (refWaits _ A3 c3 n L' (hD.out.below (by first | (with_reducible exact Below.refl _ _) | (with_reducible assumption) | go_grown)) hll a HA.out).mono ?_); rintro e w9 ⟨rfl, hb⟩; have hB9 := below_next (w := w8a) (by first | (with_reducible exact Below.refl _ _) | (with_reducible assumption) | go_grown) hb; have zS := hB9.size; clear hb))
              all_goals (go_wp2_with fail; go_meet; go_split_ands; exact ⟨rfl, by first | (with_reducible exact Below.refl _ _) | (with_reducible assumption) | go_grown⟩)
            case rest =>
              obtain ⟨rfl, hBx⟩ := hcut
              have hP9 := heap_below hBx zP hP
              have hD9 := Lib.hid (hD.out.below hBx)
              have HT9 := Lib.hid (HT.out.below hBx)
              have hB9 := below_next (w := w) hB hBx
              clear hP cP fP zP hD HT hB hBx
              go_wp2_with fail
              go_roundw
              case rel => exact ⟨k + 1, L', A3, c3, by omega, by go_num, HT9, hok2, hP9, hD9, hB9⟩
              case measure => simp [intOf]; omega
      | false =>
        obtain ⟨⟨L', c⟩, he⟩ : ∃ r, startF L n id = r := ⟨_, rfl⟩
        have hok2 := Lib.hid (show Ok L' n by have := startF_ok hok.out (x := id) l0 l1 hn0; rw [he] at this; exact this)
        have HE := Lib.hid he; clear he
        go_wp2_with fail
        with_reducible refine (start_r _ A9 c9 n L id (dat_alloc hD.out _) (by omega) hok.out (by omega) (by omega) L' c HE.out).mono ?_
        rintro e w3 ⟨⟨A3, c3, rfl, hD3⟩, hb⟩
        have hP3 : w3.heap[P]? = some (.cells #[.slice A9 L.length c9, .int .i64 n] 28 (0, 0)) := (hb.block _ (by rw [size_alloc]; omega)).trans (heap_alloc_old' hP)
        have hg3 : w3.heap[wr.heap.size]? = some (.cells #[.bool false, .int .u64 id, .string s] 31 (0, 0)) := (hb.block _ (by rw [size_alloc]; omega)).trans (heap_alloc_new _ _ _ rfl)
        have H3 : TabAt w3 T M w1.heap.size n k L := (H.out.alloc _).below hb
        have hB3 : Below w.heap.size w w3 := below_next (w := w) (Below.alloc hB hB.size _) hb
        have y3 := hB3.size
        have z3 := hb.size
        rw [size_alloc] at z3
        have hPg : P ≠ wr.heap.size := by omega
        clear hb hB H hP cP fP zP hD
        obtain ⟨cP, fP, zP⟩ := blk_facts hP3
        obtain ⟨cg, fg, zg⟩ := blk_facts hg3
        have D3 := Lib.hid hD3; clear hD3
        have HT3 := Lib.hid H3; clear H3
        have hPb := heap_set_same 0 (.slice A3 L'.length c3) hP3
        have hPd := heap_set_same 1 (.int .i64 n) hPb
        have hPc := heap_alloc_old' (o := .cells #[.slice A3 L'.length c3, .int .i64 n] 28) hPd
        have H5 : TabAt (((w3.setCell ⟨P, 0, none⟩ (.slice A3 L'.length c3)).setCell ⟨P, 1, none⟩ (.int .i64 n)).alloc (.cells #[.slice A3 L'.length c3, .int .i64 n] 28)) T M w1.heap.size n k L := (tab_set hPb (tab_set hP3 HT3.out)).alloc _
        have D5 : DAt (((w3.setCell ⟨P, 0, none⟩ (.slice A3 L'.length c3)).setCell ⟨P, 1, none⟩ (.int .i64 n)).alloc (.cells #[.slice A3 L'.length c3, .int .i64 n] 28)) A3 c3 L' := dat_alloc (dat_set hPb (dat_set hP3 D3.out)) _
        have hB5 : Below w.heap.size w (((w3.setCell ⟨P, 0, none⟩ (.slice A3 L'.length c3)).setCell ⟨P, 1, none⟩ (.int .i64 n)).alloc (.cells #[.slice A3 L'.length c3, .int .i64 n] 28)) := Below.alloc ((hB3.setCell (p := ⟨P, 0, none⟩) (by show w.heap.size ≤ P; omega) _).setCell (p := ⟨P, 1, none⟩) (by show w.heap.size ≤ P; omega) _) (by rw [size_set, size_set]; omega) _
        have K5 := Lib.hid (And.intro H5 (And.intro D5 (And.intro hB5 hPc)))
        clear H5 D5 hB5 hPb hPd hPc
        go_wp2_with fail
        with_reducible refine (start_t _ T M _ n _ L id K5.out.1 hok.out l0 l1 (by omega) (by omega) (by omega) L' c HE.out).mono ?_
        rintro e w6 ⟨rfl, H6, hm6⟩
        have hP6 : w6.heap[P]? = some (.cells #[.slice A3 L'.length c3, .int .i64 n] 28 (0, 0)) := hm6.other P _ 28 K5.out.2.2.2 hPT (by decide)
        have D6 := Lib.hid (dat_moved K5.out.2.1 K5.out.1 hm6)
        have hB6 : Below w.heap.size w w6 := K5.out.2.2.1.trans (hm6.below.mono y1)
        have HT6 := Lib.hid H6; clear H6 hm6 K5 D3 HT3 hB3 hP3 hg3 cP fP zP cg fg zg
        have hlim2 := hok2.out.le
        have hll : L'.length ≤ 1000000 := by omega
        clear hPg z3 y3 hlim
        go_wp2_with fail
        go_loopw [14] (fun i wx => ∃ j : Nat, j ≤ k + 1 ∧ i = .int .i64 j ∧ Hid (TabAt wx T M w1.heap.size n (k + 1) L') ∧ wx.heap[P]? = some (.cells #[.slice A3 L'.length c3, .int .i64 n] 28 (0, 0)) ∧ Hid (DAt wx A3 c3 L') ∧ Below w.heap.size w wx) (fun i _ => k + 1 - (intOf i).toNat)
        case atStart => exact ⟨0, by omega, rfl, HT6, hP6, D6, hB6⟩
        case round =>
          clear HT6 hP6 D6 hB6
          obtain ⟨j, hj, rfl, HT, hP, hD, hB⟩ := hrel
          obtain ⟨cP, fP, zP⟩ := blk_facts hP
          by_cases hlt2 : j < k + 1
          · have hjk : (j : Int) ≤ (k : Int) := by omega
            have hjl : j < len := by omega
            obtain ⟨ab2, ao2, hA2, hab2, _, d1, _, x0, x1⟩ := HZ.out j (by omega)
            cases hA2
            generalize (z j).id = x at *
            obtain ⟨⟨a, d, is⟩, hf⟩ : ∃ r, findV L' x = r := ⟨_, rfl⟩
            have HF := Lib.hid hf; clear hf
            have e1 := (hB.cell (p := ⟨ab, ao + j * 3 + 1, none⟩) hab).trans d1
            have hb1 := Nat.lt_of_lt_of_le hab hB.size
            go_wp2_with fail
            (with_reducible refine (find_t _ T M _ n _ L' x HT.out x0 x1 a d is HF.out).mono ?_)
            rintro e w8 ⟨rfl, hb⟩
            have hP8 := heap_below hb zP hP
            have hD8 := Lib.hid (hD.out.below hb)
            have HT8 := Lib.hid (HT.out.below hb)
            have hB8 := below_next (w := w) hB hb
            clear hP cP fP zP hD HT hB hb e1 hb1
            obtain ⟨cP, fP, zP⟩ := blk_facts hP8
            have e1 := (hB8.cell (p := ⟨ab, ao + j * 3 + 1, none⟩) hab).trans d1
            have hb1 := Nat.lt_of_lt_of_le hab hB8.size
            obtain ⟨w8a, hwc⟩ : ∃ wq, wq = w8 := ⟨_, rfl⟩
            subst hwc
            go_upto_region 25 with fail
            go_cut [18, 19, 20] from 81 to 120 (fun s18 s19 s20 wx => s18 = .string a ∧ s19 = .bool d ∧ s20 = .bool is ∧ Below w8a.heap.size w8a wx)
            case first =>
              go_region_held3 (fun w' => (∀ j, w'.cell? ⟨P, j, none⟩ = #[.slice A3 L'.length c3, .int .i64 n][j]?) ∧ w'.cell? ⟨ab, ao + j * 3 + 1, none⟩ = some (.int .u64 x) ∧ ab < w'.heap.size ∧ Below w8a.heap.size w8a w') ((refine keepP zP cP hb1 e1 ?_; (first | (with_reducible exact Below.refl _ _) | (go_split_ands; first | (with_reducible assumption) | go_grown)))) (first | (go_at_call 15; go_split_ands; (with_reducible refine (refFind _ A3 c3 n L' x (hD8.out.below (by first | (with_reducible exact Below.refl _ _) | (with_reducible assumption) | go_grown)) hll a d is HF.out).mono ?_); rintro e w9 ⟨rfl, hb⟩; have hB9 := below_next (w := w8a) (by first | (with_reducible exact Below.refl _ _) | (with_reducible assumption) | go_grown) hb; have zS := hB9.size; clear hb))
              all_goals (go_wp2_with fail; go_meet; go_split_ands; exact ⟨rfl, rfl, rfl, by first | (with_reducible exact Below.refl _ _) | (with_reducible assumption) | exact hB9 | go_grown⟩)
            case rest =>
              obtain ⟨rfl, rfl, rfl, hBx⟩ := hcut
              have hP9 := heap_below hBx zP hP8
              have hD9 := Lib.hid (hD8.out.below hBx)
              have HT9 := Lib.hid (HT8.out.below hBx)
              have hB9 := below_next (w := w) hB8 hBx
              clear hP8 cP fP zP hD8 HT8 hB8 hBx e1 hb1
              go_wp2_with fail
              (try go_quiet (fail))
              go_wp2_with fail
              go_roundw
              case rel => exact ⟨j + 1, by omega, by go_num, HT9, hP9, hD9, hB9⟩
              case measure => simp [intOf]; omega
          · have hjk : (k : Int) < (j : Int) := by omega
            clear hj
            obtain ⟨a, ha⟩ : ∃ a, waitsF L' = a := ⟨_, rfl⟩
            have HA := Lib.hid ha; clear ha
            obtain ⟨w8a, hwc⟩ : ∃ wq, wq = wr := ⟨_, rfl⟩
            subst hwc
            go_upto_region 28 with fail
            go_cut [133] from 37 to 133 (fun s133 wx => s133 = .bool false ∧ Below w8a.heap.size w8a wx)
            case first =>
              go_region_held3 (fun w' => (∀ j, w'.cell? ⟨P, j, none⟩ = #[.slice A3 L'.length c3, .int .i64 n][j]?) ∧ Below w8a.heap.size w8a w') ((refine keep1 zP cP ?_; (first | (with_reducible exact Below.refl _ _) | (go_split_ands; first | (with_reducible assumption) | go_grown)))) (first | (go_at_call 16; go_split_ands; (with_reducible refine (len_v _ T M _ n _ L' L'.length (HT.out.below (by first | (with_reducible exact Below.refl _ _) | (with_reducible assumption) | go_grown)) rfl).mono ?_); rintro e w9 ⟨rfl, rfl⟩) | (go_at_call 17; go_split_ands; (with_reducible refine (waits_v _ T M _ n _ L' a (HT.out.below (by first | (with_reducible exact Below.refl _ _) | (with_reducible assumption) | go_grown)) hok2.out (by omega) HA.out).mono ?_); rintro e w9 ⟨rfl, hb⟩; have hB9 := below_next (w := w8a) (by first | (with_reducible exact Below.refl _ _) | (with_reducible assumption) | go_grown) hb; have zS := hB9.size; clear hb) | (go_at_call 18; go_split_ands; (with_reducible refine (refWaits _ A3 c3 n L' (hD.out.below (by first | (with_reducible exact Below.refl _ _) | (with_reducible assumption) | go_grown)) hll a HA.out).mono ?_); rintro e w9 ⟨rfl, hb⟩; have hB9 := below_next (w := w8a) (by first | (with_reducible exact Below.refl _ _) | (with_reducible assumption) | go_grown) hb; have zS := hB9.size; clear hb))
              all_goals (go_wp2_with fail; go_meet; go_split_ands; exact ⟨rfl, by first | (with_reducible exact Below.refl _ _) | (with_reducible assumption) | go_grown⟩)
            case rest =>
              obtain ⟨rfl, hBx⟩ := hcut
              have hP9 := heap_below hBx zP hP
              have hD9 := Lib.hid (hD.out.below hBx)
              have HT9 := Lib.hid (HT.out.below hBx)
              have hB9 := below_next (w := w) hB hBx
              clear hP cP fP zP hD HT hB hBx
              go_wp2_with fail
              go_roundw
              case rel => exact ⟨k + 1, L', A3, c3, by omega, by go_num, HT9, hok2, hP9, hD9, hB9⟩
              case measure => simp [intOf]; omega
    · go_wp2_with fail
      go_ret
      exact ⟨rfl, hB⟩
end Go.Proofs.Ytlncekdoaddifaa
