/- The law DedupBound, walked. -/
import Derived.Test.YtlncekdoaddifaaActs
namespace Go.Proofs.Ytlncekdoaddifaa
set_option linter.unusedSimpArgs false
set_option linter.unusedVariables false
open Go.RowKit

set_option maxRecDepth 100000 in
set_option maxHeartbeats 4000000 in
theorem bound_walk (room : Int) (A : Option Addr) (len cap : Nat) (z : Nat → ActV) (w : World) (r0 : 0 ≤ room) (r1 : room ≤ 255) (hl : len ≤ 9223372036854775807) (hz : ∀ i, i < len → ActAt w A i (z i)) :
    Calls Try.prog 6 #[.int .u8 room, .slice A len cap] w fun e w' => e = .returned (.bool true) ∧ Below w.heap.size w w' := by
  have HZ := Lib.hid hz; clear hz
  by_cases h200 : 200 < len
  · go_enter Try.func6, Try.ntmps6
    go_wp2_with fail
    (with_reducible refine (awake_any _).mono ?_)
    rintro e w1 ⟨rfl, hb⟩
    go_wp2_with fail
    go_ret
    exact ⟨rfl, hb⟩
  obtain ⟨n, hn⟩ : ∃ n : Nat, room % 6 + 1 = n := ⟨(room % 6 + 1).toNat, by omega⟩
  have hn0 : 1 ≤ n := by omega
  have hn1 : n ≤ 6 := by omega
  go_enter Try.func6, Try.ntmps6
  go_wp2_with fail
  (with_reducible refine (awake_any _).mono ?_)
  rintro e w1 ⟨rfl, hb⟩
  have hB := hb
  clear hb
  have y1 := hB.size
  go_wp2_with fail
  with_reducible refine (new_t _ n rfl _ (by omega) (by omega)).mono ?_
  rintro e w2 ⟨T, M, rfl, h, hb⟩
  replace hB := below_next (w := w) hB hb
  clear hb
  have H := Lib.hid h; clear h
  go_wp2_with fail
  go_loopw [8] (fun i wr => ∃ (k : Nat) (L : List En), k ≤ len ∧ i = .int .i64 k ∧ TabAt wr T M w1.heap.size n k L ∧ Hid (Ok L n) ∧ Below w.heap.size w wr) (fun i _ => len - (intOf i).toNat)
  case atStart => exact ⟨0, [], by omega, rfl, H.out, Lib.hid (ok_nil n), hB⟩
  case round =>
    clear hB H
    obtain ⟨k, L, hk, rfl, h, hok, hB⟩ := hrel
    have H := Lib.hid h; clear h
    by_cases hlt : k < len
    · have hlim := hok.out.le
      have hl5 : L.length ≤ 5000 := by omega
      obtain ⟨m, hm⟩ : ∃ m, L.length = m := ⟨_, rfl⟩
      obtain ⟨a, ha⟩ : ∃ a, waitsF L = a := ⟨_, rfl⟩
      have hma : a ≤ m := by rw [← ha, ← hm]; exact waits_le L
      have hmn : m ≤ n := by omega
      have HL := Lib.hid hm; clear hm
      have HW := Lib.hid ha; clear ha hlim
      obtain ⟨ab, ao, rfl, hab, d0, d1, d2, l0, l1⟩ := HZ.out k hlt
      generalize z k = v at *
      obtain ⟨ev, id, s⟩ := v
      dsimp only at d0 d1 d2 l0 l1
      have D0 := Lib.hid d0; clear d0
      have D1 := Lib.hid d1; clear d1
      have D2 := Lib.hid d2; clear d2
      go_upto_region 14 with (first | (go_at_call 16; (with_reducible refine (len_v _ T M _ n _ L m H.out HL.out).mono ?_); rintro e w9 ⟨rfl, rfl⟩) | (go_at_call 17; (with_reducible refine (waits_v _ T M _ n _ L a H.out hok.out hl5 HW.out).mono ?_); rintro e w9 ⟨rfl, hb⟩; have hn := H.out.below hb; replace hB := below_next (w := w) hB hb; clear hb H; have H := Lib.hid hn; clear hn))
      have d0 := (hB.cell (p := ⟨ab, ao + k * 3, none⟩) hab).trans D0.out
      have d1 := (hB.cell (p := ⟨ab, ao + k * 3 + 1, none⟩) hab).trans D1.out
      have d2 := (hB.cell (p := ⟨ab, ao + k * 3 + 2, none⟩) hab).trans D2.out
      have hb1 := Nat.lt_of_lt_of_le hab hB.size
      cases ev with
      | true =>
        obtain ⟨⟨L', c⟩, he⟩ : ∃ r, endF L id s = r := ⟨_, rfl⟩
        obtain ⟨hok2, hways⟩ := end_bound hok.out he
        have HE := Lib.hid he; clear he
        have HOK2 := Lib.hid hok2; clear hok2
        go_upto_region 15 with fail
        go_still_tail 11, (by kernel_rfl)
        go_wp2_with fail
        with_reducible refine (end_t _ T M _ n _ L id s (by first | exact H.out | exact tab_drew H.out | exact H.out.drewN _) l0 l1 (by omega) L' c HE.out).mono ?_
        rintro e w3 ⟨rfl, hn, hm⟩
        replace hB := Below.trans (by first | exact hB | exact below_drew hB | exact below_drewN hB _) (hm.below.mono y1)
        clear hm H d0 d1 d2 hb1
        have H := Lib.hid hn; clear hn
        have d0 := (hB.cell (p := ⟨ab, ao + k * 3, none⟩) hab).trans D0.out
        have d1 := (hB.cell (p := ⟨ab, ao + k * 3 + 1, none⟩) hab).trans D1.out
        have d2 := (hB.cell (p := ⟨ab, ao + k * 3 + 2, none⟩) hab).trans D2.out
        have hb1 := Nat.lt_of_lt_of_le hab hB.size
        have hlim2 := HOK2.out.le
        have hl5 : L'.length ≤ 5000 := by omega
        rcases hways with ⟨hc, rfl⟩ | ⟨rfl, hm2, ha2⟩
        · have hc1 : (c == 0) = false := beq_eq_false_iff_ne.2 hc
          have hc2 : (c != 0) = true := by simp [bne, hc1]
          clear hc
          go_wp2_with (first | (go_at_call 16; (with_reducible refine (len_v _ T M _ n _ L' m H.out HL.out).mono ?_); rintro e w9 ⟨rfl, rfl⟩) | (go_at_call 17; (with_reducible refine (waits_v _ T M _ n _ L' a H.out HOK2.out hl5 HW.out).mono ?_); rintro e w9 ⟨rfl, hb⟩; have hn := H.out.below hb; replace hB := below_next (w := w) hB hb; clear hb H; have H := Lib.hid hn; clear hn; try (clear d0 d1 d2 hb1); have d0 := (hB.cell (p := ⟨ab, ao + k * 3, none⟩) hab).trans D0.out; have d1 := (hB.cell (p := ⟨ab, ao + k * 3 + 1, none⟩) hab).trans D1.out; have d2 := (hB.cell (p := ⟨ab, ao + k * 3 + 2, none⟩) hab).trans D2.out; have hb1 := Nat.lt_of_lt_of_le hab hB.size))
          go_roundw
          case rel => exact ⟨k + 1, L', by omega, by go_num, H.out, HOK2, hB⟩
          case measure => simp [intOf]; omega
        · obtain ⟨a', ha3⟩ : ∃ a', waitsF L' = a' := ⟨_, rfl⟩
          have hm3 : L'.length = m := hm2.trans HL.out
          have hae : a = a' + 1 := by rw [← HW.out, ha2, ha3]
          clear HL HW hm2 ha2
          subst hae
          have HL := Lib.hid hm3; clear hm3
          have HW := Lib.hid ha3; clear ha3 hlim2
          go_wp2_with (first | (go_at_call 16; (with_reducible refine (len_v _ T M _ n _ L' m H.out HL.out).mono ?_); rintro e w9 ⟨rfl, rfl⟩) | (go_at_call 17; (with_reducible refine (waits_v _ T M _ n _ L' a' H.out HOK2.out hl5 HW.out).mono ?_); rintro e w9 ⟨rfl, hb⟩; have hn := H.out.below hb; replace hB := below_next (w := w) hB hb; clear hb H; have H := Lib.hid hn; clear hn; try (clear d0 d1 d2 hb1); have d0 := (hB.cell (p := ⟨ab, ao + k * 3, none⟩) hab).trans D0.out; have d1 := (hB.cell (p := ⟨ab, ao + k * 3 + 1, none⟩) hab).trans D1.out; have d2 := (hB.cell (p := ⟨ab, ao + k * 3 + 2, none⟩) hab).trans D2.out; have hb1 := Nat.lt_of_lt_of_le hab hB.size))
          go_roundw
          case rel => exact ⟨k + 1, L', by omega, by go_num, H.out, HOK2, hB⟩
          case measure => simp [intOf]; omega
      | false =>
        obtain ⟨⟨L', c⟩, he⟩ : ∃ r, startF L n id = r := ⟨_, rfl⟩
        obtain ⟨hok2, hways⟩ := start_bound hok.out l0 l1 hn0 he
        have HE := Lib.hid he; clear he
        have HOK2 := Lib.hid hok2; clear hok2
        go_upto_region 16 with fail
        go_wp2_with fail
        with_reducible refine (start_t _ T M _ n _ L id (by first | exact H.out | exact tab_drew H.out | exact H.out.drewN _) hok.out l0 l1 (by omega) (by omega) (by omega) L' c HE.out).mono ?_
        rintro e w3 ⟨rfl, hn, hm⟩
        replace hB := Below.trans (by first | exact hB | exact below_drew hB | exact below_drewN hB _) (hm.below.mono y1)
        clear hm H d0 d1 d2 hb1
        have H := Lib.hid hn; clear hn
        have d0 := (hB.cell (p := ⟨ab, ao + k * 3, none⟩) hab).trans D0.out
        have d1 := (hB.cell (p := ⟨ab, ao + k * 3 + 1, none⟩) hab).trans D1.out
        have d2 := (hB.cell (p := ⟨ab, ao + k * 3 + 2, none⟩) hab).trans D2.out
        have hb1 := Nat.lt_of_lt_of_le hab hB.size
        have hlim2 := HOK2.out.le
        have hl5 : L'.length ≤ 5000 := by omega
        rcases hways with ⟨hc, rfl⟩ | ⟨rfl, ha2⟩
        · have hc1 : (c == 0) = false := beq_eq_false_iff_ne.2 hc
          have hc2 : (c != 0) = true := by simp [bne, hc1]
          clear hc
          go_wp2_with (first | (go_at_call 16; (with_reducible refine (len_v _ T M _ n _ L' m H.out HL.out).mono ?_); rintro e w9 ⟨rfl, rfl⟩) | (go_at_call 17; (with_reducible refine (waits_v _ T M _ n _ L' a H.out HOK2.out hl5 HW.out).mono ?_); rintro e w9 ⟨rfl, hb⟩; have hn := H.out.below hb; replace hB := below_next (w := w) hB hb; clear hb H; have H := Lib.hid hn; clear hn; try (clear d0 d1 d2 hb1); have d0 := (hB.cell (p := ⟨ab, ao + k * 3, none⟩) hab).trans D0.out; have d1 := (hB.cell (p := ⟨ab, ao + k * 3 + 1, none⟩) hab).trans D1.out; have d2 := (hB.cell (p := ⟨ab, ao + k * 3 + 2, none⟩) hab).trans D2.out; have hb1 := Nat.lt_of_lt_of_le hab hB.size))
          go_roundw
          case rel => exact ⟨k + 1, L', by omega, by go_num, H.out, HOK2, hB⟩
          case measure => simp [intOf]; omega
        · obtain ⟨m', hm3⟩ : ∃ m', L'.length = m' := ⟨_, rfl⟩
          have ha3 : waitsF L' = a + 1 := by rw [ha2, HW.out]
          have hma2 : a + 1 ≤ m' := by rw [← ha3, ← hm3]; exact waits_le L'
          have hmn2 : m' ≤ n := by omega
          clear HL HW ha2
          have HL := Lib.hid hm3; clear hm3
          have HW := Lib.hid ha3; clear ha3 hlim2
          go_wp2_with (first | (go_at_call 16; (with_reducible refine (len_v _ T M _ n _ L' m' H.out HL.out).mono ?_); rintro e w9 ⟨rfl, rfl⟩) | (go_at_call 17; (with_reducible refine (waits_v _ T M _ n _ L' (a + 1) H.out HOK2.out hl5 HW.out).mono ?_); rintro e w9 ⟨rfl, hb⟩; have hn := H.out.below hb; replace hB := below_next (w := w) hB hb; clear hb H; have H := Lib.hid hn; clear hn; try (clear d0 d1 d2 hb1); have d0 := (hB.cell (p := ⟨ab, ao + k * 3, none⟩) hab).trans D0.out; have d1 := (hB.cell (p := ⟨ab, ao + k * 3 + 1, none⟩) hab).trans D1.out; have d2 := (hB.cell (p := ⟨ab, ao + k * 3 + 2, none⟩) hab).trans D2.out; have hb1 := Nat.lt_of_lt_of_le hab hB.size))
          go_roundw
          case rel => exact ⟨k + 1, L', by omega, by go_num, H.out, HOK2, hB⟩
          case measure => simp [intOf]; omega
    · go_wp2_with fail
      go_ret
      exact ⟨rfl, hB⟩
end Go.Proofs.Ytlncekdoaddifaa
