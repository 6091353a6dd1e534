/- The law DedupFirst, walked. -/
import Derived.Test.YtlncekdoaddifaaActs
namespace Go.Proofs.Ytlncekdoaddifaa
set_option linter.unusedSimpArgs false
set_option linter.unusedVariables false
open Go.RowKit

set_option maxRecDepth 100000 in
set_option maxHeartbeats 4000000 in
theorem first_walk (room : Int) (A : Option Addr) (len cap : Nat) (z : Nat → ActV) (id : Int) (a : ByteArray) (w : World) (r0 : 0 ≤ room) (r1 : room ≤ 255) (hl : len ≤ 9223372036854775807) (hz : ∀ i, i < len → ActAt w A i (z i)) (i0 : 0 ≤ id) (i1 : id ≤ 18446744073709551615) (hs : a.size ≤ 9223372036854775807) :
    Calls Try.prog 7 #[.int .u8 room, .slice A len cap, .int .u64 id, .string a] w fun e w' => e = .returned (.bool true) ∧ Below w.heap.size w w' := by
  have HZ := Lib.hid hz; clear hz
  by_cases h200 : 200 < len
  · go_enter Try.func7, Try.ntmps7
    go_wp2_with fail
    (with_reducible refine (awake_any _).mono ?_)
    rintro e w1 ⟨rfl, hb⟩
    go_wp2_with fail
    go_ret
    exact ⟨rfl, hb⟩
  by_cases h60 : 60 < a.size
  · go_enter Try.func7, Try.ntmps7
    go_wp2_with fail
    (with_reducible refine (awake_any _).mono ?_)
    rintro e w1 ⟨rfl, hb⟩
    go_wp2_with fail
    go_ret
    exact ⟨rfl, hb⟩
  obtain ⟨n, hn⟩ : ∃ n : Nat, room % 6 + 1 = n := ⟨(room % 6 + 1).toNat, by omega⟩
  have hn0 : 1 ≤ n := by omega
  have hn1 : n ≤ 6 := by omega
  obtain ⟨b1, b2, b3⟩ := first_begin n hn0 id a
  have G1 := Lib.hid b1; clear b1
  have G2 := Lib.hid b2; clear b2
  have G3 := Lib.hid b3; clear b3
  have O0 : Hid (Ok [] n) := Lib.hid (ok_nil n)
  have O1 : Hid (Ok [new id] n) := Lib.hid (by have := startF_ok (ok_nil n) (x := id) i0 i1 hn0; rw [G1.out] at this; exact this)
  have O2 : Hid (Ok [⟨id, a, true⟩] n) := Lib.hid (by have := endF_ok O1.out (x := id) (a := a); rw [G2.out] at this; exact this)
  go_enter Try.func7, Try.ntmps7
  go_wp2_with fail
  (with_reducible refine (awake_any _).mono ?_)
  rintro e w1 ⟨rfl, hb⟩
  have hB := hb
  clear hb
  have y1 := hB.size
  go_wp2_with fail
  with_reducible refine (new_t _ n rfl _ (by omega) (by omega)).mono ?_
  rintro e w2 ⟨T, M, rfl, h, hb⟩
  replace hB := below_next (w := w) hB hb
  clear hb
  have H := Lib.hid h; clear h
  go_wp2_with fail
  with_reducible refine (start_t _ T M _ n _ [] id H.out O0.out i0 i1 (by omega) (by omega) (by omega) _ _ G1.out).mono ?_
  rintro e w3 ⟨rfl, hn, hm⟩
  replace hB := hB.trans (hm.below.mono y1)
  clear hm H
  have H := Lib.hid hn; clear hn
  go_wp2_with fail
  with_reducible refine (end_t _ T M _ n _ [new id] id a H.out i0 i1 (by omega) _ _ G2.out).mono ?_
  rintro e w4 ⟨rfl, hn, hm⟩
  replace hB := hB.trans (hm.below.mono y1)
  clear hm H
  have H := Lib.hid hn; clear hn
  go_wp2_with fail
  go_loopw [11] (fun i wr => ∃ (k m : Nat) (L : List En), k ≤ len ∧ i = .int .i64 k ∧ m ≤ k + 2 ∧ TabAt wr T M w1.heap.size n m L ∧ Hid (Ok L n) ∧ Hid (First L id a) ∧ Below w.heap.size w wr) (fun i _ => len - (intOf i).toNat)
  case atStart => exact ⟨0, 2, _, by omega, rfl, by omega, H.out, O2, G3, hB⟩
  case round =>
    clear hB H
    obtain ⟨k, m, L, hk, rfl, hm2, h, hok, hfst, hB⟩ := hrel
    have H := Lib.hid h; clear h
    by_cases hlt : k < len
    · have hlim := hok.out.le
      have hl5 : L.length ≤ 5000 := by omega
      obtain ⟨ab, ao, rfl, hab, d0, d1, d2, l0, l1⟩ := HZ.out k hlt
      generalize z k = v at *
      obtain ⟨ev, aid, s⟩ := v
      dsimp only at d0 d1 d2 l0 l1
      have D0 := Lib.hid d0; clear d0
      have D1 := Lib.hid d1; clear d1
      have D2 := Lib.hid d2; clear d2
      have d0 := (hB.cell (p := ⟨ab, ao + k * 3, none⟩) hab).trans D0.out
      have d1 := (hB.cell (p := ⟨ab, ao + k * 3 + 1, none⟩) hab).trans D1.out
      have d2 := (hB.cell (p := ⟨ab, ao + k * 3 + 2, none⟩) hab).trans D2.out
      have hb1 := Nat.lt_of_lt_of_le hab hB.size
      by_cases hid : aid = id
      · have hid1 : (aid == id) = true := beq_iff_eq.2 hid
        clear hid
        cases ev with
        | false =>
          go_wp2_with fail
          go_roundw
          case rel => exact ⟨k + 1, m, L, by omega, by go_num, by omega, H.out, hok, hfst, hB⟩
          case measure => simp [intOf]; omega
        | true =>
          obtain ⟨⟨L', c⟩, he⟩ : ∃ r, endF L aid s = r := ⟨_, rfl⟩
          have hok2 := (end_bound hok.out he).1
          have hfi : First L' id a := by have := first_end hfst.out aid s; rw [he] at this; exact this
          have HE := Lib.hid he; clear he
          have HOK2 := Lib.hid hok2; clear hok2
          go_upto_region 14 with fail
          go_still_tail 11, (by kernel_rfl)
          go_wp2_with fail
          with_reducible refine (end_t _ T M _ n _ L aid s (by first | exact H.out | exact tab_drew H.out | exact H.out.drewN _) l0 l1 (by omega) L' c HE.out).mono ?_
          rintro e w3 ⟨rfl, hn, hm⟩
          replace hB := Below.trans (by first | exact hB | exact below_drew hB | exact below_drewN hB _) (hm.below.mono y1)
          clear hm H d0 d1 d2 hb1
          have H := Lib.hid hn; clear hn
          rcases first_find hfi with hf | hf
          · have HF := Lib.hid hf; clear hf
            have HFI := Lib.hid hfi; clear hfi
            go_wp2_with fail
            with_reducible refine (find_t _ T M _ n _ L' id H.out i0 i1 _ _ _ HF.out).mono ?_
            rintro e w4 ⟨rfl, hb⟩
            have hn := H.out.below hb
            replace hB := below_next (w := w) hB hb
            clear hb H
            have H := Lib.hid hn; clear hn
            go_wp2_with fail
            go_roundw
            case rel => exact ⟨k + 1, _, L', by omega, by go_num, by omega, H.out, HOK2, HFI, hB⟩
            case measure => simp [intOf]; omega
          · have HF := Lib.hid hf; clear hf
            have HFI := Lib.hid hfi; clear hfi
            go_wp2_with fail
            with_reducible refine (find_t _ T M _ n _ L' id H.out i0 i1 _ _ _ HF.out).mono ?_
            rintro e w4 ⟨rfl, hb⟩
            have hn := H.out.below hb
            replace hB := below_next (w := w) hB hb
            clear hb H
            have H := Lib.hid hn; clear hn
            go_wp2_with fail
            go_roundw
            case rel => exact ⟨k + 1, _, L', by omega, by go_num, by omega, H.out, HOK2, HFI, hB⟩
            case measure => simp [intOf]; omega
      · have hid1 : (aid == id) = false := beq_eq_false_iff_ne.2 hid
        cases ev with
        | true =>
          obtain ⟨⟨L', c⟩, he⟩ : ∃ r, endF L aid s = r := ⟨_, rfl⟩
          have hok2 := (end_bound hok.out he).1
          have hfi : First L' id a := by have := first_end hfst.out aid s; rw [he] at this; exact this
          have HE := Lib.hid he; clear he
          have HOK2 := Lib.hid hok2; clear hok2
          go_upto_region 14 with fail
          go_still_tail 11, (by kernel_rfl)
          go_wp2_with fail
          with_reducible refine (end_t _ T M _ n _ L aid s (by first | exact H.out | exact tab_drew H.out | exact H.out.drewN _) l0 l1 (by omega) L' c HE.out).mono ?_
          rintro e w3 ⟨rfl, hn, hm⟩
          replace hB := Below.trans (by first | exact hB | exact below_drew hB | exact below_drewN hB _) (hm.below.mono y1)
          clear hm H d0 d1 d2 hb1
          have H := Lib.hid hn; clear hn
          rcases first_find hfi with hf | hf
          · have HF := Lib.hid hf; clear hf
            have HFI := Lib.hid hfi; clear hfi
            go_wp2_with fail
            with_reducible refine (find_t _ T M _ n _ L' id H.out i0 i1 _ _ _ HF.out).mono ?_
            rintro e w4 ⟨rfl, hb⟩
            have hn := H.out.below hb
            replace hB := below_next (w := w) hB hb
            clear hb H
            have H := Lib.hid hn; clear hn
            go_wp2_with fail
            go_roundw
            case rel => exact ⟨k + 1, _, L', by omega, by go_num, by omega, H.out, HOK2, HFI, hB⟩
            case measure => simp [intOf]; omega
          · have HF := Lib.hid hf; clear hf
            have HFI := Lib.hid hfi; clear hfi
            go_wp2_with fail
            with_reducible refine (find_t _ T M _ n _ L' id H.out i0 i1 _ _ _ HF.out).mono ?_
            rintro e w4 ⟨rfl, hb⟩
            have hn := H.out.below hb
            replace hB := below_next (w := w) hB hb
            clear hb H
            have H := Lib.hid hn; clear hn
            go_wp2_with fail
            go_roundw
            case rel => exact ⟨k + 1, _, L', by omega, by go_num, by omega, H.out, HOK2, HFI, hB⟩
            case measure => simp [intOf]; omega
        | false =>
          obtain ⟨⟨L', c⟩, he⟩ : ∃ r, startF L n aid = r := ⟨_, rfl⟩
          have hok2 := (start_bound hok.out l0 l1 hn0 he).1
          have hfi : First L' id a := by have := first_start (room := n) hfst.out hok.out aid hid; rw [he] at this; exact this
          have HE := Lib.hid he; clear he
          have HOK2 := Lib.hid hok2; clear hok2
          clear hid
          go_wp2_with fail
          with_reducible refine (start_t _ T M _ n _ L aid (by first | exact H.out | exact tab_drew H.out | exact H.out.drewN _) hok.out l0 l1 (by omega) (by omega) (by omega) L' c HE.out).mono ?_
          rintro e w3 ⟨rfl, hn, hm⟩
          replace hB := Below.trans (by first | exact hB | exact below_drew hB | exact below_drewN hB _) (hm.below.mono y1)
          clear hm H d0 d1 d2 hb1
          have H := Lib.hid hn; clear hn
          rcases first_find hfi with hf | hf
          · have HF := Lib.hid hf; clear hf
            have HFI := Lib.hid hfi; clear hfi
            go_wp2_with fail
            with_reducible refine (find_t _ T M _ n _ L' id H.out i0 i1 _ _ _ HF.out).mono ?_
            rintro e w4 ⟨rfl, hb⟩
            have hn := H.out.below hb
            replace hB := below_next (w := w) hB hb
            clear hb H
            have H := Lib.hid hn; clear hn
            go_wp2_with fail
            go_roundw
            case rel => exact ⟨k + 1, _, L', by omega, by go_num, by omega, H.out, HOK2, HFI, hB⟩
            case measure => simp [intOf]; omega
          · have HF := Lib.hid hf; clear hf
            have HFI := Lib.hid hfi; clear hfi
            go_wp2_with fail
            with_reducible refine (find_t _ T M _ n _ L' id H.out i0 i1 _ _ _ HF.out).mono ?_
            rintro e w4 ⟨rfl, hb⟩
            have hn := H.out.below hb
            replace hB := below_next (w := w) hB hb
            clear hb H
            have H := Lib.hid hn; clear hn
            go_wp2_with fail
            go_roundw
            case rel => exact ⟨k + 1, _, L', by omega, by go_num, by omega, H.out, HOK2, HFI, hB⟩
            case measure => simp [intOf]; omega
    · go_wp2_with fail
      go_ret
      exact ⟨rfl, hB⟩
end Go.Proofs.Ytlncekdoaddifaa
