/- The law DedupFull, walked. -/
import Derived.Test.YtlncekdoaddifaaVals
namespace Go.Proofs.Ytlncekdoaddifaa
set_option linter.unusedSimpArgs false
set_option linter.unusedVariables false
open Go.RowKit

set_option maxRecDepth 100000 in
set_option maxHeartbeats 4000000 in
theorem full_walk (room which : Int) (w : World) (o0 : 0 ≤ which) (o1 : which ≤ 255) :
    Calls Try.prog 5 #[.int .i64 room, .int .u8 which] w fun e w' => e = .returned (.bool true) ∧ Below w.heap.size w w' := by
  by_cases hm : room < 1 ∨ 4096 < room
  · by_cases h1 : room < 1
    all_goals
      go_enter Try.func5, Try.ntmps5
      go_wp2_with fail
      (with_reducible refine (awake_any _).mono ?_)
      rintro e w1 ⟨rfl, hb⟩
      have hB := hb
      clear hb
      have y1 := hB.size
      go_wp2_with fail
      with_reducible refine (new_nil room hm _).mono ?_
      rintro e w2 ⟨rfl, hb⟩
      replace hB := below_next (w := w) hB hb
      clear hb
      go_wp2_with fail
      with_reducible refine (find_nil _ _).mono ?_
      rintro e wA ⟨rfl, rfl⟩
      go_wp2_with fail
      with_reducible refine (start_nil _ _).mono ?_
      rintro e wB ⟨rfl, rfl⟩
      go_wp2_with fail
      with_reducible refine (end_nil _ _ _).mono ?_
      rintro e wC ⟨rfl, rfl⟩
      go_wp2_with fail
      with_reducible refine (len_nil _).mono ?_
      rintro e wD ⟨rfl, rfl⟩
      go_wp2_with fail
      with_reducible refine (waits_nil _).mono ?_
      rintro e wE ⟨rfl, rfl⟩
      go_wp2_with fail
      go_ret
      exact ⟨rfl, hB⟩
  obtain ⟨n, hn⟩ : ∃ n : Nat, room = n := ⟨room.toNat, by omega⟩
  subst hn
  have hn0 : 1 ≤ n := by omega
  have hn1 : n ≤ 4096 := by omega
  clear hm
  by_cases h100 : 100 < n
  · have h100' : (100 : Int) < (n : Int) := by omega
    go_enter Try.func5, Try.ntmps5
    go_wp2_with fail
    (with_reducible refine (awake_any _).mono ?_)
    rintro e w1 ⟨rfl, hb⟩
    have hB := hb
    clear hb
    have y1 := hB.size
    go_wp2_with fail
    with_reducible refine (new_t _ n rfl _ (by omega) (by omega)).mono ?_
    rintro e w2 ⟨T, M, rfl, h, hb⟩
    replace hB := below_next (w := w) hB hb
    clear hb
    have H := Lib.hid h; clear h
    go_wp2_with fail
    go_ret
    exact ⟨rfl, hB⟩
  have h100' : ¬ (100 : Int) < (n : Int) := by omega
  have hnn : n ≤ 100 := by omega
  clear h100
  go_enter Try.func5, Try.ntmps5
  go_wp2_with fail
  (with_reducible refine (awake_any _).mono ?_)
  rintro e w1 ⟨rfl, hb⟩
  have hB := hb
  clear hb
  have y1 := hB.size
  go_wp2_with fail
  with_reducible refine (new_t _ n rfl _ (by omega) (by omega)).mono ?_
  rintro e w2 ⟨T, M, rfl, h, hb⟩
  replace hB := below_next (w := w) hB hb
  clear hb
  have H := Lib.hid h; clear h
  go_wp2_with fail
  go_loopw [10] (fun i wr => ∃ i1 : Nat, i1 ≤ n ∧ i = .int .i64 i1 ∧ TabAt wr T M w1.heap.size n i1 (fullL i1) ∧ Below w.heap.size w wr) (fun i _ => n - (intOf i).toNat)
  case atStart => exact ⟨0, by omega, rfl, H.out, hB⟩
  case round =>
    clear hB H
    obtain ⟨i1, hi, rfl, h, hB⟩ := hrel
    have H := Lib.hid h; clear h
    by_cases hlt : i1 < n
    · have x1 := full_step hlt
      have hok := full_ok (i := i1) hi hnn
      have X1 := Lib.hid x1; clear x1
      have HOK := Lib.hid hok; clear hok
      go_wp2_with fail
      with_reducible refine (start_t _ T M _ n _ (fullL i1) (i1 : Int) H.out HOK.out (by omega) (by omega) (by omega) (by omega) (by omega) _ _ X1.out).mono ?_
      rintro e w3 ⟨rfl, hn, hm⟩
      replace hB := hB.trans (hm.below.mono y1)
      clear hm H
      have H := Lib.hid hn; clear hn
      go_wp2_with fail
      go_roundw
      case rel => exact ⟨i1 + 1, by omega, by go_num, H.out, hB⟩
      case measure => simp [intOf]; omega
    · have hik : i1 = n := by omega
      subst hik
      obtain ⟨k, hk⟩ : ∃ k : Nat, which % (i1 : Int) = k := ⟨(which % (i1 : Int)).toNat, (Int.toNat_of_nonneg (Int.emod_nonneg which (by omega))).symm⟩
      have hkn : k < i1 := by have h9 := Int.emod_lt_of_pos which (b := (i1 : Int)) (by omega); rw [hk] at h9; omega
      have z1 := full_wait hn0 hnn
      have z2 := full_end hkn hnn ⟨#[120]⟩
      obtain ⟨L, z3, z4, z5, z6⟩ := full_then hkn hnn ⟨#[120]⟩
      have z7 := z6 ⟨#[]⟩
      have hok := full_ok (i := i1) hi hnn
      have hok2 := set_ok hok (k : Int) ⟨#[120]⟩
      have Z1 := Lib.hid z1; clear z1
      have Z2 := Lib.hid z2; clear z2
      have HL := Lib.hid z4; clear z4
      have Z7 := Lib.hid z7; clear z7 z6
      have HOK := Lib.hid hok; clear hok
      have HOK2 := Lib.hid hok2; clear hok2
      by_cases hk0 : k = 0
      · rw [if_pos hk0] at z3
        have Z3 := Lib.hid z3; clear z3
        have hkb : ((k : Int) == 0) = true := by rw [hk0]; rfl
        clear hk0
        go_wp2_with fail
        with_reducible refine (start_t _ T M _ i1 _ (fullL i1) 9999 H.out HOK.out (by omega) (by omega) (by omega) (by omega) (by omega) _ _ Z1.out).mono ?_
        rintro e w3 ⟨rfl, hn, hm⟩
        replace hB := hB.trans (hm.below.mono y1)
        clear hm H
        have H := Lib.hid hn; clear hn
        go_wp2_with fail
        with_reducible refine (end_t _ T M _ i1 _ (fullL i1) _ _ H.out (by omega) (by omega) (by omega) _ _ Z2.out).mono ?_
        rintro e w4 ⟨rfl, hn, hm⟩
        replace hB := hB.trans (hm.below.mono y1)
        clear hm H
        have H := Lib.hid hn; clear hn
        go_wp2_with fail
        with_reducible refine (start_t _ T M _ i1 _ _ 9999 H.out HOK2.out (by omega) (by omega) (by omega) (by omega) (by omega) _ _ Z3.out).mono ?_
        rintro e w5 ⟨rfl, hn, hm⟩
        replace hB := hB.trans (hm.below.mono y1)
        clear hm H
        have H := Lib.hid hn; clear hn
        go_wp2_with fail
        with_reducible refine (len_v _ T M _ i1 _ L i1 H.out HL.out).mono ?_
        rintro e w9 ⟨rfl, rfl⟩
        go_wp2_with fail
        with_reducible refine (end_t _ T M _ i1 _ L 5555 _ H.out (by omega) (by omega) (by omega) _ _ Z7.out).mono ?_
        rintro e w6 ⟨rfl, hn, hm⟩
        replace hB := hB.trans (hm.below.mono y1)
        clear hm H
        have H := Lib.hid hn; clear hn
        go_wp2_with fail
        go_ret
        exact ⟨rfl, hB⟩
      · rw [if_neg hk0] at z3
        have Z3 := Lib.hid z3; clear z3
        have hkb : ((k : Int) == 0) = false := beq_eq_false_iff_ne.2 (by omega)
        go_wp2_with fail
        with_reducible refine (start_t _ T M _ i1 _ (fullL i1) 9999 H.out HOK.out (by omega) (by omega) (by omega) (by omega) (by omega) _ _ Z1.out).mono ?_
        rintro e w3 ⟨rfl, hn, hm⟩
        replace hB := hB.trans (hm.below.mono y1)
        clear hm H
        have H := Lib.hid hn; clear hn
        go_wp2_with fail
        with_reducible refine (end_t _ T M _ i1 _ (fullL i1) _ _ H.out (by omega) (by omega) (by omega) _ _ Z2.out).mono ?_
        rintro e w4 ⟨rfl, hn, hm⟩
        replace hB := hB.trans (hm.below.mono y1)
        clear hm H
        have H := Lib.hid hn; clear hn
        go_wp2_with fail
        with_reducible refine (start_t _ T M _ i1 _ _ 9999 H.out HOK2.out (by omega) (by omega) (by omega) (by omega) (by omega) _ _ Z3.out).mono ?_
        rintro e w5 ⟨rfl, hn, hm⟩
        replace hB := hB.trans (hm.below.mono y1)
        clear hm H
        have H := Lib.hid hn; clear hn
        go_wp2_with fail
        with_reducible refine (len_v _ T M _ i1 _ L i1 H.out HL.out).mono ?_
        rintro e w9 ⟨rfl, rfl⟩
        go_wp2_with fail
        with_reducible refine (end_t _ T M _ i1 _ L 5555 _ H.out (by omega) (by omega) (by omega) _ _ Z7.out).mono ?_
        rintro e w6 ⟨rfl, hn, hm⟩
        replace hB := hB.trans (hm.below.mono y1)
        clear hm H
        have H := Lib.hid hn; clear hn
        go_wp2_with fail
        go_ret
        exact ⟨rfl, hB⟩
end Go.Proofs.Ytlncekdoaddifaa
