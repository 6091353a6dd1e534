/- The law DedupKeeps, walked. -/
import Derived.Test.YtlncekdoaddifaaVals
namespace Go.Proofs.Ytlncekdoaddifaa
set_option linter.unusedSimpArgs false
set_option linter.unusedVariables false
open Go.RowKit

theorem keeps_at (n : Nat) (a : ByteArray) (h : 1 ≤ n) : keepsL n a 0 = [⟨7, a, true⟩] := by unfold keepsL; rw [show 0 + 1 - n = 0 by omega]; rfl
theorem keeps_more (n : Nat) (a s : ByteArray) : endF [⟨7, a, true⟩] 7 s = ([⟨7, a, true⟩], 23) ∧ startF [⟨7, a, true⟩] n 7 = ([⟨7, a, true⟩], 22) := by
  constructor
  · simp [endF, findF]
  · simp [startF, findF]
set_option maxRecDepth 100000 in
set_option maxHeartbeats 4000000 in
theorem keeps_walk (room others : Int) (a : ByteArray) (w : World) (r0 : 0 ≤ room) (r1 : room ≤ 255) (o0 : 0 ≤ others) (o1 : others ≤ 255) :
    Calls Try.prog 4 #[.int .u8 room, .int .u8 others, .string a] w fun e w' => e = .returned (.bool true) ∧ Below w.heap.size w w' := by
  obtain ⟨n, hn⟩ : ∃ n : Nat, room % 40 + 1 = n := ⟨(room % 40 + 1).toNat, by omega⟩
  obtain ⟨k, hk⟩ : ∃ k : Nat, others % 60 = k := ⟨(others % 60).toNat, by omega⟩
  have hn0 : 1 ≤ n := by omega
  have hn1 : n ≤ 40 := by omega
  have hk1 : k ≤ 60 := by omega
  obtain ⟨b1, b2, _⟩ := first_begin n hn0 7 a
  obtain ⟨b3, b4⟩ := keeps_more n a ⟨#[111, 116, 104, 101, 114]⟩
  have G1 := Lib.hid b1; clear b1
  have G2 := Lib.hid b2; clear b2
  have G3 := Lib.hid b3; clear b3
  have G4 := Lib.hid b4; clear b4
  have O0 : Hid (Ok [] n) := Lib.hid (ok_nil n)
  have O1 : Hid (Ok [new 7] n) := Lib.hid (by have := startF_ok (ok_nil n) (x := 7) (by omega) (by omega) hn0; rw [G1.out] at this; exact this)
  have O2 : Hid (Ok [⟨7, a, true⟩] n) := Lib.hid (by have := endF_ok O1.out (x := 7) (a := a); rw [G2.out] at this; exact this)
  go_enter Try.func4, Try.ntmps4
  go_wp2_with fail
  (with_reducible refine (awake_any _).mono ?_)
  rintro e w1 ⟨rfl, hb⟩
  have hB := hb
  clear hb
  have y1 := hB.size
  go_wp2_with fail
  with_reducible refine (new_t _ n rfl _ (by omega) (by omega)).mono ?_
  rintro e w2 ⟨T, M, rfl, h, hb⟩
  replace hB := below_next (w := w) hB hb
  clear hb
  have H := Lib.hid h; clear h
  go_wp2_with fail
  with_reducible refine (start_t _ T M _ n _ [] 7 H.out O0.out (by omega) (by omega) (by omega) (by omega) (by omega) _ _ G1.out).mono ?_
  rintro e w3 ⟨rfl, hn, hm⟩
  replace hB := hB.trans (hm.below.mono y1)
  clear hm H
  have H := Lib.hid hn; clear hn
  go_wp2_with fail
  with_reducible refine (end_t _ T M _ n _ [new 7] 7 a H.out (by omega) (by omega) (by omega) _ _ G2.out).mono ?_
  rintro e w4 ⟨rfl, hn, hm⟩
  replace hB := hB.trans (hm.below.mono y1)
  clear hm H
  have H := Lib.hid hn; clear hn
  go_wp2_with fail
  with_reducible refine (end_t _ T M _ n _ [⟨7, a, true⟩] 7 _ H.out (by omega) (by omega) (by omega) _ _ G3.out).mono ?_
  rintro e w5 ⟨rfl, hn, hm⟩
  replace hB := hB.trans (hm.below.mono y1)
  clear hm H
  have H := Lib.hid hn; clear hn
  go_wp2_with fail
  with_reducible refine (start_t _ T M _ n _ [⟨7, a, true⟩] 7 H.out O2.out (by omega) (by omega) (by omega) (by omega) (by omega) _ _ G4.out).mono ?_
  rintro e w6 ⟨rfl, hn, hm⟩
  replace hB := hB.trans (hm.below.mono y1)
  clear hm H
  have H := Lib.hid hn; clear hn
  go_wp2_with fail
  go_loopw [11] (fun i wr => ∃ i1 m : Nat, i1 ≤ k ∧ i = .int .i64 i1 ∧ m ≤ 4 + 2 * i1 ∧ TabAt wr T M w1.heap.size n m (keepsL n a i1) ∧ Below w.heap.size w wr) (fun i _ => k - (intOf i).toNat)
  case atStart => exact ⟨0, 4, by omega, rfl, by omega, by rw [keeps_at n a hn0]; exact H.out, hB⟩
  case round =>
    clear hB H
    obtain ⟨i1, m, hi, rfl, hm4, h, hB⟩ := hrel
    have H := Lib.hid h; clear h
    by_cases hlt : i1 < k
    · obtain ⟨X, x1, x2⟩ := keeps_step n hn0 a i1
      have hok := keeps_ok n a i1 (by omega)
      have X1 := Lib.hid x1; clear x1
      have X2 := Lib.hid x2; clear x2
      have HOK := Lib.hid hok; clear hok
      go_wp2_with fail
      with_reducible refine (start_t _ T M _ n _ (keepsL n a i1) (100 + (i1 : Int)) H.out HOK.out (by omega) (by omega) (by omega) (by omega) (by omega) _ _ X1.out).mono ?_
      rintro e w3 ⟨rfl, hn, hm⟩
      replace hB := hB.trans (hm.below.mono y1)
      clear hm H
      have H := Lib.hid hn; clear hn
      go_wp2_with fail
      with_reducible refine (end_t _ T M _ n _ X (100 + (i1 : Int)) _ H.out (by omega) (by omega) (by omega) _ _ X2.out).mono ?_
      rintro e w4 ⟨rfl, hn, hm⟩
      replace hB := hB.trans (hm.below.mono y1)
      clear hm H
      have H := Lib.hid hn; clear hn
      go_wp2_with fail
      go_roundw
      case rel => exact ⟨i1 + 1, m + 1 + 1, by omega, by go_num, by omega, H.out, hB⟩
      case measure => simp [intOf]; omega
    · have hik : i1 = k := by omega
      subst hik
      have hf := keeps_find n a i1
      have hlen := keeps_length n a i1
      by_cases hkn : i1 < n
      · rw [if_pos hkn] at hf
        rw [show min n (i1 + 1) = i1 + 1 by omega] at hlen
        have HF := Lib.hid hf; clear hf
        have HL := Lib.hid hlen; clear hlen
        have hd1 : decide ((i1 : Int) < (n : Int)) = true := by simpa using hkn
        go_wp2_with fail
        with_reducible refine (find_t _ T M _ n _ (keepsL n a i1) 7 H.out (by omega) (by omega) _ _ _ HF.out).mono ?_
        rintro e w3 ⟨rfl, hb⟩
        have hn := H.out.below hb
        replace hB := below_next (w := w) hB hb
        clear hb H
        have H := Lib.hid hn; clear hn
        go_wp2_with (go_at_call 16; (with_reducible refine (len_v _ T M _ n _ (keepsL n a i1) (i1 + 1) H.out HL.out).mono ?_); rintro e w9 ⟨rfl, rfl⟩)
        all_goals
          go_ret
          exact ⟨ret_bool (by first | rfl | (simp; done) | (simp; omega)), hB⟩
      · rw [if_neg hkn] at hf
        rw [show min n (i1 + 1) = n by omega] at hlen
        have HF := Lib.hid hf; clear hf
        have HL := Lib.hid hlen; clear hlen
        have hd1 : decide ((i1 : Int) < (n : Int)) = false := by simp; omega
        go_wp2_with fail
        with_reducible refine (find_t _ T M _ n _ (keepsL n a i1) 7 H.out (by omega) (by omega) _ _ _ HF.out).mono ?_
        rintro e w3 ⟨rfl, hb⟩
        have hn := H.out.below hb
        replace hB := below_next (w := w) hB hb
        clear hb H
        have H := Lib.hid hn; clear hn
        go_wp2_with (go_at_call 16; (with_reducible refine (len_v _ T M _ n _ (keepsL n a i1) n H.out HL.out).mono ?_); rintro e w9 ⟨rfl, rfl⟩)
        all_goals
          go_ret
          exact ⟨ret_bool (by first | rfl | (simp; done) | (simp; omega)), hB⟩
end Go.Proofs.Ytlncekdoaddifaa
