/- The law StoreTwice, walked. -/
import Derived.Test.YtmpajoheoobnkaaPuts
namespace Go.Proofs.Ytmpajoheoobnkaa
set_option linter.unusedSimpArgs false
set_option linter.unusedVariables false
open Go.RowKit

set_option maxRecDepth 100000 in
set_option maxHeartbeats 4000000 in
theorem twice_walk (room : Int) (A C : Option Addr) (len cap len2 cap2 : Nat) (xs ys : List Int) (oth : Int) (w : World) (r0 : 0 ≤ room) (r1 : room ≤ 255) (o0 : 0 ≤ oth) (o1 : oth ≤ 255) (na : xs.length = len) (nb : ys.length = len2) (l1 : len ≤ 9223372036854775807) (l2 : len2 ≤ 9223372036854775807) (ha : IntsAt w A .u8 xs) (hb : IntsAt w C .u8 ys) :
    Calls Try.prog 6 #[.int .u8 room, .slice A len cap, .slice C len2 cap2, .int .u8 oth] w fun e w' => e = .returned (.bool true) ∧ Below w.heap.size w w' := by
  obtain ⟨n, hn⟩ : ∃ n : Nat, room % 20 + 1 = n := ⟨(room % 20 + 1).toNat, by omega⟩
  have hn0 : 1 ≤ n := by omega
  have hn1 : n ≤ 4096 := by omega
  obtain ⟨k, hk⟩ : ∃ k : Nat, oth % 30 = k := ⟨(oth % 30).toNat, by omega⟩
  have hk30 : k < 30 := by omega
  have HA := Lib.hid ha; clear ha
  have HB := Lib.hid hb; clear hb
  have HNA := Lib.hid na; clear na
  have HNB := Lib.hid nb; clear nb
  by_cases hs1 : 60 < len
  · go_enter Try.func6, Try.ntmps6
    go_wp2_with fail
    (with_reducible refine (awake_any _).mono ?_)
    rintro e w1 ⟨rfl, hB⟩
    go_wp2_with fail
    (try go_quiet (fail))
    go_wp2_with fail
    go_ret
    exact ⟨rfl, by first | exact hB | exact below_drewN hB _ | go_grown⟩
  by_cases hs2 : 60 < len2
  · go_enter Try.func6, Try.ntmps6
    go_wp2_with fail
    (with_reducible refine (awake_any _).mono ?_)
    rintro e w1 ⟨rfl, hB⟩
    go_wp2_with fail
    (try go_quiet (fail))
    go_wp2_with fail
    go_ret
    exact ⟨rfl, by first | exact hB | exact below_drewN hB _ | go_grown⟩
  go_enter Try.func6, Try.ntmps6
  go_wp2_with fail
  (with_reducible refine (awake_any _).mono ?_)
  rintro e w1 ⟨rfl, hB⟩
  go_wp2_with fail
  (try go_quiet (fail))
  go_wp2_with fail
  (with_reducible refine (new_t n n rfl _ (by omega) (by omega)).mono ?_)
  rintro e w3 ⟨S, R, M, rfl, h, hb⟩
  have hB3 := below_next (w := w) hB hb
  have y1 : w.heap.size ≤ w1.heap.size := hB.size
  clear hB hb
  have h0 : StoreAt w3 S R M w1.heap.size w1.heap.size n 0 0 (lastN n []) (List.replicate n re0) := by rw [lastN_nil]; exact h
  clear h
  have hi3 := Lib.hid (HA.out.below rfl hB3)
  go_wp2_with fail
  (with_reducible refine (add_k w3 S R M _ _ n 0 0 _ _ h0 hn0 hn1 9 (by omega) (by omega) A len cap xs HNA.out (by omega) hi3.out (by omega)).mono ?_)
  rintro e w4 ⟨rfl, ⟨rg4, h4⟩, hMv4⟩
  rw [addK_lastN hn0] at h4
  have hB4 : Below w.heap.size w w4 := hB3.trans (hMv4.below.mono y1)
  clear h0 hB3 hMv4 hi3
  have hi4 := Lib.hid (HB.out.below rfl hB4)
  go_wp2_with fail
  (with_reducible refine (add_k w4 S R M _ _ n 1 1 _ _ h4 hn0 hn1 9 (by omega) (by omega) C len2 cap2 ys HNB.out (by omega) hi4.out (by omega)).mono ?_)
  rintro e w5 ⟨rfl, ⟨rg5, h5⟩, hMv5⟩
  rw [addK_lastN hn0] at h5
  have hB5 : Below w.heap.size w w5 := hB4.trans (hMv5.below.mono y1)
  clear h4 hB4 hMv5 hi4
  go_wp2_with fail
  go_loopw [13] (fun i wr => ∃ (i1 : Nat) (rg : List RE), i1 ≤ k ∧ i = .int .i64 i1 ∧ StoreAt wr S R M w1.heap.size w1.heap.size n (i1 + 2) (i1 + 2) (lastN n (twiceL xs ys i1)) rg ∧ Below w.heap.size w wr) (fun i _ => k - (intOf i).toNat)
  case atStart => exact ⟨0, rg5, by omega, rfl, h5, hB5⟩
  case round =>
    clear h5 hB5
    obtain ⟨i1, rg, hi1, rfl, h, hB⟩ := hrel
    by_cases hlt : i1 < k
    · have hi := Lib.hid (HA.out.below rfl hB)
      have hw16 : IntKind.u16.wrap (100 + (i1 : Int)) = 100 + (i1 : Int) := by simp [IntKind.wrap, IntKind.bits, IntKind.signed]; omega
      go_wp2_with fail
      (with_reducible refine (add_k wr S R M _ _ n (i1 + 2) (i1 + 2) _ _ h hn0 hn1 (100 + (i1 : Int)) (by omega) (by omega) A len cap xs HNA.out (by omega) hi.out (by omega)).mono ?_)
      rintro e w6 ⟨rfl, ⟨rg6, h6⟩, hMv6⟩
      rw [addK_lastN hn0] at h6
      have h6' : StoreAt w6 S R M w1.heap.size w1.heap.size n (i1 + 1 + 2) (i1 + 1 + 2) (lastN n (twiceL xs ys (i1 + 1))) rg6 := by rw [twice_succ]; exact h6
      have hB6 : Below w.heap.size w w6 := hB.trans (hMv6.below.mono y1)
      clear h hB h6 hi hMv6
      go_wp2_with fail
      go_roundw
      case rel => exact ⟨i1 + 1, rg6, by omega, by go_num, h6', hB6⟩
      case measure => simp [intOf]; omega
    · have hik : i1 = k := by omega
      subst hik
      have hlen : (lastN n (twiceL xs ys i1)).length = min n (i1 + 2) := by rw [lastN_length, twice_length]; omega
      by_cases hkn : i1 < n
      · obtain ⟨j, hj, hjz⟩ := twice_found (a := xs) (b := ys) hn0 hkn
        generalize lastN n (twiceL xs ys i1) = L at *
        go_wp2_with fail
        (with_reducible refine (get_k wr S R M _ _ n (i1 + 2) (i1 + 2) L rg h hn0 hn1 9 (by omega) (by omega) j hj ys (fun hj => by rw [hjz hj]) len2 HNB.out (by omega)).mono ?_)
        rintro e w8 ⟨g, rfl, hg, gz, hb⟩
        have hB8 := below_next (w := w) hB hb
        have h8 := h.below hb
        clear h hB hb hj hjz
        have hst : (convert 30 9 (.slice (some ⟨g, 0, none⟩) len2 len2)).run Try.prog w8.drew = .ok (.string (strOfNums ys)) w8.drew := str_at (w := w8.drew) (ints_blk hg) HNB.out.symm
        have hst2 : (convert 30 9 (.slice C len2 cap2)).run Try.prog w8.drew = .ok (.string (strOfNums ys)) w8.drew := str_at (w := w8.drew) (HB.out.below rfl (below_drew hB8)) HNB.out.symm
        have hst0 : (convert 30 9 (.slice (some ⟨g, 0, none⟩) len2 len2)).run Try.prog w8 = .ok (.string (strOfNums ys)) w8 := str_at (ints_blk hg) HNB.out.symm
        have hst3 : (convert 30 9 (.slice C len2 cap2)).run Try.prog w8 = .ok (.string (strOfNums ys)) w8 := str_at (HB.out.below rfl hB8) HNB.out.symm
        clear hg
        generalize strOfNums ys = sb at *
        rcases Nat.lt_or_ge (i1 + 2) n with hc | hc
        · have hmn : (i1 : Int) + 2 < (n : Int) := by omega
          have hll : L.length = i1 + 2 := by omega
          have hlt2 : (i1 : Int) < (n : Int) := by omega
          go_wp2_with (first | (go_at_call 15; (with_reducible refine (len_t _ S R M _ _ n (i1 + 2) (i1 + 2) L rg (by first | exact h8 | exact h8.drew | exact h8.drewN _) _ hll).mono ?_); rintro e w9 ⟨rfl, rfl⟩))
          go_ret
          exact ⟨by first | rfl | (simp; done) | (simp; omega), by first | exact hB8 | exact below_drew hB8 | exact below_drewN hB8 _⟩
        · have hmn : (n : Int) ≤ (i1 : Int) + 2 := by omega
          have hll : L.length = n := by omega
          have hlt2 : (i1 : Int) < (n : Int) := by omega
          go_wp2_with (first | (go_at_call 15; (with_reducible refine (len_t _ S R M _ _ n (i1 + 2) (i1 + 2) L rg (by first | exact h8 | exact h8.drew | exact h8.drewN _) _ hll).mono ?_); rintro e w9 ⟨rfl, rfl⟩))
          go_ret
          exact ⟨by first | rfl | (simp; done) | (simp; omega), by first | exact hB8 | exact below_drew hB8 | exact below_drewN hB8 _⟩
      · have hj := twice_none (a := xs) (b := ys) (n := n) (k := i1) (by omega)
        generalize lastN n (twiceL xs ys i1) = L at *
        go_wp2_with fail
        (with_reducible refine (get_none wr S R M _ _ n (i1 + 2) (i1 + 2) L rg h 9 (by omega) (by omega) hj).mono ?_)
        rintro e w8 ⟨rfl, rfl⟩
        have hB8 := hB
        have h8 := h
        have hmn : (n : Int) ≤ (i1 : Int) + 2 := by omega
        have hll : L.length = n := by omega
        have hge : (n : Int) ≤ (i1 : Int) := by omega
        go_wp2_with (first | (go_at_call 15; (with_reducible refine (len_t _ S R M _ _ n (i1 + 2) (i1 + 2) L rg (by first | exact h8 | exact h8.drew | exact h8.drewN _) _ hll).mono ?_); rintro e w9 ⟨rfl, rfl⟩))
        go_ret
        exact ⟨by first | rfl | (simp; done) | (simp; omega), by first | exact hB8 | exact below_drew hB8 | exact below_drewN hB8 _⟩
end Go.Proofs.Ytmpajoheoobnkaa
