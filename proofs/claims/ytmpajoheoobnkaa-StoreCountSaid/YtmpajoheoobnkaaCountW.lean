/- The law StoreCount, walked. -/
import Derived.Test.YtmpajoheoobnkaaPuts
namespace Go.Proofs.Ytmpajoheoobnkaa
set_option linter.unusedSimpArgs false
set_option linter.unusedVariables false
open Go.RowKit

set_option maxRecDepth 100000 in
set_option maxHeartbeats 4000000 in
theorem count_walk (room : Int) (A : Option Addr) (len cap : Nat) (z : Nat → PutV) (x : Int) (w : World) (r0 : 0 ≤ room) (r1 : room ≤ 255) (x0 : 0 ≤ x) (x1 : x ≤ 65535) (hl : len ≤ 9223372036854775807) (hz : ∀ i, i < len → PutAt w A i (z i)) :
    Calls Try.prog 7 #[.int .u8 room, .slice A len cap, .int .u16 x] w fun e w' => e = .returned (.bool true) ∧ Below w.heap.size w w' := by
  obtain ⟨n, hn⟩ : ∃ n : Nat, room % 60 + 1 = n := ⟨(room % 60 + 1).toNat, by omega⟩
  have hn0 : 1 ≤ n := by omega
  have hn1 : n ≤ 4096 := by omega
  have HZ := Lib.hid hz; clear hz
  go_enter Try.func7, Try.ntmps7
  go_wp2_with fail
  (with_reducible refine (awake_any _).mono ?_)
  rintro e w1 ⟨rfl, hB⟩
  go_wp2_with fail
  (with_reducible refine (few_t A len cap z _ hl (fun i hi => (HZ.out i hi).below hB)).mono ?_)
  rintro e w2 ⟨⟨b, rfl, hf⟩, hb⟩
  have hB2 := below_next (w := w) hB hb
  clear hB hb
  cases b with
  | false =>
    clear hf
    go_wp2_with fail
    go_ret
    exact ⟨rfl, hB2⟩
  | true =>
  obtain ⟨h120, hsm⟩ := hf rfl
  have HS := Lib.hid hsm; clear hsm hf
  go_wp2_with fail
  (with_reducible refine (new_t n n rfl _ (by omega) (by omega)).mono ?_)
  rintro e w3 ⟨S, R, M, rfl, h, hb⟩
  have hB := below_next (w := w) hB2 hb
  have y2 : w.heap.size ≤ w2.heap.size := hB2.size
  clear hB2 hb
  go_wp2_with fail
  go_loopw [11, 12] (fun th i wr => ∃ (k : Nat) (b : Bool) (rg : List RE), k ≤ len ∧ i = .int .i64 k ∧ th = .bool b ∧ Hid (b = false → ∀ j, j < k → (z j).q ≠ x) ∧ StoreAt wr S R M w2.heap.size w2.heap.size n k k (lastN n (rowL (fun i => (z i).q) (fun i => (z i).zs) k)) rg ∧ Below w.heap.size w wr) (fun _ i _ => len - (intOf i).toNat)
  case atStart => exact ⟨0, false, _, by omega, rfl, rfl, Lib.hid (fun _ j hj => absurd hj (by omega)), (by rw [show lastN n (rowL (fun i => (z i).q) (fun i => (z i).zs) 0) = [] from lastN_nil n]; exact h), hB⟩
  case round =>
    clear h hB
    obtain ⟨k, b, rg, hk, rfl, rfl, HB, h, hB⟩ := hrel
    by_cases hlt : k < len
    · have hlim := lastN_length n (rowL (fun i => (z i).q) (fun i => (z i).zs) k)
      rw [row_length] at hlim
      have HP : Hid (∀ (v : PutV), z k = v → addK n (lastN n (rowL (fun i => (z i).q) (fun i => (z i).zs) k)) (v.q, v.zs) = lastN n (rowL (fun i => (z i).q) (fun i => (z i).zs) (k + 1))) := Lib.hid (fun v hv => by subst hv; rw [addK_lastN hn0, row_succ])
      have HIS := Lib.hid (row_last (q := fun i => (z i).q) (z := fun i => (z i).zs) (n := n) (k := k) hn0)
      have HBN : Hid (∀ (v : PutV), z k = v → (b = false ∧ v.q ≠ x) → ∀ j, j < k + 1 → (z j).q ≠ x) := Lib.hid (fun v hv hb j hj => by
        by_cases e : j = k
        · rw [e, hv]; exact hb.2
        · exact HB.out hb.1 j (by omega))
      have hs60 := HS.out k hlt
      obtain ⟨ab, ao, hA, hab, d0, d1, q0, q1, hzl, hzn, hzz⟩ := HZ.out k hlt
      obtain ⟨v, hv⟩ : ∃ v, z k = v := ⟨_, rfl⟩
      rw [hv] at d0 d1 q0 q1 hzl hzn hzz hs60 HIS
      have HV := Lib.hid hv
      obtain ⟨q, V, vn, vc, zs⟩ := v
      dsimp only at d0 d1 q0 q1 hzl hzn hzz hs60 HIS
      clear hv
      subst hA
      have HQ := Lib.hid (HP.out ⟨q, V, vn, vc, zs⟩ HV.out)
      have HLS : Hid (∀ p ∈ lastN n (rowL (fun i => (z i).q) (fun i => (z i).zs) (k + 1)), p.2.length ≤ 1000000) := Lib.hid (fun p hp => by
        have := mem_lastN hp
        unfold rowL at this
        obtain ⟨i, hi, rfl⟩ := List.mem_map.1 this
        have hik := List.mem_range.1 hi
        obtain ⟨_, _, _, _, _, _, _, _, e8, _, _⟩ := HZ.out i (by omega)
        have := HS.out i (by omega)
        show (z i).zs.length ≤ 1000000
        omega)
      clear HP
      have hL2 := lastN_length n (rowL (fun i => (z i).q) (fun i => (z i).zs) (k + 1))
      rw [row_length] at hL2
      generalize hL' : lastN n (rowL (fun i => (z i).q) (fun i => (z i).zs) (k + 1)) = L' at *
      have HL' := Lib.hid hL'; clear hL'
      generalize lastN n (rowL (fun i => (z i).q) (fun i => (z i).zs) k) = L at *
      have e0 := (hB.cell (p := ⟨ab, ao + k * 2, none⟩) hab).trans d0
      have e1 := (hB.cell (p := ⟨ab, ao + k * 2 + 1, none⟩) hab).trans d1
      have hb1 := Nat.lt_of_lt_of_le hab hB.size
      have hzr := hzz.below rfl hB
      have HZZ : Hid (IntsAt wr.drew V .u8 zs) := Lib.hid hzr; clear hzr
      go_upto_region 13 with fail
      go_still_tail 11, (by kernel_rfl)
      go_wp2_with fail
      (with_reducible refine (add_k wr.drew S R M _ _ n k k L rg h.drew hn0 hn1 q q0 q1 V vn vc zs hzl (by omega) HZZ.out (by omega)).mono ?_)
      rintro e w6 ⟨rfl, ⟨rg6, h6⟩, hMv6⟩
      have hB6 : Below w.heap.size w w6 := (below_drew hB).trans (hMv6.below.mono y2)
      rw [HQ.out] at h6
      clear h hB hMv6 e0 e1 hb1
      have e0 := (hB6.cell (p := ⟨ab, ao + k * 2, none⟩) hab).trans d0
      have hb1 := Nat.lt_of_lt_of_le hab hB6.size
      go_upto_region 14 with fail
      go_cut [11] from 30 to 78 (fun s11 wx => s11 = .bool (b || decide (q = x)) ∧ Below w6.heap.size w6 wx)
      case first =>
        by_cases hqx : q = x
        · have hq1 : (q == x) = true := by rw [hqx]; exact beq_self_eq_true _
          have hq2 : decide (q = x) = true := decide_eq_true hqx
          cases b <;> (try go_quiet (fail))
          all_goals (go_wp2_with fail; go_meet; go_split_ands; exact ⟨by first | rfl | (simp [hqx]; done), (by first | (with_reducible exact Below.refl _ _) | (with_reducible exact below_drewN (Below.refl _ _) _) | (with_reducible exact below_drew (Below.refl _ _)) | go_grown)⟩)
        · have hq1 : (q == x) = false := beq_eq_false_iff_ne.2 hqx
          have hq2 : decide (q = x) = false := decide_eq_false hqx
          cases b <;> (try go_quiet (fail))
          all_goals (go_wp2_with fail; go_meet; go_split_ands; exact ⟨by first | rfl | (simp [hqx]; done), (by first | (with_reducible exact Below.refl _ _) | (with_reducible exact below_drewN (Below.refl _ _) _) | (with_reducible exact below_drew (Below.refl _ _)) | go_grown)⟩)
      case rest =>
        obtain ⟨rfl, hBx⟩ := hcut
        have hB7 := below_next (w := w) hB6 hBx
        have h7 := h6.below hBx
        obtain ⟨w7, hwc⟩ : ∃ wq, wq = wc := ⟨_, rfl⟩
        subst hwc
        clear h6 hB6 e0 hb1 hBx
        have e0 := (hB7.cell (p := ⟨ab, ao + k * 2, none⟩) hab).trans d0
        have hb1 := Nat.lt_of_lt_of_le hab hB7.size
        go_wp2_with fail
        (with_reducible refine (get_is w7 S R M _ _ n (k + 1) (k + 1) L' rg6 h7 hn0 hn1 q q0 q1 true HIS.out HLS.out).mono ?_)
        rintro e w8 ⟨A8, k8, c8, rfl, hb⟩
        have hB8 := below_next (w := w) hB7 hb
        have h8 := h7.below hb
        clear h7 hB7 hb e0 hb1
        rcases Nat.lt_or_ge (k + 1) n with hkn | hkn
        · have hLl : L'.length = k + 1 := by omega
          have hmn : (k : Int) + 1 < (n : Int) := by omega
          go_wp2_with (first | (go_at_call 15; (with_reducible refine (len_t _ S R M _ _ n (k + 1) (k + 1) L' rg6 (by first | exact h8 | exact h8.drew | exact h8.drewN _) _ hLl).mono ?_); rintro e w9 ⟨rfl, rfl⟩))
          go_roundw
          case rel => exact ⟨k + 1, b || decide (q = x), rg6, by omega, by go_num, rfl, Lib.hid (fun h => HBN.out _ HV.out (by simpa using h)), by rw [HL'.out]; first | exact h8 | exact h8.drew | exact h8.drewN _, by first | exact hB8 | exact below_drew hB8 | exact below_drewN hB8 _⟩
          case measure => simp [intOf]; omega
        · have hLl : L'.length = n := by omega
          have hmn : (n : Int) ≤ (k : Int) + 1 := by omega
          go_wp2_with (first | (go_at_call 15; (with_reducible refine (len_t _ S R M _ _ n (k + 1) (k + 1) L' rg6 (by first | exact h8 | exact h8.drew | exact h8.drewN _) _ hLl).mono ?_); rintro e w9 ⟨rfl, rfl⟩))
          go_roundw
          case rel => exact ⟨k + 1, b || decide (q = x), rg6, by omega, by go_num, rfl, Lib.hid (fun h => HBN.out _ HV.out (by simpa using h)), by rw [HL'.out]; first | exact h8 | exact h8.drew | exact h8.drewN _, by first | exact hB8 | exact below_drew hB8 | exact below_drewN hB8 _⟩
          case measure => simp [intOf]; omega
    · have hkl : k = len := by omega
      subst hkl
      obtain ⟨is, his⟩ : ∃ is, (lastF (lastN n (rowL (fun i => (z i).q) (fun i => (z i).zs) k)) x).isSome = is := ⟨_, rfl⟩
      have hno : b = false → is = false := fun hb => by rw [← his, row_none (HB.out hb)]; rfl
      have HLS : Hid (∀ p ∈ lastN n (rowL (fun i => (z i).q) (fun i => (z i).zs) k), p.2.length ≤ 1000000) := Lib.hid (fun p hp => by
        have := mem_lastN hp
        unfold rowL at this
        obtain ⟨i, hi, rfl⟩ := List.mem_map.1 this
        have hik := List.mem_range.1 hi
        obtain ⟨_, _, _, _, _, _, _, _, e8, _, _⟩ := HZ.out i (by omega)
        have := HS.out i (by omega)
        show (z i).zs.length ≤ 1000000
        omega)
      generalize lastN n (rowL (fun i => (z i).q) (fun i => (z i).zs) k) = L at *
      go_wp2_with fail
      (with_reducible refine (get_is wr S R M _ _ n k k L rg h hn0 hn1 x x0 x1 is his HLS.out).mono ?_)
      rintro e w8 ⟨A8, k8, c8, rfl, hb⟩
      have hB8 := below_next (w := w) hB hb
      cases b with
      | true =>
        go_wp2_with fail
        (try go_quiet (fail))
        go_wp2_with fail
        go_ret
        exact ⟨rfl, by first | exact hB8 | exact below_drewN hB8 _ | go_grown⟩
      | false =>
        obtain rfl := hno rfl
        go_wp2_with fail
        (try go_quiet (fail))
        go_wp2_with fail
        go_ret
        exact ⟨rfl, by first | exact hB8 | exact below_drewN hB8 _ | go_grown⟩
end Go.Proofs.Ytmpajoheoobnkaa
