/- The law StorePlays, walked. -/
import Derived.Test.YtmpajoheoobnkaaRefW
namespace Go.Proofs.Ytmpajoheoobnkaa
set_option linter.unusedSimpArgs false
set_option linter.unusedVariables false
open Go.RowKit

set_option maxRecDepth 100000 in
set_option maxHeartbeats 4000000 in
theorem plays_walk (room : Int) (A : Option Addr) (len cap : Nat) (z : Nat → PutV) (w : World) (r0 : 0 ≤ room) (r1 : room ≤ 255) (hl : len ≤ 9223372036854775807) (hz : ∀ i, i < len → PutAt w A i (z i)) :
    Calls Try.prog 3 #[.int .u8 room, .slice A len cap] w fun e w' => e = .returned (.bool true) ∧ Below w.heap.size w w' := by
  obtain ⟨n, hn⟩ : ∃ n : Nat, room % 9 + 1 = n := ⟨(room % 9 + 1).toNat, by omega⟩
  have hn0 : 1 ≤ n := by omega
  have hn1 : n ≤ 4096 := by omega
  have HZ := Lib.hid hz; clear hz
  go_enter Try.func3, Try.ntmps3
  go_wp2_with fail
  (with_reducible refine (awake_any _).mono ?_)
  rintro e w1 ⟨rfl, hB⟩
  go_wp2_with fail
  (with_reducible refine (few_t A len cap z _ hl (fun i hi => (HZ.out i hi).below hB)).mono ?_)
  rintro e w2 ⟨⟨b, rfl, hf⟩, hb⟩
  have hB2 := below_next (w := w) hB hb
  clear hB hb
  cases b with
  | false =>
    clear hf
    go_wp2_with fail
    go_ret
    exact ⟨rfl, hB2⟩
  | true =>
  obtain ⟨h120, hsm⟩ := hf rfl
  have HS := Lib.hid hsm; clear hsm hf
  go_wp2_with fail
  (with_reducible refine (new_t n n rfl _ (by omega) (by omega)).mono ?_)
  rintro e w3 ⟨S, R, M, rfl, h, hb⟩
  have hB := below_next (w := w) hB2 hb
  have y2 : w.heap.size ≤ w2.heap.size := hB2.size
  clear hB2 hb
  go_wp2_with fail
  go_loopw [9, 10] (fun v i wr => ∃ (k m : Nat) (A9 : Option Addr) (c9 : Nat) (rg : List RE), k ≤ len ∧ i = .int .i64 k ∧ v = .slice A9 m c9 ∧ m = (lastN n (rowL (fun i => (z i).q) (fun i => (z i).zs) k)).length ∧ EAt wr A9 c9 (lastN n (rowL (fun i => (z i).q) (fun i => (z i).zs) k)) ∧ StoreAt wr S R M w2.heap.size w2.heap.size n k k (lastN n (rowL (fun i => (z i).q) (fun i => (z i).zs) k)) rg ∧ Below w.heap.size w wr) (fun _ i _ => len - (intOf i).toNat)
  case atStart =>
    have e0 : lastN n (rowL (fun i => (z i).q) (fun i => (z i).zs) 0) = [] := lastN_nil n
    exact ⟨0, 0, none, 0, _, by omega, rfl, rfl, by rw [e0]; rfl, by rw [e0]; exact .inl ⟨rfl, rfl, rfl⟩, by rw [e0]; exact h, hB⟩
  case round =>
    clear h hB
    obtain ⟨k, m9, A9, c9, rg, hk, rfl, rfl, hm9, hE, h, hB⟩ := hrel
    by_cases hlt : k < len
    · have hlim := lastN_length n (rowL (fun i => (z i).q) (fun i => (z i).zs) k)
      rw [row_length] at hlim
      have HP : Hid (∀ (v : PutV), z k = v → addK n (lastN n (rowL (fun i => (z i).q) (fun i => (z i).zs) k)) (v.q, v.zs) = lastN n (rowL (fun i => (z i).q) (fun i => (z i).zs) (k + 1))) := Lib.hid (fun v hv => by subst hv; rw [addK_lastN hn0, row_succ])
      have hs60 := HS.out k hlt
      obtain ⟨ab, ao, hA, hab, d0, d1, q0, q1, hzl, hzn, hzz⟩ := HZ.out k hlt
      obtain ⟨v, hv⟩ : ∃ v, z k = v := ⟨_, rfl⟩
      rw [hv] at d0 d1 q0 q1 hzl hzn hzz hs60
      have HV := Lib.hid hv
      obtain ⟨q, V, vn, vc, zs⟩ := v
      dsimp only at d0 d1 q0 q1 hzl hzn hzz hs60
      clear hv
      subst hA
      have HQ := Lib.hid (HP.out ⟨q, V, vn, vc, zs⟩ HV.out)
      have HLS : Hid (∀ p ∈ lastN n (rowL (fun i => (z i).q) (fun i => (z i).zs) (k + 1)), p.2.length ≤ 1000000) := Lib.hid (fun p hp => by
        have := mem_lastN hp
        unfold rowL at this
        obtain ⟨i, hi, rfl⟩ := List.mem_map.1 this
        have hik := List.mem_range.1 hi
        obtain ⟨_, _, _, _, _, _, _, _, e8, _, _⟩ := HZ.out i (by omega)
        have := HS.out i (by omega)
        show (z i).zs.length ≤ 1000000
        omega)
      clear HP
      have hL2 := lastN_length n (rowL (fun i => (z i).q) (fun i => (z i).zs) (k + 1))
      rw [row_length] at hL2
      generalize hL' : lastN n (rowL (fun i => (z i).q) (fun i => (z i).zs) (k + 1)) = L' at *
      have HL' := Lib.hid hL'; clear hL'
      generalize lastN n (rowL (fun i => (z i).q) (fun i => (z i).zs) k) = L at *
      subst hm9
      have HLIM := Lib.hid hlim; clear hlim
      have HL2 := Lib.hid hL2; clear hL2
      have e0 := (hB.cell (p := ⟨ab, ao + k * 2, none⟩) hab).trans d0
      have e1 := (hB.cell (p := ⟨ab, ao + k * 2 + 1, none⟩) hab).trans d1
      have hb1 := Nat.lt_of_lt_of_le hab hB.size
      have hzr := hzz.below rfl hB
      have HZD : Hid (IntsAt wr.drew V .u8 zs) := Lib.hid hzr; clear hzr
      go_upto_region 13 with fail
      go_still_tail 11, (by kernel_rfl)
      go_wp2_with fail
      (with_reducible refine (add_k wr.drew S R M _ _ n k k L rg h.drew hn0 hn1 q q0 q1 V vn vc zs hzl (by omega) HZD.out (by omega)).mono ?_)
      rintro e w6 ⟨rfl, ⟨rg6, h6⟩, hMv6⟩
      have hB6 : Below w.heap.size w w6 := (below_drew hB).trans (hMv6.below.mono y2)
      have hE6 := EAt.moved (w := wr.drew) hE h.drew hMv6
      rw [HQ.out] at h6
      clear h hB hMv6 e0 e1 hb1 hE HZD
      have e0 := (hB6.cell (p := ⟨ab, ao + k * 2, none⟩) hab).trans d0
      have e1 := (hB6.cell (p := ⟨ab, ao + k * 2 + 1, none⟩) hab).trans d1
      have hb1 := Nat.lt_of_lt_of_le hab hB6.size
      have hst : ∀ m, (convert 30 9 (.slice V vn vc)).run Try.prog (w6.drewN m) = .ok (.string (strOfNums zs)) (w6.drewN m) := fun m => str_at (w := w6.drewN m) (hzz.below rfl (below_drewN hB6 m)) hzl.symm
      have hst2 : (convert 30 9 (.slice V vn vc)).run Try.prog w6.drew = .ok (.string (strOfNums zs)) w6.drew := str_at (w := w6.drew) (hzz.below rfl (below_drew hB6)) hzl.symm
      have hE6d : EAt w6.drew A9 c9 L := hE6
      clear hE6
      go_upto_region 14 with fail
      go_still_tail 13, (by kernel_rfl)
      go_wp2_with fail
      (with_reducible refine (refAdd w6.drew A9 c9 n L q (strOfNums zs) zs rfl hE6d hn0 hn1 (by have := HLIM.out; omega)).mono ?_)
      rintro e w7 ⟨A7, c7, rfl, hE7, hb⟩
      rw [HQ.out] at hE7
      have hB7 := below_next (w := w) (below_drew hB6) hb
      have h7 : StoreAt w7 S R M w2.heap.size w2.heap.size n (k + 1) (k + 1) L' rg6 := h6.drew.below hb
      clear h6 hB6 hE6d e0 e1 hb1 hst hst2 hb
      rw [HQ.out]
      go_wp2_with fail
      go_loopw [11] (fun i wr => ∃ j : Nat, j ≤ k + 1 ∧ i = .int .i64 j ∧ EAt wr A7 c7 L' ∧ StoreAt wr S R M w2.heap.size w2.heap.size n (k + 1) (k + 1) L' rg6 ∧ Below w.heap.size w wr) (fun i _ => k + 1 - (intOf i).toNat)
      case atStart => exact ⟨0, by omega, rfl, hE7, h7, hB7⟩
      case round =>
        clear h7 hB7 hE7
        obtain ⟨j, hj, rfl, hE, h, hB⟩ := hrel
        by_cases hlt2 : j < k + 1
        · have hjk : (j : Int) ≤ (k : Int) := by omega
          obtain ⟨ab2, ao2, hA2, hab2, d02, _, q02, q12, _, _, _⟩ := HZ.out j (by omega)
          cases hA2
          generalize (z j).q = x at *
          obtain ⟨v, hv⟩ : ∃ v, (lastF L' x).map (fun j => (L'.getD j (0, [])).2) = v := ⟨_, rfl⟩
          have HVV := Lib.hid hv; clear hv
          have e0 := (hB.cell (p := ⟨ab, ao + j * 2, none⟩) hab).trans d02
          have hb1 := Nat.lt_of_lt_of_le hab hB.size
          go_wp2_with fail
          (with_reducible refine (get_t wr S R M _ _ n (k + 1) (k + 1) L' rg6 h hn0 hn1 x q02 q12 v HVV.out HLS.out).mono ?_)
          rintro e w8 ⟨A8, k8, c8, rfl, hI8, hk8, _, hb⟩
          subst hk8
          have hB8 := below_next (w := w) hB hb
          have h8 := h.below hb
          have hE8 := hE.below hb
          clear h hB hb hE e0 hb1
          have e0 := (hB8.cell (p := ⟨ab, ao + j * 2, none⟩) hab).trans d02
          have hb1 := Nat.lt_of_lt_of_le hab hB8.size
          go_wp2_with fail
          (with_reducible refine (refGet w8 A7 c7 L' x hE8 (by have := HL2.out; omega) v HVV.out).mono ?_)
          rintro e w9 ⟨rfl, hb⟩
          have hB9 := below_next (w := w) hB8 hb
          have h9 := h8.below hb
          have hE9 := hE8.below hb
          have hst : (convert 30 9 (.slice A8 (v.getD []).length c8)).run Try.prog w9 = .ok (.string (strOfNums (v.getD []))) w9 := str_at (hI8.below rfl hb) rfl
          have hst2 : (convert 30 9 (.slice A8 (v.getD []).length c8)).run Try.prog w9.drew = .ok (.string (strOfNums (v.getD []))) w9.drew := str_at (w := w9.drew) (hI8.below rfl (below_drew hb)) rfl
          clear hB8 h8 hE8 hb hI8 e0 hb1
          generalize strOfNums (v.getD []) = st at *
          generalize v.isSome = is at *
          go_wp2_with fail
          (try go_quiet (fail))
          go_wp2_with fail
          go_roundw
          case rel => exact ⟨j + 1, by omega, by go_num, by first | exact hE9 | exact hE9.below (below_drew (Below.refl _ _)) | exact hE9.below (below_drewN (Below.refl _ _) _), by first | exact h9 | exact h9.drew | exact h9.drewN _, by first | exact hB9 | exact below_drew hB9 | exact below_drewN hB9 _⟩
          case measure => simp [intOf]; omega
        · have hjk : (k : Int) < (j : Int) := by omega
          have hjj : j = k + 1 := by omega
          go_wp2_with (first | (go_at_call 15; (with_reducible refine (len_t _ S R M _ _ n (k + 1) (k + 1) L' rg6 (by first | exact h | exact h.drew | exact h.drewN _) L'.length rfl).mono ?_); rintro e w9 ⟨rfl, rfl⟩))
          go_roundw
          case rel => exact ⟨k + 1, L'.length, A7, c7, rg6, by omega, by go_num, rfl, by rw [HL'.out], by rw [HL'.out]; exact hE, by rw [HL'.out]; first | exact h | exact h.drew | exact h.drewN _, by first | exact hB | exact below_drew hB | exact below_drewN hB _⟩
          case measure => simp [intOf]; omega
    · go_wp2_with fail
      go_ret
      exact ⟨rfl, hB⟩
end Go.Proofs.Ytmpajoheoobnkaa
