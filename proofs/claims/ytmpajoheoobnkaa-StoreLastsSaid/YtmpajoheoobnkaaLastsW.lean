/- The law StoreLasts, walked. -/
import Derived.Test.YtmpajoheoobnkaaPuts
namespace Go.Proofs.Ytmpajoheoobnkaa
set_option linter.unusedSimpArgs false
set_option linter.unusedVariables false
open Go.RowKit

structure RowV where
  B : Option Addr
  n : Nat
  c : Nat
  zs : List Int
instance : Inhabited RowV := ⟨⟨none, 0, 0, []⟩⟩
def RowAt (w : World) (A : Option Addr) (i : Nat) (v : RowV) : Prop :=
  ∃ b o, A = some ⟨b, o, none⟩ ∧ b < w.heap.size ∧ w.cell? ⟨b, o + i, none⟩ = some (.slice v.B v.n v.c) ∧ v.zs.length = v.n ∧ v.n ≤ 9223372036854775807 ∧ IntsAt w v.B .u8 v.zs
theorem u16_mod (a : Int) : IntKind.u16.wrap a = a % 65536 := by first | rfl | (simp [IntKind.wrap, IntKind.bits, IntKind.signed])
set_option maxRecDepth 100000 in
set_option maxHeartbeats 4000000 in
theorem lasts_walk (room f : Int) (A : Option Addr) (len cap : Nat) (z : Nat → RowV) (w : World) (r0 : 0 ≤ room) (r1 : room ≤ 255) (f0 : 0 ≤ f) (f1 : f ≤ 65535) (hl : len ≤ 9223372036854775807) (hz : ∀ i, i < len → RowAt w A i (z i)) :
    Calls Try.prog 4 #[.int .u8 room, .int .u16 f, .slice A len cap] w fun e w' => e = .returned (.bool true) ∧ Below w.heap.size w w' := by
  have HZ := Lib.hid hz; clear hz
  by_cases h120 : 120 < len
  · go_enter Try.func4, Try.ntmps4
    go_wp2_with fail
    (with_reducible refine (awake_any _).mono ?_)
    rintro e w1 ⟨rfl, hB⟩
    go_wp2_with fail
    go_ret
    exact ⟨rfl, hB⟩
  obtain ⟨n, hn⟩ : ∃ n : Nat, room % 60 + 1 = n := ⟨(room % 60 + 1).toNat, by omega⟩
  have hn0 : 1 ≤ n := by omega
  have hn1 : n ≤ 4096 := by omega
  go_enter Try.func4, Try.ntmps4
  go_wp2_with fail
  (with_reducible refine (awake_any _).mono ?_)
  rintro e w1 ⟨rfl, hB⟩
  have y2 : w.heap.size ≤ w1.heap.size := hB.size
  go_wp2_with fail
  (with_reducible refine (new_t n n rfl _ (by omega) (by omega)).mono ?_)
  rintro e w3 ⟨S, R, M, rfl, h, hb⟩
  replace hB := below_next (w := w) hB hb
  clear hb
  go_wp2_with fail
  go_loopw [10] (fun i wr => ∃ (k : Nat) (rg : List RE), k ≤ len ∧ i = .int .i64 k ∧ Hid (∀ j, j < k → (z j).n ≤ 60) ∧ StoreAt wr S R M w1.heap.size w1.heap.size n k k (lastN n (lastsL f (fun i => (z i).zs) k)) rg ∧ Below w.heap.size w wr) (fun i _ => len - (intOf i).toNat)
  case atStart => exact ⟨0, _, by omega, rfl, Lib.hid (fun j hj => absurd hj (by omega)), (by rw [show lastN n (lastsL f (fun i => (z i).zs) 0) = [] from lastN_nil n]; exact h), hB⟩
  case round =>
    clear h hB
    obtain ⟨k, rg, hk, rfl, HS, h, hB⟩ := hrel
    by_cases hlt : k < len
    · have HP : Hid (∀ (v : RowV), z k = v → addK n (lastN n (lastsL f (fun i => (z i).zs) k)) (seqI f k, v.zs) = lastN n (lastsL f (fun i => (z i).zs) (k + 1))) := Lib.hid (fun v hv => by subst hv; rw [addK_lastN hn0, lasts_succ])
      have HS1 : Hid (∀ (v : RowV), z k = v → v.n ≤ 60 → ∀ j, j < k + 1 → (z j).n ≤ 60) := Lib.hid (fun v hv hvn j hj => by
        by_cases e : j = k
        · rw [e, hv]; exact hvn
        · exact HS.out j (by omega))
      obtain ⟨ab, ao, hA, hab, d1, hzl, hzn, hzz⟩ := HZ.out k hlt
      obtain ⟨v, hv⟩ : ∃ v, z k = v := ⟨_, rfl⟩
      rw [hv] at d1 hzl hzn hzz
      have HV := Lib.hid hv
      obtain ⟨V, vn, vc, zs⟩ := v
      dsimp only at d1 hzl hzn hzz
      clear hv
      subst hA
      have HQ := Lib.hid (HP.out ⟨V, vn, vc, zs⟩ HV.out)
      clear HP
      generalize hL' : lastN n (lastsL f (fun i => (z i).zs) (k + 1)) = L' at *
      have HL' := Lib.hid hL'; clear hL'
      generalize lastN n (lastsL f (fun i => (z i).zs) k) = L at *
      have e1 := (hB.cell (p := ⟨ab, ao + k, none⟩) hab).trans d1
      have hb1 := Nat.lt_of_lt_of_le hab hB.size
      have hzr := Lib.hid (hzz.below rfl hB)
      by_cases h60 : 60 < vn
      · go_wp2_with fail
        go_ret
        exact ⟨rfl, hB⟩
      have hwk : IntKind.u16.wrap (k : Int) = k := by rw [u16_mod]; omega
      have hs0 : 0 ≤ IntKind.u16.wrap (f + (k : Int)) := by rw [u16_mod]; omega
      have hs1 : IntKind.u16.wrap (f + (k : Int)) ≤ 65535 := by rw [u16_mod]; omega
      go_wp2_with fail
      (with_reducible refine (add_k wr S R M _ _ n k k L rg h hn0 hn1 (IntKind.u16.wrap (f + (k : Int))) hs0 hs1 V vn vc zs hzl (by omega) hzr.out (by omega)).mono ?_)
      rintro e w6 ⟨rfl, ⟨rg6, h6⟩, hMv6⟩
      have hB6 : Below w.heap.size w w6 := hB.trans (hMv6.below.mono y2)
      have h7 : StoreAt w6 S R M w1.heap.size w1.heap.size n (k + 1) (k + 1) L' rg6 := by rw [← HQ.out]; exact h6
      clear h hB hMv6 e1 hb1 h6 hzr
      go_wp2_with fail
      go_roundw
      case rel => exact ⟨k + 1, rg6, by omega, by go_num, Lib.hid (HS1.out _ HV.out (by dsimp only; omega)), by rw [HL'.out]; exact h7, hB6⟩
      case measure => simp [intOf]; omega
    · have hkl : k = len := by omega
      subst hkl
      go_wp2_with fail
      go_loopw [11] (fun i wr => ∃ (j : Nat), j ≤ k ∧ i = .int .i64 j ∧ StoreAt wr S R M w1.heap.size w1.heap.size n k k (lastN n (lastsL f (fun i => (z i).zs) k)) rg ∧ Below w.heap.size w wr) (fun i _ => k - (intOf i).toNat)
      case atStart => exact ⟨0, by omega, rfl, h, hB⟩
      case round =>
        clear h hB
        obtain ⟨j, hj, rfl, h, hB⟩ := hrel
        by_cases hlt2 : j < k
        · have hwk : IntKind.u16.wrap (j : Int) = j := by rw [u16_mod]; omega
          have hs0 : 0 ≤ IntKind.u16.wrap (f + (j : Int)) := by rw [u16_mod]; omega
          have hs1 : IntKind.u16.wrap (f + (j : Int)) ≤ 65535 := by rw [u16_mod]; omega
          have h60 := HS.out j hlt2
          by_cases hin : k - n ≤ j
          · obtain ⟨ab, ao, hA, hab, d1, hzl, hzn, hzz⟩ := HZ.out j hlt2
            have hge : (k : Int) - (n : Int) ≤ (j : Int) := by omega
            obtain ⟨p, hp, hpz⟩ := lasts_found (f := f) (z := fun i => (z i).zs) (n := n) (k := k) (i := j) (by omega) hlt2 hin
            rw [show seqI f j = IntKind.u16.wrap (f + (j : Int)) from rfl] at hp
            obtain ⟨v, hv⟩ : ∃ v, z j = v := ⟨_, rfl⟩
            have HPZ : Hid (∀ hj : p < (lastN n (lastsL f (fun i => (z i).zs) k)).length, (lastN n (lastsL f (fun i => (z i).zs) k))[p].2 = v.zs) := Lib.hid (fun hj => by rw [hpz hj, hv])
            clear hpz
            rw [hv] at d1 hzl hzn hzz h60
            clear hv
            obtain ⟨V, vn, vc, zs⟩ := v
            dsimp only at d1 hzl hzn hzz h60 HPZ
            subst hA
            subst hzl
            generalize hLL : lastN n (lastsL f (fun i => (z i).zs) k) = L at *
            have HLL := Lib.hid hLL; clear hLL
            go_wp2_with fail
            (with_reducible refine (get_k wr S R M _ _ n k k L rg h hn0 hn1 (IntKind.u16.wrap (f + (j : Int))) hs0 hs1 p hp zs HPZ.out zs.length rfl (by omega)).mono ?_)
            rintro e w8 ⟨g, rfl, hg, gz, hb⟩
            have hB8 := below_next (w := w) hB hb
            have h8 := h.below hb
            clear h hB hb hp HPZ
            have e1 := (hB8.cell (p := ⟨ab, ao + j, none⟩) hab).trans d1
            have hb1 := Nat.lt_of_lt_of_le hab hB8.size
            have hst : ∀ m, (convert 30 9 (.slice (some ⟨g, 0, none⟩) zs.length zs.length)).run Try.prog (w8.drewN m) = .ok (.string (strOfNums zs)) (w8.drewN m) := fun m => str_at (w := w8.drewN m) (ints_blk hg) rfl
            have hst2 : ∀ m, (convert 30 9 (.slice V zs.length vc)).run Try.prog (w8.drewN m) = .ok (.string (strOfNums zs)) (w8.drewN m) := fun m => str_at (w := w8.drewN m) (hzz.below rfl (below_drewN hB8 m)) rfl
            clear hg hzz
            go_upto_region 18 with fail
            go_quiet (fail)
            all_goals
              go_wp2_with fail
              go_roundw
              case rel => exact ⟨j + 1, by omega, by go_num, by (try rw [HLL.out]); first | exact h8 | exact h8.drew | exact h8.drewN _, by first | exact hB8 | exact below_drew hB8 | exact below_drewN hB8 _⟩
              case measure => simp [intOf]; omega
          · have hge : decide ((k : Int) - (n : Int) ≤ (j : Int)) = false := decide_eq_false (by omega)
            have hp := lasts_gone (f := f) (z := fun i => (z i).zs) (n := n) (k := k) (i := j) (by omega) (by omega) (by omega)
            rw [show seqI f j = IntKind.u16.wrap (f + (j : Int)) from rfl] at hp
            generalize hLL : lastN n (lastsL f (fun i => (z i).zs) k) = L at *
            have HLL := Lib.hid hLL; clear hLL
            go_wp2_with fail
            (with_reducible refine (get_none wr S R M _ _ n k k L rg h (IntKind.u16.wrap (f + (j : Int))) hs0 hs1 hp).mono ?_)
            rintro e w8 ⟨rfl, rfl⟩
            go_upto_region 18 with fail
            go_quiet (fail)
            all_goals
              go_wp2_with fail
              go_roundw
              case rel => exact ⟨j + 1, by omega, by go_num, by (try rw [HLL.out]); first | exact h | exact h.drew | exact h.drewN _, by first | exact hB | exact below_drew hB | exact below_drewN hB _⟩
              case measure => simp [intOf]; omega
        · have hs0 : 0 ≤ IntKind.u16.wrap (f - 1) := by rw [u16_mod]; omega
          have hs1 : IntKind.u16.wrap (f - 1) ≤ 65535 := by rw [u16_mod]; omega
          have hp := lasts_before (f := f) (x := IntKind.u16.wrap (f - 1)) (z := fun i => (z i).zs) (n := n) (k := k) (by omega) (u16_mod _)
          have hlen : (lastN n (lastsL f (fun i => (z i).zs) k)).length = min k n := by rw [lastN_length, lasts_length]
          generalize lastN n (lastsL f (fun i => (z i).zs) k) = L at *
          go_wp2_with fail
          (with_reducible refine (get_none wr S R M _ _ n k k L rg h (IntKind.u16.wrap (f - 1)) hs0 hs1 hp).mono ?_)
          rintro e w8 ⟨rfl, rfl⟩
          rcases Nat.lt_or_ge k n with hc | hc
          · have hmn : (k : Int) < (n : Int) := by omega
            have hll : L.length = k := by omega
            go_wp2_with (first | (go_at_call 15; (with_reducible refine (len_t _ S R M _ _ n k k L rg (by first | exact h | exact h.drew | exact h.drewN _) _ hll).mono ?_); rintro e w9 ⟨rfl, rfl⟩))
            go_ret
            exact ⟨by first | rfl | (simp; done) | (simp; omega), by first | exact hB | exact below_drew hB | exact below_drewN hB _⟩
          · have hmn : (n : Int) ≤ (k : Int) := by omega
            have hll : L.length = n := by omega
            go_wp2_with (first | (go_at_call 15; (with_reducible refine (len_t _ S R M _ _ n k k L rg (by first | exact h | exact h.drew | exact h.drewN _) _ hll).mono ?_); rintro e w9 ⟨rfl, rfl⟩))
            go_ret
            exact ⟨by first | rfl | (simp; done) | (simp; omega), by first | exact hB | exact below_drew hB | exact below_drewN hB _⟩
end Go.Proofs.Ytmpajoheoobnkaa
