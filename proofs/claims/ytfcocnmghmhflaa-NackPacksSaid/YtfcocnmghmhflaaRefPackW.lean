/- The pairs of packets, as the reference packs them. -/
import Derived.Test.YtfcocnmghmhflaaRows
import Derived.Test.YtfcocnmghmhflaaPackF
import Derived.Test.YtfcocnmghmhflaaOwn
import Derived.Test.YtfcocnmghmhflaaBits
namespace Go.Proofs.Ytfcocnmghmhflaa
set_option linter.unusedSimpArgs false
set_option linter.unusedVariables false
open Go.RowKit
theorem info29 : (Try.prog.info? 29).map (fun i => (i.zero, i.size, i.bytes)) = some (some (.agg #[.int .i64 0, .int .i64 0]), 2, 16) := by kernel_rfl
theorem two_pow_le (j : Nat) (h : j ≤ 15) : 0 < (2 : Int) ^ j ∧ (2 : Int) ^ j ≤ 32768 := by
  refine ⟨Int.pow_pos (by decide), ?_⟩
  have : 2 ^ j ≤ 2 ^ 15 := Nat.pow_le_pow_right (by decide) h
  have e : ((2 : Int) ^ j) = ((2 ^ j : Nat) : Int) := by simp
  rw [e]
  omega
set_option maxRecDepth 100000 in
set_option maxHeartbeats 1000000 in
theorem refPack_any (A : Option Addr) (len cap : Nat) (ss : List Int) (w : World) (hlen : ss.length = len) (hl : len ≤ 1000000) (hp : IntsAt w A .i64 ss) (hr : ∀ s ∈ ss, 0 ≤ s ∧ s < 65536) :
    Calls Try.prog 13 #[.slice A len cap] w fun e w' => ∃ v, e = .returned v ∧ w'.ownsRow w.heap.size 29 2 v (packF ss).length (pairCells .i64 (packF ss)) ∧ Below w.heap.size w w' := by
  subst hlen
  obtain ⟨i0, hi, hz0, hz1, hz2⟩ := info_parts info29
  have HR := Lib.hid hr; clear hr
  have HP := Lib.hid hp; clear hp
  go_enter Try.func13, Try.ntmps13
  go_wp2_with fail
  go_loopw [3, 4] (fun v i wr => ∃ k : Nat, k ≤ ss.length ∧ i = .int .i64 k ∧ wr.ownsRow w.heap.size 29 2 v (packF (ss.take k)).length (pairCells .i64 (packF (ss.take k))) ∧ Below w.heap.size w wr) (fun _ i _ => ss.length - (intOf i).toNat)
  case atStart => exact ⟨0, by omega, rfl, by simpa [packF, pairCells] using World.ownsRow_nil _ _ _ _, by go_grown⟩
  case round =>
    obtain ⟨k, hk, rfl, hown, hB⟩ := hrel
    by_cases hlt : k < ss.length
    · obtain ⟨b, o, rfl, hb, q0⟩ := HP.out k hlt
      have hs := HR.out (ss.getD k 0) (by simp [List.getD, hlt])
      have hst := Lib.hid (packF_step ss k hlt)
      have hln := packF_length (ss.take k)
      have hln2 : (ss.take k).length ≤ 1000000 := by simp; omega
      have hfit := Lib.hid (packF_fits (ss.take k) (fun x hx => HR.out x (List.mem_of_mem_take hx)))
      generalize ss.getD k 0 = s at *
      obtain ⟨s0, s1⟩ := hs
      replace q0 := (hB.cell (p := ⟨b, o + k, none⟩) hb).trans q0
      have hbr := Nat.lt_of_lt_of_le hb hB.size
      have z0 := hB.size
      generalize packF (ss.take k) = O at *
      rcases List.eq_nil_or_concat O with rfl | ⟨O, ⟨p, m⟩, rfl⟩
      · obtain ⟨A1, cap1, rfl⟩ := own_slice hown
        go_wp2_with (first
          | (at_builtin; refine wpList_append_own _ rfl (.tmp 34) (.tmp 40) 24 rfl w.heap.size 29 i0 (.agg #[.int .i64 0, .int .i64 0]) 2 16 Try.underlying24 hi hz0 hz1 hz2 rfl (by decide) _ _ _ rfl (hown.alloc _) ⟨wr.heap.size, 0, none⟩ 1 1 [.int .i64 s, .int .i64 0] rfl rfl (new_cells (by simp)) (one_cells rfl) (by unfold maxLen; first | omega | (simp only [List.length_append, List.length_cons]; omega)) (by first | omega | (simp only [List.length_append, List.length_cons]; omega)) (by have := hB.size; simp; omega) ?_; intro v1 w1 hown1 hgrow1 _))
        have hB1 : Below w.heap.size w w1 := below_grown (by go_grown) (by have := hB.size; simp; omega) (hown.alloc _) hgrow1
        go_roundw
        case rel => exact ⟨k + 1, by omega, by go_num, by rw [hst.out]; exact (by rw [packStep_nil]; simpa [pairCells] using hown1), hB1⟩
        case measure => simp [intOf]; omega
      · rw [List.concat_eq_append] at *
        have hpm := hfit.out (p, m) (by simp)
        obtain ⟨p0, p1, m0, m1⟩ := hpm
        dsimp only at p0 p1 m0 m1
        obtain ⟨g, cap1, rfl, hg, hgl, c0, c1, f0, hset⟩ := own_last hown
        have hOl : O.length ≤ 999999 := by
          rw [List.length_append] at hln
          simp only [List.length_singleton] at hln
          omega
        have HS := Lib.hid hset; clear hset
        have hd : 0 ≤ (s - p) % 65536 ∧ (s - p) % 65536 < 65536 := by omega
        obtain ⟨d0, d1⟩ := hd
        by_cases f1 : 16 < (s - p) % 65536
        · go_wp2_with fail
          go_region
          all_goals go_wp2_with (first
            | (at_builtin; refine wpList_append_own _ rfl (.tmp 34) (.tmp 40) 24 rfl w.heap.size 29 i0 (.agg #[.int .i64 0, .int .i64 0]) 2 16 Try.underlying24 hi hz0 hz1 hz2 rfl (by decide) _ _ _ rfl (hown.alloc _) ⟨wr.heap.size, 0, none⟩ 1 1 [.int .i64 s, .int .i64 0] rfl rfl (new_cells (by simp)) (one_cells rfl) (by unfold maxLen; first | omega | (simp only [List.length_append, List.length_cons]; omega)) (by first | omega | (simp only [List.length_append, List.length_cons]; omega)) (by have := hB.size; simp; omega) ?_; intro v1 w1 hown1 hgrow1 _))
          have hB1 : Below w.heap.size w w1 := below_grown (by go_grown) (by have := hB.size; simp; omega) (hown.drew.alloc _) hgrow1
          have hfar : ¬ (s - p) % 65536 ≤ 16 := by omega
          have hown3 : w1.ownsRow w.heap.size 29 2 v1 (O ++ [(p, m)] ++ [(s, 0)]).length (pairCells .i64 (O ++ [(p, m)] ++ [(s, 0)])) := by
            simpa [pairCells] using hown1
          clear hown hown1 hgrow1 hB
          go_roundw
          case rel => exact ⟨k + 1, by omega, by go_num, by rw [hst.out]; exact (by rw [packStep_far _ _ _ _ hfar]; exact hown3), hB1⟩
          case measure => simp [intOf]; omega
        · have hE : (s - p + 65536) % 65536 = (s - p) % 65536 := by omega
          have HE := Lib.hid hE; clear hE
          go_wp2_with fail
          go_region
          go_wp2_with fail
          rw [HE.out]
          generalize hd' : (s - p) % 65536 = d at *
          have HD := Lib.hid hd'; clear hd'
          by_cases f2 : d = 0
          · subst f2
            go_loop [7, 8] (fun x i => x = .int .i64 1 ∧ i = .int .i64 1) (fun _ _ => 0)
            case atStart => exact ⟨rfl, rfl⟩
            case round =>
              obtain ⟨rfl, rfl⟩ := hrel
              go_wp2_with fail
              have hown3 : wr.drew.ownsRow w.heap.size 29 2 (.slice (some ⟨g, 0, none⟩) (O.length + 1) cap1) (O ++ [(p, addBit m ((s - p) % 65536))]).length (pairCells .i64 (O ++ [(p, addBit m ((s - p) % 65536))])) := by
                rw [HD.out]; simpa [addBit] using hown.drew
              have hB1 : Below w.heap.size w wr.drew := hB.drew
              have hnear : (s - p) % 65536 ≤ 16 := by rw [HD.out]; omega
              clear hown hB
              go_roundw
              case rel => exact ⟨k + 1, by omega, by go_num, by rw [hst.out]; exact (by rw [packStep_near _ _ _ _ hnear]; simpa using hown3), hB1⟩
              case measure => simp [intOf]; omega
          · obtain ⟨n, rfl⟩ : ∃ n : Nat, d = (n : Int) + 1 := ⟨(d - 1).toNat, by omega⟩
            have hn : n ≤ 15 := by omega
            go_loop [7, 8] (fun x i => ∃ j : Nat, j ≤ n ∧ x = .int .i64 (2 ^ j) ∧ i = .int .i64 (j + 1)) (fun _ i => n + 2 - (intOf i).toNat)
            case atStart => exact ⟨0, by omega, by simp, by simp⟩
            case round =>
              obtain ⟨j, hj, rfl, rfl⟩ := hrel
              obtain ⟨v0, v1⟩ := two_pow_le j (by omega)
              have hst2 : Hid ((2 : Int) ^ (j + 1) = 2 ^ j * 2) := Lib.hid (Int.pow_succ 2 j)
              have hadd : Hid (addBit m (n + 1) = if m / 2 ^ n % 2 = 0 then m + 2 ^ n else m) := Lib.hid (by simp [addBit])
              by_cases hjn : j < n
              · generalize (2 : Int) ^ j = x at *
                go_wp2_with fail
                go_round
                case rel => exact ⟨j + 1, by omega, by rw [hst2.out], by go_num⟩
                case measure => simp [intOf]; omega
              · have hjn2 : j = n := by omega
                subst hjn2
                generalize (2 : Int) ^ j = x at *
                have hq0 : 0 ≤ m / x := Int.ediv_nonneg m0 (by omega)
                have hq1 : m / x < 65536 := Int.lt_of_le_of_lt (Int.ediv_le_self _ m0) m1
                clear hj hjn hst2
                by_cases hz : m / x % 2 = 0
                · have hown3 := (HS.out (m + x)).drew
                  have hown3 : (wr.setCell ⟨g, O.length * 2 + 1, none⟩ (.int .i64 (m + x))).drew.ownsRow w.heap.size 29 2 (.slice (some ⟨g, 0, none⟩) (O.length + 1) cap1) (O ++ [(p, addBit m ((s - p) % 65536))]).length (pairCells .i64 (O ++ [(p, addBit m ((s - p) % 65536))])) := by
                    rw [HD.out, hadd.out, if_pos hz]
                    exact hown3
                  have HO := Lib.hid hown3; clear hown3
                  have hnear : Hid ((s - p) % 65536 ≤ 16) := Lib.hid (by rw [HD.out]; omega)
                  go_wp2_with fail
                  have hown3 := HO.out
                  have hB1 : Below w.heap.size w (wr.setCell ⟨g, O.length * 2 + 1, none⟩ (.int .i64 (m + x))).drew := by go_grown
                  have hnear := hnear.out
                  clear hown hB
                  go_roundw
                  case rel => exact ⟨k + 1, by omega, by go_num, by rw [hst.out]; exact (by rw [packStep_near _ _ _ _ hnear]; simpa using hown3), hB1⟩
                  case measure => simp [intOf]; omega
                · have hz1 : m / x % 2 = 1 := by omega
                  have hown3 : wr.drew.ownsRow w.heap.size 29 2 (.slice (some ⟨g, 0, none⟩) (O.length + 1) cap1) (O ++ [(p, addBit m ((s - p) % 65536))]).length (pairCells .i64 (O ++ [(p, addBit m ((s - p) % 65536))])) := by
                    rw [HD.out, hadd.out, if_neg hz]
                    exact hown.drew
                  have HO := Lib.hid hown3; clear hown3
                  have hnear : Hid ((s - p) % 65536 ≤ 16) := Lib.hid (by rw [HD.out]; omega)
                  clear hz
                  go_wp2_with fail
                  have hown3 := HO.out
                  have hB1 : Below w.heap.size w wr.drew := hB.drew
                  have hnear := hnear.out
                  clear hown hB
                  go_roundw
                  case rel => exact ⟨k + 1, by omega, by go_num, by rw [hst.out]; exact (by rw [packStep_near _ _ _ _ hnear]; simpa using hown3), hB1⟩
                  case measure => simp [intOf]; omega
    · have hkl : k = ss.length := by omega
      subst hkl
      go_wp2_with fail
      go_ret
      exact ⟨_, rfl, by simpa using hown, hB⟩
end Go.Proofs.Ytfcocnmghmhflaa
