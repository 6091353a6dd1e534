/- The packets of pairs, as the reference lists them. -/
import Derived.Test.YtfcocnmghmhflaaRows
import Derived.Test.YtfcocnmghmhflaaPlain
import Derived.Test.YtfcocnmghmhflaaOwn
import Derived.Test.YtfcocnmghmhflaaBits
namespace Go.Proofs.Ytfcocnmghmhflaa
set_option linter.unusedSimpArgs false
set_option linter.unusedVariables false
open Go.RowKit
theorem info3 : (Try.prog.info? 3).map (fun i => (i.zero, i.size, i.bytes)) = some (some (.int .i64 0), 1, 8) := by kernel_rfl
theorem half_step (m : Int) (j : Nat) : m / 2 ^ j / 2 = m / 2 ^ (j + 1) := by
  rw [Int.ediv_ediv_of_nonneg (Int.le_of_lt (Int.pow_pos (by decide))), Int.pow_succ]
set_option maxHeartbeats 1000000 in
theorem refList_any (A : Option Addr) (len cap : Nat) (ps : List (Int × Int)) (w : World) (hlen : ps.length = len) (hl : len ≤ 1000000) (hp : PairsAt w A .i64 ps) (hr : ∀ p ∈ ps, 0 ≤ p.1 ∧ p.1 < 65536 ∧ 0 ≤ p.2 ∧ p.2 < 65536) :
    Calls Try.prog 11 #[.slice A len cap] w fun e w' => ∃ v, e = .returned v ∧ w'.ownsRow w.heap.size 3 1 v (listF ps).length ((listF ps).map (Value.int .i64)) ∧ Below w.heap.size w w' := by
  subst hlen
  obtain ⟨i0, hi, hz0, hz1, hz2⟩ := info_parts info3
  have HR := Lib.hid hr; clear hr
  have HP := Lib.hid hp; clear hp
  go_enter Try.func11, Try.ntmps11
  go_wp2_with fail
  go_loopw [3, 4] (fun v i wr => ∃ k : Nat, k ≤ ps.length ∧ i = .int .i64 k ∧ wr.ownsRow w.heap.size 3 1 v (listF (ps.take k)).length ((listF (ps.take k)).map (Value.int .i64)) ∧ Below w.heap.size w wr) (fun _ i _ => ps.length - (intOf i).toNat)
  case atStart => exact ⟨0, by omega, rfl, by simpa [listF] using World.ownsRow_nil _ _ _ _, by go_grown⟩
  case round =>
    obtain ⟨k, hk, rfl, hown, hB⟩ := hrel
    by_cases hlt : k < ps.length
    · obtain ⟨b, o, rfl, hb, q0, q1⟩ := HP.out k hlt
      have hpm := HR.out (ps.getD k (0, 0)) (by simp [List.getD, hlt])
      have hst := Lib.hid (listF_step ps k hlt)
      have hln := listF_length (ps.take k)
      have hln2 : (ps.take k).length ≤ 1000000 := by simp; omega
      generalize ps.getD k (0, 0) = pk at *
      obtain ⟨p, m⟩ := pk
      dsimp only at q0 q1 hpm
      obtain ⟨p0, p1, m0, m1⟩ := hpm
      have Q0 := Lib.hid q0
      have Q1 := Lib.hid q1
      replace q0 := (hB.cell (p := ⟨b, o + k * 2, none⟩) hb).trans q0
      replace q1 := (hB.cell (p := ⟨b, o + k * 2 + 1, none⟩) hb).trans q1
      have hbr := Nat.lt_of_lt_of_le hb hB.size
      have z0 := hB.size
      generalize hL : listF (List.take k ps) = L at *
      go_wp2_with (first
        | (at_builtin; refine wpList_append_own _ rfl (.tmp 13) (.tmp 19) 32 rfl w.heap.size 3 i0 (.int .i64 0) 1 8 Try.underlying32 hi hz0 hz1 hz2 rfl (by decide) _ _ _ rfl (hown.alloc _) ⟨wr.heap.size, 0, none⟩ 1 1 [.int .i64 p] rfl rfl (new_cells (by simp)) (one_cells rfl) (by unfold maxLen; first | omega | (simp only [List.length_append, List.length_cons]; omega)) (by first | omega | (simp only [List.length_append, List.length_cons]; omega)) (by have := hB.size; simp; omega) ?_; intro v1 w1 hown1 hgrow1 _; have hB1 : Below w.heap.size w w1 := below_grown (by go_grown) (by have := hB.size; simp; omega) (hown.alloc _) hgrow1; have r0 := (hB1.cell (p := ⟨b, o + k * 2, none⟩) hb).trans Q0.out; have r1 := (hB1.cell (p := ⟨b, o + k * 2 + 1, none⟩) hb).trans Q1.out))
      clear hgrow1 hown hB q0 q1
      go_loopw [3, 5, 6] (fun v x i wx => ∃ j : Nat, j ≤ 16 ∧ i = .int .i64 (j + 1) ∧ x = .int .i64 (m / 2 ^ j) ∧ wx.ownsRow w.heap.size 3 1 v (L ++ p :: bitsF p m j).length ((L ++ p :: bitsF p m j).map (Value.int .i64)) ∧ Below w.heap.size w wx) (fun _ _ i _ => 17 - (intOf i).toNat)
      case atStart => exact ⟨0, by omega, rfl, by simp, by simpa [bitsF] using hown1, hB1⟩
      case round =>
        clear hown1 hB1 r0 r1
        obtain ⟨j, hj, rfl, rfl, hown, hB⟩ := hrel
        have q0 := (hB.cell (p := ⟨b, o + k * 2, none⟩) hb).trans Q0.out
        have z1 := hB.size
        have hbr2 := Nat.lt_of_lt_of_le hb hB.size
        by_cases hjt : j < 16
        · have hbl := bitsF_length p m j
          have hq : 0 ≤ m / 2 ^ j ∧ m / 2 ^ j < 65536 := by
            have h1 : (0 : Int) < 2 ^ j := Int.pow_pos (by decide)
            exact ⟨Int.ediv_nonneg m0 (by omega), Int.lt_of_le_of_lt (Int.ediv_le_self _ m0) m1⟩
          have hhs := Lib.hid (half_step m j)
          have hbf : Hid (bitsF p m (j + 1) = bitsF p m j ++ if m / 2 ^ j % 2 = 1 then [(p + j + 1) % 65536] else []) := Lib.hid (by rw [bitsF])
          generalize m / 2 ^ j = x at *
          obtain ⟨x0, x1⟩ := hq
          by_cases hbit : x % 2 = 1
          · go_wp2_with (first
              | (at_builtin; refine wpList_append_own _ rfl (.tmp 33) (.tmp 42) 32 rfl w.heap.size 3 i0 (.int .i64 0) 1 8 Try.underlying32 hi hz0 hz1 hz2 rfl (by decide) _ _ _ rfl (hown.alloc _) ⟨wr.heap.size, 0, none⟩ 1 1 [.int .i64 ((p + (j + 1)) % 65536)] rfl rfl (new_cells (by simp)) (one_cells rfl) (by unfold maxLen; first | omega | (simp only [List.length_append, List.length_cons]; omega)) (by first | omega | (simp only [List.length_append, List.length_cons]; omega)) (by have := hB.size; simp; omega) ?_; intro v2 w2 hown1 hgrow1 _))
            have hB2 : Below w.heap.size w w2 := below_grown (by go_grown) (by have := hB.size; simp; omega) (hown.alloc _) hgrow1
            have hown3 : w2.ownsRow w.heap.size 3 1 v2 (L ++ p :: bitsF p m (j + 1)).length ((L ++ p :: bitsF p m (j + 1)).map (Value.int .i64)) := by
              rw [hbf.out, if_pos hbit, ← Int.add_assoc] at *
              simpa [Nat.add_assoc] using hown1
            clear hown1 hown hB hgrow1 q0
            go_roundw
            case rel => exact ⟨j + 1, by omega, by go_num, by rw [← hhs.out], hown3, hB2⟩
            case measure => simp [intOf]; omega
          · go_wp2_with fail
            go_roundw
            case rel => exact ⟨j + 1, by omega, by go_num, by rw [← hhs.out], by rw [hbf.out, if_neg hbit]; simpa using hown, hB⟩
            case measure => simp [intOf]; omega
        · have hj16 : j = 16 := by omega
          subst hj16
          go_wp2_with fail
          go_roundw
          case rel => exact ⟨k + 1, by omega, by go_num, by rw [hst.out]; exact hown, hB⟩
          case measure => simp [intOf]; omega
    · have hkl : k = ps.length := by omega
      subst hkl
      go_wp2_with fail
      go_ret
      exact ⟨_, rfl, by simpa using hown, hB⟩
end Go.Proofs.Ytfcocnmghmhflaa
