/- The law NackPacks, walked. -/
import Derived.Test.YtfcocnmghmhflaaAwake
import Derived.Test.YtfcocnmghmhflaaRefListW
import Derived.Test.YtfcocnmghmhflaaRefPackW
import Derived.Deep.RegionHeld3
import Derived.Deep.AppendLies
import Derived.Deep.QuietTactic
namespace Go.Proofs.Ytfcocnmghmhflaa
set_option linter.unusedSimpArgs false
set_option linter.unusedVariables false
open Go.RowKit
set_option maxRecDepth 100000 in
set_option maxHeartbeats 1000000 in
theorem packs_walk (A : Option Addr) (len cap : Nat) (ss : List Int) (w : World) (hlen : ss.length = len) (hl : len ≤ 9223372036854775807) (hp : IntsAt w A .u16 ss) (hr : ∀ s ∈ ss, 0 ≤ s ∧ s < 65536) :
    Calls Try.prog 4 #[.slice A len cap] w fun e w' => e = .returned (.bool true) ∧ Below w.heap.size w w' := by
  subst hlen
  have HR := Lib.hid hr; clear hr
  have HP := Lib.hid hp; clear hp
  by_cases h60 : 300 < ss.length
  · go_enter Try.func4, Try.ntmps4
    go_wp2_with fail
    (with_reducible refine (awake_any _).mono ?_)
    rintro e w1 ⟨rfl, hb⟩
    go_wp2_with fail
    go_ret
    exact ⟨rfl, hb⟩
  obtain ⟨i0, hi, hz0, hz1, hz2⟩ := info_parts info3
  go_enter Try.func4, Try.ntmps4
  go_wp2_with fail
  (with_reducible refine (awake_any _).mono ?_)
  rintro e w1 ⟨rfl, hB⟩
  go_wp2_with fail
  go_loopw [4, 5] (fun v i wr => ∃ k : Nat, k ≤ ss.length ∧ i = .int .i64 k ∧ wr.ownsRow w.heap.size 3 1 v (ss.take k).length ((ss.take k).map (Value.int .i64)) ∧ Below w.heap.size w wr) (fun _ i _ => ss.length - (intOf i).toNat)
  case atStart => exact ⟨0, by omega, rfl, by simpa using World.ownsRow_nil _ _ _ _, hB⟩
  case round =>
    clear hB
    obtain ⟨k, hk, rfl, hown, hB⟩ := hrel
    have z0 := hB.size
    by_cases hlt : k < ss.length
    · obtain ⟨b, o, rfl, hb, q0⟩ := HP.out k hlt
      have hpm := HR.out (ss.getD k 0) (by simp [List.getD, hlt])
      have hln : (ss.take k).length ≤ 300 := by simp; omega
      have hst : Hid (ss.take (k + 1) = ss.take k ++ [ss.getD k 0]) := Lib.hid (by rw [List.take_add_one]; simp [List.getD, hlt])
      generalize ss.getD k 0 = s at *
      obtain ⟨s0, s1⟩ := hpm
      replace q0 := (hB.cell (p := ⟨b, o + k, none⟩) hb).trans q0
      have hbr := Nat.lt_of_lt_of_le hb hB.size
      generalize ss.take k = L at *
      have ws := i64_same s s0 s1
      go_wp2_with (first
        | (at_builtin; refine wpList_append_own _ rfl (.tmp 21) (.tmp 27) 32 rfl w.heap.size 3 i0 (.int .i64 0) 1 8 Try.underlying32 hi hz0 hz1 hz2 rfl (by decide) _ _ _ rfl (hown.alloc _) ⟨wr.heap.size, 0, none⟩ 1 1 [.int .i64 s] rfl rfl (new_cells (by simp)) (one_cells rfl) (by unfold maxLen; first | omega | (simp only [List.length_append, List.length_cons]; omega)) (by first | omega | (simp only [List.length_append, List.length_cons]; omega)) (by have := hB.size; simp; omega) ?_; intro v1 w1 hown1 hgrow1 _))
      have hB1 : Below w.heap.size w w1 := below_grown (by go_grown) (by simp; omega) (hown.alloc _) hgrow1
      have hown3 : w1.ownsRow w.heap.size 3 1 v1 (L ++ [s]).length ((L ++ [s]).map (Value.int .i64)) := by
        simpa using hown1
      clear hown hown1 hgrow1 hB
      go_roundw
      case rel => exact ⟨k + 1, by omega, by go_num, by rw [hst.out]; exact hown3, hB1⟩
      case measure => simp [intOf]; omega
    · have hkl : k = ss.length := by omega
      subst hkl
      rw [List.take_length] at hown
      obtain ⟨A1, cap1, rfl⟩ := own_slice hown
      have hp2 := ints_own hown
      go_wp2_with fail
      (with_reducible refine (Pack_any A ss.length _ ss _ rfl (by omega) (HP.out.below rfl hB) HR.out).mono ?_)
      rintro e w2 ⟨v, rfl, hown2, hb2⟩
      have hB2 := below_next (w := w) hB hb2
      have hp3 := hp2.below rfl hb2
      go_wp2_with fail
      (with_reducible refine (refPack_any A1 ss.length _ ss _ rfl (by omega) hp3 HR.out).mono ?_)
      rintro e w3 ⟨u, rfl, hown3, hb3⟩
      have hB3 := below_next (w := w) hB2 hb3
      have hownx := own_below hown2 hb3
      clear hown hown2 hp2 hp3 hB hB2 hb2 hb3
      have hlf := Lib.hid (packF_fits ss HR.out)
      have hll := packF_length ss
      generalize packF ss = X at *
      obtain ⟨A2, cap2, rfl⟩ := own_slice hownx
      obtain ⟨A3, cap3, rfl⟩ := own_slice hown3
      have hx := Lib.hid (pairs_own hownx)
      have hy := Lib.hid (pairs_own hown3)
      clear hownx hown3
      go_wp2_with fail
      go_loopw [8] (fun i wx => ∃ k : Nat, k ≤ X.length ∧ i = .int .i64 k ∧ Below w3.heap.size w3 wx) (fun i _ => X.length - (intOf i).toNat)
      case atStart => exact ⟨0, by omega, rfl, Below.refl _ _⟩
      case round =>
        obtain ⟨k, hk, rfl, hBx⟩ := hrel
        by_cases hlt : k < X.length
        · obtain ⟨b2, o2, rfl, hb2, d0, d0'⟩ := hx.out k hlt
          obtain ⟨b3, o3, rfl, hb3, d1, d1'⟩ := hy.out k hlt
          obtain ⟨s0, s1, m0, m1⟩ := hlf.out (X.getD k (0, 0)) (by simp [List.getD, hlt])
          generalize X.getD k (0, 0) = s at *
          obtain ⟨p, m⟩ := s
          dsimp only at *
          replace d0 := (hBx.cell (p := ⟨b2, o2 + k * 2, none⟩) hb2).trans d0
          replace d1 := (hBx.cell (p := ⟨b3, o3 + k * 2, none⟩) hb3).trans d1
          replace d0' := (hBx.cell (p := ⟨b2, o2 + k * 2 + 1, none⟩) hb2).trans d0'
          replace d1' := (hBx.cell (p := ⟨b3, o3 + k * 2 + 1, none⟩) hb3).trans d1'
          have ws := i64_same p s0 s1
          have wm := i64_same m m0 m1
          go_wp2_with fail
          go_quiet (fail)
          go_wp2_with fail
          go_roundw
          case rel => exact ⟨k + 1, by omega, by go_num, by first | exact ⟨hBx.os, hBx.tape, hBx.output, hBx.size, hBx.block⟩ | go_grown⟩
          case measure => simp [intOf]; omega
        · go_wp2_with fail
          go_ret
          exact ⟨rfl, below_next (w := w) hB3 hBx⟩
end Go.Proofs.Ytfcocnmghmhflaa
