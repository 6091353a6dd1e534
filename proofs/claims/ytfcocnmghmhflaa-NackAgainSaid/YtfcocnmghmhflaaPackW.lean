/- The pairs of packets, as the program packs them. -/
import Derived.Test.YtfcocnmghmhflaaRows
import Derived.Test.YtfcocnmghmhflaaPackF
import Derived.Test.YtfcocnmghmhflaaOwn
import Derived.Test.YtfcocnmghmhflaaSerial
namespace Go.Proofs.Ytfcocnmghmhflaa
set_option linter.unusedSimpArgs false
set_option linter.unusedVariables false
open Go.RowKit
theorem info27 : (Try.prog.info? 27).map (fun i => (i.zero, i.size, i.bytes)) = some (some (.agg #[.int .u16 0, .int .u16 0]), 2, 4) := by kernel_rfl
set_option maxHeartbeats 1000000 in
theorem Pack_any (A : Option Addr) (len cap : Nat) (ss : List Int) (w : World) (hlen : ss.length = len) (hl : len ≤ 1000000) (hp : IntsAt w A .u16 ss) (hr : ∀ s ∈ ss, 0 ≤ s ∧ s < 65536) :
    Calls Try.prog 12 #[.slice A len cap] w fun e w' => ∃ v, e = .returned v ∧ w'.ownsRow w.heap.size 27 2 v (packF ss).length (pairCells .u16 (packF ss)) ∧ Below w.heap.size w w' := by
  subst hlen
  obtain ⟨i0, hi, hz0, hz1, hz2⟩ := info_parts info27
  have HR := Lib.hid hr; clear hr
  have HP := Lib.hid hp; clear hp
  go_enter Try.func12, Try.ntmps12
  go_wp2_with fail
  go_loopw [3, 10] (fun v i wr => ∃ k : Nat, k ≤ ss.length ∧ i = .int .i64 k ∧ wr.ownsRow w.heap.size 27 2 v (packF (ss.take k)).length (pairCells .u16 (packF (ss.take k))) ∧ Below w.heap.size w wr) (fun _ i _ => ss.length - (intOf i).toNat)
  case atStart => exact ⟨0, by omega, rfl, by simpa [packF, pairCells] using World.ownsRow_nil _ _ _ _, by go_grown⟩
  case round =>
    obtain ⟨k, hk, rfl, hown, hB⟩ := hrel
    by_cases hlt : k < ss.length
    · obtain ⟨b, o, rfl, hb, q0⟩ := HP.out k hlt
      have hs := HR.out (ss.getD k 0) (by simp [List.getD, hlt])
      have hst := Lib.hid (packF_step ss k hlt)
      have hln := packF_length (ss.take k)
      have hln2 : (ss.take k).length ≤ 1000000 := by simp; omega
      have hfit := Lib.hid (packF_fits (ss.take k) (fun x hx => HR.out x (List.mem_of_mem_take hx)))
      generalize ss.getD k 0 = s at *
      obtain ⟨s0, s1⟩ := hs
      replace q0 := (hB.cell (p := ⟨b, o + k, none⟩) hb).trans q0
      have hbr := Nat.lt_of_lt_of_le hb hB.size
      have z0 := hB.size
      generalize packF (ss.take k) = O at *
      rcases List.eq_nil_or_concat O with rfl | ⟨O, ⟨p, m⟩, rfl⟩
      · obtain ⟨A1, cap1, rfl⟩ := own_slice hown
        go_wp2_with (first
          | (at_builtin; refine wpList_append_own _ rfl (.tmp 46) (.tmp 49) 22 rfl w.heap.size 27 i0 (.agg #[.int .u16 0, .int .u16 0]) 2 4 Try.underlying22 hi hz0 hz1 hz2 rfl (by decide) _ _ _ rfl (hown.alloc _) ⟨wr.heap.size, 0, none⟩ 1 1 [.int .u16 s, .int .u16 0] rfl rfl (new_cells (by simp)) (one_cells rfl) (by unfold maxLen; first | omega | (simp only [List.length_append, List.length_cons]; omega)) (by first | omega | (simp only [List.length_append, List.length_cons]; omega)) (by have := hB.size; simp; omega) ?_; intro v1 w1 hown1 hgrow1 _))
        have hB1 : Below w.heap.size w w1 := below_grown (by go_grown) (by have := hB.size; simp; omega) (hown.alloc _) hgrow1
        go_roundw
        case rel => exact ⟨k + 1, by omega, by go_num, by rw [hst.out]; exact (by rw [packStep_nil]; simpa [pairCells] using hown1), hB1⟩
        case measure => simp [intOf]; omega
      · rw [List.concat_eq_append] at *
        have hpm := hfit.out (p, m) (by simp)
        obtain ⟨p0, p1, m0, m1⟩ := hpm
        dsimp only at p0 p1 m0 m1
        obtain ⟨g, cap1, rfl, hg, hgl, c0, c1, f0, hset⟩ := own_last hown
        have hOl : O.length ≤ 999999 := by
          rw [List.length_append] at hln
          simp only [List.length_singleton] at hln
          omega
        obtain ⟨fd0, fd1⟩ := far16_bd p s
        have hd : far16 p s = (s - p) % 65536 ∧ far16 p s ≤ 32767 ∨ far16 p s < 0 ∧ 32768 ≤ (s - p) % 65536 := by unfold far16; split <;> omega
        have HS := Lib.hid hset; clear hset
        generalize hf : far16 p s = f at *
        have hfh := Lib.hid hf; clear hf
        have HD := Lib.hid hd; clear hd
        by_cases f1 : f < 0
        · go_wp2_with (first
            | (go_at_call 14; (with_reducible refine (From16_any _ _ _).mono ?_); rintro e w' ⟨rfl, rfl⟩; rw [hfh.out])
            | (at_builtin; refine wpList_append_own _ rfl (.tmp 46) (.tmp 49) 22 rfl w.heap.size 27 i0 (.agg #[.int .u16 0, .int .u16 0]) 2 4 Try.underlying22 hi hz0 hz1 hz2 rfl (by decide) _ _ _ rfl (hown.alloc _) ⟨wr.heap.size, 0, none⟩ 1 1 [.int .u16 s, .int .u16 0] rfl rfl (new_cells (by simp)) (one_cells rfl) (by unfold maxLen; first | omega | (simp only [List.length_append, List.length_cons]; omega)) (by first | omega | (simp only [List.length_append, List.length_cons]; omega)) (by have := hB.size; simp; omega) ?_; intro v1 w1 hown1 hgrow1 _))
          have hB1 : Below w.heap.size w w1 := below_grown (by go_grown) (by have := hB.size; simp; omega) (hown.alloc _) hgrow1
          have hfar : ¬ (s - p) % 65536 ≤ 16 := by rcases HD.out with h | h <;> omega
          have hown3 : w1.ownsRow w.heap.size 27 2 v1 (O ++ [(p, m)] ++ [(s, 0)]).length (pairCells .u16 (O ++ [(p, m)] ++ [(s, 0)])) := by
            simpa [pairCells] using hown1
          clear hown hown1 hgrow1 hB
          go_roundw
          case rel => exact ⟨k + 1, by omega, by go_num, by rw [hst.out]; exact (by rw [packStep_far _ _ _ _ hfar]; exact hown3), hB1⟩
          case measure => simp [intOf]; omega
        · by_cases f2 : 16 < f
          · go_wp2_with (first
              | (go_at_call 14; (with_reducible refine (From16_any _ _ _).mono ?_); rintro e w' ⟨rfl, rfl⟩; rw [hfh.out])
              | (at_builtin; refine wpList_append_own _ rfl (.tmp 46) (.tmp 49) 22 rfl w.heap.size 27 i0 (.agg #[.int .u16 0, .int .u16 0]) 2 4 Try.underlying22 hi hz0 hz1 hz2 rfl (by decide) _ _ _ rfl (hown.alloc _) ⟨wr.heap.size, 0, none⟩ 1 1 [.int .u16 s, .int .u16 0] rfl rfl (new_cells (by simp)) (one_cells rfl) (by unfold maxLen; first | omega | (simp only [List.length_append, List.length_cons]; omega)) (by first | omega | (simp only [List.length_append, List.length_cons]; omega)) (by have := hB.size; simp; omega) ?_; intro v1 w1 hown1 hgrow1 _))
            have hB1 : Below w.heap.size w w1 := below_grown (by go_grown) (by have := hB.size; simp; omega) (hown.alloc _) hgrow1
            have hfar : ¬ (s - p) % 65536 ≤ 16 := by rcases HD.out with h | h <;> omega
            have hown3 : w1.ownsRow w.heap.size 27 2 v1 (O ++ [(p, m)] ++ [(s, 0)]).length (pairCells .u16 (O ++ [(p, m)] ++ [(s, 0)])) := by
              simpa [pairCells] using hown1
            clear hown hown1 hgrow1 hB
            go_roundw
            case rel => exact ⟨k + 1, by omega, by go_num, by rw [hst.out]; exact (by rw [packStep_far _ _ _ _ hfar]; exact hown3), hB1⟩
            case measure => simp [intOf]; omega
          · by_cases f3 : f = 0
            · go_wp2_with (first
                | (go_at_call 14; (with_reducible refine (From16_any _ _ _).mono ?_); rintro e w' ⟨rfl, rfl⟩; rw [hfh.out]))
              have hz : (s - p) % 65536 = 0 := by rcases HD.out with h | h <;> omega
              have hown3 : wr.ownsRow w.heap.size 27 2 (.slice (some ⟨g, 0, none⟩) (O.length + 1) cap1) (O ++ [(p, addBit m ((s - p) % 65536))]).length (pairCells .u16 (O ++ [(p, addBit m ((s - p) % 65536))])) := by
                rw [hz]; simpa [addBit] using hown
              clear hown
              have hB1 := hB
              go_roundw
              case rel => exact ⟨k + 1, by omega, by go_num, by rw [hst.out]; exact (by rw [packStep_near _ _ _ _ (by omega)]; exact hown3), hB1⟩
              case measure => simp [intOf]; omega
            · obtain ⟨n, rfl⟩ : ∃ n : Nat, f = (n : Int) + 1 := ⟨(f - 1).toNat, by omega⟩
              have hn : n ≤ 15 := by omega
              go_wp2_with (first
                | (go_at_call 14; (with_reducible refine (From16_any _ _ _).mono ?_); rintro e w' ⟨rfl, rfl⟩; rw [hfh.out]))
              have hor : bits BinOp.or IntKind.u16 m (IntKind.u16.wrap (2 ^ n)) = addBit m ((s - p) % 65536) := by
                rw [or_place m n m0 m1 hn, show (s - p) % 65536 = (n : Int) + 1 by rcases HD.out with h | h <;> omega]
                simp [addBit]
              have hown3 := (HS.out (addBit m ((s - p) % 65536))).drew
              have hB1 : Below w.heap.size w (wr.setCell ⟨g, O.length * 2 + 1, none⟩ (.int .u16 (addBit m ((s - p) % 65536)))).drew := by go_grown
              have hnear : (s - p) % 65536 ≤ 16 := by rcases HD.out with h | h <;> omega
              have HO := Lib.hid hown3; clear hown3
              have HB1 := Lib.hid hB1; clear hB1
              have HR1 := Lib.hid hor; clear hor
              go_region
              rw [HR1.out]
              have hown3 := HO.out
              have hB1 := HB1.out
              clear hown hB
              go_wp2_with fail
              go_roundw
              case rel => exact ⟨k + 1, by omega, by go_num, by rw [hst.out]; exact (by rw [packStep_near _ _ _ _ hnear]; simpa using hown3), hB1⟩
              case measure => simp [intOf]; omega
    · have hkl : k = ss.length := by omega
      subst hkl
      go_wp2_with fail
      go_ret
      exact ⟨_, rfl, by simpa using hown, hB⟩
end Go.Proofs.Ytfcocnmghmhflaa
