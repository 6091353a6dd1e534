/- The packets of pairs, as the program lists them. -/
import Derived.Test.YtfcocnmghmhflaaRows
import Derived.Test.YtfcocnmghmhflaaPlain
import Derived.Test.YtfcocnmghmhflaaOwn
import Derived.Test.YtfcocnmghmhflaaBits
namespace Go.Proofs.Ytfcocnmghmhflaa
set_option linter.unusedSimpArgs false
set_option linter.unusedVariables false
open Go.RowKit
theorem info25 : (Try.prog.info? 25).map (fun i => (i.zero, i.size, i.bytes)) = some (some (.int .u16 0), 1, 2) := by kernel_rfl
set_option maxHeartbeats 1000000 in
theorem List_any (A : Option Addr) (len cap : Nat) (ps : List (Int × Int)) (w : World) (hlen : ps.length = len) (hl : len ≤ 1000000) (hp : PairsAt w A .u16 ps) (hr : ∀ p ∈ ps, 0 ≤ p.1 ∧ p.1 < 65536 ∧ 0 ≤ p.2 ∧ p.2 < 65536) :
    Calls Try.prog 10 #[.slice A len cap] w fun e w' => ∃ v, e = .returned v ∧ w'.ownsRow w.heap.size 25 1 v (listF ps).length ((listF ps).map (Value.int .u16)) ∧ Below w.heap.size w w' := by
  subst hlen
  obtain ⟨i0, hi, hz0, hz1, hz2⟩ := info_parts info25
  have HR := Lib.hid hr; clear hr
  have HP := Lib.hid hp; clear hp
  go_enter Try.func10, Try.ntmps10
  go_wp2_with fail
  go_loopw [3, 9] (fun v i wr => ∃ k : Nat, k ≤ ps.length ∧ i = .int .i64 k ∧ wr.ownsRow w.heap.size 25 1 v (listF (ps.take k)).length ((listF (ps.take k)).map (Value.int .u16)) ∧ Below w.heap.size w wr) (fun _ i _ => ps.length - (intOf i).toNat)
  case atStart => exact ⟨0, by omega, rfl, by simpa [listF] using World.ownsRow_nil _ _ _ _, by go_grown⟩
  case round =>
    obtain ⟨k, hk, rfl, hown, hB⟩ := hrel
    by_cases hlt : k < ps.length
    · obtain ⟨b, o, rfl, hb, q0, q1⟩ := HP.out k hlt
      have hpm := HR.out (ps.getD k (0, 0)) (by simp [List.getD, hlt])
      have hst := Lib.hid (listF_step ps k hlt)
      have hln := listF_length (ps.take k)
      have hln2 : (ps.take k).length ≤ 1000000 := by simp; omega
      generalize ps.getD k (0, 0) = pk at *
      obtain ⟨p, m⟩ := pk
      dsimp only at q0 q1 hpm
      obtain ⟨p0, p1, m0, m1⟩ := hpm
      replace q0 := (hB.cell (p := ⟨b, o + k * 2, none⟩) hb).trans q0
      replace q1 := (hB.cell (p := ⟨b, o + k * 2 + 1, none⟩) hb).trans q1
      have hbr := Nat.lt_of_lt_of_le hb hB.size
      generalize hL : listF (List.take k ps) = L at *
      go_wp2_with (first
        | (at_builtin; refine wpList_append_own _ rfl (.tmp 13) (.tmp 16) 30 rfl w.heap.size 25 i0 (.int .u16 0) 1 2 Try.underlying30 hi hz0 hz1 hz2 rfl (by decide) _ _ _ rfl ((hown.alloc _).alloc _) ⟨wr.heap.size + 1, 0, none⟩ 1 1 [.int .u16 p] rfl rfl (new_cells (by simp)) (one_cells rfl) (by unfold maxLen; first | omega | (simp only [List.length_append, List.length_cons]; omega)) (by first | omega | (simp only [List.length_append, List.length_cons]; omega)) (by have := hB.size; simp; omega) ?_; intro v1 w1 hown1 hgrow1 _))
      have z0 := hB.size
      have h0 : w1.heap[wr.heap.size]? = some (.cells #[.int .u16 p, .int .u16 m] 27 (0, 0)) := block_grown (t := 27) ((hown.alloc _).alloc _) hgrow1 (Eq.trans (b := some (Obj.cells _ _ (0, 0))) (by repeat (first | (with_reducible assumption) | (with_reducible apply heap_set_same) | ((with_reducible apply heap_set_other'); (focus (first | omega | (simp; done) | (simp; omega)))) | ((with_reducible apply heap_alloc_new); (focus (first | omega | (simp; done) | (simp; omega)))) | (with_reducible apply heap_alloc_old') | (with_reducible apply (heap_drew_at _ _).trans) | (with_reducible apply (heap_drewN_at _ _ _).trans))) (by exact rfl)) (by decide)
      have hB1 : Below w.heap.size w w1 := below_grown (by go_grown) (by simp; omega) ((hown.alloc _).alloc _) hgrow1
      clear hgrow1 hown hB
      go_loopw [3, 18] (fun v i wx => ∃ j : Nat, j ≤ 16 ∧ i = .int .u16 j ∧ wx.ownsRow w.heap.size 25 1 v (L ++ p :: bitsF p m j).length ((L ++ p :: bitsF p m j).map (Value.int .u16)) ∧ wx.heap[wr.heap.size]? = some (.cells #[.int .u16 p, .int .u16 m] 27 (0, 0)) ∧ Below w.heap.size w wx) (fun _ i _ => 16 - (intOf i).toNat)
      case atStart => exact ⟨0, by omega, rfl, by simpa [bitsF] using hown1, h0, hB1⟩
      case round =>
        clear hown1 hB1 h0
        obtain ⟨j, hj, rfl, hown, h0, hB⟩ := hrel
        obtain ⟨c0, f0, z1⟩ := blk_facts h0
        by_cases hjt : j < 16
        · have hbl := bitsF_length p m j
          have hq : 0 ≤ m / 2 ^ j ∧ m / 2 ^ j < 65536 := by
            have h1 : (0 : Int) < 2 ^ j := Int.pow_pos (by decide)
            exact ⟨Int.ediv_nonneg m0 (by omega), Int.lt_of_le_of_lt (Int.ediv_le_self _ m0) m1⟩
          have hand := Lib.hid (and_one_u16 _ hq.1 hq.2)
          by_cases hbit : m / 2 ^ j % 2 = 1
          · have ht : (bits BinOp.and IntKind.u16 (m / 2 ^ j) 1 == 1) = true := by rw [hand.out, hbit]; rfl
            go_wp2_with (first
              | (at_builtin; refine wpList_append_own _ rfl (.tmp 27) (.tmp 33) 30 rfl w.heap.size 25 i0 (.int .u16 0) 1 2 Try.underlying30 hi hz0 hz1 hz2 rfl (by decide) _ _ _ rfl (hown.alloc _) ⟨wr.heap.size, 0, none⟩ 1 1 [.int .u16 (IntKind.u16.wrap (IntKind.u16.wrap (p + j) + 1))] rfl rfl (new_cells (by simp)) (one_cells rfl) (by unfold maxLen; first | omega | (simp only [List.length_append, List.length_cons]; omega)) (by first | omega | (simp only [List.length_append, List.length_cons]; omega)) (by have := hB.size; simp; omega) ?_; intro v2 w2 hown1 hgrow1 _))
            have hB2 : Below w.heap.size w w2 := below_grown (by go_grown) (by have := hB.size; simp; omega) (hown.alloc _) hgrow1
            have h2 := block_grown (t := 27) (hown.alloc _) hgrow1 (heap_alloc_old' h0) (by decide)
            have ev : IntKind.u16.wrap (IntKind.u16.wrap (p + j) + 1) = (p + j + 1) % 65536 := by simp only [u16_mod]; omega
            rw [ev] at hown1
            have hown3 : w2.ownsRow w.heap.size 25 1 v2 (L ++ p :: bitsF p m (j + 1)).length ((L ++ p :: bitsF p m (j + 1)).map (Value.int .u16)) := by
              simpa [bitsF, hbit, Nat.add_assoc] using hown1
            clear hown1 hown hB hgrow1 h0 c0 f0
            go_roundw
            case rel => exact ⟨j + 1, by omega, by go_num, hown3, h2, hB2⟩
            case measure => simp [intOf]; omega
          · have ht : (bits BinOp.and IntKind.u16 (m / 2 ^ j) 1 == 1) = false := by rw [hand.out]; simpa using hbit
            go_wp2_with fail
            go_roundw
            case rel => exact ⟨j + 1, by omega, by go_num, by simpa [bitsF, hbit] using hown, h0, hB⟩
            case measure => simp [intOf]; omega
        · have hj16 : j = 16 := by omega
          subst hj16
          go_wp2_with fail
          go_roundw
          case rel => exact ⟨k + 1, by omega, by go_num, by rw [hst.out]; exact hown, hB⟩
          case measure => simp [intOf]; omega
    · have hkl : k = ps.length := by omega
      subst hkl
      go_wp2_with fail
      go_ret
      exact ⟨_, rfl, by simpa using hown, hB⟩
end Go.Proofs.Ytfcocnmghmhflaa
