/- What Lost and Missing compute. No condition but that numbers are small. -/
import Derived.Test.YtbfmcnidghjajaaTakeW
import Derived.Test.YtbfmcnidghjajaaSrc
namespace Go.Proofs.Ytbfmcnidghjajaa
set_option linter.unusedSimpArgs false
set_option linter.unusedVariables false
open Go.RowKit
theorem Lost_any (on : Bool) (b h g : Int) (s : Nat) (w : World) (lb : -1000000000000 ≤ b) (ub : b ≤ 1000000000000) (lh : -1000000000000 ≤ h) (uh : h ≤ 1000000000000) (lg : 0 ≤ g) (ug : g ≤ 1000000000000) :
    Calls Try.prog 12 #[.agg #[.bool on, .int .i64 b, .int .i64 h, .int .i64 g, .int .u64 s]] w fun e w' => e = .returned (.int .i64 (lostF ⟨on, b, h, g, s⟩)) ∧ Below w.heap.size w w' := by
  cases on
  · go_enter Try.func12, Try.ntmps12
    go_wp2
    go_ret
    exact ⟨rfl, by go_grown⟩
  · go_enter Try.func12, Try.ntmps12
    go_wp2
    go_ret
    exact ⟨rfl, by go_grown⟩
theorem info32 : (Try.prog.info? 32).map (fun i => (i.zero, i.size, i.bytes)) = some (some (.int .u16 0), 1, 2) := by kernel_rfl
/-- Those that miss, as numbers of 16 bits. -/
def miss16 (l : List Int) : List Int := l.map fun x => x % 65536
/-- What Missing hands back: a slice of the call's own. -/
theorem miss_off_any (b h g : Int) (s : Nat) (w : World) :
    Calls Try.prog 16 #[.agg #[.bool false, .int .i64 b, .int .i64 h, .int .i64 g, .int .u64 s]] w fun e w' => ∃ v, e = .returned v ∧ w'.ownsRow w.heap.size 32 1 v (missF ⟨false, b, h, g, s⟩).length ((miss16 (missF ⟨false, b, h, g, s⟩)).map (Value.int .u16)) ∧ Below w.heap.size w w' := by
  go_enter Try.func16, Try.ntmps16
  go_wp2
  go_ret
  exact ⟨_, rfl, World.ownsRow_nil _ _ _ _, by go_grown⟩
set_option maxRecDepth 100000 in
set_option maxHeartbeats 1000000 in
theorem miss_on_any (b h g : Int) (s : Nat) (w : World) (lb : -1000000000000 ≤ b) (ub : b ≤ 1000000000000) (lh : -1000000000000 ≤ h) (uh : h ≤ 1000000000000) (lg : 0 ≤ g) (ug : g ≤ 1000000000000) (hs : s < 2 ^ 64) :
    Calls Try.prog 16 #[.agg #[.bool true, .int .i64 b, .int .i64 h, .int .i64 g, .int .u64 s]] w fun e w' => ∃ v, e = .returned v ∧ w'.ownsRow w.heap.size 32 1 v (missF ⟨true, b, h, g, s⟩).length ((miss16 (missF ⟨true, b, h, g, s⟩)).map (Value.int .u16)) ∧ Below w.heap.size w w' := by
  have HS := Lib.hid hs; clear hs
  obtain ⟨i0, hi, hz0, hz1, hz2⟩ := info_parts info32
  go_enter Try.func16, Try.ntmps16
  go_wp2_with fail
  go_loopw [3, 10] (fun v i wr => ∃ k : Nat, k ≤ 64 ∧ i = .int .i64 k ∧ wr.ownsRow w.heap.size 32 1 v (missTo ⟨true, b, h, g, s⟩ k).length ((miss16 (missTo ⟨true, b, h, g, s⟩ k)).map (Value.int .u16)) ∧ wr.heap[w.heap.size]? = some (.cells #[.bool true, .int .i64 b, .int .i64 h, .int .i64 g, .int .u64 s] 26 (0, 0)) ∧ Below w.heap.size w wr) (fun _ i _ => 64 - (intOf i).toNat)
  case atStart => exact ⟨0, by omega, rfl, World.ownsRow_nil _ _ _ _, heap_alloc_new w _ _ rfl, by go_grown⟩
  case round =>
    obtain ⟨k, hk, rfl, hown, h0, hB⟩ := hrel
    have z1 := hB.size
    obtain ⟨c0, f0, z0⟩ := blk_facts h0
    by_cases hlt : k < 64
    · have hl := missTo_length ⟨true, b, h, g, s⟩ k
      have hsub : (63 : Int) - k = (63 - k : Nat) := by omega
      have HU := Lib.hid hsub; clear hsub
      have hw := u16_mod (h - (63 - (k : Int)))
      have HW := Lib.hid hw; clear hw
      by_cases hb : b ≤ h - (63 - (k : Int))
      · have hd : decide (b ≤ h - (63 - (k : Int))) = true := by simp; omega
        cases hbit : s.testBit (63 - k) with
        | true =>
          have HB := Lib.hid hbit; clear hbit
          have hst : Hid (missTo ⟨true, b, h, g, s⟩ (k + 1) = missTo ⟨true, b, h, g, s⟩ k) := Lib.hid (by
            show missTo _ k ++ _ = _
            rw [if_neg (by dsimp only; rw [HB.out]; simp), List.append_nil])
          generalize missTo ⟨true, b, h, g, s⟩ k = L at hown hl hst
          go_wp2_with (first
            | (go_at_call 19; (with_reducible refine (came_any _ _ _ _ _ _ _ HS.out (by omega) (by omega)).mono ?_); rintro e w1 ⟨rfl, hb⟩; rw [show ((63 : Int) - k).toNat = 63 - k by omega, HB.out]; have hown2 := own_below hown hb; clear hown; have hB2 := below_next (w := w) (by go_grown) hb; have h2 := (hb.block _ z0).trans h0; clear hb))
          go_roundw
          case rel => exact ⟨k + 1, by omega, by go_num, by rw [hst.out]; exact hown2, h2, hB2⟩
          case measure => simp [intOf]; omega
        | false =>
          have HB := Lib.hid hbit; clear hbit
          have hst : Hid (missTo ⟨true, b, h, g, s⟩ (k + 1) = missTo ⟨true, b, h, g, s⟩ k ++ [h - (63 - (k : Int))]) := Lib.hid (by
            show missTo _ k ++ _ = _
            rw [if_pos ⟨hb, HB.out⟩])
          generalize missTo ⟨true, b, h, g, s⟩ k = L at hown hl hst
          have HML : Hid ((miss16 (L ++ [h - (63 - (k : Int))])).map (Value.int .u16) = (miss16 L).map (Value.int .u16) ++ [.int .u16 (IntKind.u16.wrap (h - (63 - (k : Int))))]) := Lib.hid (by simp [miss16, HW.out])
          have hlm : Hid ((L ++ [h - (63 - (k : Int))]).length = L.length + 1) := Lib.hid (by simp)
          go_wp2_with (first
            | (go_at_call 19; (with_reducible refine (came_any _ _ _ _ _ _ _ HS.out (by omega) (by omega)).mono ?_); rintro e w1 ⟨rfl, hb⟩; rw [show ((63 : Int) - k).toNat = 63 - k by omega, HB.out]; have hown2 := own_below hown hb; clear hown; have hB2 := below_next (w := w) (by go_grown) hb; have h2 := (hb.block _ z0).trans h0; clear hb)
            | (at_builtin; refine wpList_append_own _ rfl (.tmp 29) (.tmp 32) 22 rfl w.heap.size 32 i0 (.int .u16 0) 1 2 Try.underlying22 hi hz0 hz1 hz2 rfl (by decide) _ _ _ rfl (hown2.alloc _) ⟨w1.heap.size, 0, none⟩ 1 1 [.int .u16 (IntKind.u16.wrap (h - (63 - (k : Int))))] rfl rfl (new_cells (by simp)) (one_cells rfl) (by unfold maxLen; first | omega | (simp only [List.length_append, List.length_cons]; omega)) (by first | omega | (simp only [List.length_append, List.length_cons]; omega)) (by have := hB2.size; first | omega | (simp; omega)) ?_; intro v3 w3 hown1 hgrow1 _))
          have z2 := hB2.size
          have h3 := block_grown (t := 26) (hown2.alloc _) hgrow1 (heap_alloc_old' h2) (by decide)
          have hB3 : Below w.heap.size w w3 := below_grown (by go_grown) (by have := hB2.size; simp; omega) (hown2.alloc _) hgrow1
          clear hgrow1 hown2 h2 hB2 h0 c0 f0 hB
          go_roundw
          case rel => exact ⟨k + 1, by omega, by go_num, by rw [hst.out, HML.out, hlm.out]; exact hown1, h3, hB3⟩
          case measure => simp [intOf]; omega
      · have hd : decide (b ≤ h - (63 - (k : Int))) = false := by simp; omega
        have hst : Hid (missTo ⟨true, b, h, g, s⟩ (k + 1) = missTo ⟨true, b, h, g, s⟩ k) := Lib.hid (by
          show missTo _ k ++ _ = _
          rw [if_neg (by dsimp only; intro q; exact hb q.1), List.append_nil])
        generalize missTo ⟨true, b, h, g, s⟩ k = L at hown hl hst
        go_wp2_with fail
        go_roundw
        case rel => exact ⟨k + 1, by omega, by go_num, by rw [hst.out]; exact hown, h0, hB⟩
        case measure => simp [intOf]; omega
    · have hk64 : k = 64 := by omega
      subst hk64
      go_wp2_with fail
      go_ret
      rw [show missF ⟨true, b, h, g, s⟩ = missTo ⟨true, b, h, g, s⟩ 64 from if_pos rfl]
      exact ⟨_, rfl, hown, hB⟩
end Go.Proofs.Ytbfmcnidghjajaa
