/- What the reference's functions compute, of a row of numbers. No condition but that it is short. -/
import Derived.Test.YtbfmcnidghjajaaAwake
import Derived.Deep.RegionHeld3
namespace Go.Proofs.Ytbfmcnidghjajaa
set_option linter.unusedSimpArgs false
set_option linter.unusedVariables false
open Go.RowKit

theorem highTo_step (l : List Int) (d : Int) (k : Nat) (hk : k < l.length) : highTo d (l.take (k + 1)) = if highTo d (l.take k) < l.getD k 0 then l.getD k 0 else highTo d (l.take k) := by
  rw [List.take_succ_eq_append_getElem hk, highTo_snoc]
  simp [List.getD, hk]
set_option maxHeartbeats 1000000 in
theorem High_any (A : Option Addr) (len cap : Nat) (l : List Int) (w : World) (hlen : l.length = len) (h0 : 0 < len) (hl : len ≤ 100000) (hp : IntsAt w A .i64 l) :
    Calls Try.prog 14 #[.agg #[.slice A len cap]] w fun e w' => e = .returned (.int .i64 (highF l)) ∧ Below w.heap.size w w' := by
  subst hlen
  have HP := Lib.hid hp; clear hp
  have HF : Hid (highF l = highTo (l.getD 0 0) l) := Lib.hid (by cases l with | nil => rfl | cons a l => rfl)
  obtain ⟨b, o, hA, hb, q0⟩ := HP.out 0 h0
  subst hA
  rw [Nat.add_zero] at q0
  generalize hd : l.getD 0 0 = d at *
  have HD := Lib.hid hd; clear hd
  go_enter Try.func14, Try.ntmps14
  go_wp2_with fail
  go_loopw [3, 4] (fun x i wr => ∃ (k : Nat), k ≤ l.length ∧ i = .int .i64 k ∧ x = .int .i64 (highTo d (l.take k)) ∧ wr.heap[w.heap.size]? = some (.cells #[.slice (some ⟨b, o, none⟩) l.length cap] 29 (0, 0)) ∧ Below w.heap.size w wr) (fun _ i _ => l.length - (intOf i).toNat)
  case atStart => exact ⟨0, by omega, rfl, rfl, heap_alloc_new w _ _ rfl, by go_grown⟩
  case round =>
    obtain ⟨k, hk, rfl, rfl, h0, hB⟩ := hrel
    obtain ⟨c0, f0, z0⟩ := blk_facts h0
    by_cases hlt : k < l.length
    · obtain ⟨b2, o2, hA, hb2, p0⟩ := HP.out k hlt
      simp only [Option.some.injEq, Addr.mk.injEq] at hA
      obtain ⟨rfl, rfl, _⟩ := hA
      have hst := Lib.hid (highTo_step l d k hlt)
      generalize l.getD k 0 = y at *
      generalize hxx : highTo d (l.take k) = x at *
      clear hxx q0
      replace p0 := (hB.cell (p := ⟨b, o + k, none⟩) hb).trans p0
      by_cases hc : x < y
      all_goals
        go_wp2_with fail
        go_roundw
        case rel => exact ⟨k + 1, by omega, by go_num, by rw [hst.out]; first | rw [if_pos hc] | rw [if_neg hc], h0, hB⟩
        case measure => simp [intOf]; omega
    · have hkl : k = l.length := by omega
      subst hkl
      rw [List.take_length]
      go_wp2_with fail
      go_ret
      exact ⟨ret_int HF.out.symm, hB⟩

theorem baseTo_step (l : List Int) (d : Int) (k : Nat) (hk : k < l.length) : baseTo d (l.take (k + 1)) = if l.getD k 0 < baseTo d (l.take k) then l.getD k 0 else baseTo d (l.take k) := by
  rw [List.take_succ_eq_append_getElem hk, baseTo_snoc]
  simp [List.getD, hk]
set_option maxHeartbeats 1000000 in
theorem Base_any (A : Option Addr) (len cap : Nat) (l : List Int) (w : World) (hlen : l.length = len) (h0 : 0 < len) (hl : len ≤ 100000) (hp : IntsAt w A .i64 l) :
    Calls Try.prog 15 #[.agg #[.slice A len cap]] w fun e w' => e = .returned (.int .i64 (baseF l)) ∧ Below w.heap.size w w' := by
  subst hlen
  have HP := Lib.hid hp; clear hp
  have HF : Hid (baseF l = baseTo (l.getD 0 0) l) := Lib.hid (by cases l with | nil => rfl | cons a l => rfl)
  obtain ⟨b, o, hA, hb, q0⟩ := HP.out 0 h0
  subst hA
  rw [Nat.add_zero] at q0
  generalize hd : l.getD 0 0 = d at *
  have HD := Lib.hid hd; clear hd
  go_enter Try.func15, Try.ntmps15
  go_wp2_with fail
  go_loopw [3, 4] (fun x i wr => ∃ (k : Nat), k ≤ l.length ∧ i = .int .i64 k ∧ x = .int .i64 (baseTo d (l.take k)) ∧ wr.heap[w.heap.size]? = some (.cells #[.slice (some ⟨b, o, none⟩) l.length cap] 29 (0, 0)) ∧ Below w.heap.size w wr) (fun _ i _ => l.length - (intOf i).toNat)
  case atStart => exact ⟨0, by omega, rfl, rfl, heap_alloc_new w _ _ rfl, by go_grown⟩
  case round =>
    obtain ⟨k, hk, rfl, rfl, h0, hB⟩ := hrel
    obtain ⟨c0, f0, z0⟩ := blk_facts h0
    by_cases hlt : k < l.length
    · obtain ⟨b2, o2, hA, hb2, p0⟩ := HP.out k hlt
      simp only [Option.some.injEq, Addr.mk.injEq] at hA
      obtain ⟨rfl, rfl, _⟩ := hA
      have hst := Lib.hid (baseTo_step l d k hlt)
      generalize l.getD k 0 = y at *
      generalize hxx : baseTo d (l.take k) = x at *
      clear hxx q0
      replace p0 := (hB.cell (p := ⟨b, o + k, none⟩) hb).trans p0
      by_cases hc : y < x
      all_goals
        go_wp2_with fail
        go_roundw
        case rel => exact ⟨k + 1, by omega, by go_num, by rw [hst.out]; first | rw [if_pos hc] | rw [if_neg hc], h0, hB⟩
        case measure => simp [intOf]; omega
    · have hkl : k = l.length := by omega
      subst hkl
      rw [List.take_length]
      go_wp2_with fail
      go_ret
      exact ⟨ret_int HF.out.symm, hB⟩

set_option maxHeartbeats 1000000 in
theorem Has_any (A : Option Addr) (len cap : Nat) (l : List Int) (x : Int) (w : World) (hlen : l.length = len) (hl : len ≤ 100000) (hp : IntsAt w A .i64 l) :
    Calls Try.prog 21 #[.agg #[.slice A len cap], .int .i64 x] w fun e w' => e = .returned (.bool (decide (x ∈ l))) ∧ Below w.heap.size w w' := by
  subst hlen
  have HP := Lib.hid hp; clear hp
  go_enter Try.func21, Try.ntmps21
  go_wp2_with fail
  go_loopw [5] (fun i wr => ∃ (k : Nat), k ≤ l.length ∧ i = .int .i64 k ∧ Hid (x ∉ l.take k) ∧ wr.heap[w.heap.size]? = some (.cells #[.slice A l.length cap] 29 (0, 0)) ∧ Below w.heap.size w wr) (fun i _ => l.length - (intOf i).toNat)
  case atStart => exact ⟨0, by omega, rfl, Lib.hid (by simp), heap_alloc_new w _ _ rfl, by go_grown⟩
  case round =>
    obtain ⟨k, hk, rfl, HN, h0, hB⟩ := hrel
    obtain ⟨c0, f0, z0⟩ := blk_facts h0
    by_cases hlt : k < l.length
    · obtain ⟨b, o, hA, hb, p0⟩ := HP.out k hlt
      subst hA
      have hst : Hid (l.take (k + 1) = l.take k ++ [l.getD k 0]) := Lib.hid (by rw [List.take_succ_eq_append_getElem hlt]; simp [List.getD, hlt])
      have hmem : Hid (l.getD k 0 ∈ l) := Lib.hid (by simp [List.getD, hlt])
      generalize l.getD k 0 = y at *
      replace p0 := (hB.cell (p := ⟨b, o + k, none⟩) hb).trans p0
      by_cases hc : y = x
      · subst hc
        go_wp2_with fail
        go_ret
        exact ⟨ret_bool (by simpa using hmem.out), hB⟩
      · have hne : (y == x) = false := beq_eq_false_iff_ne.2 hc
        go_wp2_with fail
        go_roundw
        case rel => exact ⟨k + 1, by omega, by go_num, Lib.hid (by rw [hst.out]; have := HN.out; simp [this]; omega), h0, hB⟩
        case measure => simp [intOf]; omega
    · have hkl : k = l.length := by omega
      subst hkl
      have hn := HN.out
      rw [List.take_length] at hn
      have HN2 := Lib.hid hn; clear hn HN
      go_wp2_with fail
      go_ret
      exact ⟨ret_bool (by have := HN2.out; simp [this]), hB⟩
theorem refLost_nil (A : Option Addr) (cap : Nat) (w : World) : Calls Try.prog 13 #[.agg #[.slice A 0 cap]] w fun e w' => e = .returned (.int .i64 0) ∧ Below w.heap.size w w' := by
  go_enter Try.func13, Try.ntmps13
  go_wp2
  go_ret
  exact ⟨rfl, by go_grown⟩
end Go.Proofs.Ytbfmcnidghjajaa
