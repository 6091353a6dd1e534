/- The law NackLists, walked. -/
import Derived.Test.YtfcocnmghmhflaaAwake
import Derived.Test.YtfcocnmghmhflaaRefListW
import Derived.Test.YtfcocnmghmhflaaRefPackW
import Derived.Deep.RegionHeld3
import Derived.Deep.AppendLies
namespace Go.Proofs.Ytfcocnmghmhflaa
set_option linter.unusedSimpArgs false
set_option linter.unusedVariables false
open Go.RowKit
set_option maxRecDepth 100000 in
set_option maxHeartbeats 1000000 in
theorem lists_walk (A : Option Addr) (len cap : Nat) (ps : List (Int × Int)) (w : World) (hlen : ps.length = len) (hl : len ≤ 9223372036854775807) (hp : PairsAt w A .u16 ps) (hr : ∀ p ∈ ps, 0 ≤ p.1 ∧ p.1 < 65536 ∧ 0 ≤ p.2 ∧ p.2 < 65536) :
    Calls Try.prog 3 #[.slice A len cap] w fun e w' => e = .returned (.bool true) ∧ Below w.heap.size w w' := by
  subst hlen
  have HR := Lib.hid hr; clear hr
  have HP := Lib.hid hp; clear hp
  by_cases h60 : 60 < ps.length
  · go_enter Try.func3, Try.ntmps3
    go_wp2_with fail
    (with_reducible refine (awake_any _).mono ?_)
    rintro e w1 ⟨rfl, hb⟩
    go_wp2_with fail
    go_ret
    exact ⟨rfl, hb⟩
  obtain ⟨i0, hi, hz0, hz1, hz2⟩ := info_parts info29
  go_enter Try.func3, Try.ntmps3
  go_wp2_with fail
  (with_reducible refine (awake_any _).mono ?_)
  rintro e w1 ⟨rfl, hB⟩
  go_wp2_with fail
  go_loopw [4, 5] (fun v i wr => ∃ k : Nat, k ≤ ps.length ∧ i = .int .i64 k ∧ wr.ownsRow w.heap.size 29 2 v (ps.take k).length (pairCells .i64 (ps.take k)) ∧ Below w.heap.size w wr) (fun _ i _ => ps.length - (intOf i).toNat)
  case atStart => exact ⟨0, by omega, rfl, by simpa [pairCells] using World.ownsRow_nil _ _ _ _, hB⟩
  case round =>
    clear hB
    obtain ⟨k, hk, rfl, hown, hB⟩ := hrel
    have z0 := hB.size
    by_cases hlt : k < ps.length
    · obtain ⟨b, o, rfl, hb, q0, q1⟩ := HP.out k hlt
      have hpm := HR.out (ps.getD k (0, 0)) (by simp [List.getD, hlt])
      have hln : (ps.take k).length ≤ 60 := by simp; omega
      have hst : Hid (ps.take (k + 1) = ps.take k ++ [ps.getD k (0, 0)]) := Lib.hid (by rw [List.take_add_one]; simp [List.getD, hlt])
      generalize ps.getD k (0, 0) = pk at *
      obtain ⟨p, m⟩ := pk
      dsimp only at q0 q1 hpm
      obtain ⟨p0, p1, m0, m1⟩ := hpm
      have Q0 := Lib.hid q0
      have Q1 := Lib.hid q1
      replace q0 := (hB.cell (p := ⟨b, o + k * 2, none⟩) hb).trans q0
      replace q1 := (hB.cell (p := ⟨b, o + k * 2 + 1, none⟩) hb).trans q1
      have hbr := Nat.lt_of_lt_of_le hb hB.size
      have hfar := Lib.hid (own_far hown hb)
      generalize ps.take k = L at *
      have wp := i64_same p p0 p1
      have wm := i64_same m m0 m1
      go_wp2_with fail
      go_region_held3 (fun w' => w'.cell? ⟨b, o + k * 2, none⟩ = some (.int .u16 p) ∧ w'.cell? ⟨b, o + k * 2 + 1, none⟩ = some (.int .u16 m))
        (first
          | go_keep
          | (go_split_ands
             refine ⟨?_, ?_⟩
             · (rw [hgrow.cell_far _ (by simp; omega) (Ne.symm hfar.out)]; assumption)
             · (rw [hgrow.cell_far _ (by simp; omega) (Ne.symm hfar.out)]; assumption)))
        ((refine step_append_lies _ (by rfl) _ _ _ (by rfl) w.heap.size 29 i0 _ 2 16 Try.underlying24 hi hz0 hz1 hz2 rfl (by omega) _ _ _ (by rfl) ((hown.alloc _).drew)
            ⟨wr.heap.size, 0, none⟩ 1 1 [.int .i64 p, .int .i64 m] (by rfl) (by rfl) (World.news_of_block (cs := #[.int .i64 p, .int .i64 m]) (t := 29) (fr := (0, 0)) (heap_alloc_new wr _ _ rfl)) (by simp [Value.oneCell'])
            (by omega) (by unfold maxLen; omega) (by omega) (by simp; omega) (wr.heap.size + 1) (by simp) ?_; intro gg cap w1 hown1 hgrow hat hlt))
      have hB1 : Below w.heap.size w w1 := below_grown (by go_grown) (by simp; omega) ((hown.alloc _).drew) hgrow
      have hown3 : w1.ownsRow w.heap.size 29 2 (.slice (some ⟨gg, 0, none⟩) (L.length + 1) cap) (L ++ [(p, m)]).length (pairCells .i64 (L ++ [(p, m)])) := by
        simpa [pairCells] using hown1
      clear hown hown1 hgrow hB
      go_wp2_with fail
      go_roundw
      case rel => exact ⟨k + 1, by omega, by go_num, by rw [hst.out]; exact hown3, hB1⟩
      case measure => simp [intOf]; omega
    · have hkl : k = ps.length := by omega
      subst hkl
      rw [List.take_length] at hown
      obtain ⟨A1, cap1, rfl⟩ := own_slice hown
      have hp2 := pairs_own hown
      go_wp2_with fail
      (with_reducible refine (List_any A ps.length _ ps _ rfl (by omega) (HP.out.below rfl hB) HR.out).mono ?_)
      rintro e w2 ⟨v, rfl, hown2, hb2⟩
      have hB2 := below_next (w := w) hB hb2
      have hp3 := hp2.below rfl hb2
      go_wp2_with fail
      (with_reducible refine (refList_any A1 ps.length _ ps _ rfl (by omega) hp3 HR.out).mono ?_)
      rintro e w3 ⟨u, rfl, hown3, hb3⟩
      have hB3 := below_next (w := w) hB2 hb3
      have hownx := own_below hown2 hb3
      clear hown hown2 hp2 hp3 hB hB2 hb2 hb3
      have hlf := Lib.hid (listF_mem ps (fun p hp => ⟨(HR.out p hp).1, (HR.out p hp).2.1⟩))
      have hll := listF_length ps
      generalize listF ps = X at *
      obtain ⟨A2, cap2, rfl⟩ := own_slice hownx
      obtain ⟨A3, cap3, rfl⟩ := own_slice hown3
      have hx := Lib.hid (ints_own hownx)
      have hy := Lib.hid (ints_own hown3)
      clear hownx hown3
      go_wp2_with fail
      go_loopw [8] (fun i wx => ∃ k : Nat, k ≤ X.length ∧ i = .int .i64 k ∧ Below w3.heap.size w3 wx) (fun i _ => X.length - (intOf i).toNat)
      case atStart => exact ⟨0, by omega, rfl, Below.refl _ _⟩
      case round =>
        obtain ⟨k, hk, rfl, hBx⟩ := hrel
        by_cases hlt : k < X.length
        · obtain ⟨b2, o2, rfl, hb2, d0⟩ := hx.out k hlt
          obtain ⟨b3, o3, rfl, hb3, d1⟩ := hy.out k hlt
          obtain ⟨s0, s1⟩ := hlf.out (X.getD k 0) (by simp [List.getD, hlt])
          generalize X.getD k 0 = s at *
          replace d0 := (hBx.cell (p := ⟨b2, o2 + k, none⟩) hb2).trans d0
          replace d1 := (hBx.cell (p := ⟨b3, o3 + k, none⟩) hb3).trans d1
          have ws := i64_same s s0 s1
          go_wp2_with fail
          go_region
          go_wp2_with fail
          go_roundw
          case rel => exact ⟨k + 1, by omega, by go_num, by go_grown⟩
          case measure => simp [intOf]; omega
        · go_wp2_with fail
          go_ret
          exact ⟨rfl, below_next (w := w) hB3 hBx⟩
end Go.Proofs.Ytfcocnmghmhflaa
