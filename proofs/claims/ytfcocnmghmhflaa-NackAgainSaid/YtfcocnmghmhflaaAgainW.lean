/- The law NackAgain, walked. -/
import Derived.Test.YtfcocnmghmhflaaAwake
import Derived.Test.YtfcocnmghmhflaaBackF
import Derived.Deep.QuietTactic
import Derived.Deep.AppendLies
namespace Go.Proofs.Ytfcocnmghmhflaa
set_option linter.unusedSimpArgs false
set_option linter.unusedVariables false
open Go.RowKit
theorem below_drewN {B : Nat} {a w : World} (h : Below B a w) (n : Nat) : Below B a (w.drewN n) := ⟨h.os, h.tape, h.output, h.size, h.block⟩
theorem ints_none (w : World) : IntsAt w none .u16 [] := fun i hi => absurd hi (Nat.not_lt_zero _)
theorem pairs_none (w : World) : PairsAt w none .u16 [] := fun i hi => absurd hi (Nat.not_lt_zero _)
set_option maxRecDepth 100000 in
set_option maxHeartbeats 4000000 in
theorem again_walk (A : Option Addr) (len cap : Nat) (ps : List (Int × Int)) (w : World) (hlen : ps.length = len) (hl : len ≤ 9223372036854775807) (hp : PairsAt w A .u16 ps) (hr : ∀ p ∈ ps, 0 ≤ p.1 ∧ p.1 < 65536 ∧ 0 ≤ p.2 ∧ p.2 < 65536) :
    Calls Try.prog 6 #[.slice A len cap] w fun e w' => e = .returned (.bool true) ∧ Below w.heap.size w w' := by
  subst hlen
  have HR := Lib.hid hr; clear hr
  have HP := Lib.hid hp; clear hp
  by_cases h60 : 20 < ps.length
  · go_enter Try.func6, Try.ntmps6
    go_wp2_with fail
    (with_reducible refine (awake_any _).mono ?_)
    rintro e w1 ⟨rfl, hb⟩
    go_wp2_with fail
    go_ret
    exact ⟨rfl, hb⟩
  obtain ⟨i0, hi, hz0, hz1, hz2⟩ := info_parts info25
  have HM := Lib.hid (listF_mem ps (fun p hp => ⟨(HR.out p hp).1, (HR.out p hp).2.1⟩))
  have hlX := listF_length ps
  go_enter Try.func6, Try.ntmps6
  go_wp2_with fail
  (with_reducible refine (awake_any _).mono ?_)
  rintro e w1 ⟨rfl, hB⟩
  go_wp2_with fail
  (with_reducible refine (List_any A ps.length _ ps _ rfl (by omega) (HP.out.below rfl hB) HR.out).mono ?_)
  rintro e w2 ⟨v, rfl, hown, hb⟩
  have hB2 := below_next (w := w) hB hb
  clear hb hB
  have HTL : Hid (((listF ps).flatMap fun v => [v, v]).length = (listF ps).length + (listF ps).length) := Lib.hid (by
    generalize listF ps = X
    induction X with
    | nil => rfl
    | cons a X ih => simp at ih ⊢; omega)
  have HTM : Hid (∀ x ∈ (listF ps).flatMap (fun v => [v, v]), 0 ≤ x ∧ x < 65536) := Lib.hid (by
    intro x hx
    obtain ⟨y, hy, hx⟩ := List.mem_flatMap.1 hx
    simp at hx
    subst hx
    exact HM.out x hy)
  have HTW := Lib.hid (packF_twice (listF ps))
  generalize listF ps = X at *
  obtain ⟨A1, cap1, rfl⟩ := own_slice hown
  have hx2 := ints_own hown
  clear hown
  go_wp2_with fail
  (with_reducible refine (Pack_any A1 X.length _ X _ rfl (by omega) hx2 HM.out).mono ?_)
  rintro e w3 ⟨v, rfl, hown, hb⟩
  have hB3 := below_next (w := w) hB2 hb
  have hx3 := hx2.below rfl hb
  have hPl := packF_length X
  have HF : Hid (∀ p ∈ packF X, 0 ≤ p.1 ∧ p.1 < 65536 ∧ 0 ≤ p.2 ∧ p.2 < 65536) := Lib.hid (packF_fits X HM.out)
  have HY : Hid (∀ s, s ∈ listF (packF X) ↔ s ∈ X) := Lib.hid (fun s => packF_mem X s HM.out)
  have hYl := listF_length (packF X)
  clear hb hB2 hx2
  generalize packF X = P at *
  obtain ⟨A2, cap2, rfl⟩ := own_slice hown
  have hp3 := pairs_own hown
  clear hown
  go_wp2_with fail
  (with_reducible refine (List_any A2 P.length _ P _ rfl (by omega) hp3 HF.out).mono ?_)
  rintro e w4 ⟨v, rfl, hown, hb⟩
  have hB4 := below_next (w := w) hB3 hb
  have hx := Lib.hid (hx3.below rfl hb)
  have hP := Lib.hid (hp3.below rfl hb)
  clear hb hB3 hx3 hp3
  generalize listF P = Y at *
  obtain ⟨A3, cap3, rfl⟩ := own_slice hown
  have hy := Lib.hid (ints_own hown)
  clear hown
  have HS1 : Hid (∀ s ∈ X, s ∈ Y) := Lib.hid (fun s hs => (HY.out s).2 hs)
  have HS2 : Hid (∀ s ∈ Y, s ∈ X) := Lib.hid (fun s hs => (HY.out s).1 hs)
  go_wp2_with fail
  go_loopw [7, 8, 9] (fun i u8 u9 wx => ∃ k : Nat, k ≤ X.length ∧ i = .int .i64 k ∧ Below w4.heap.size w4 wx) (fun i _ _ _ => X.length - (intOf i).toNat)
  case atStart => exact ⟨0, by omega, rfl, by first | assumption | exact Below.refl _ _⟩
  case round =>
    try clear hBx
    obtain ⟨k, hk, rfl, hBx⟩ := hrel
    by_cases hlt : k < X.length
    · have hin := HS1.out (X.getD k 0) (by simp [List.getD, hlt])
      obtain ⟨b2, o2, hA2, hb2, d0⟩ := hx.out k hlt
      generalize X.getD k 0 = s at *
      have HIN := Lib.hid hin; clear hin
      have HA2 := Lib.hid hA2; clear hA2
      have D0 := Lib.hid d0; clear d0
      go_wp2_with fail
      go_loopw [8, 9] (fun u8 j wz => ∃ (m : Nat) (c : Bool), m ≤ Y.length ∧ j = .int .i64 m ∧ u8 = .bool c ∧ Hid (c = decide (s ∈ Y.take m)) ∧ Below w4.heap.size w4 wz) (fun _ j _ => Y.length - (intOf j).toNat)
      case atStart => exact ⟨0, false, by omega, rfl, rfl, Lib.hid (by simp), hBx⟩
      case round =>
        obtain ⟨m, c, hm, rfl, rfl, HC, hBz⟩ := hrel
        by_cases hmt : m < Y.length
        · have htk : Hid (Y.take (m + 1) = Y.take m ++ [Y.getD m 0]) := Lib.hid (by rw [List.take_add_one]; simp [List.getD, hmt])
          obtain ⟨b3, o3, hA3, hb3, d1⟩ := hy.out m hmt
          generalize Y.getD m 0 = r at *
          replace d1 := (hBz.cell (p := ⟨b3, o3 + m, none⟩) hb3).trans d1
          have d0 := (hBz.cell (p := ⟨b2, o2 + k, none⟩) hb2).trans D0.out
          have hA2 := HA2.out
          subst hA2
          subst hA3
          cases c with
          | true =>
            go_wp2_with fail
            go_quiet (fail)
            go_wp2_with fail
            go_roundw
            case rel => exact ⟨m + 1, true, by omega, by go_num, rfl, Lib.hid (by rw [htk.out]; have := HC.out; simp at this; simp [this]), below_drewN hBz _⟩
            case measure => simp [intOf]; omega
          | false =>
            by_cases hrs : r = s
            · subst hrs
              go_wp2_with fail
              go_quiet (fail)
              go_wp2_with fail
              go_roundw
              case rel => exact ⟨m + 1, true, by omega, by go_num, rfl, Lib.hid (by rw [htk.out]; simp), below_drewN hBz _⟩
              case measure => simp [intOf]; omega
            · have hne : (r == s) = false := beq_eq_false_iff_ne.2 hrs
              go_wp2_with fail
              go_quiet (fail)
              go_wp2_with fail
              go_roundw
              case rel => exact ⟨m + 1, false, by omega, by go_num, rfl, Lib.hid (by rw [htk.out]; have := HC.out; simp at this; simp [this]; omega), below_drewN hBz _⟩
              case measure => simp [intOf]; omega
        · have hml : m = Y.length := by omega
          subst hml
          have hc : c = true := by have := HC.out; rw [List.take_length] at this; rw [this]; simpa using HIN.out
          subst hc
          go_wp2_with fail
          go_roundw
          case rel => exact ⟨k + 1, by omega, by go_num, hBz⟩
          case measure => simp [intOf]; omega
    · have hkl : k = X.length := by omega
      clear hlt hk
      subst hkl
      go_wp2_with fail
      go_loopw [10, 11, 12] (fun i u8 u9 wx => ∃ k : Nat, k ≤ Y.length ∧ i = .int .i64 k ∧ Below w4.heap.size w4 wx) (fun i _ _ _ => Y.length - (intOf i).toNat)
      case atStart => exact ⟨0, by omega, rfl, by first | assumption | exact Below.refl _ _⟩
      case round =>
        try clear hBx
        obtain ⟨k, hk, rfl, hBx⟩ := hrel
        by_cases hlt : k < Y.length
        · have hin := HS2.out (Y.getD k 0) (by simp [List.getD, hlt])
          obtain ⟨b2, o2, hA2, hb2, d0⟩ := hy.out k hlt
          generalize Y.getD k 0 = s at *
          have HIN := Lib.hid hin; clear hin
          have HA2 := Lib.hid hA2; clear hA2
          have D0 := Lib.hid d0; clear d0
          go_wp2_with fail
          go_loopw [11, 12] (fun u8 j wz => ∃ (m : Nat) (c : Bool), m ≤ X.length ∧ j = .int .i64 m ∧ u8 = .bool c ∧ Hid (c = decide (s ∈ X.take m)) ∧ Below w4.heap.size w4 wz) (fun _ j _ => X.length - (intOf j).toNat)
          case atStart => exact ⟨0, false, by omega, rfl, rfl, Lib.hid (by simp), hBx⟩
          case round =>
            obtain ⟨m, c, hm, rfl, rfl, HC, hBz⟩ := hrel
            by_cases hmt : m < X.length
            · have htk : Hid (X.take (m + 1) = X.take m ++ [X.getD m 0]) := Lib.hid (by rw [List.take_add_one]; simp [List.getD, hmt])
              obtain ⟨b3, o3, hA3, hb3, d1⟩ := hx.out m hmt
              generalize X.getD m 0 = r at *
              replace d1 := (hBz.cell (p := ⟨b3, o3 + m, none⟩) hb3).trans d1
              have d0 := (hBz.cell (p := ⟨b2, o2 + k, none⟩) hb2).trans D0.out
              have hA2 := HA2.out
              subst hA2
              subst hA3
              cases c with
              | true =>
                go_wp2_with fail
                go_quiet (fail)
                go_wp2_with fail
                go_roundw
                case rel => exact ⟨m + 1, true, by omega, by go_num, rfl, Lib.hid (by rw [htk.out]; have := HC.out; simp at this; simp [this]), below_drewN hBz _⟩
                case measure => simp [intOf]; omega
              | false =>
                by_cases hrs : s = r
                · subst hrs
                  go_wp2_with fail
                  go_quiet (fail)
                  go_wp2_with fail
                  go_roundw
                  case rel => exact ⟨m + 1, true, by omega, by go_num, rfl, Lib.hid (by rw [htk.out]; simp), below_drewN hBz _⟩
                  case measure => simp [intOf]; omega
                · have hne : (s == r) = false := beq_eq_false_iff_ne.2 hrs
                  go_wp2_with fail
                  go_quiet (fail)
                  go_wp2_with fail
                  go_roundw
                  case rel => exact ⟨m + 1, false, by omega, by go_num, rfl, Lib.hid (by rw [htk.out]; have := HC.out; simp at this; simp [this]; omega), below_drewN hBz _⟩
                  case measure => simp [intOf]; omega
            · have hml : m = X.length := by omega
              subst hml
              have hc : c = true := by have := HC.out; rw [List.take_length] at this; rw [this]; simpa using HIN.out
              subst hc
              go_wp2_with fail
              go_roundw
              case rel => exact ⟨k + 1, by omega, by go_num, hBz⟩
              case measure => simp [intOf]; omega
        · have hkl : k = Y.length := by omega
          clear hlt hk
          subst hkl
          go_wp2_with fail
          go_loopw [13, 14] (fun v i wr => ∃ k : Nat, k ≤ X.length ∧ i = .int .i64 k ∧ wr.ownsRow w4.heap.size 25 1 v (k + k) (((X.take k).flatMap fun v => [v, v]).map (Value.int .u16)) ∧ Below w4.heap.size w4 wr) (fun _ i _ => X.length - (intOf i).toNat)
          case atStart => exact ⟨0, by omega, rfl, by simpa using World.ownsRow_nil _ _ _ _, hBx⟩
          case round =>
            clear hBx
            obtain ⟨k, hk, rfl, hown, hB⟩ := hrel
            have z0 := hB.size
            by_cases hlt : k < X.length
            · obtain ⟨b, o, rfl, hb, q0⟩ := hx.out k hlt
              have hst : Hid ((X.take (k + 1)).flatMap (fun v => [v, v]) = (X.take k).flatMap (fun v => [v, v]) ++ [X.getD k 0, X.getD k 0]) := Lib.hid (by rw [List.take_add_one, List.flatMap_append]; congr 1; simp [List.getD, hlt])
              generalize X.getD k 0 = s at *
              have Q0 := Lib.hid q0
              replace q0 := (hB.cell (p := ⟨b, o + k, none⟩) hb).trans q0
              have hbr := Nat.lt_of_lt_of_le hb hB.size
              have hfar := Lib.hid (own_far hown hb)
              generalize (X.take k).flatMap (fun v => [v, v]) = L at *
              go_wp2_with fail
              go_region_held3 (fun w' => w'.cell? ⟨b, o + k, none⟩ = some (.int .u16 s))
                (first
                  | go_keep
                  | (go_split_ands
                     (rw [hgrow.cell_far _ (by simp; omega) (Ne.symm hfar.out)]; assumption)))
                ((refine step_append_lies _ (by rfl) _ _ _ (by rfl) w4.heap.size 25 i0 _ 1 2 Try.underlying30 hi hz0 hz1 hz2 rfl (by omega) _ _ _ (by rfl) ((hown.alloc _).drew) ⟨wr.heap.size, 0, none⟩ 2 2 [.int .u16 s, .int .u16 s] (by rfl) (by rfl) (World.news_of_block (cs := #[.int .u16 s, .int .u16 s]) (t := 25) (fr := (0, 0)) (heap_alloc_new wr _ _ rfl)) (by simp [Value.oneCell']) (by omega) (by unfold maxLen; omega) (by omega) (by simp; omega) (wr.heap.size + 1) (by simp) ?_; intro gg cap w1 hown1 hgrow hat hlt2))
              have hB1 : Below w4.heap.size w4 w1 := below_grown (by go_grown) (by simp; omega) ((hown.alloc _).drew) hgrow
              have hown3 : w1.ownsRow w4.heap.size 25 1 (.slice (some ⟨gg, 0, none⟩) (k + k + 2) cap) (k + 1 + (k + 1)) ((L ++ [s, s]).map (Value.int .u16)) := by
                rw [show k + 1 + (k + 1) = k + k + 2 by omega]
                simpa using hown1
              clear hown hown1 hgrow hB
              go_wp2_with fail
              go_roundw
              case rel => exact ⟨k + 1, by omega, by go_num, by rw [hst.out]; exact hown3, hB1⟩
              case measure => simp [intOf]; omega
            · have hkl : k = X.length := by omega
              clear hlt hk
              subst hkl
              rw [List.take_length] at hown
              obtain ⟨A5, cap5, rfl⟩ := own_slice hown
              have hp2 := ints_own hown
              clear hown
              go_wp2_with fail
              (with_reducible refine (Pack_any A5 (X.length + X.length) _ (X.flatMap fun v => [v, v]) _ HTL.out (by omega) hp2 HTM.out).mono ?_)
              rintro e w5 ⟨v, rfl, hown2, hb⟩
              have hB5 : Below w4.heap.size w4 w5 := below_next (w := w4) hB hb
              rw [HTW.out] at hown2
              clear hb hB hp2
              obtain ⟨A6, cap6, rfl⟩ := own_slice hown2
              have hq := Lib.hid (pairs_own hown2)
              have hpp := Lib.hid (hP.out.below rfl hB5)
              clear hown2
              go_wp2_with fail
              go_loopw [16] (fun i wx => ∃ j : Nat, j ≤ P.length ∧ i = .int .i64 j ∧ Below w5.heap.size w5 wx) (fun i _ => P.length - (intOf i).toNat)
              case atStart => exact ⟨0, by omega, rfl, Below.refl _ _⟩
              case round =>
                obtain ⟨j, hj, rfl, hBx⟩ := hrel
                by_cases hjt : j < P.length
                · obtain ⟨b2, o2, rfl, hb2, d0, d0'⟩ := hq.out j hjt
                  obtain ⟨b3, o3, rfl, hb3, d1, d1'⟩ := hpp.out j hjt
                  generalize P.getD j (0, 0) = pm at *
                  obtain ⟨p, m⟩ := pm
                  dsimp only at *
                  replace d0 := (hBx.cell (p := ⟨b2, o2 + j * 2, none⟩) hb2).trans d0
                  replace d1 := (hBx.cell (p := ⟨b3, o3 + j * 2, none⟩) hb3).trans d1
                  replace d0' := (hBx.cell (p := ⟨b2, o2 + j * 2 + 1, none⟩) hb2).trans d0'
                  replace d1' := (hBx.cell (p := ⟨b3, o3 + j * 2 + 1, none⟩) hb3).trans d1'
                  go_wp2_with fail
                  go_region
                  go_wp2_with fail
                  go_roundw
                  case rel => exact ⟨j + 1, by omega, by go_num, by go_grown⟩
                  case measure => simp [intOf]; omega
                · go_wp2_with fail
                  (with_reducible refine (Pack_any none 0 0 [] _ rfl (by decide) (ints_none _) (by simp)).mono ?_)
                  rintro e w6 ⟨v, rfl, hown, hb⟩
                  have hB6 := below_next (w := w5) hBx hb
                  obtain ⟨A7, cap7, rfl⟩ := own_slice hown
                  clear hown hb hBx
                  go_wp2_with fail
                  (with_reducible refine (List_any none 0 0 [] _ rfl (by decide) (pairs_none _) (by simp)).mono ?_)
                  rintro e w7 ⟨v, rfl, hown, hb⟩
                  have hB7 := below_next (w := w5) hB6 hb
                  obtain ⟨A8, cap8, rfl⟩ := own_slice hown
                  clear hown hb hB6
                  go_wp2_with fail
                  go_ret
                  exact ⟨rfl, below_next (w := w) hB4 (below_next (w := w4) hB5 hB7)⟩

end Go.Proofs.Ytfcocnmghmhflaa
