/- The law NackJoins, walked. -/
import Derived.Test.YtfcocnmghmhflaaAwake
import Derived.Test.YtfcocnmghmhflaaSrc
namespace Go.Proofs.Ytfcocnmghmhflaa
set_option linter.unusedSimpArgs false
set_option linter.unusedVariables false
open Go.RowKit
set_option maxRecDepth 100000 in
set_option maxHeartbeats 1000000 in
theorem joins_walk (A : Option Addr) (len cap : Nat) (B : Option Addr) (len2 cap2 : Nat) (ps qs : List (Int × Int)) (w : World) (hlen : ps.length = len) (hlen2 : qs.length = len2)
    (hl : len ≤ 9223372036854775807) (hl2 : len2 ≤ 9223372036854775807) (hcp : A = none → cap = 0) (hcq : B = none → cap2 = 0) (hp : PairsAt w A .u16 ps) (hq : PairsAt w B .u16 qs)
    (hr : ∀ p ∈ ps, 0 ≤ p.1 ∧ p.1 < 65536 ∧ 0 ≤ p.2 ∧ p.2 < 65536) (hr2 : ∀ p ∈ qs, 0 ≤ p.1 ∧ p.1 < 65536 ∧ 0 ≤ p.2 ∧ p.2 < 65536) :
    Calls Try.prog 8 #[.slice A len cap, .slice B len2 cap2] w fun e w' => e = .returned (.bool true) ∧ Below w.heap.size w w' := by
  subst hlen hlen2
  have HR := Lib.hid hr; clear hr
  have HR2 := Lib.hid hr2; clear hr2
  have HP := Lib.hid hp; clear hp
  have HQ := Lib.hid hq; clear hq
  have HCP := Lib.hid hcp; clear hcp
  have HCQ := Lib.hid hcq; clear hcq
  by_cases h60 : 30 < ps.length
  · go_enter Try.func8, Try.ntmps8
    go_wp2_with fail
    (with_reducible refine (awake_any _).mono ?_)
    rintro e w1 ⟨rfl, hb⟩
    go_wp2_with fail
    go_ret
    exact ⟨rfl, hb⟩
  by_cases h61 : 30 < qs.length
  · go_enter Try.func8, Try.ntmps8
    go_wp2_with fail
    (with_reducible refine (awake_any _).mono ?_)
    rintro e w1 ⟨rfl, hb⟩
    go_wp2_with fail
    go_ret
    exact ⟨rfl, hb⟩
  have HL := Lib.hid (listF_append ps qs)
  have HM := Lib.hid (listF_mem ps (fun p hp => ⟨(HR.out p hp).1, (HR.out p hp).2.1⟩))
  have HM2 := Lib.hid (listF_mem qs (fun p hp => ⟨(HR2.out p hp).1, (HR2.out p hp).2.1⟩))
  have hlp := listF_length ps
  have hlq := listF_length qs
  have hcells := pairCells_length .u16 ps
  have hcells2 := pairCells_length .u16 qs
  have HC1 := Lib.hid hcells; clear hcells
  have HC2 := Lib.hid hcells2; clear hcells2
  obtain ⟨i0, hi, hz0, hz1, hz2⟩ := info_parts info27
  obtain ⟨i1, hi', hz0', hz1', hz2'⟩ := info_parts info25
  go_enter Try.func8, Try.ntmps8
  go_wp2_with fail
  (with_reducible refine (awake_any _).mono ?_)
  rintro e w1 ⟨rfl, hB⟩
  have hown : w1.ownsRow w.heap.size 27 2 (.slice none 0 0) 0 [] := World.ownsRow_nil _ _ _ _
  have hsrc := Lib.hid (pairs_src (HP.out.below rfl hB) HCP.out)
  go_wp2_with (first
    | ((at_builtin; refine wpList_append_src _ rfl (.tmp 21) (.tmp 22) 22 rfl w.heap.size 27 i0 (.agg #[.int .u16 0, .int .u16 0]) 2 4 Try.underlying22 hi hz0 hz1 hz2 rfl (by decide) _ _ _ rfl hown _ _ _ (pairCells .u16 ps) rfl HC1.out hsrc.out (pairs_one _ _) (by unfold maxLen; first | omega | (simp only [List.length_append, List.length_cons]; omega)) (by first | omega | (simp only [List.length_append, List.length_cons]; omega)) (by have := hB.size; first | omega | (simp; omega)) ?_; intro v1 w2 hown1 hgrow1)
       have hB2 : Below w.heap.size w w2 := below_grown hB hB.size hown hgrow1
       have hsrc2 := Lib.hid (pairs_src (HQ.out.below rfl hB2) HCQ.out)
       clear hown hgrow1 hsrc hB)
    | (at_builtin; refine wpList_append_src _ rfl (.tmp 24) (.tmp 25) 22 rfl w.heap.size 27 i0 (.agg #[.int .u16 0, .int .u16 0]) 2 4 Try.underlying22 hi hz0 hz1 hz2 rfl (by decide) _ _ _ rfl hown1 _ _ _ (pairCells .u16 qs) rfl HC2.out hsrc2.out (pairs_one _ _) (by unfold maxLen; first | omega | (simp only [List.length_append, List.length_cons]; omega)) (by first | omega | (simp only [List.length_append, List.length_cons]; omega)) (by have := hB2.size; first | omega | (simp; omega)) ?_; intro v2 w3 hown2 hgrow2))
  have hB3 : Below w.heap.size w w3 := below_grown hB2 hB2.size hown1 hgrow2
  have hown3 : w3.ownsRow w.heap.size 27 2 v2 (ps ++ qs).length (pairCells .u16 (ps ++ qs)) := by
    rw [pairCells_append]
    simpa using hown2
  clear hown1 hown2 hgrow2 hB2 hsrc2
  obtain ⟨A3, cap3, rfl⟩ := own_slice hown3
  have hp3 := pairs_own hown3
  clear hown3
  go_wp2_with fail
  (with_reducible refine (List_any A3 (ps ++ qs).length _ (ps ++ qs) _ rfl (by rw [List.length_append]; omega) hp3 (fun p hp => by rcases List.mem_append.1 hp with h | h; exact HR.out p h; exact HR2.out p h)).mono ?_)
  rintro e w4 ⟨v4, rfl, hown4, hb⟩
  have hB4 := below_next (w := w) hB3 hb
  rw [HL.out, List.length_append] at hown4
  clear hp3 hb hB3
  obtain ⟨A4, cap4, rfl⟩ := own_slice hown4
  have H4 := Lib.hid (ints_own hown4)
  clear hown4
  go_wp2_with fail
  (with_reducible refine (List_any A ps.length _ ps _ rfl (by omega) (HP.out.below rfl hB4) HR.out).mono ?_)
  rintro e w5 ⟨v5, rfl, hown5, hb⟩
  have hb5 : Below w4.heap.size w4 w5 := hb
  have hB5 := below_next (w := w) hB4 hb
  clear hb
  go_wp2_with fail
  (with_reducible refine (List_any B qs.length _ qs _ rfl (by omega) (HQ.out.below rfl hB5) HR2.out).mono ?_)
  rintro e w6 ⟨v6, rfl, hown6, hb⟩
  have hb6 : Below w4.heap.size w4 w6 := below_next (w := w4) hb5 hb
  have hown7 := own_below hown5 hb
  clear hb hB5 hown5 hb5
  obtain ⟨A6, cap6, rfl⟩ := own_slice hown6
  have hsrc := Lib.hid (own_src hown6)
  clear hown6
  have HLn : Hid (((listF qs).map (Value.int .u16)).length = (listF qs).length * 1) := Lib.hid (by simp)
  have hs6 := hb6.size
  go_wp2_with (first
    | ((at_builtin; refine wpList_append_src _ rfl (.tmp 31) (.tmp 33) 30 rfl w4.heap.size 25 i1 (.int .u16 0) 1 2 Try.underlying30 hi' hz0' hz1' hz2' rfl (by decide) _ _ _ rfl hown7 _ _ _ ((listF qs).map (Value.int .u16)) rfl HLn.out hsrc.out (ints_one _ _) (by unfold maxLen; first | omega | (simp only [List.length_append, List.length_cons]; omega)) (by first | omega | (simp only [List.length_append, List.length_cons]; omega)) (by have := hb6.size; first | omega | (simp; omega)) ?_; intro v7 w7 hown8 hgrow1)
       obtain ⟨A7, cap7, rfl⟩ := own_slice hown8))
  have hb7 : Below w4.heap.size w4 w7 := below_grown hb6 hb6.size hown7 hgrow1
  have hown9 : w7.ownsRow w4.heap.size 25 1 (.slice A7 ((listF ps).length + (listF qs).length) cap7) ((listF ps).length + (listF qs).length) ((listF ps ++ listF qs).map (Value.int .u16)) := by
    simpa using hown8
  have hB7 := below_next (w := w) hB4 hb7
  have hX := Lib.hid (H4.out.below rfl hb7)
  have hmX : Hid (∀ x ∈ listF ps ++ listF qs, 0 ≤ x ∧ x < 65536) := Lib.hid (fun x hx => by
    rw [List.mem_append] at hx
    rcases hx with h | h
    · exact HM.out x h
    · exact HM2.out x h)
  have hY := Lib.hid (ints_own hown9)
  have hlX : Hid ((listF ps ++ listF qs).length = (listF ps).length + (listF qs).length) := Lib.hid (List.length_append)
  clear hown8 hown9 hgrow1 hown7 hb7 hb6 hB4 H4 hsrc HL
  generalize listF ps ++ listF qs = X at *
  go_wp2_with fail
  go_loopw [9] (fun i wx => ∃ k : Nat, k ≤ (listF ps).length + (listF qs).length ∧ i = .int .i64 k ∧ Below w7.heap.size w7 wx) (fun i _ => (listF ps).length + (listF qs).length - (intOf i).toNat)
  case atStart => exact ⟨0, by omega, rfl, Below.refl _ _⟩
  case round =>
    obtain ⟨k, hk, rfl, hBx⟩ := hrel
    by_cases hlt : k < (listF ps).length + (listF qs).length
    · obtain ⟨b2, o2, rfl, hb2, d0⟩ := hX.out k (by rw [hlX.out]; exact hlt)
      obtain ⟨b3, o3, rfl, hb3, d1⟩ := hY.out k (by rw [hlX.out]; exact hlt)
      obtain ⟨s0, s1⟩ := hmX.out (X.getD k 0) (by have : k < X.length := (by rw [hlX.out]; exact hlt); simp [List.getD, this])
      generalize X.getD k 0 = s at *
      replace d0 := (hBx.cell (p := ⟨b2, o2 + k, none⟩) hb2).trans d0
      replace d1 := (hBx.cell (p := ⟨b3, o3 + k, none⟩) hb3).trans d1
      go_wp2_with fail
      go_region
      go_wp2_with fail
      go_roundw
      case rel => exact ⟨k + 1, by omega, by go_num, by go_grown⟩
      case measure => simp [intOf]; omega
    · go_wp2_with fail
      go_ret
      exact ⟨rfl, below_next (w := w) hB7 hBx⟩
end Go.Proofs.Ytfcocnmghmhflaa
