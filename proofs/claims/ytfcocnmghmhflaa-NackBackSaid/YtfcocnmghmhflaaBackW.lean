/- The law NackBack, walked. -/
import Derived.Test.YtfcocnmghmhflaaAwake
import Derived.Test.YtfcocnmghmhflaaBackF
namespace Go.Proofs.Ytfcocnmghmhflaa
set_option linter.unusedSimpArgs false
set_option linter.unusedVariables false
open Go.RowKit
theorem risen_range {L : List Int} {now last : Int} {n : Nat} (h : Risen L now last n) (hm : ∀ x ∈ L, 0 ≤ x ∧ x < 65536) : 0 ≤ last ∧ last < 65536 := by
  obtain ⟨Q, m, d, hp, _⟩ := h
  have := packF_fits L hm (last, m) (by rw [hp]; simp)
  exact ⟨this.1, this.2.1⟩
theorem risen_few {L : List Int} {now last : Int} {n : Nat} (h : Risen L now last n) : n ≤ L.length := by
  obtain ⟨e, _⟩ := risen_eq h
  have := packF_length L
  omega
set_option maxRecDepth 100000 in
set_option maxHeartbeats 2000000 in
theorem back_walk (f : Int) (A : Option Addr) (len cap : Nat) (zs : List Int) (w : World) (lf : 0 ≤ f) (uf : f ≤ 65535) (hlen : zs.length = len) (hl : len ≤ 9223372036854775807) (hp : IntsAt w A .u8 zs) (hr : ∀ s ∈ zs, 0 ≤ s ∧ s ≤ 255) :
    Calls Try.prog 5 #[.int .u16 f, .slice A len cap] w fun e w' => e = .returned (.bool true) ∧ Below w.heap.size w w' := by
  subst hlen
  have HR := Lib.hid hr; clear hr
  have HP := Lib.hid hp; clear hp
  by_cases h60 : 120 < zs.length
  · go_enter Try.func5, Try.ntmps5
    go_wp2_with fail
    (with_reducible refine (awake_any _).mono ?_)
    rintro e w1 ⟨rfl, hb⟩
    go_wp2_with fail
    go_ret
    exact ⟨rfl, hb⟩
  obtain ⟨i0, hi, hz0, hz1, hz2⟩ := info_parts info25
  go_enter Try.func5, Try.ntmps5
  go_wp2_with fail
  (with_reducible refine (awake_any _).mono ?_)
  rintro e w1 ⟨rfl, hB⟩
  have zA := hB.size
  go_wp2_with fail
  have hown0 : (w1.alloc (.cells #[.int .u16 f] 25)).ownsRow w.heap.size 25 1 (.slice (some ⟨w1.heap.size, 0, none⟩) 1 1) 1 ([f].map (Value.int .u16)) := World.ownsRow_lit _ _ _ (by omega) (by unfold maxLen; omega) (by simp)
  go_loopw [6, 7, 8, 9, 10] (fun s6 v s8 s9 i wr => ∃ (k n : Nat) (now last : Int) (L : List Int), k ≤ zs.length ∧ n ≤ k + 1 ∧ i = .int .i64 k ∧ s6 = .int .u16 now ∧ s8 = .int .i64 n ∧ s9 = .int .u16 last ∧ wr.ownsRow w.heap.size 25 1 v (k + 1) (L.map (Value.int .u16)) ∧ Hid (Risen L now last n ∧ (∀ x ∈ L, 0 ≤ x ∧ x < 65536) ∧ L.length = k + 1) ∧ 0 ≤ now ∧ now < 65536 ∧ 0 ≤ last ∧ last < 65536 ∧ Below w.heap.size w wr) (fun _ _ _ _ i _ => zs.length - (intOf i).toNat)
  case atStart => exact ⟨0, 1, f, f, [f], by omega, by omega, rfl, rfl, by simp, rfl, hown0, Lib.hid ⟨risen_one f, by simp; omega, rfl⟩, by omega, by omega, by omega, by omega, by go_grown⟩
  case round =>
    clear hown0 hB
    obtain ⟨k, n, now, last, L, hk, hn, rfl, rfl, rfl, rfl, hown, HL, n0, n1, l0, l1, hB⟩ := hrel
    have z0 := hB.size
    by_cases hlt : k < zs.length
    · obtain ⟨b, o, rfl, hb, q0⟩ := HP.out k hlt
      have hpm := HR.out (zs.getD k 0) (by simp [List.getD, hlt])
      generalize zs.getD k 0 = z at *
      obtain ⟨s0, s1⟩ := hpm
      replace q0 := (hB.cell (p := ⟨b, o + k, none⟩) hb).trans q0
      have hbr := Nat.lt_of_lt_of_le hb hB.size
      have hx0 : 0 ≤ IntKind.u16.wrap (now + (z + 1)) ∧ IntKind.u16.wrap (now + (z + 1)) < 65536 := by rw [u16_mod]; omega
      obtain ⟨hx0, hx1⟩ := hx0
      obtain ⟨hri, hmem, hlen⟩ := HL.out
      have hmem' : ∀ x ∈ L ++ [IntKind.u16.wrap (now + (z + 1))], 0 ≤ x ∧ x < 65536 := by
        intro x hx
        rcases List.mem_append.1 hx with h | h
        · exact hmem x h
        · simp at h; subst h; exact ⟨hx0, hx1⟩
      have HM := Lib.hid hmem'
      by_cases hfar : 16 < (IntKind.u16.wrap (now + (z + 1)) - last) % 65536
      · have HRI := Lib.hid (risen_far hri _ hfar)
        have hf : 16 < IntKind.u16.wrap (IntKind.u16.wrap (now + (z + 1)) - last) := by rw [u16_mod (_ - last)]; exact hfar
        clear hri hmem hmem' hfar
        generalize hX : IntKind.u16.wrap (now + (z + 1)) = x at *
        go_wp2_with (first
          | (at_builtin; refine wpList_append_own _ rfl (.tmp 38) (.tmp 40) 30 rfl w.heap.size 25 i0 (.int .u16 0) 1 2 Try.underlying30 hi hz0 hz1 hz2 rfl (by decide) _ _ _ rfl (hown.alloc _) ⟨wr.heap.size, 0, none⟩ 1 1 [.int .u16 x] rfl rfl (new_cells (by simp)) (one_cells rfl) (by unfold maxLen; first | omega | (simp only [List.length_append, List.length_cons]; omega)) (by first | omega | (simp only [List.length_append, List.length_cons]; omega)) (by have := hB.size; first | omega | (simp; omega)) ?_; intro v1 w1 hown1 hgrow1 _))
        have hB1 : Below w.heap.size w w1 := below_grown (by go_grown) (by simp; omega) (hown.alloc _) hgrow1
        clear hown hgrow1 hB hlen
        go_roundw
        case rel => exact ⟨k + 1, n + 1, x, x, L ++ [x], by omega, by omega, by go_num, rfl, by go_num, rfl, by simpa using hown1, Lib.hid ⟨HRI.out, HM.out, by simp [HL.out.2.2]⟩, hx0, hx1, hx0, hx1, hB1⟩
        case measure => simp [intOf]; omega
      · have HRI := Lib.hid (risen_near hri z (IntKind.u16.wrap (now + (z + 1))) s0 s1 (by rw [u16_mod]; congr 1; omega) (by omega))
        have hf : ¬ 16 < IntKind.u16.wrap (IntKind.u16.wrap (now + (z + 1)) - last) := by rw [u16_mod (_ - last)]; exact hfar
        clear hri hmem hmem' hfar
        generalize hX : IntKind.u16.wrap (now + (z + 1)) = x at *
        go_wp2_with (first
          | (at_builtin; refine wpList_append_own _ rfl (.tmp 38) (.tmp 40) 30 rfl w.heap.size 25 i0 (.int .u16 0) 1 2 Try.underlying30 hi hz0 hz1 hz2 rfl (by decide) _ _ _ rfl (hown.alloc _) ⟨wr.heap.size, 0, none⟩ 1 1 [.int .u16 x] rfl rfl (new_cells (by simp)) (one_cells rfl) (by unfold maxLen; first | omega | (simp only [List.length_append, List.length_cons]; omega)) (by first | omega | (simp only [List.length_append, List.length_cons]; omega)) (by have := hB.size; first | omega | (simp; omega)) ?_; intro v1 w1 hown1 hgrow1 _))
        have hB1 : Below w.heap.size w w1 := below_grown (by go_grown) (by simp; omega) (hown.alloc _) hgrow1
        clear hown hgrow1 hB hlen
        go_roundw
        case rel => exact ⟨k + 1, n, x, last, L ++ [x], by omega, by omega, by go_num, rfl, rfl, rfl, by simpa using hown1, Lib.hid ⟨HRI.out, HM.out, by simp [HL.out.2.2]⟩, hx0, hx1, l0, l1, hB1⟩
        case measure => simp [intOf]; omega
    · have hkl : k = zs.length := by omega
      subst hkl
      obtain ⟨hri, hmem, hlen⟩ := HL.out
      have HE := Lib.hid (risen_eq hri)
      have HM := Lib.hid hmem
      have HF : Hid (∀ p ∈ packF L, 0 ≤ p.1 ∧ p.1 < 65536 ∧ 0 ≤ p.2 ∧ p.2 < 65536) := Lib.hid (packF_fits L hmem)
      clear hri hmem
      have HLn := Lib.hid hlen; clear hlen
      obtain ⟨A1, cap1, rfl⟩ := own_slice hown
      have hp2 := ints_own hown
      clear hown
      go_wp2_with fail
      (with_reducible refine (Pack_any A1 (zs.length + 1) _ L _ HLn.out (by omega) hp2 HM.out).mono ?_)
      rintro e w2 ⟨v, rfl, hown2, hb⟩
      have hB2 := below_next (w := w) hB hb
      have hp3 := Lib.hid (hp2.below rfl hb)
      rw [HE.out.1] at hown2
      clear hb hB hp2
      obtain ⟨A2, cap2, rfl⟩ := own_slice hown2
      have hq := pairs_own hown2
      clear hown2
      go_wp2_with fail
      (with_reducible refine (List_any A2 n _ (packF L) _ HE.out.1 (by omega) hq HF.out).mono ?_)
      rintro e w3 ⟨u, rfl, hown3, hb⟩
      have hB3 := below_next (w := w) hB2 hb
      have hx := Lib.hid (hp3.out.below rfl hb)
      rw [HE.out.2, HLn.out] at hown3
      clear hb hB2 hp3 hq
      obtain ⟨A3, cap3, rfl⟩ := own_slice hown3
      have hy := Lib.hid (ints_own hown3)
      clear hown3
      go_wp2_with fail
      go_loopw [13] (fun i wx => ∃ j : Nat, j ≤ zs.length + 1 ∧ i = .int .i64 j ∧ Below w3.heap.size w3 wx) (fun i _ => zs.length + 1 - (intOf i).toNat)
      case atStart => exact ⟨0, by omega, rfl, Below.refl _ _⟩
      case round =>
        obtain ⟨j, hj, rfl, hBx⟩ := hrel
        by_cases hjt : j < zs.length + 1
        · have hjL : j < L.length := by rw [HLn.out]; exact hjt
          obtain ⟨b2, o2, rfl, hb2, d0⟩ := hx.out j hjL
          obtain ⟨b3, o3, rfl, hb3, d1⟩ := hy.out j hjL
          obtain ⟨s0, s1⟩ := HM.out (L.getD j 0) (by simp [List.getD, hjL])
          generalize L.getD j 0 = s at *
          clear hjL
          replace d0 := (hBx.cell (p := ⟨b2, o2 + j, none⟩) hb2).trans d0
          replace d1 := (hBx.cell (p := ⟨b3, o3 + j, none⟩) hb3).trans d1
          go_wp2_with fail
          go_region
          go_wp2_with fail
          go_roundw
          case rel => exact ⟨j + 1, by omega, by go_num, by go_grown⟩
          case measure => simp [intOf]; omega
        · go_wp2_with fail
          go_ret
          exact ⟨rfl, below_next (w := w) hB3 hBx⟩
end Go.Proofs.Ytfcocnmghmhflaa
