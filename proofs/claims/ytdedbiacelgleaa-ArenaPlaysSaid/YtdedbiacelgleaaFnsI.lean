/- The arena's functions that look at a slot, walked. -/
import Derived.Test.YtdedbiacelgleaaFns
namespace Go.Proofs.Ytdedbiacelgleaa
set_option linter.unusedSimpArgs false
set_option linter.unusedVariables false
open Go.RowKit
set_option maxHeartbeats 2000000 in
theorem at_some_i (w : World) (P L : Nat) (l : List Sl) (live sl tn : Int) (i : Nat) (hA : At w P L 62 65 l live) (hl : l.length ≤ 64) (h : atF l sl tn = some i) :
    Calls Try.prog 23 #[.pointer (some ⟨P, 0, none⟩), .agg #[.int .i64 sl, .int .u32 tn]] w fun e w' => e = .returned (.tuple #[.pointer (some ⟨L, i * 3, none⟩), .int .i64 0]) ∧ Below w.heap.size w w' := by
  obtain ⟨rfl, hi, hu, ht⟩ := atF_some h
  have HA := Lib.hid h; clear h
  obtain ⟨hP, hL, hne⟩ := hA
  obtain ⟨cP, fP, zP⟩ := blk_facts hP
  obtain ⟨d0, d1, d2⟩ := slot_cells hL hi
  obtain ⟨cL, fL, zL⟩ := blk_facts hL
  have CL := Lib.hid cL; clear cL
  rw [hu] at d2
  rw [ht] at d1
  have hU := Lib.hid hu; clear hu
  have hT := Lib.hid ht; clear ht
  have b0 : decide ((i : Int) < 0) = false := by simp
  have b1 : (0 : Int) ≤ (i : Int) := by omega
  have b2 : (i : Int) < (l.length : Int) := by omega
  have b3 : decide ((l.length : Int) ≤ (i : Int)) = false := by simpa using hi
  go_enter Try.func23, Try.ntmps23
  go_wp2_with fail
  go_quiet (fail)
  go_wp2_with fail
  go_quiet (fail)
  go_wp2_with fail
  go_quiet (fail)
  go_wp2_with fail
  go_ret2
  exact ⟨rfl, (below_drewN (below_drewN (below_drewN (Below.alloc (Below.refl _ _) (Nat.le_refl _) _) _) _) _)⟩
set_option maxHeartbeats 2000000 in
theorem at_none_i (w : World) (P L : Nat) (l : List Sl) (live sl tn : Int) (hA : At w P L 62 65 l live) (hl : l.length ≤ 64) (h : atF l sl tn = none) :
    Calls Try.prog 23 #[.pointer (some ⟨P, 0, none⟩), .agg #[.int .i64 sl, .int .u32 tn]] w fun e w' => e = .returned (.tuple #[.pointer none, .int .i64 26]) ∧ Below w.heap.size w w' := by
  have hw := atF_none h
  have HA := Lib.hid h; clear h
  obtain ⟨hP, hL, hne⟩ := hA
  obtain ⟨cP, fP, zP⟩ := blk_facts hP
  obtain ⟨cL, fL, zL⟩ := blk_facts hL
  have CL := Lib.hid cL; clear cL
  rcases hw with hn | hn | ⟨i, rfl, hi, hn⟩
  · have b0 : decide (sl < 0) = true := by simpa using hn
    go_enter Try.func23, Try.ntmps23
    go_wp2_with fail
    go_quiet (fail)
    go_wp2_with fail
    go_ret2
    exact ⟨rfl, (below_drewN (Below.alloc (Below.refl _ _) (Nat.le_refl _) _) _)⟩
  · have b0 : decide (sl < 0) = false := by simp; omega
    have b3 : decide ((l.length : Int) ≤ sl) = true := by simpa using hn
    go_enter Try.func23, Try.ntmps23
    go_wp2_with fail
    go_quiet (fail)
    go_wp2_with fail
    go_ret2
    exact ⟨rfl, (below_drewN (Below.alloc (Below.refl _ _) (Nat.le_refl _) _) _)⟩
  · obtain ⟨d0, d1, d2⟩ := slot_cells hL hi
    have b0 : decide ((i : Int) < 0) = false := by simp
    have b1 : (0 : Int) ≤ (i : Int) := by omega
    have b2 : (i : Int) < (l.length : Int) := by omega
    have b3 : decide ((l.length : Int) ≤ (i : Int)) = false := by simpa using hi
    rcases hn with hn | ⟨hn, hm⟩
    · rw [hn] at d2
      have hU := Lib.hid hn; clear hn
      go_enter Try.func23, Try.ntmps23
      go_wp2_with fail
      go_quiet (fail)
      go_wp2_with fail
      go_quiet (fail)
      go_wp2_with fail
      go_quiet (fail)
      go_wp2_with fail
      go_ret2
      exact ⟨rfl, (below_drewN (below_drewN (below_drewN (Below.alloc (Below.refl _ _) (Nat.le_refl _) _) _) _) _)⟩
    · rw [hn] at d2
      have hU := Lib.hid hn; clear hn
      have b4 : (l[i].turn == tn) = false := beq_eq_false_iff_ne.2 hm
      generalize l[i].turn = tu at *
      go_enter Try.func23, Try.ntmps23
      go_wp2_with fail
      go_quiet (fail)
      go_wp2_with fail
      go_quiet (fail)
      go_wp2_with fail
      go_quiet (fail)
      go_wp2_with fail
      go_ret2
      exact ⟨rfl, (below_drewN (below_drewN (below_drewN (Below.alloc (Below.refl _ _) (Nat.le_refl _) _) _) _) _)⟩
set_option maxHeartbeats 2000000 in
theorem get_some_i (w : World) (P L : Nat) (l : List Sl) (live sl tn : Int) (x : Int) (i : Nat) (hA : At w P L 62 65 l live) (hl : l.length ≤ 64) (h : atF l sl tn = some i) (hx : ∀ hi : i < l.length, l[i].x = .int .i64 x) :
    Calls Try.prog 11 #[.pointer (some ⟨P, 0, none⟩), .agg #[.int .i64 sl, .int .u32 tn]] w fun e w' => e = .returned (.tuple #[.int .i64 x, .int .i64 0]) ∧ Below w.heap.size w w' := by
  have HA := Lib.hid h; clear h
  have HX := Lib.hid hx; clear hx
  have AA := Lib.hid hA; clear hA
  go_enter Try.func11, Try.ntmps11
  go_wp2_with fail
  with_reducible refine (at_some_i _ P L l live sl tn i (AA.out.alloc _) hl HA.out).mono ?_
  rintro e w1 ⟨rfl, hb⟩
  have hA1 := (AA.out.alloc (.cells #[.int .i64 sl, .int .u32 tn] 31)).below hb
  have hi := (atF_some HA.out).2.1
  obtain ⟨d0, _, _⟩ := slot_cells hA1.l hi
  rw [HX.out hi] at d0
  have zL := blk_lt hA1.l
  have A1 := Lib.hid hA1; clear hA1
  have HB := hb
  go_wp2_with fail
  go_ret2
  exact ⟨rfl, below_next (Below.alloc (Below.refl _ _) (Nat.le_refl _) _) hb⟩
theorem get_none_i (w : World) (P L : Nat) (l : List Sl) (live sl tn : Int) (hA : At w P L 62 65 l live) (hl : l.length ≤ 64) (h : atF l sl tn = none) :
    Calls Try.prog 11 #[.pointer (some ⟨P, 0, none⟩), .agg #[.int .i64 sl, .int .u32 tn]] w fun e w' => e = .returned (.tuple #[.int .i64 0, .int .i64 26]) ∧ Below w.heap.size w w' := by
  have HA := Lib.hid h; clear h
  have AA := Lib.hid hA; clear hA
  go_enter Try.func11, Try.ntmps11
  go_wp2_with fail
  with_reducible refine (at_none_i _ P L l live sl tn (AA.out.alloc _) hl HA.out).mono ?_
  rintro e w1 ⟨rfl, hb⟩
  go_wp2_with fail
  go_ret2
  exact ⟨rfl, below_next (Below.alloc (Below.refl _ _) (Nat.le_refl _) _) hb⟩
theorem free_none_i (w : World) (P L : Nat) (l : List Sl) (live sl tn : Int) (hA : At w P L 62 65 l live) (hl : l.length ≤ 64) (h : atF l sl tn = none) :
    Calls Try.prog 10 #[.pointer (some ⟨P, 0, none⟩), .agg #[.int .i64 sl, .int .u32 tn]] w fun e w' => e = .returned (.int .i64 26) ∧ Below w.heap.size w w' := by
  have HA := Lib.hid h; clear h
  have AA := Lib.hid hA; clear hA
  go_enter Try.func10, Try.ntmps10
  go_wp2_with fail
  with_reducible refine (at_none_i _ P L l live sl tn (AA.out.alloc _) hl HA.out).mono ?_
  rintro e w1 ⟨rfl, hb⟩
  go_wp2_with fail
  go_ret
  exact ⟨rfl, below_next (Below.alloc (Below.refl _ _) (Nat.le_refl _) _) hb⟩
set_option maxHeartbeats 2000000 in
theorem free_some_i (w : World) (P L : Nat) (l : List Sl) (live sl tn : Int) (i : Nat) (hA : At w P L 62 65 l live) (hl : l.length ≤ 64) (hv0 : -1000 ≤ live) (hv1 : live ≤ 1000) (h : atF l sl tn = some i) :
    Calls Try.prog 10 #[.pointer (some ⟨P, 0, none⟩), .agg #[.int .i64 sl, .int .u32 tn]] w fun e w' => e = .returned (.int .i64 0) ∧ At w' P L 62 65 (l.set i ⟨.int .i64 0, tn, false⟩) (live - 1) ∧ Turned P L w w' := by
  have HA := Lib.hid h; clear h
  have AA := Lib.hid hA; clear hA
  go_enter Try.func10, Try.ntmps10
  go_wp2_with fail
  with_reducible refine (at_some_i _ P L l live sl tn i (AA.out.alloc _) hl HA.out).mono ?_
  rintro e w1 ⟨rfl, hb⟩
  have hA1 := (AA.out.alloc (.cells #[.int .i64 sl, .int .u32 tn] 31)).below hb
  have ht1 : Turned P L w w1 := ((Turned.refl P L w).alloc _).trans (.of hb)
  obtain ⟨rfl, hi, hu, ht⟩ := atF_some HA.out
  obtain ⟨d0, d1, d2⟩ := slot_cells hA1.l hi
  have hP := hA1.p
  have hL := hA1.l
  have hne := hA1.ne
  have hne' : L ≠ P := fun h => hne h.symm
  obtain ⟨cP, fP, zP⟩ := blk_facts hP
  obtain ⟨cL, fL, zL⟩ := blk_facts hL
  have CL := Lib.hid cL; clear cL
  have A1 := Lib.hid hA1; clear hA1
  have HU := Lib.hid hu; clear hu
  have HT := Lib.hid ht; clear ht
  go_wp2_with fail
  go_ret
  refine ⟨rfl, ⟨?_, ?_, hne⟩, ?_⟩
  · rw [List.length_set]
    exact (Eq.trans (b := some (Obj.cells _ _ (0, 0))) (by repeat (first | (with_reducible assumption) | (with_reducible apply heap_set_row2) | (with_reducible apply heap_set_same) | ((with_reducible apply heap_set_other'); (focus (first | omega | (simp; done) | (simp; omega)))) | ((with_reducible apply heap_alloc_new); (focus (first | omega | (simp; done) | (simp; omega)))) | (with_reducible apply heap_alloc_old') | (with_reducible apply (heap_drew_at _ _).trans) | (with_reducible apply (heap_drewN_at _ _ _).trans) | (simp only [List.size_toArray, List.length_cons, List.length_nil]; done))) (by exact rfl))
  · rw [← HT.out]
    exact set_free hi (by repeat (first | (with_reducible assumption) | (with_reducible apply heap_set_row2) | (with_reducible apply heap_set_same) | ((with_reducible apply heap_set_other'); (focus (first | omega | (simp; done) | (simp; omega)))) | ((with_reducible apply heap_alloc_new); (focus (first | omega | (simp; done) | (simp; omega)))) | (with_reducible apply heap_alloc_old') | (with_reducible apply (heap_drew_at _ _).trans) | (with_reducible apply (heap_drewN_at _ _ _).trans) | (simp only [List.size_toArray, List.length_cons, List.length_nil]; done)))
  · exact (by repeat (first | (with_reducible exact Turned.refl _ _ _) | (with_reducible assumption) | ((with_reducible apply turned_set); (focus (first | (exact .inl rfl) | (exact .inr (.inl rfl)) | (refine .inr (.inr ?_); first | omega | (simp; done) | (simp; omega))))) | (with_reducible apply Turned.alloc) | (with_reducible apply Turned.drewN) | (with_reducible apply Turned.drew)))
set_option maxHeartbeats 2000000 in
theorem refs_i (w : World) (P L : Nat) (l : List Sl) (live : Int) (hA : At w P L 62 65 l live) (hl : l.length ≤ 64) :
    Calls Try.prog 15 #[.pointer (some ⟨P, 0, none⟩)] w fun e w' => ∃ A cap, e = .returned (.slice A (usedRefs l l.length).length cap) ∧ w'.ownsRow w.heap.size 31 2 (.slice A (usedRefs l l.length).length cap) (usedRefs l l.length).length (refCells (usedRefs l l.length)) ∧ Below w.heap.size w w' := by
  obtain ⟨i0, hi, hz0, hz1, hz2⟩ := info_parts info31
  obtain ⟨hP, hL, hne⟩ := hA
  obtain ⟨cP, fP, zP⟩ := blk_facts hP
  obtain ⟨cL, fL, zL⟩ := blk_facts hL
  have CL := Lib.hid cL; clear cL
  go_enter Try.func15, Try.ntmps15
  go_wp2_with fail
  go_loopw [3, 12] (fun v j wr => ∃ k : Nat, k ≤ l.length ∧ j = .int .i64 k ∧ wr.ownsRow w.heap.size 31 2 v (usedRefs l k).length (refCells (usedRefs l k)) ∧ Below w.heap.size w wr) (fun _ j _ => l.length - (intOf j).toNat)
  case atStart => exact ⟨0, by omega, rfl, by simpa [usedRefs, refCells] using World.ownsRow_nil w w.heap.size 31 2, Below.refl _ _⟩
  case round =>
    clear fP fL
    obtain ⟨k, hk, rfl, hown, hB⟩ := hrel
    obtain ⟨A3, cap3, rfl⟩ := own_slice hown
    have hPr := heap_below hB zP hP
    have hLr := heap_below hB zL hL
    obtain ⟨cPr, fPr, zPr⟩ := blk_facts hPr
    have hBs := hB.size
    have hle := usedRefs_le l k
    clear cP
    by_cases hlt : k < l.length
    · obtain ⟨d0, d1, d2⟩ := slot_cells hLr hlt
      have zLr := blk_lt hLr
      have hst := usedRefs_succ l k hlt
      have HST := Lib.hid hst; clear hst
      cases hu : l[k].used with
      | false =>
        rw [hu] at d2 HST
        have HU := Lib.hid hu; clear hu
        go_wp2_with fail
        go_roundw
        case rel => exact ⟨k + 1, by omega, by go_num, by rw [HST.out]; simpa using hown, hB⟩
        case measure => simp [intOf]; omega
      | true =>
        rw [hu] at d2 HST
        have HU := Lib.hid hu; clear hu
        go_wp2_with (first
          | (at_builtin; refine wpList_append_own _ rfl (.tmp 23) (.tmp 34) 26 rfl w.heap.size 31 i0 (.agg #[.int .i64 0, .int .u32 0]) 2 16 Try.underlying26 hi hz0 hz1 hz2 rfl (by decide) _ _ _ rfl (hown.alloc _) ⟨wr.heap.size, 0, none⟩ 1 1 [.int .i64 k, .int .u32 l[k].turn] rfl rfl (new_cells (by simp)) (one_cells rfl) (by unfold maxLen; first | omega | (simp only [List.length_append, List.length_cons]; omega)) (by first | omega | (simp only [List.length_append, List.length_cons]; omega)) (by have := hB.size; first | omega | (simp; omega)) ?_; intro v1 w1 hown1 hgrow1 _))
        go_roundw
        case rel => exact ⟨k + 1, by omega, by go_num, by rw [HST.out]; simpa [refCells] using hown1, below_grown (hB.alloc hBs _) (by simp; omega) (hown.alloc _) hgrow1⟩
        case measure => simp [intOf]; omega
    · have hkl : k = l.length := by omega
      subst hkl
      go_wp2_with fail
      go_ret
      exact ⟨_, _, rfl, hown, hB⟩
end Go.Proofs.Ytdedbiacelgleaa
