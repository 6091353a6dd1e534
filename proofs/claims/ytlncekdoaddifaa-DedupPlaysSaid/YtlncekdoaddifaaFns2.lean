/- The table's functions that write, walked. -/
import Derived.Test.YtlncekdoaddifaaFns
namespace Go.Proofs.Ytlncekdoaddifaa
set_option linter.unusedSimpArgs false
set_option linter.unusedVariables false
open Go.RowKit

theorem field55 (a : ByteArray) (d : Bool) (w : World) : (Instr.field 55 (.agg #[.string a, .bool d]) 1).run Try.prog w = .ok (.bool d) w := by kernel_rfl
theorem end_none (w : World) (T M B room n : Nat) (L : List En) (x : Int) (s : ByteArray) (h : TabAt w T M B room n L) (hx0 : 0 ≤ x) (hx1 : x ≤ 18446744073709551615) (hf : findF L x = none) :
    Calls Try.prog 11 #[.pointer (some ⟨T, 0, none⟩), .int .u64 x, .string s] w fun e w' => e = .returned (.int .i64 21) ∧ Below w.heap.size w w' := by
  obtain ⟨⟨v, hT, hv⟩, hM, bT, bM, bw⟩ := h
  obtain ⟨cT, fT, zT⟩ := blk_facts hT
  have l1 : (mapF L x).getD (.agg #[.string ⟨#[]⟩, .bool false]) = .agg #[.string ⟨#[]⟩, .bool false] := by unfold mapF; rw [hf]; rfl
  have l2 : (mapF L x).isSome = false := by unfold mapF; rw [hf]; rfl
  have H1 := Lib.hid l1; clear l1
  have H2 := Lib.hid l2; clear l2 hf
  have hxw := wf_u64 hx0 hx1
  go_enter Try.func11, Try.ntmps11
  go_wp2_with (at_lookup; refine wpList_map_look' _ rfl (.tmp 15) (.tmp 16) 47 rfl 29 55 .u64 Try.underlying29 Try.underlying47 (zero55 _) M n (mapF L) rfl hM x rfl hxw _ _ H1.out H2.out ?_)
  go_ret
  exact ⟨rfl, by go_grown⟩
theorem end_done (w : World) (T M B room n : Nat) (L : List En) (x : Int) (s : ByteArray) (h : TabAt w T M B room n L) (hx0 : 0 ≤ x) (hx1 : x ≤ 18446744073709551615) (e : En) (hf : findF L x = some e) (hd : e.done = true) :
    Calls Try.prog 11 #[.pointer (some ⟨T, 0, none⟩), .int .u64 x, .string s] w fun e w' => e = .returned (.int .i64 23) ∧ Below w.heap.size w w' := by
  obtain ⟨⟨v, hT, hv⟩, hM, bT, bM, bw⟩ := h
  obtain ⟨cT, fT, zT⟩ := blk_facts hT
  have l1 : (mapF L x).getD (.agg #[.string ⟨#[]⟩, .bool false]) = .agg #[.string e.ans, .bool true] := by unfold mapF; rw [hf, ← hd]; rfl
  have l2 : (mapF L x).isSome = true := by unfold mapF; rw [hf]; rfl
  have H1 := Lib.hid l1; clear l1
  have H2 := Lib.hid l2; clear l2 hf hd
  have hxw := wf_u64 hx0 hx1
  go_enter Try.func11, Try.ntmps11
  go_wp2_with (at_lookup; refine wpList_map_look' _ rfl (.tmp 15) (.tmp 16) 47 rfl 29 55 .u64 Try.underlying29 Try.underlying47 (zero55 _) M n (mapF L) rfl hM x rfl hxw _ _ H1.out H2.out ?_)
  go_ret
  exact ⟨rfl, by go_grown⟩
theorem end_set (w : World) (T M B room n : Nat) (L : List En) (x : Int) (s : ByteArray) (h : TabAt w T M B room n L) (hx0 : 0 ≤ x) (hx1 : x ≤ 18446744073709551615) (hn : n ≤ 1000000) (e : En) (hf : findF L x = some e) (hd : e.done = false) :
    Calls Try.prog 11 #[.pointer (some ⟨T, 0, none⟩), .int .u64 x, .string s] w fun e w' => e = .returned (.int .i64 0) ∧ TabAt w' T M B room (n + 1) (setF L x s) ∧ Moved T B w w' := by
  obtain ⟨⟨v, hT, hv⟩, hM, bT, bM, bw⟩ := h
  obtain ⟨cT, fT, zT⟩ := blk_facts hT
  have l1 : (mapF L x).getD (.agg #[.string ⟨#[]⟩, .bool false]) = .agg #[.string e.ans, .bool false] := by unfold mapF; rw [hf, ← hd]; rfl
  have l2 : (mapF L x).isSome = true := by unfold mapF; rw [hf]; rfl
  have H1 := Lib.hid l1; clear l1
  have H2 := Lib.hid l2; clear l2 hd
  have HF := Lib.hid hf; clear hf
  have hMT := map_ne hM hT
  have hxw := wf_u64 hx0 hx1
  go_enter Try.func11, Try.ntmps11
  go_wp2_with (first | (at_lookup; refine wpList_map_look' _ rfl (.tmp 15) (.tmp 16) 47 rfl 29 55 .u64 Try.underlying29 Try.underlying47 (zero55 _) M n (mapF L) rfl hM x rfl hxw _ _ H1.out H2.out ?_) | (at_mapUpdate; refine wpList_map_put _ rfl (.tmp 29) (.tmp 30) (.tmp 32) 47 rfl 29 55 .u64 Try.underlying29 Try.underlying47 M n (mapF L) rfl (by repeat (first | (with_reducible assumption) | (with_reducible apply MapIs.alloc) | (with_reducible apply MapIs.drewN) | (with_reducible apply MapIs.drew) | ((with_reducible apply mapis_set); (focus (first | exact hMT | omega | (simp; done) | (simp; omega)))))) (by unfold maxLen; omega) x _ rfl rfl hxw ?_; intro w2 hM2 hg2))
  go_ret
  refine ⟨rfl, ⟨⟨v, blk_grown_map (heap_alloc_old' hT) (hM.alloc _) hg2, ?_⟩, hM2.congr (mapF_set HF.out s), bT, bM, by have := hg2.size; simp at this; omega⟩, ((Moved.refl T B w).alloc bw _).grownMap (hM.alloc _) hg2 bM (by simp; omega)⟩
  rw [idsV_set]
  exact row_grown_map (hv.alloc _) (hM.alloc _) hg2
theorem end_t (w : World) (T M B room n : Nat) (L : List En) (x : Int) (s : ByteArray) (h : TabAt w T M B room n L) (hx0 : 0 ≤ x) (hx1 : x ≤ 18446744073709551615) (hn : n ≤ 1000000) (L' : List En) (c : Int) (he : endF L x s = (L', c)) :
    Calls Try.prog 11 #[.pointer (some ⟨T, 0, none⟩), .int .u64 x, .string s] w fun e w' => e = .returned (.int .i64 c) ∧ TabAt w' T M B room (n + 1) L' ∧ Moved T B w w' := by
  unfold endF at he
  split at he
  · rename_i q
    cases he
    exact (end_none w T M B room n L x s h hx0 hx1 q).mono fun e w' ⟨h1, h2⟩ => ⟨h1, (h.below h2).mono (by omega), .of h2 h.bw⟩
  · rename_i en q
    cases hd : en.done with
    | true =>
      rw [hd] at he
      cases he
      exact (end_done w T M B room n L x s h hx0 hx1 en q hd).mono fun e w' ⟨h1, h2⟩ => ⟨h1, (h.below h2).mono (by omega), .of h2 h.bw⟩
    | false =>
      rw [hd] at he
      cases he
      exact end_set w T M B room n L x s h hx0 hx1 hn en q hd
theorem start_twice (w : World) (T M B room n : Nat) (L : List En) (x : Int) (h : TabAt w T M B room n L) (hx0 : 0 ≤ x) (hx1 : x ≤ 18446744073709551615) (hf : (findF L x).isSome = true) :
    Calls Try.prog 13 #[.pointer (some ⟨T, 0, none⟩), .int .u64 x] w fun e w' => e = .returned (.int .i64 22) ∧ Below w.heap.size w w' := by
  obtain ⟨en, hf⟩ := Option.isSome_iff_exists.1 hf
  obtain ⟨⟨v, hT, hv⟩, hM, bT, bM, bw⟩ := h
  obtain ⟨cT, fT, zT⟩ := blk_facts hT
  have l1 : (mapF L x).getD (.agg #[.string ⟨#[]⟩, .bool false]) = .agg #[.string en.ans, .bool en.done] := by unfold mapF; rw [hf]; rfl
  have l2 : (mapF L x).isSome = true := by unfold mapF; rw [hf]; rfl
  have H1 := Lib.hid l1; clear l1
  have H2 := Lib.hid l2; clear l2 hf
  have hxw := wf_u64 hx0 hx1
  go_enter Try.func13, Try.ntmps13
  go_wp2_with (at_lookup; refine wpList_map_look' _ rfl (.tmp 14) (.tmp 15) 47 rfl 29 55 .u64 Try.underlying29 Try.underlying47 (zero55 _) M n (mapF L) rfl hM x rfl hxw _ _ H1.out H2.out ?_)
  go_ret
  exact ⟨rfl, by go_grown⟩
theorem start_push (w : World) (T M B room n : Nat) (L : List En) (x : Int) (h : TabAt w T M B room n L) (hx0 : 0 ≤ x) (hx1 : x ≤ 18446744073709551615) (hn : n ≤ 1000000) (hl : L.length ≤ 5000) (hf : findF L x = none) (hr : L.length ≠ room) :
    Calls Try.prog 13 #[.pointer (some ⟨T, 0, none⟩), .int .u64 x] w fun e w' => e = .returned (.int .i64 0) ∧ TabAt w' T M B room (n + 1) (L ++ [new x]) ∧ Moved T B w w' := by
  obtain ⟨i29, hi, hz0, hz1, hz2⟩ := info_parts info29
  obtain ⟨⟨v, hT, hv⟩, hM, bT, bM, bw⟩ := h
  obtain ⟨A, cap, rfl⟩ := hv.slice
  have e1 := idsV_length L
  rw [e1] at hT hv
  clear e1
  obtain ⟨cT, fT, zT⟩ := blk_facts hT
  have l1 : (mapF L x).getD (.agg #[.string ⟨#[]⟩, .bool false]) = .agg #[.string ⟨#[]⟩, .bool false] := by unfold mapF; rw [hf]; rfl
  have l2 : (mapF L x).isSome = false := by unfold mapF; rw [hf]; rfl
  have H1 := Lib.hid l1; clear l1
  have H2 := Lib.hid l2; clear l2
  have HF := Lib.hid hf; clear hf
  have hMT := map_ne hM hT
  have hxw := wf_u64 hx0 hx1
  have hr1 : ((L.length : Int) == (room : Int)) = false := beq_eq_false_iff_ne.2 (by omega)
  go_enter Try.func13, Try.ntmps13
  go_wp2_with (at_lookup; refine wpList_map_look' _ rfl (.tmp 14) (.tmp 15) 47 rfl 29 55 .u64 Try.underlying29 Try.underlying47 (zero55 _) M n (mapF L) rfl hM x rfl hxw _ _ H1.out H2.out ?_)
  go_quiet (fail)
  go_upto_region 13 with (at_builtin; refine wpList_append_q _ rfl (.tmp 61) (.tmp 63) 48 rfl B 29 i29 (.int .u64 0) 8 Try.underlying48 hi hz0 hz1 hz2 rfl (.slice A L.length cap) (idsV L) rfl (by repeat (first | (with_reducible assumption) | (with_reducible apply QRow.alloc) | (with_reducible apply QRow.drewN) | (with_reducible apply QRow.drew) | ((with_reducible refine qrow_set ?_ ?_ ?_); (focus (repeat (first | (with_reducible assumption) | (with_reducible apply heap_set_row2) | (with_reducible apply heap_set_row3) | (with_reducible apply heap_set_same) | ((with_reducible apply heap_set_other'); (focus (first | omega | (simp; done) | (simp; omega)))) | ((with_reducible apply heap_alloc_new); (focus (first | omega | (simp; done) | (simp; omega)))) | (with_reducible apply heap_alloc_old') | (with_reducible apply (heap_drew_at _ _).trans) | (with_reducible apply (heap_drewN_at _ _ _).trans) | (simp only [List.size_toArray, List.length_cons, List.length_nil]; done)))); (focus decide)))) ⟨_, 0, none⟩ 1 (.int .u64 x) rfl (by first | exact cell_new (by simp) | exact cell_new_drewN (by simp) | exact cell_new_in (by simp)) rfl (by unfold maxLen; rw [idsV_length]; omega) (by rw [idsV_length]; omega) (by first | omega | (simp; omega)) ?_; intro v1 w1 hv1 hg1; obtain ⟨⟨A1, cap1, rfl⟩, hT1, hM1, hMv, z1⟩ := after_push (w := w) (T := T) (room := room) (v := (.slice A L.length cap)) (f := (mapF L)) (n := n) (M := M) (by repeat (first | (with_reducible assumption) | (with_reducible apply heap_set_row2) | (with_reducible apply heap_set_row3) | (with_reducible apply heap_set_same) | ((with_reducible apply heap_set_other'); (focus (first | omega | (simp; done) | (simp; omega)))) | ((with_reducible apply heap_alloc_new); (focus (first | omega | (simp; done) | (simp; omega)))) | (with_reducible apply heap_alloc_old') | (with_reducible apply (heap_drew_at _ _).trans) | (with_reducible apply (heap_drewN_at _ _ _).trans) | (simp only [List.size_toArray, List.length_cons, List.length_nil]; done))) (by repeat (first | (with_reducible assumption) | (with_reducible apply QRow.alloc) | (with_reducible apply QRow.drewN) | (with_reducible apply QRow.drew) | ((with_reducible refine qrow_set ?_ ?_ ?_); (focus (repeat (first | (with_reducible assumption) | (with_reducible apply heap_set_row2) | (with_reducible apply heap_set_row3) | (with_reducible apply heap_set_same) | ((with_reducible apply heap_set_other'); (focus (first | omega | (simp; done) | (simp; omega)))) | ((with_reducible apply heap_alloc_new); (focus (first | omega | (simp; done) | (simp; omega)))) | (with_reducible apply heap_alloc_old') | (with_reducible apply (heap_drew_at _ _).trans) | (with_reducible apply (heap_drewN_at _ _ _).trans) | (simp only [List.size_toArray, List.length_cons, List.length_nil]; done)))); (focus decide)))) (by repeat (first | (with_reducible assumption) | (with_reducible apply MapIs.alloc) | (with_reducible apply MapIs.drewN) | (with_reducible apply MapIs.drew) | ((with_reducible apply mapis_set); (focus (first | exact hMT | omega | (simp; done) | (simp; omega)))))) (by repeat (first | (with_reducible assumption) | (with_reducible exact Moved.refl _ _ _) | (with_reducible apply Moved.drewN) | ((with_reducible apply moved_set); (focus omega)) | ((with_reducible apply moved_alloc); (focus (first | omega | (simp; omega)))))) (by first | omega | (simp; omega)) hv1 hg1; (try simp at z1); clear hg1 cT fT zT; obtain ⟨cT, fT, zT⟩ := blk_facts hT1; clear hT hM hv)
  go_wp2_with (at_mapUpdate; refine wpList_map_put _ rfl (.tmp 70) (.tmp 71) (.tmp 72) 47 rfl 29 55 .u64 Try.underlying29 Try.underlying47 M n (mapF L) rfl (by repeat (first | (with_reducible assumption) | (with_reducible apply MapIs.alloc) | (with_reducible apply MapIs.drewN) | (with_reducible apply MapIs.drew) | ((with_reducible apply mapis_set); (focus (first | exact hMT | omega | (simp; done) | (simp; omega)))))) (by unfold maxLen; omega) x _ rfl rfl hxw ?_; intro w2 hM2 hg2)
  go_ret
  refine ⟨rfl, ⟨⟨.slice A1 ((idsV L).length + 1) cap1, ?_, ?_⟩, hM2.congr (mapF_push HF.out), bT, bM, by have := hg2.size; simp at this; omega⟩, hMv.set bT 1 _ |>.grownMap (hM1.set hMT _) hg2 bM (by simp; omega)⟩
  · exact blk_grown_map (heap_set_same 1 _ hT1) (hM1.set hMT _) hg2
  · rw [idsV_push]
    exact row_grown_map (qrow_set hT1 (by decide) hv1) (hM1.set hMT _) hg2
theorem start_wait (w : World) (T M B room n : Nat) (e : En) (r : List En) (x : Int) (h : TabAt w T M B room n (e :: r)) (hok : Ok (e :: r) room) (hx0 : 0 ≤ x) (hx1 : x ≤ 18446744073709551615) (hl : (e :: r).length ≤ 5000) (hf : findF (e :: r) x = none) (hr : r.length + 1 = room) (hd : e.done = false) :
    Calls Try.prog 13 #[.pointer (some ⟨T, 0, none⟩), .int .u64 x] w fun e w' => e = .returned (.int .i64 20) ∧ Below w.heap.size w w' := by
  obtain ⟨⟨v, hT, hv⟩, hM, bT, bM, bw⟩ := h
  obtain ⟨A, cap, rfl⟩ := hv.slice
  have e1 : (idsV (e :: r)).length = r.length + 1 := by simp [idsV]
  rw [e1] at hT hv
  clear e1
  obtain ⟨g, off, rfl, _, gl, gc, gf⟩ := qrow_cell hv (j := 0) (by simp [idsV])
  have hcap := (qrow_len hv).2.1
  have hfd := field55
  rw [Nat.add_zero] at gc gf
  replace gc : w.cell? ⟨g, off, none⟩ = some (.int .u64 e.id) := gc
  obtain ⟨cT, fT, zT⟩ := blk_facts hT
  obtain ⟨b0, b1⟩ := hok.lo e (by simp)
  have hex := wf_u64 b0 b1
  have hfe : findF (e :: r) e.id = some e := findF_mem hok.nd (by simp)
  have l1 : (mapF (e :: r) x).getD (.agg #[.string ⟨#[]⟩, .bool false]) = .agg #[.string ⟨#[]⟩, .bool false] := by unfold mapF; rw [hf]; rfl
  have l2 : (mapF (e :: r) x).isSome = false := by unfold mapF; rw [hf]; rfl
  have l3 : (mapF (e :: r) e.id).getD (.agg #[.string ⟨#[]⟩, .bool false]) = .agg #[.string e.ans, .bool false] := by unfold mapF; rw [hfe, ← hd]; rfl
  have H1 := Lib.hid l1; clear l1
  have H2 := Lib.hid l2; clear l2
  have H3 := Lib.hid l3; clear l3
  have HF := Lib.hid hf; clear hf hfe hd
  have hxw := wf_u64 hx0 hx1
  have hl2 : r.length + 1 ≤ 5000 := by simpa using hl
  clear hl
  subst hr
  have p0 : (0 : Int) < ((r.length + 1 : Nat) : Int) := by omega
  go_enter Try.func13, Try.ntmps13
  go_wp2_with (at_lookup; refine wpList_map_look' _ rfl (.tmp 14) (.tmp 15) 47 rfl 29 55 .u64 Try.underlying29 Try.underlying47 (zero55 _) M n (mapF (e :: r)) rfl hM x rfl hxw _ _ H1.out H2.out ?_)
  go_quiet (fail)
  go_wp2_with (at_lookup; refine wpList_map_get' _ rfl (.tmp 39) (.tmp 40) 47 rfl 29 55 .u64 Try.underlying29 Try.underlying47 (zero55 _) M n (mapF (e :: r)) rfl (by repeat (first | (with_reducible assumption) | (with_reducible apply MapIs.alloc) | (with_reducible apply MapIs.drewN) | (with_reducible apply MapIs.drew) | ((with_reducible apply mapis_set); (focus (first | exact hMT | omega | (simp; done) | (simp; omega)))))) e.id rfl hex _ H3.out ?_)
  go_ret
  exact ⟨rfl, by first | (go_grown; done) | exact below_drewN (by go_grown) _⟩
set_option maxHeartbeats 1000000 in
theorem start_roll (w : World) (T M B room n : Nat) (e : En) (r : List En) (x : Int) (h : TabAt w T M B room n (e :: r)) (hok : Ok (e :: r) room) (hx0 : 0 ≤ x) (hx1 : x ≤ 18446744073709551615) (hn : n ≤ 1000000) (hl : (e :: r).length ≤ 5000) (hf : findF (e :: r) x = none) (hr : r.length + 1 = room) (hd : e.done = true) :
    Calls Try.prog 13 #[.pointer (some ⟨T, 0, none⟩), .int .u64 x] w fun e w' => e = .returned (.int .i64 0) ∧ TabAt w' T M B room (n + 1) (r ++ [new x]) ∧ Moved T B w w' := by
  obtain ⟨i29, hi, hz0, hz1, hz2⟩ := info_parts info29
  obtain ⟨⟨v, hT, hv⟩, hM, bT, bM, bw⟩ := h
  obtain ⟨A, cap, rfl⟩ := hv.slice
  have e1 : (idsV (e :: r)).length = r.length + 1 := by simp [idsV]
  rw [e1] at hT hv
  clear e1
  obtain ⟨g, off, rfl, _, gl, gc, gf⟩ := qrow_cell hv (j := 0) (by simp [idsV])
  have hcap := (qrow_len hv).2.1
  have hfd := field55
  rw [Nat.add_zero] at gc gf
  replace gc : w.cell? ⟨g, off, none⟩ = some (.int .u64 e.id) := gc
  obtain ⟨cT, fT, zT⟩ := blk_facts hT
  obtain ⟨b0, b1⟩ := hok.lo e (by simp)
  have hex := wf_u64 b0 b1
  have hfe : findF (e :: r) e.id = some e := findF_mem hok.nd (by simp)
  have l1 : (mapF (e :: r) x).getD (.agg #[.string ⟨#[]⟩, .bool false]) = .agg #[.string ⟨#[]⟩, .bool false] := by unfold mapF; rw [hf]; rfl
  have l2 : (mapF (e :: r) x).isSome = false := by unfold mapF; rw [hf]; rfl
  have l3 : (mapF (e :: r) e.id).getD (.agg #[.string ⟨#[]⟩, .bool false]) = .agg #[.string e.ans, .bool true] := by unfold mapF; rw [hfe, ← hd]; rfl
  have H1 := Lib.hid l1; clear l1
  have H2 := Lib.hid l2; clear l2
  have H3 := Lib.hid l3; clear l3
  have HF := Lib.hid (tail_none hf); clear hf hfe hd
  have HN := Lib.hid hok.nd
  have hMT := map_ne hM hT
  have hxw := wf_u64 hx0 hx1
  have hl2 : r.length + 1 ≤ 5000 := by simpa using hl
  clear hl
  subst hr
  have p0 : (0 : Int) < ((r.length + 1 : Nat) : Int) := by omega
  by_cases hc1 : cap = 1
  · subst hc1
    have hr0 : r.length = 0 := by omega
    have HR0 := Lib.hid hr0; clear hr0
    go_enter Try.func13, Try.ntmps13
    go_wp2_with (at_lookup; refine wpList_map_look' _ rfl (.tmp 14) (.tmp 15) 47 rfl 29 55 .u64 Try.underlying29 Try.underlying47 (zero55 _) M n (mapF (e :: r)) rfl hM x rfl hxw _ _ H1.out H2.out ?_)
    go_quiet (fail)
    go_upto_region 11 with (first | (at_lookup; refine wpList_map_get' _ rfl (.tmp 39) (.tmp 40) 47 rfl 29 55 .u64 Try.underlying29 Try.underlying47 (zero55 _) M n (mapF (e :: r)) rfl (by repeat (first | (with_reducible assumption) | (with_reducible apply MapIs.alloc) | (with_reducible apply MapIs.drewN) | (with_reducible apply MapIs.drew) | ((with_reducible apply mapis_set); (focus (first | exact hMT | omega | (simp; done) | (simp; omega)))))) e.id rfl hex _ H3.out ?_) | (at_delete; refine wpList_map_del _ rfl (.tmp 47) (.tmp 48) 47 29 rfl 55 .u64 Try.underlying29 Try.underlying47 M n (mapF (e :: r)) rfl (by repeat (first | (with_reducible assumption) | (with_reducible apply MapIs.alloc) | (with_reducible apply MapIs.drewN) | (with_reducible apply MapIs.drew) | ((with_reducible apply mapis_set); (focus (first | exact hMT | omega | (simp; done) | (simp; omega)))))) e.id rfl hex ?_; intro w3 hM3 hg3; obtain ⟨hT3, hv3, hMv3, z3⟩ := after_map (w := w) (T := T) (c := #[.int .i64 ((r.length + 1 : Nat) : Int), .slice (some ⟨g, off, none⟩) (r.length + 1) 1, .map (some M)]) (v := .slice (some ⟨g, off, none⟩) (r.length + 1) 1) (by repeat (first | (with_reducible assumption) | (with_reducible apply heap_set_row2) | (with_reducible apply heap_set_row3) | (with_reducible apply heap_set_same) | ((with_reducible apply heap_set_other'); (focus (first | omega | (simp; done) | (simp; omega)))) | ((with_reducible apply heap_alloc_new); (focus (first | omega | (simp; done) | (simp; omega)))) | (with_reducible apply heap_alloc_old') | (with_reducible apply (heap_drew_at _ _).trans) | (with_reducible apply (heap_drewN_at _ _ _).trans) | (simp only [List.size_toArray, List.length_cons, List.length_nil]; done))) (by repeat (first | (with_reducible assumption) | (with_reducible apply QRow.alloc) | (with_reducible apply QRow.drewN) | (with_reducible apply QRow.drew) | ((with_reducible refine qrow_set ?_ ?_ ?_); (focus (repeat (first | (with_reducible assumption) | (with_reducible apply heap_set_row2) | (with_reducible apply heap_set_row3) | (with_reducible apply heap_set_same) | ((with_reducible apply heap_set_other'); (focus (first | omega | (simp; done) | (simp; omega)))) | ((with_reducible apply heap_alloc_new); (focus (first | omega | (simp; done) | (simp; omega)))) | (with_reducible apply heap_alloc_old') | (with_reducible apply (heap_drew_at _ _).trans) | (with_reducible apply (heap_drewN_at _ _ _).trans) | (simp only [List.size_toArray, List.length_cons, List.length_nil]; done)))); (focus decide)))) (by repeat (first | (with_reducible assumption) | (with_reducible apply MapIs.alloc) | (with_reducible apply MapIs.drewN) | (with_reducible apply MapIs.drew) | ((with_reducible apply mapis_set); (focus (first | exact hMT | omega | (simp; done) | (simp; omega)))))) (by repeat (first | (with_reducible assumption) | (with_reducible exact Moved.refl _ _ _) | (with_reducible apply Moved.drewN) | ((with_reducible apply moved_set); (focus omega)) | ((with_reducible apply moved_alloc); (focus (first | omega | (simp; omega)))))) (by first | omega | (simp; omega)) bM hg3; (try simp at z3); have hM4 : MapIs w3 Try.prog 29 .u64 M n (mapF r) := hM3.congr (mapF_tail HN.out); clear hg3 cT fT zT gc gf gl; obtain ⟨cT, fT, zT⟩ := blk_facts hT3; clear hT hM hv hM3))
    go_upto_region 12 with fail
    have hT5 : (w3.setCell ⟨T, 1, none⟩ (.slice (some ⟨g, off, none⟩) 0 0)).heap[T]? = some (.cells #[.int .i64 ((r.length + 1 : Nat) : Int), (.slice (some ⟨g, off, none⟩) 0 0), .map (some M)] 50 (0, 0)) := heap_set_same 1 _ hT3
    have hv5 : QRow (w3.setCell ⟨T, 1, none⟩ (.slice (some ⟨g, off, none⟩) 0 0)) B 29 (.slice (some ⟨g, off, none⟩) 0 0) (idsV r) := qrow_set hT3 (by decide) (by have h9 := qrow_tail (xs := idsV r) (x := .int .u64 e.id) hv3 (off) (.inl ⟨rfl, rfl⟩); rw [idsV_length, HR0.out] at h9; exact h9)
    have hM5 : MapIs (w3.setCell ⟨T, 1, none⟩ (.slice (some ⟨g, off, none⟩) 0 0)) Try.prog 29 .u64 M n (mapF r) := hM4.set hMT _
    have hMv5 : Moved T B w (w3.setCell ⟨T, 1, none⟩ (.slice (some ⟨g, off, none⟩) 0 0)) := hMv3.set bT 1 _
    clear cT fT zT; obtain ⟨cT, fT, zT⟩ := blk_facts hT5; clear hv3 hM4 hMv3
    have z5 : B ≤ (w3.setCell ⟨T, 1, none⟩ (.slice (some ⟨g, off, none⟩) 0 0)).heap.size := by rw [size_set]; omega
    go_upto_region 13 with (at_builtin; refine wpList_append_q _ rfl (.tmp 61) (.tmp 63) 48 rfl B 29 i29 (.int .u64 0) 8 Try.underlying48 hi hz0 hz1 hz2 rfl (.slice (some ⟨g, off, none⟩) 0 0) (idsV r) rfl (by repeat (first | (with_reducible assumption) | (with_reducible apply QRow.alloc) | (with_reducible apply QRow.drewN) | (with_reducible apply QRow.drew) | ((with_reducible refine qrow_set ?_ ?_ ?_); (focus (repeat (first | (with_reducible assumption) | (with_reducible apply heap_set_row2) | (with_reducible apply heap_set_row3) | (with_reducible apply heap_set_same) | ((with_reducible apply heap_set_other'); (focus (first | omega | (simp; done) | (simp; omega)))) | ((with_reducible apply heap_alloc_new); (focus (first | omega | (simp; done) | (simp; omega)))) | (with_reducible apply heap_alloc_old') | (with_reducible apply (heap_drew_at _ _).trans) | (with_reducible apply (heap_drewN_at _ _ _).trans) | (simp only [List.size_toArray, List.length_cons, List.length_nil]; done)))); (focus decide)))) ⟨_, 0, none⟩ 1 (.int .u64 x) rfl (by first | exact cell_new (by simp) | exact cell_new_drewN (by simp) | exact cell_new_in (by simp)) rfl (by unfold maxLen; rw [idsV_length]; omega) (by rw [idsV_length]; omega) (by first | omega | (simp; omega)) ?_; intro v1 w1 hv1 hg1; obtain ⟨⟨A1, cap1, rfl⟩, hT1, hM1, hMv, z1⟩ := after_push (w := w) (T := T) (room := ((r.length + 1 : Nat) : Int)) (v := (.slice (some ⟨g, off, none⟩) 0 0)) (f := mapF r) (n := n) (M := M) (heap_alloc_old' hT5) (hv5.alloc _) (hM5.alloc _) (hMv5.alloc z5 _) (by rw [size_alloc]; omega) hv1 hg1; (try simp at z1); clear hg1 cT fT zT; obtain ⟨cT, fT, zT⟩ := blk_facts hT1)
    clear hT3 hT5 hv5 hM5 hMv5
    go_wp2_with (at_mapUpdate; refine wpList_map_put _ rfl (.tmp 70) (.tmp 71) (.tmp 72) 47 rfl 29 55 .u64 Try.underlying29 Try.underlying47 M n (mapF r) rfl (by repeat (first | (with_reducible assumption) | (with_reducible apply MapIs.alloc) | (with_reducible apply MapIs.drewN) | (with_reducible apply MapIs.drew) | ((with_reducible apply mapis_set); (focus (first | exact hMT | omega | (simp; done) | (simp; omega)))))) (by unfold maxLen; omega) x _ rfl rfl hxw ?_; intro w2 hM2 hg2)
    go_ret
    refine ⟨rfl, ⟨⟨.slice A1 ((idsV r).length + 1) cap1, ?_, ?_⟩, hM2.congr (mapF_push HF.out), bT, bM, by have := hg2.size; simp at this; omega⟩, hMv.set bT 1 _ |>.grownMap (hM1.set hMT _) hg2 bM (by simp; omega)⟩
    · exact blk_grown_map (heap_set_same 1 _ hT1) (hM1.set hMT _) hg2
    · rw [idsV_push]
      exact row_grown_map (qrow_set hT1 (by decide) hv1) (hM1.set hMT _) hg2
  · have hc2 : 1 < cap := by omega
    go_enter Try.func13, Try.ntmps13
    go_wp2_with (at_lookup; refine wpList_map_look' _ rfl (.tmp 14) (.tmp 15) 47 rfl 29 55 .u64 Try.underlying29 Try.underlying47 (zero55 _) M n (mapF (e :: r)) rfl hM x rfl hxw _ _ H1.out H2.out ?_)
    go_quiet (fail)
    go_upto_region 11 with (first | (at_lookup; refine wpList_map_get' _ rfl (.tmp 39) (.tmp 40) 47 rfl 29 55 .u64 Try.underlying29 Try.underlying47 (zero55 _) M n (mapF (e :: r)) rfl (by repeat (first | (with_reducible assumption) | (with_reducible apply MapIs.alloc) | (with_reducible apply MapIs.drewN) | (with_reducible apply MapIs.drew) | ((with_reducible apply mapis_set); (focus (first | exact hMT | omega | (simp; done) | (simp; omega)))))) e.id rfl hex _ H3.out ?_) | (at_delete; refine wpList_map_del _ rfl (.tmp 47) (.tmp 48) 47 29 rfl 55 .u64 Try.underlying29 Try.underlying47 M n (mapF (e :: r)) rfl (by repeat (first | (with_reducible assumption) | (with_reducible apply MapIs.alloc) | (with_reducible apply MapIs.drewN) | (with_reducible apply MapIs.drew) | ((with_reducible apply mapis_set); (focus (first | exact hMT | omega | (simp; done) | (simp; omega)))))) e.id rfl hex ?_; intro w3 hM3 hg3; obtain ⟨hT3, hv3, hMv3, z3⟩ := after_map (w := w) (T := T) (c := #[.int .i64 ((r.length + 1 : Nat) : Int), .slice (some ⟨g, off, none⟩) (r.length + 1) cap, .map (some M)]) (v := .slice (some ⟨g, off, none⟩) (r.length + 1) cap) (by repeat (first | (with_reducible assumption) | (with_reducible apply heap_set_row2) | (with_reducible apply heap_set_row3) | (with_reducible apply heap_set_same) | ((with_reducible apply heap_set_other'); (focus (first | omega | (simp; done) | (simp; omega)))) | ((with_reducible apply heap_alloc_new); (focus (first | omega | (simp; done) | (simp; omega)))) | (with_reducible apply heap_alloc_old') | (with_reducible apply (heap_drew_at _ _).trans) | (with_reducible apply (heap_drewN_at _ _ _).trans) | (simp only [List.size_toArray, List.length_cons, List.length_nil]; done))) (by repeat (first | (with_reducible assumption) | (with_reducible apply QRow.alloc) | (with_reducible apply QRow.drewN) | (with_reducible apply QRow.drew) | ((with_reducible refine qrow_set ?_ ?_ ?_); (focus (repeat (first | (with_reducible assumption) | (with_reducible apply heap_set_row2) | (with_reducible apply heap_set_row3) | (with_reducible apply heap_set_same) | ((with_reducible apply heap_set_other'); (focus (first | omega | (simp; done) | (simp; omega)))) | ((with_reducible apply heap_alloc_new); (focus (first | omega | (simp; done) | (simp; omega)))) | (with_reducible apply heap_alloc_old') | (with_reducible apply (heap_drew_at _ _).trans) | (with_reducible apply (heap_drewN_at _ _ _).trans) | (simp only [List.size_toArray, List.length_cons, List.length_nil]; done)))); (focus decide)))) (by repeat (first | (with_reducible assumption) | (with_reducible apply MapIs.alloc) | (with_reducible apply MapIs.drewN) | (with_reducible apply MapIs.drew) | ((with_reducible apply mapis_set); (focus (first | exact hMT | omega | (simp; done) | (simp; omega)))))) (by repeat (first | (with_reducible assumption) | (with_reducible exact Moved.refl _ _ _) | (with_reducible apply Moved.drewN) | ((with_reducible apply moved_set); (focus omega)) | ((with_reducible apply moved_alloc); (focus (first | omega | (simp; omega)))))) (by first | omega | (simp; omega)) bM hg3; (try simp at z3); have hM4 : MapIs w3 Try.prog 29 .u64 M n (mapF r) := hM3.congr (mapF_tail HN.out); clear hg3 cT fT zT gc gf gl; obtain ⟨cT, fT, zT⟩ := blk_facts hT3; clear hT hM hv hM3))
    go_upto_region 12 with fail
    have hT5 : (w3.setCell ⟨T, 1, none⟩ (.slice (some ⟨g, off + 1, none⟩) r.length (cap - 1))).heap[T]? = some (.cells #[.int .i64 ((r.length + 1 : Nat) : Int), (.slice (some ⟨g, off + 1, none⟩) r.length (cap - 1)), .map (some M)] 50 (0, 0)) := heap_set_same 1 _ hT3
    have hv5 : QRow (w3.setCell ⟨T, 1, none⟩ (.slice (some ⟨g, off + 1, none⟩) r.length (cap - 1))) B 29 (.slice (some ⟨g, off + 1, none⟩) r.length (cap - 1)) (idsV r) := qrow_set hT3 (by decide) (by have h9 := qrow_tail (xs := idsV r) (x := .int .u64 e.id) hv3 (off + 1) (.inr ⟨hc1, rfl⟩); rw [idsV_length] at h9; exact h9)
    have hM5 : MapIs (w3.setCell ⟨T, 1, none⟩ (.slice (some ⟨g, off + 1, none⟩) r.length (cap - 1))) Try.prog 29 .u64 M n (mapF r) := hM4.set hMT _
    have hMv5 : Moved T B w (w3.setCell ⟨T, 1, none⟩ (.slice (some ⟨g, off + 1, none⟩) r.length (cap - 1))) := hMv3.set bT 1 _
    clear cT fT zT; obtain ⟨cT, fT, zT⟩ := blk_facts hT5; clear hv3 hM4 hMv3
    have z5 : B ≤ (w3.setCell ⟨T, 1, none⟩ (.slice (some ⟨g, off + 1, none⟩) r.length (cap - 1))).heap.size := by rw [size_set]; omega
    go_upto_region 13 with (at_builtin; refine wpList_append_q _ rfl (.tmp 61) (.tmp 63) 48 rfl B 29 i29 (.int .u64 0) 8 Try.underlying48 hi hz0 hz1 hz2 rfl (.slice (some ⟨g, off + 1, none⟩) r.length (cap - 1)) (idsV r) rfl (by repeat (first | (with_reducible assumption) | (with_reducible apply QRow.alloc) | (with_reducible apply QRow.drewN) | (with_reducible apply QRow.drew) | ((with_reducible refine qrow_set ?_ ?_ ?_); (focus (repeat (first | (with_reducible assumption) | (with_reducible apply heap_set_row2) | (with_reducible apply heap_set_row3) | (with_reducible apply heap_set_same) | ((with_reducible apply heap_set_other'); (focus (first | omega | (simp; done) | (simp; omega)))) | ((with_reducible apply heap_alloc_new); (focus (first | omega | (simp; done) | (simp; omega)))) | (with_reducible apply heap_alloc_old') | (with_reducible apply (heap_drew_at _ _).trans) | (with_reducible apply (heap_drewN_at _ _ _).trans) | (simp only [List.size_toArray, List.length_cons, List.length_nil]; done)))); (focus decide)))) ⟨_, 0, none⟩ 1 (.int .u64 x) rfl (by first | exact cell_new (by simp) | exact cell_new_drewN (by simp) | exact cell_new_in (by simp)) rfl (by unfold maxLen; rw [idsV_length]; omega) (by rw [idsV_length]; omega) (by first | omega | (simp; omega)) ?_; intro v1 w1 hv1 hg1; obtain ⟨⟨A1, cap1, rfl⟩, hT1, hM1, hMv, z1⟩ := after_push (w := w) (T := T) (room := ((r.length + 1 : Nat) : Int)) (v := (.slice (some ⟨g, off + 1, none⟩) r.length (cap - 1))) (f := mapF r) (n := n) (M := M) (heap_alloc_old' hT5) (hv5.alloc _) (hM5.alloc _) (hMv5.alloc z5 _) (by rw [size_alloc]; omega) hv1 hg1; (try simp at z1); clear hg1 cT fT zT; obtain ⟨cT, fT, zT⟩ := blk_facts hT1)
    clear hT3 hT5 hv5 hM5 hMv5
    go_wp2_with (at_mapUpdate; refine wpList_map_put _ rfl (.tmp 70) (.tmp 71) (.tmp 72) 47 rfl 29 55 .u64 Try.underlying29 Try.underlying47 M n (mapF r) rfl (by repeat (first | (with_reducible assumption) | (with_reducible apply MapIs.alloc) | (with_reducible apply MapIs.drewN) | (with_reducible apply MapIs.drew) | ((with_reducible apply mapis_set); (focus (first | exact hMT | omega | (simp; done) | (simp; omega)))))) (by unfold maxLen; omega) x _ rfl rfl hxw ?_; intro w2 hM2 hg2)
    go_ret
    refine ⟨rfl, ⟨⟨.slice A1 ((idsV r).length + 1) cap1, ?_, ?_⟩, hM2.congr (mapF_push HF.out), bT, bM, by have := hg2.size; simp at this; omega⟩, hMv.set bT 1 _ |>.grownMap (hM1.set hMT _) hg2 bM (by simp; omega)⟩
    · exact blk_grown_map (heap_set_same 1 _ hT1) (hM1.set hMT _) hg2
    · rw [idsV_push]
      exact row_grown_map (qrow_set hT1 (by decide) hv1) (hM1.set hMT _) hg2
theorem start_t (w : World) (T M B room n : Nat) (L : List En) (x : Int) (h : TabAt w T M B room n L) (hok : Ok L room) (hx0 : 0 ≤ x) (hx1 : x ≤ 18446744073709551615) (hn : n ≤ 1000000) (hr0 : 1 ≤ room) (hr1 : room ≤ 4096) (L' : List En) (c : Int) (he : startF L room x = (L', c)) :
    Calls Try.prog 13 #[.pointer (some ⟨T, 0, none⟩), .int .u64 x] w fun e w' => e = .returned (.int .i64 c) ∧ TabAt w' T M B room (n + 1) L' ∧ Moved T B w w' := by
  have hle := hok.le
  unfold startF at he
  by_cases hs : (findF L x).isSome = true
  · rw [if_pos hs] at he
    cases he
    exact (start_twice w T M B room n L x h hx0 hx1 hs).mono fun e w' ⟨h1, h2⟩ => ⟨h1, (h.below h2).mono (by omega), .of h2 h.bw⟩
  · rw [if_neg hs] at he
    have hf : findF L x = none := by cases q : findF L x with | none => rfl | some e => rw [q] at hs; simp at hs
    by_cases hr : L.length = room
    · rw [if_pos hr] at he
      match L, h, hok, hle, hf, hr, he with
      | [], _, _, _, _, hr, _ => simp at hr; omega
      | e :: r, h, hok, hle, hf, hr, he =>
        have hr' : r.length + 1 = room := by simpa using hr
        cases hd : e.done with
        | false =>
          simp only [hd] at he
          cases he
          exact (start_wait w T M B room n e r x h hok hx0 hx1 (by omega) hf hr' hd).mono fun e w' ⟨h1, h2⟩ => ⟨h1, (h.below h2).mono (by omega), .of h2 h.bw⟩
        | true =>
          simp only [hd] at he
          cases he
          exact start_roll w T M B room n e r x h hok hx0 hx1 hn (by omega) hf hr' hd
    · rw [if_neg hr] at he
      cases he
      exact start_push w T M B room n L x h hx0 hx1 hn (by omega) hf hr
end Go.Proofs.Ytlncekdoaddifaa
