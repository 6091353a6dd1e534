/- The store's functions, walked. -/
import Derived.Test.YtmpajoheoobnkaaState
namespace Go.Proofs.Ytmpajoheoobnkaa
set_option linter.unusedSimpArgs false
set_option linter.unusedVariables false
open Go.RowKit

theorem zero3 (w : World) : (zeroValue 3).run Try.prog w = .ok (.int .i64 0) w := by kernel_rfl
theorem info50 : (Try.prog.info? 50).map (fun i => (i.zero, i.size, i.bytes)) = some (some (.agg #[.int .u16 0, .slice none 0 0]), 2, 32) := by kernel_rfl
theorem bytes_one (zs : List Int) : ∀ u ∈ zs.map (Value.int .u8), u.oneCell' = true := by
  intro u hu
  obtain ⟨z, _, rfl⟩ := List.mem_map.1 hu
  rfl
theorem splice_all {α : Type} (L cs : List α) (h : cs.length = L.length) : splice L 0 cs = cs := by simp [splice, h]
theorem copy_src {w : World} {A : Option Addr} {zs : List Int} {c : Array Value} {t : TypeId} (h : IntsAt w A .u8 zs) (h0 : 0 < (zs.map (Value.int .u8)).length) :
    ∃ ad, A = some ad ∧ ∀ j v, (zs.map (Value.int .u8))[j]? = some v → (w.alloc (.cells c t)).cell? (ad.add j) = some v := by
  obtain ⟨b, o, hA, hb, _⟩ := h 0 (by simpa using h0)
  refine ⟨⟨b, o, none⟩, hA, fun j v hv => ?_⟩
  have hj : j < zs.length := by have := (List.getElem?_eq_some_iff.1 hv).1; simpa using this
  obtain ⟨b2, o2, hA2, hb2, hc⟩ := h j hj
  rw [hA] at hA2
  simp only [Option.some.injEq, Addr.mk.injEq] at hA2
  obtain ⟨rfl, rfl, _⟩ := hA2
  have hv' : v = .int .u8 (zs.getD j 0) := by rw [List.getElem?_map, List.getElem?_eq_getElem hj] at hv; simp at hv; rw [← hv]; simp [List.getD, hj]
  rw [hv', Addr.add_lit]
  exact ((Below.alloc (Below.refl w.heap.size w) (Nat.le_refl _) _).cell (p := ⟨b, o + j, none⟩) hb).trans hc
theorem own_b (w : World) (A : Option Addr) (cap : Nat) (zs : List Int) (hl : zs.length ≤ 1000000) (hA : IntsAt w A .u8 zs) :
    Calls Try.prog 16 #[.slice A zs.length cap] w fun e w' => ∃ g, e = .returned (.slice (some ⟨g, 0, none⟩) zs.length zs.length) ∧ w'.heap[g]? = some (.cells (zs.map (Value.int .u8)).toArray 5 (0, 0)) ∧ w.heap.size ≤ g ∧ Below w.heap.size w w' := by
  have HA := Lib.hid hA; clear hA
  have hmk := run_make_row' (P := Try.prog) 30 5 (.int .u8 0) 1 Try.underlying30 (by kernel_rfl) rfl .i64 .i64 zs.length (by omega) (by omega)
  go_enter Try.func16, Try.ntmps16
  go_upto_region 2 with fail
  clear hmk
  have hg : (w.alloc (.cells (madeCells #[.int .u8 0] zs.length) 5)).heap[w.heap.size]? = some (.cells (List.replicate zs.length (.int .u8 0)).toArray 5 (0, 0)) := by
    rw [heap_alloc_new _ _ _ rfl, ← made_one]
  have G := Lib.hid hg; clear hg
  go_wp2_with (with_reducible refine wpList_copy_splice rfl (.tmp 7) (.tmp 8) 30 30 rfl 5 Try.underlying30 (by kernel_rfl) _ _ zs.length zs.length zs.length cap rfl rfl w.heap.size 0 _ 5 G.out (zs.map (Value.int .u8)) (by simp) (fun h0 => ⟨rfl, copy_src HA.out h0⟩) (by simp) (bytes_one zs) w.heap.size w (Below.alloc (Below.refl _ _) (Nat.le_refl _) _) (Nat.le_refl _) ?_; intro w1 hg1 hb1)
  go_ret
  have h2 := hg1.out
  rw [splice_all _ _ (by simp)] at h2
  exact ⟨_, rfl, h2, Nat.le_refl _, hb1⟩
theorem len_t (w : World) (S R M B E n t m : Nat) (K : List Pk) (rg : List RE) (h : StoreAt w S R M B E n t m K rg) (k : Nat) (hk : K.length = k) :
    Calls Try.prog 15 #[.pointer (some ⟨S, 0, none⟩)] w fun e w' => e = .returned (.int .i64 k) ∧ w = w' := by
  subst hk
  have hs := h.s
  obtain ⟨cS, fS, zS⟩ := blk_facts hs
  go_enter Try.func15, Try.ntmps15
  go_wp2_with fail
  go_ret
  exact ⟨rfl, rfl⟩
theorem len_nil (w : World) : Calls Try.prog 15 #[.pointer none] w fun e w' => e = .returned (.int .i64 0) ∧ w = w' := by
  go_enter Try.func15, Try.ntmps15
  go_wp2_with fail
  go_ret
  exact ⟨rfl, rfl⟩
theorem get_nil (x : Int) (w : World) : Calls Try.prog 13 #[.pointer none, .int .u16 x] w fun e w' => e = .returned (.tuple #[.slice none 0 0, .bool false]) ∧ w = w' := by
  go_enter Try.func13, Try.ntmps13
  go_wp2_with fail
  go_ret2
  exact ⟨rfl, rfl⟩
theorem new_nil (k : Int) (hk : k < 1 ∨ 4096 < k) (w : World) : Calls Try.prog 10 #[.int .i64 k] w fun e w' => e = .returned (.pointer none) ∧ w = w' := by
  by_cases h : k < 1
  · go_enter Try.func10, Try.ntmps10
    go_wp2_with fail
    go_ret
    exact ⟨rfl, rfl⟩
  · have h2 : 4096 < k := by omega
    go_enter Try.func10, Try.ntmps10
    go_wp2_with fail
    go_ret
    exact ⟨rfl, rfl⟩
theorem new_t (k : Int) (n : Nat) (hk : k = n) (w : World) (h0 : 1 ≤ n) (h1 : n ≤ 4096) :
    Calls Try.prog 10 #[.int .i64 k] w fun e w' => ∃ S R M, e = .returned (.pointer (some ⟨S, 0, none⟩)) ∧ StoreAt w' S R M w.heap.size w.heap.size n 0 0 [] (List.replicate n re0) ∧ Below w.heap.size w w' := by
  subst hk
  obtain ⟨i0, hi, hz0, hz1, hz2⟩ := info_parts info50
  have hmk : ∀ W : World, (Instr.makeSlice 45 (.int .i64 (n : Int)) (.int .i64 (n : Int))).run Try.prog W = .ok (.slice (some ⟨W.heap.size, 0, none⟩) n n) (W.alloc (.cells (cellsR (List.replicate n re0)).toArray 50)) := by
    intro W
    have hr := run_make (P := Try.prog) W 45 50 i0 _ Try.underlying45 hi hz0 .i64 .i64 n n (by omega) (by omega) (by rw [hz2]; omega) (by omega)
    rw [hz1, Int.toNat_natCast] at hr
    rw [← made_ring]
    exact hr
  have hmm := @run_makeMap Try.prog
  go_enter Try.func10, Try.ntmps10
  go_wp2_with fail
  go_ret
  refine ⟨w.heap.size + 1 + 1, w.heap.size, w.heap.size + 1, (by first | rfl | (simp; done)), ⟨?_, ?_, by simp, ?_, ?_, by simp, fun j hj => by simp at hj, by omega, by omega, by omega, by simp; omega, by simp; omega⟩, by go_grown⟩
  · rw [Nat.zero_mod]
    exact (Eq.trans (b := some (Obj.cells _ _ (0, 0))) (by repeat (first | (with_reducible assumption) | (with_reducible apply heap_set_row2) | (with_reducible apply heap_set_row3) | (with_reducible apply heap_set_same) | ((with_reducible apply heap_set_other'); (focus (first | omega | (simp; done) | (simp; omega)))) | ((with_reducible apply heap_alloc_new); (focus (first | omega | (simp; done) | (simp; omega)))) | (with_reducible apply heap_alloc_old') | (with_reducible apply (heap_drew_at _ _).trans) | (with_reducible apply (heap_drewN_at _ _ _).trans) | (simp only [List.size_toArray, List.length_cons, List.length_nil]; done))) (by exact rfl))
  · exact (Eq.trans (b := some (Obj.cells _ _ (0, 0))) (by repeat (first | (with_reducible assumption) | (with_reducible apply heap_set_row2) | (with_reducible apply heap_set_row3) | (with_reducible apply heap_set_same) | ((with_reducible apply heap_set_other'); (focus (first | omega | (simp; done) | (simp; omega)))) | ((with_reducible apply heap_alloc_new); (focus (first | omega | (simp; done) | (simp; omega)))) | (with_reducible apply heap_alloc_old') | (with_reducible apply (heap_drew_at _ _).trans) | (with_reducible apply (heap_drewN_at _ _ _).trans) | (simp only [List.size_toArray, List.length_cons, List.length_nil]; done))) (by exact rfl))
  · intro x hx
    rw [List.eq_of_mem_replicate hx]
    exact ⟨by simp [re0], by simp [re0], none, 0, 0, by simp [re0]⟩
  · have := (MapIs.made (w.alloc (.cells (cellsR (List.replicate n re0)).toArray 50)) Try.prog 29 .u16).alloc (.cells #[.slice (some ⟨w.heap.size, 0, none⟩) n n, .int .i64 0, .int .i64 0, .map (some (w.heap.size + 1))] 48)
    rw [size_alloc] at this
    exact this.congr (fun x => rfl)
theorem wf_u16 {x : Int} (h0 : 0 ≤ x) (h1 : x ≤ 65535) : (Lit.int .u16 x).wf = true := WalkArith.wf_u16 ⟨h0, h1⟩
theorem get_none (w : World) (S R M B E n t m : Nat) (K : List Pk) (rg : List RE) (h : StoreAt w S R M B E n t m K rg) (x : Int) (x0 : 0 ≤ x) (x1 : x ≤ 65535) (hx : lastF K x = none) :
    Calls Try.prog 13 #[.pointer (some ⟨S, 0, none⟩), .int .u16 x] w fun e w' => e = .returned (.tuple #[.slice none 0 0, .bool false]) ∧ w = w' := by
  have hs := h.s
  have hM := h.map
  obtain ⟨cS, fS, zS⟩ := blk_facts hs
  have l1 : (posF n t K x).getD (.int .i64 0) = .int .i64 0 := by unfold posF; rw [hx]; rfl
  have l2 : (posF n t K x).isSome = false := by unfold posF; rw [hx]; rfl
  have H1 := Lib.hid l1; clear l1
  have H2 := Lib.hid l2; clear l2 hx
  have HH := Lib.hid h; clear h
  have hxw := wf_u16 x0 x1
  go_enter Try.func13, Try.ntmps13
  go_wp2_with (at_lookup; refine wpList_map_look' _ rfl (.tmp 14) (.tmp 15) 46 rfl 29 3 .u16 Try.underlying29 Try.underlying46 (zero3 _) M m (posF n t K) rfl (by repeat (first | (with_reducible assumption) | (with_reducible apply MapIs.alloc) | (with_reducible apply MapIs.drewN) | (with_reducible apply MapIs.drew))) x rfl hxw _ _ H1.out H2.out ?_)
  go_ret2
  exact ⟨rfl, rfl⟩
theorem get_some (w : World) (S R M B E n t m : Nat) (K : List Pk) (rg : List RE) (h : StoreAt w S R M B E n t m K rg) (hn : 1 ≤ n) (hn1 : n ≤ 4096) (x : Int) (x0 : 0 ≤ x) (x1 : x ≤ 65535) (j : Nat) (hx : lastF K x = some j) (zs : List Int) (hzs : ∀ hj : j < K.length, K[j].2 = zs) (hl : zs.length ≤ 1000000) :
    Calls Try.prog 13 #[.pointer (some ⟨S, 0, none⟩), .int .u16 x] w fun e w' => ∃ g, e = .returned (.tuple #[.slice (some ⟨g, 0, none⟩) zs.length zs.length, .bool true]) ∧ w'.heap[g]? = some (.cells (zs.map (Value.int .u8)).toArray 5 (0, 0)) ∧ w.heap.size ≤ g ∧ Below w.heap.size w w' := by
  have hs := h.s
  have hM := h.map
  have hr := h.r
  obtain ⟨hj, _⟩ := lastF_lt hx
  obtain ⟨re, e1, _, e3⟩ := h.ent j hj
  rw [hzs hj] at e3
  have hp : (t - K.length + j) % n < n := Nat.mod_lt _ (by omega)
  have l1 : (posF n t K x).getD (.int .i64 0) = .int .i64 (((t - K.length + j) % n : Nat) : Int) := by unfold posF; rw [hx]; rfl
  have l2 : (posF n t K x).isSome = true := by unfold posF; rw [hx]; rfl
  generalize (t - K.length + j) % n = p at *
  have hpl : p < rg.length := by rw [h.rl]; exact hp
  have d1 := (ring_cells hr hpl).2
  have e4 : rg[p] = re := by rw [List.getElem?_eq_getElem hpl] at e1; simpa using e1
  rw [e4] at d1
  obtain ⟨g, hv, hg, hh⟩ := e3
  have e3' : BytesAt w E re.v zs := ⟨g, hv, hg, hh⟩
  rw [hv] at d1 e3'
  have hint := (bytes_ints e3').1
  obtain ⟨cS, fS, zS⟩ := blk_facts hs
  have zR := blk_lt hr
  have H1 := Lib.hid l1; clear l1
  have H2 := Lib.hid l2; clear l2 hx
  have HI := Lib.hid hint; clear hint
  have HH := Lib.hid h; clear h
  have hxw := wf_u16 x0 x1
  clear e1 e4 hv e3' hpl hzs
  go_enter Try.func13, Try.ntmps13
  go_wp2_with (at_lookup; refine wpList_map_look' _ rfl (.tmp 14) (.tmp 15) 46 rfl 29 3 .u16 Try.underlying29 Try.underlying46 (zero3 _) M m (posF n t K) rfl (by repeat (first | (with_reducible assumption) | (with_reducible apply MapIs.alloc) | (with_reducible apply MapIs.drewN) | (with_reducible apply MapIs.drew))) x rfl hxw _ _ H1.out H2.out ?_)
  with_reducible refine (own_b _ _ _ zs hl HI.out).mono ?_
  rintro e w1 ⟨g1, rfl, h1, h2, hb⟩
  go_wp2_with fail
  go_ret2
  exact ⟨g1, rfl, h1, h2, hb⟩
end Go.Proofs.Ytmpajoheoobnkaa
