/- The arena's functions, walked. -/
import Derived.Test.YtdedbiacelgleaaBase
import Derived.Deep.QuietTactic
import Derived.Outline
namespace Go.Proofs.Ytdedbiacelgleaa
set_option linter.unusedSimpArgs false
set_option linter.unusedVariables false
open Go.RowKit

theorem make_run (t e : TypeId) (i : TypeInfo) (z : Value) (a b c : Value) (bytes n : Nat) (ht : Try.prog.underlying t = some (.slice e)) (hi : Try.prog.info? e = some i) (hz : i.zero = some z) (hs : i.size = 3) (hb : i.bytes = bytes) (hc : z.cells = #[a, .int .u32 0, .bool false]) (hn : bytes * n ≤ 281474976710656) (h63 : n ≤ 9223372036854775807) (w : World) :
    (Instr.makeSlice t (.int .i64 (n : Int)) (.int .i64 (n : Int))).run Try.prog w = .ok (.slice (some ⟨w.heap.size, 0, none⟩) n n) (w.alloc (.cells (cellsF (List.replicate n (sl0 a))).toArray e)) := by
  have hr := run_make (P := Try.prog) w t e i z ht hi hz .i64 .i64 n n (by omega) (by omega) (by rw [hb]; omega) (by omega)
  rw [hs, hc, Int.toNat_natCast, made_slots] at hr
  exact hr
theorem set_take {w : World} {L : Nat} {l : List Sl} {k : Nat} {sx x : Value} {st st' : Int} {su : Bool} {ty : TypeId} (hk : k < l.length) (hs : l[k] = ⟨sx, st, su⟩)
    (h : w.heap[L]? = some (.cells ((((cellsF l).toArray.setIfInBounds (k * 3 + 1) (.int .u32 st')).setIfInBounds (k * 3) x).setIfInBounds (k * 3 + 2) (.bool true)) ty (0, 0))) :
    w.heap[L]? = some (.cells (cellsF (l.set k ⟨x, st', true⟩)).toArray ty (0, 0)) := by
  rw [h, List.setIfInBounds_toArray, List.setIfInBounds_toArray, List.setIfInBounds_toArray, ← cellsF_set l k hk ⟨x, st', true⟩]
theorem set_free {w : World} {L : Nat} {l : List Sl} {k : Nat} {x : Value} {ty : TypeId} (hk : k < l.length)
    (h : w.heap[L]? = some (.cells (((cellsF l).toArray.setIfInBounds (k * 3) x).setIfInBounds (k * 3 + 2) (.bool false)) ty (0, 0))) :
    w.heap[L]? = some (.cells (cellsF (l.set k ⟨x, l[k].turn, false⟩)).toArray ty (0, 0)) := by
  rw [h, List.setIfInBounds_toArray, List.setIfInBounds_toArray, ← cellsF_set2 l k hk x false]
theorem info31 : (Try.prog.info? 31).map (fun i => (i.zero, i.size, i.bytes)) = some (some (.agg #[.int .i64 0, .int .u32 0]), 2, 16) := by kernel_rfl
theorem wf_get {l : List Sl} (h : ∀ s ∈ l, 0 ≤ s.turn ∧ s.turn ≤ 1000000) {i : Nat} (hi : i < l.length) : 0 ≤ l[i].turn ∧ l[i].turn ≤ 1000000 := h _ (by simp)

theorem info_i : (Try.prog.info? 65).map (fun i => (i.zero, i.size, i.bytes)) = some (some (.agg #[.int .i64 0, .int .u32 0, .bool false]), 3, 16) := by kernel_rfl
theorem new_i (m : Int) (n : Nat) (hm : m = n) (w : World) (h0 : 1 ≤ n) (h1 : n ≤ 64) :
    Calls Try.prog 8 #[.int .i64 m] w fun e w' => ∃ P L, e = .returned (.pointer (some ⟨P, 0, none⟩)) ∧ At w' P L 62 65 (List.replicate n (sl0 (.int .i64 0))) 0 ∧ w.heap.size ≤ P ∧ w.heap.size ≤ L ∧ Below w.heap.size w w' := by
  subst hm
  obtain ⟨i0, hi, hz0, hz1, hz2⟩ := info_parts info_i
  have hmk := make_run 60 65 i0 _ (.int .i64 0) undef undef 16 n Try.underlying60 hi hz0 hz1 hz2 rfl (by omega) (by omega)
  have e1 : (List.replicate n (sl0 (.int .i64 0))).length = n := by simp
  go_enter Try.func8, Try.ntmps8
  go_wp2_with fail
  go_ret
  refine ⟨w.heap.size + 1, w.heap.size, (by first | rfl | (simp; done)), ⟨?_, ?_, by omega⟩, by omega, by omega, by go_grown⟩
  · rw [e1]
    exact (Eq.trans (b := some (Obj.cells _ _ (0, 0))) (by repeat (first | (with_reducible assumption) | (with_reducible apply heap_set_row2) | (with_reducible apply heap_set_same) | ((with_reducible apply heap_set_other'); (focus (first | omega | (simp; done) | (simp; omega)))) | ((with_reducible apply heap_alloc_new); (focus (first | omega | (simp; done) | (simp; omega)))) | (with_reducible apply heap_alloc_old') | (with_reducible apply (heap_drew_at _ _).trans) | (with_reducible apply (heap_drewN_at _ _ _).trans) | (simp only [List.size_toArray, List.length_cons, List.length_nil]; done))) (by exact rfl))
  · exact (Eq.trans (b := some (Obj.cells _ _ (0, 0))) (by repeat (first | (with_reducible assumption) | (with_reducible apply heap_set_row2) | (with_reducible apply heap_set_same) | ((with_reducible apply heap_set_other'); (focus (first | omega | (simp; done) | (simp; omega)))) | ((with_reducible apply heap_alloc_new); (focus (first | omega | (simp; done) | (simp; omega)))) | (with_reducible apply heap_alloc_old') | (with_reducible apply (heap_drew_at _ _).trans) | (with_reducible apply (heap_drewN_at _ _ _).trans) | (simp only [List.size_toArray, List.length_cons, List.length_nil]; done))) (by exact rfl))
theorem take_i (w : World) (P L : Nat) (l : List Sl) (live : Int) (x : Int) (hA : At w P L 62 65 l live) (hl : l.length ≤ 64) (ht : ∀ s ∈ l, 0 ≤ s.turn ∧ s.turn ≤ 1000000) (hv0 : -1000 ≤ live) (hv1 : live ≤ 1000)
    (i : Nat) (hi : i < l.length) (hfree : l[i].used = false) (hlow : ∀ j, j < i → ∀ h : j < l.length, l[j].used = true) :
    Calls Try.prog 9 #[.pointer (some ⟨P, 0, none⟩), .int .i64 x] w fun e w' => e = .returned (.tuple #[.agg #[.int .i64 i, .int .u32 (l[i].turn + 1)], .int .i64 0]) ∧ At w' P L 62 65 (l.set i ⟨.int .i64 x, l[i].turn + 1, true⟩) (live + 1) ∧ Turned P L w w' := by
  have HLOW := Lib.hid hlow; clear hlow
  have HT := Lib.hid ht; clear ht
  obtain ⟨hP, hL, hne⟩ := hA
  obtain ⟨cP, fP, zP⟩ := blk_facts hP
  obtain ⟨cL, fL, zL⟩ := blk_facts hL
  have CL := Lib.hid cL; clear cL
  have hne' : L ≠ P := fun h => hne h.symm
  go_enter Try.func9, Try.ntmps9
  go_wp2_with fail
  go_loop [16] (fun j => ∃ k : Nat, k ≤ i ∧ j = .int .i64 k) (fun j => l.length - (intOf j).toNat)
  case atStart => exact ⟨0, by omega, rfl⟩
  case round =>
    obtain ⟨k, hk, rfl⟩ := hrel
    have hkl : k < l.length := by omega
    obtain ⟨d0, d1, d2⟩ := slot_cells hL hkl
    obtain ⟨t0, t1⟩ := wf_get HT.out hkl
    by_cases hlt : k < i
    · have hu := HLOW.out k hlt hkl
      rw [hu] at d2
      go_wp2_with fail
      go_round
      case rel => exact ⟨k + 1, by omega, by go_num⟩
      case measure => simp [intOf]; omega
    · have hki : k = i := by omega
      subst hki
      rw [hfree] at d2
      generalize hs : l[k] = s at *
      obtain ⟨sx, st, su⟩ := s
      dsimp only at *
      have HS := Lib.hid hs; clear hs
      go_wp2_with fail
      (try simp only [Exit.inBlock, Exit.then])
      refine ret_cell_tmp rfl rfl Try.underlying31 rfl rfl ⟨_, _, (by repeat (first | (with_reducible assumption) | (with_reducible apply heap_set_row2) | (with_reducible apply heap_set_same) | ((with_reducible apply heap_set_other'); (focus (first | omega | (simp; done) | (simp; omega)))) | ((with_reducible apply heap_alloc_new); (focus (first | omega | (simp; done) | (simp; omega)))) | (with_reducible apply heap_alloc_old') | (with_reducible apply (heap_drew_at _ _).trans) | (with_reducible apply (heap_drewN_at _ _ _).trans) | (simp only [List.size_toArray, List.length_cons, List.length_nil]; done))), (by kernel_rfl), ?_, ⟨?_, ?_, hne⟩, (by repeat (first | (with_reducible exact Turned.refl _ _ _) | (with_reducible assumption) | ((with_reducible apply turned_set); (focus (first | (exact .inl rfl) | (exact .inr (.inl rfl)) | (refine .inr (.inr ?_); first | omega | (simp; done) | (simp; omega))))) | (with_reducible apply Turned.alloc) | (with_reducible apply Turned.drewN) | (with_reducible apply Turned.drew)))⟩
      · rw [HS.out]
        rfl
      · rw [List.length_set]
        exact (Eq.trans (b := some (Obj.cells _ _ (0, 0))) (by repeat (first | (with_reducible assumption) | (with_reducible apply heap_set_row2) | (with_reducible apply heap_set_same) | ((with_reducible apply heap_set_other'); (focus (first | omega | (simp; done) | (simp; omega)))) | ((with_reducible apply heap_alloc_new); (focus (first | omega | (simp; done) | (simp; omega)))) | (with_reducible apply heap_alloc_old') | (with_reducible apply (heap_drew_at _ _).trans) | (with_reducible apply (heap_drewN_at _ _ _).trans) | (simp only [List.size_toArray, List.length_cons, List.length_nil]; done))) (by exact rfl))
      · rw [HS.out]
        exact set_take hkl HS.out (by repeat (first | (with_reducible assumption) | (with_reducible apply heap_set_row2) | (with_reducible apply heap_set_same) | ((with_reducible apply heap_set_other'); (focus (first | omega | (simp; done) | (simp; omega)))) | ((with_reducible apply heap_alloc_new); (focus (first | omega | (simp; done) | (simp; omega)))) | (with_reducible apply heap_alloc_old') | (with_reducible apply (heap_drew_at _ _).trans) | (with_reducible apply (heap_drewN_at _ _ _).trans) | (simp only [List.size_toArray, List.length_cons, List.length_nil]; done)))
theorem take_full_i (w : World) (P L : Nat) (l : List Sl) (live : Int) (x : Int) (hA : At w P L 62 65 l live) (hl : l.length ≤ 64) (hall : ∀ j, ∀ h : j < l.length, l[j].used = true) :
    Calls Try.prog 9 #[.pointer (some ⟨P, 0, none⟩), .int .i64 x] w fun e w' => e = .returned (.tuple #[.agg #[.int .i64 0, .int .u32 0], .int .i64 20]) ∧ Below w.heap.size w w' := by
  have HALL := Lib.hid hall; clear hall
  obtain ⟨hP, hL, hne⟩ := hA
  obtain ⟨cP, fP, zP⟩ := blk_facts hP
  obtain ⟨cL, fL, zL⟩ := blk_facts hL
  have CL := Lib.hid cL; clear cL
  have hne' : L ≠ P := fun h => hne h.symm
  go_enter Try.func9, Try.ntmps9
  go_wp2_with fail
  go_loop [16] (fun j => ∃ k : Nat, k ≤ l.length ∧ j = .int .i64 k) (fun j => l.length - (intOf j).toNat)
  case atStart => exact ⟨0, by omega, rfl⟩
  case round =>
    obtain ⟨k, hk, rfl⟩ := hrel
    by_cases hlt : k < l.length
    · have hu := HALL.out k hlt
      obtain ⟨d0, d1, d2⟩ := slot_cells hL hlt
      rw [hu] at d2
      go_wp2_with fail
      go_round
      case rel => exact ⟨k + 1, by omega, by go_num⟩
      case measure => simp [intOf]; omega
    · go_wp2_with fail
      (try simp only [Exit.inBlock, Exit.then])
      exact ret_cell_tmp rfl rfl Try.underlying31 rfl rfl ⟨_, _, (by repeat (first | (with_reducible assumption) | (with_reducible apply heap_set_row2) | (with_reducible apply heap_set_same) | ((with_reducible apply heap_set_other'); (focus (first | omega | (simp; done) | (simp; omega)))) | ((with_reducible apply heap_alloc_new); (focus (first | omega | (simp; done) | (simp; omega)))) | (with_reducible apply heap_alloc_old') | (with_reducible apply (heap_drew_at _ _).trans) | (with_reducible apply (heap_drewN_at _ _ _).trans) | (simp only [List.size_toArray, List.length_cons, List.length_nil]; done))), (by kernel_rfl), rfl, by go_grown⟩
theorem live_i (w : World) (P L : Nat) (l : List Sl) (live : Int) (hA : At w P L 62 65 l live) :
    Calls Try.prog 16 #[.pointer (some ⟨P, 0, none⟩)] w fun e w' => e = .returned (.int .i64 live) ∧ w = w' := by
  obtain ⟨hP, hL, hne⟩ := hA
  obtain ⟨cP, fP, zP⟩ := blk_facts hP
  go_enter Try.func16, Try.ntmps16
  go_wp2_with fail
  go_ret
  exact ⟨rfl, rfl⟩

theorem info_s : (Try.prog.info? 74).map (fun i => (i.zero, i.size, i.bytes)) = some (some (.agg #[.string ⟨#[]⟩, .int .u32 0, .bool false]), 3, 24) := by kernel_rfl
theorem new_s (m : Int) (n : Nat) (hm : m = n) (w : World) (h0 : 1 ≤ n) (h1 : n ≤ 64) :
    Calls Try.prog 17 #[.int .i64 m] w fun e w' => ∃ P L, e = .returned (.pointer (some ⟨P, 0, none⟩)) ∧ At w' P L 71 74 (List.replicate n (sl0 (.string ⟨#[]⟩))) 0 ∧ w.heap.size ≤ P ∧ w.heap.size ≤ L ∧ Below w.heap.size w w' := by
  subst hm
  obtain ⟨i0, hi, hz0, hz1, hz2⟩ := info_parts info_s
  have hmk := make_run 69 74 i0 _ (.string ⟨#[]⟩) undef undef 24 n Try.underlying69 hi hz0 hz1 hz2 rfl (by omega) (by omega)
  have e1 : (List.replicate n (sl0 (.string ⟨#[]⟩))).length = n := by simp
  go_enter Try.func17, Try.ntmps17
  go_wp2_with fail
  go_ret
  refine ⟨w.heap.size + 1, w.heap.size, (by first | rfl | (simp; done)), ⟨?_, ?_, by omega⟩, by omega, by omega, by go_grown⟩
  · rw [e1]
    exact (Eq.trans (b := some (Obj.cells _ _ (0, 0))) (by repeat (first | (with_reducible assumption) | (with_reducible apply heap_set_row2) | (with_reducible apply heap_set_same) | ((with_reducible apply heap_set_other'); (focus (first | omega | (simp; done) | (simp; omega)))) | ((with_reducible apply heap_alloc_new); (focus (first | omega | (simp; done) | (simp; omega)))) | (with_reducible apply heap_alloc_old') | (with_reducible apply (heap_drew_at _ _).trans) | (with_reducible apply (heap_drewN_at _ _ _).trans) | (simp only [List.size_toArray, List.length_cons, List.length_nil]; done))) (by exact rfl))
  · exact (Eq.trans (b := some (Obj.cells _ _ (0, 0))) (by repeat (first | (with_reducible assumption) | (with_reducible apply heap_set_row2) | (with_reducible apply heap_set_same) | ((with_reducible apply heap_set_other'); (focus (first | omega | (simp; done) | (simp; omega)))) | ((with_reducible apply heap_alloc_new); (focus (first | omega | (simp; done) | (simp; omega)))) | (with_reducible apply heap_alloc_old') | (with_reducible apply (heap_drew_at _ _).trans) | (with_reducible apply (heap_drewN_at _ _ _).trans) | (simp only [List.size_toArray, List.length_cons, List.length_nil]; done))) (by exact rfl))
theorem take_s (w : World) (P L : Nat) (l : List Sl) (live : Int) (x : ByteArray) (hA : At w P L 71 74 l live) (hl : l.length ≤ 64) (ht : ∀ s ∈ l, 0 ≤ s.turn ∧ s.turn ≤ 1000000) (hv0 : -1000 ≤ live) (hv1 : live ≤ 1000)
    (i : Nat) (hi : i < l.length) (hfree : l[i].used = false) (hlow : ∀ j, j < i → ∀ h : j < l.length, l[j].used = true) :
    Calls Try.prog 18 #[.pointer (some ⟨P, 0, none⟩), .string x] w fun e w' => e = .returned (.tuple #[.agg #[.int .i64 i, .int .u32 (l[i].turn + 1)], .int .i64 0]) ∧ At w' P L 71 74 (l.set i ⟨.string x, l[i].turn + 1, true⟩) (live + 1) ∧ Turned P L w w' := by
  have HLOW := Lib.hid hlow; clear hlow
  have HT := Lib.hid ht; clear ht
  obtain ⟨hP, hL, hne⟩ := hA
  obtain ⟨cP, fP, zP⟩ := blk_facts hP
  obtain ⟨cL, fL, zL⟩ := blk_facts hL
  have CL := Lib.hid cL; clear cL
  have hne' : L ≠ P := fun h => hne h.symm
  go_enter Try.func18, Try.ntmps18
  go_wp2_with fail
  go_loop [16] (fun j => ∃ k : Nat, k ≤ i ∧ j = .int .i64 k) (fun j => l.length - (intOf j).toNat)
  case atStart => exact ⟨0, by omega, rfl⟩
  case round =>
    obtain ⟨k, hk, rfl⟩ := hrel
    have hkl : k < l.length := by omega
    obtain ⟨d0, d1, d2⟩ := slot_cells hL hkl
    obtain ⟨t0, t1⟩ := wf_get HT.out hkl
    by_cases hlt : k < i
    · have hu := HLOW.out k hlt hkl
      rw [hu] at d2
      go_wp2_with fail
      go_round
      case rel => exact ⟨k + 1, by omega, by go_num⟩
      case measure => simp [intOf]; omega
    · have hki : k = i := by omega
      subst hki
      rw [hfree] at d2
      generalize hs : l[k] = s at *
      obtain ⟨sx, st, su⟩ := s
      dsimp only at *
      have HS := Lib.hid hs; clear hs
      go_wp2_with fail
      (try simp only [Exit.inBlock, Exit.then])
      refine ret_cell_tmp rfl rfl Try.underlying31 rfl rfl ⟨_, _, (by repeat (first | (with_reducible assumption) | (with_reducible apply heap_set_row2) | (with_reducible apply heap_set_same) | ((with_reducible apply heap_set_other'); (focus (first | omega | (simp; done) | (simp; omega)))) | ((with_reducible apply heap_alloc_new); (focus (first | omega | (simp; done) | (simp; omega)))) | (with_reducible apply heap_alloc_old') | (with_reducible apply (heap_drew_at _ _).trans) | (with_reducible apply (heap_drewN_at _ _ _).trans) | (simp only [List.size_toArray, List.length_cons, List.length_nil]; done))), (by kernel_rfl), ?_, ⟨?_, ?_, hne⟩, (by repeat (first | (with_reducible exact Turned.refl _ _ _) | (with_reducible assumption) | ((with_reducible apply turned_set); (focus (first | (exact .inl rfl) | (exact .inr (.inl rfl)) | (refine .inr (.inr ?_); first | omega | (simp; done) | (simp; omega))))) | (with_reducible apply Turned.alloc) | (with_reducible apply Turned.drewN) | (with_reducible apply Turned.drew)))⟩
      · rw [HS.out]
        rfl
      · rw [List.length_set]
        exact (Eq.trans (b := some (Obj.cells _ _ (0, 0))) (by repeat (first | (with_reducible assumption) | (with_reducible apply heap_set_row2) | (with_reducible apply heap_set_same) | ((with_reducible apply heap_set_other'); (focus (first | omega | (simp; done) | (simp; omega)))) | ((with_reducible apply heap_alloc_new); (focus (first | omega | (simp; done) | (simp; omega)))) | (with_reducible apply heap_alloc_old') | (with_reducible apply (heap_drew_at _ _).trans) | (with_reducible apply (heap_drewN_at _ _ _).trans) | (simp only [List.size_toArray, List.length_cons, List.length_nil]; done))) (by exact rfl))
      · rw [HS.out]
        exact set_take hkl HS.out (by repeat (first | (with_reducible assumption) | (with_reducible apply heap_set_row2) | (with_reducible apply heap_set_same) | ((with_reducible apply heap_set_other'); (focus (first | omega | (simp; done) | (simp; omega)))) | ((with_reducible apply heap_alloc_new); (focus (first | omega | (simp; done) | (simp; omega)))) | (with_reducible apply heap_alloc_old') | (with_reducible apply (heap_drew_at _ _).trans) | (with_reducible apply (heap_drewN_at _ _ _).trans) | (simp only [List.size_toArray, List.length_cons, List.length_nil]; done)))
theorem take_full_s (w : World) (P L : Nat) (l : List Sl) (live : Int) (x : ByteArray) (hA : At w P L 71 74 l live) (hl : l.length ≤ 64) (hall : ∀ j, ∀ h : j < l.length, l[j].used = true) :
    Calls Try.prog 18 #[.pointer (some ⟨P, 0, none⟩), .string x] w fun e w' => e = .returned (.tuple #[.agg #[.int .i64 0, .int .u32 0], .int .i64 20]) ∧ Below w.heap.size w w' := by
  have HALL := Lib.hid hall; clear hall
  obtain ⟨hP, hL, hne⟩ := hA
  obtain ⟨cP, fP, zP⟩ := blk_facts hP
  obtain ⟨cL, fL, zL⟩ := blk_facts hL
  have CL := Lib.hid cL; clear cL
  have hne' : L ≠ P := fun h => hne h.symm
  go_enter Try.func18, Try.ntmps18
  go_wp2_with fail
  go_loop [16] (fun j => ∃ k : Nat, k ≤ l.length ∧ j = .int .i64 k) (fun j => l.length - (intOf j).toNat)
  case atStart => exact ⟨0, by omega, rfl⟩
  case round =>
    obtain ⟨k, hk, rfl⟩ := hrel
    by_cases hlt : k < l.length
    · have hu := HALL.out k hlt
      obtain ⟨d0, d1, d2⟩ := slot_cells hL hlt
      rw [hu] at d2
      go_wp2_with fail
      go_round
      case rel => exact ⟨k + 1, by omega, by go_num⟩
      case measure => simp [intOf]; omega
    · go_wp2_with fail
      (try simp only [Exit.inBlock, Exit.then])
      exact ret_cell_tmp rfl rfl Try.underlying31 rfl rfl ⟨_, _, (by repeat (first | (with_reducible assumption) | (with_reducible apply heap_set_row2) | (with_reducible apply heap_set_same) | ((with_reducible apply heap_set_other'); (focus (first | omega | (simp; done) | (simp; omega)))) | ((with_reducible apply heap_alloc_new); (focus (first | omega | (simp; done) | (simp; omega)))) | (with_reducible apply heap_alloc_old') | (with_reducible apply (heap_drew_at _ _).trans) | (with_reducible apply (heap_drewN_at _ _ _).trans) | (simp only [List.size_toArray, List.length_cons, List.length_nil]; done))), (by kernel_rfl), rfl, by go_grown⟩
theorem live_s (w : World) (P L : Nat) (l : List Sl) (live : Int) (hA : At w P L 71 74 l live) :
    Calls Try.prog 21 #[.pointer (some ⟨P, 0, none⟩)] w fun e w' => e = .returned (.int .i64 live) ∧ w = w' := by
  obtain ⟨hP, hL, hne⟩ := hA
  obtain ⟨cP, fP, zP⟩ := blk_facts hP
  go_enter Try.func21, Try.ntmps21
  go_wp2_with fail
  go_ret
  exact ⟨rfl, rfl⟩
end Go.Proofs.Ytdedbiacelgleaa
