/- The law ArenaOnce, walked. -/
import Derived.Test.YtdedbiacelgleaaAwake
import Derived.Test.YtdedbiacelgleaaParts
namespace Go.Proofs.Ytdedbiacelgleaa
set_option linter.unusedSimpArgs false
set_option linter.unusedVariables false
open Go.RowKit

theorem info3 : (Try.prog.info? 3).map (fun i => (i.zero, i.size, i.bytes)) = some (some (.int .i64 0), 1, 8) := by kernel_rfl
theorem info4 : (Try.prog.info? 4).map (fun i => (i.zero, i.size, i.bytes)) = some (some (.bool false), 1, 1) := by kernel_rfl
set_option maxRecDepth 100000 in
set_option maxHeartbeats 4000000 in
theorem once_walk (room : Int) (A : Option Addr) (len cap : Nat) (z : Nat → ActV) (w : World) (hr0 : 0 ≤ room) (hr1 : room ≤ 255) (hl : len ≤ 9223372036854775807) (hz : ∀ i, i < len → ActAt w A i (z i)) :
    Calls Try.prog 3 #[.int .u8 room, .slice A len cap] w fun e w' => e = .returned (.bool true) ∧ Below w.heap.size w w' := by
  have HZ := Lib.hid hz; clear hz
  by_cases h150 : 150 < len
  · go_enter Try.func3, Try.ntmps3
    go_wp2_with fail
    (with_reducible refine (awake_any _).mono ?_)
    rintro e w1 ⟨rfl, hb⟩
    go_wp2_with fail
    go_ret
    exact ⟨rfl, hb⟩
  obtain ⟨i31, hi31, hz310, hz311, hz312⟩ := info_parts info31
  obtain ⟨i3, hi3, hz30, hz31, hz32⟩ := info_parts info3
  obtain ⟨i4, hi4, hz40, hz41, hz42⟩ := info_parts info4
  obtain ⟨n, hn⟩ : ∃ n : Nat, room % 9 + 1 = n := ⟨(room % 9 + 1).toNat, by omega⟩
  have hn0 : 1 ≤ n := by omega
  have hn1 : n ≤ 9 := by omega
  have HN := Lib.hid hn; clear hn
  go_enter Try.func3, Try.ntmps3
  go_wp2_with fail
  (with_reducible refine (awake_any _).mono ?_)
  rintro e w1 ⟨rfl, hB⟩
  have y1 := hB.size
  go_wp2_with fail
  with_reducible refine (new_i _ n HN.out _ hn0 (by omega)).mono ?_
  rintro e w2 ⟨P, L, rfl, hA, hp, hq, hb⟩
  replace hB := below_next (w := w) hB hb
  have y2 := hB.size
  clear hb
  have AA := Lib.hid hA; clear hA
  go_wp2_with fail
  go_loopw [7, 8, 9, 10] (fun v7 v8 v9 i wr => ∃ (k : Nat) (told : List (Int × Int)) (has : List Int) (gone : List Bool) (l : List Sl) (live : Int), k ≤ len ∧ i = .int .i64 k ∧ Hid (Inv l told has gone k) ∧ l.length = n ∧ -(k : Int) ≤ live ∧ live ≤ k ∧ wr.ownsRow w.heap.size 31 2 v7 told.length (refCells told) ∧ wr.ownsRow w.heap.size 3 1 v8 has.length (has.map (Value.int .i64)) ∧ wr.ownsRow w.heap.size 4 1 v9 gone.length (gone.map Value.bool) ∧ At wr P L 62 65 l live ∧ Below w.heap.size w wr) (fun _ _ _ i _ => len - (intOf i).toNat)
  case atStart => exact ⟨0, [], [], [], List.replicate n (sl0 (.int .i64 0)), 0, by omega, rfl, Lib.hid (inv_start _ n), by simp, by omega, by omega, World.ownsRow_nil _ _ _ _, World.ownsRow_nil _ _ _ _, World.ownsRow_nil _ _ _ _, AA.out, hB⟩
  case round =>
    clear hB AA
    obtain ⟨k, told, has, gone, l, live, hk, rfl, HINV, hln, hv0, hv1, o7, o8, o9, hA, hB⟩ := hrel
    have yr := hB.size
    have zP := blk_lt hA.p
    have zL := blk_lt hA.l
    have AA := Lib.hid hA; clear hA
    obtain ⟨A7, c7, rfl⟩ := own_slice o7
    obtain ⟨A8, c8, rfl⟩ := own_slice o8
    obtain ⟨A9, c9, rfl⟩ := own_slice o9
    have hlh := HINV.out.lh
    have hlg := HINV.out.lg
    have hlt' := HINV.out.lt
    by_cases hlt : k < len
    · obtain ⟨ab, ao, rfl, hab, d0, d1, d2, d3, d4, wl, wu⟩ := HZ.out k hlt
      generalize z k = v at *
      obtain ⟨kd, x, wh, rs, rt⟩ := v
      dsimp only at d0 d1 d2 d3 d4 wl wu
      have d1' := d1
      have E1 := Lib.hid d1'; clear d1'
      replace d0 := (hB.cell (p := ⟨ab, ao + k * 5, none⟩) hab).trans d0
      replace d1 := (hB.cell (p := ⟨ab, ao + k * 5 + 1, none⟩) hab).trans d1
      replace d2 := (hB.cell (p := ⟨ab, ao + k * 5 + 2, none⟩) hab).trans d2
      replace d3 := (hB.cell (p := ⟨ab, ao + k * 5 + 3, none⟩) hab).trans d3
      replace d4 := (hB.cell (p := ⟨ab, ao + k * 5 + 4, none⟩) hab).trans d4
      have hb1 := Nat.lt_of_lt_of_le hab hB.size
      have hlh2 : has.length ≤ 150 := by omega
      have hlg2 : gone.length ≤ 150 := by omega
      have hLH := Lib.hid hlh; clear hlh
      have hLG := Lib.hid hlg; clear hlg
      have hLN := Lib.hid hln; clear hln
      have hl64 : l.length ≤ 64 := by rw [hLN.out]; omega
      obtain ⟨wo, hwo⟩ : ∃ wo, wo = wr := ⟨_, rfl⟩
      subst hwo
      by_cases htk : kd < 2 ∨ told.length = 0
      · rcases first_free l with ⟨i, hi, hf, hlow⟩ | hall
        · have HF := Lib.hid hf; clear hf
          have HLOW := Lib.hid hlow; clear hlow
          by_cases hkd : kd < 2
          all_goals
            go_wp2_with fail
            with_reducible refine (show ∀ W, At W P L 62 65 l live → Calls Try.prog 9 #[.pointer (some ⟨P, 0, none⟩), .int .i64 x] W (fun e w' => e = .returned (.tuple #[.agg #[.int .i64 i, .int .u32 (l[i].turn + 1)], .int .i64 0]) ∧ At w' P L 62 65 (l.set i ⟨.int .i64 x, l[i].turn + 1, true⟩) (live + 1) ∧ Turned P L W w' ∧ At W P L 62 65 l live) from fun W h => (take_i W P L l live x h hl64 (fun s hs => by have := HINV.out.turn s hs; omega) (by omega) (by omega) i hi HF.out HLOW.out).mono fun e w' ⟨a, b, c⟩ => ⟨a, b, c, h⟩) _ (have hA := AA.out; (by repeat (first | (with_reducible assumption) | (with_reducible apply At.alloc) | (with_reducible apply At.drewN) | ((with_reducible apply at_set); (focus (first | omega | (simp; done) | (simp; omega))); (focus (first | omega | (simp; done) | (simp; omega))))))) |>.mono ?_
            rintro e w3 ⟨rfl, hA, hT, hAo⟩
            have hBn : Below w.heap.size w w3 := turned_below (by go_grown) hT (by omega) (by omega) (by first | omega | (simp; omega))
            have o7n : w3.ownsRow w.heap.size 31 2 (.slice A7 told.length c7) told.length (refCells told) := turned_own hT o7 hAo (by decide) (by decide)
            have o8n : w3.ownsRow w.heap.size 3 1 (.slice A8 has.length c8) has.length (has.map (Value.int .i64)) := turned_own hT o8 hAo (by decide) (by decide)
            have o9n : w3.ownsRow w.heap.size 4 1 (.slice A9 gone.length c9) gone.length (gone.map Value.bool) := turned_own hT o9 hAo (by decide) (by decide)
            clear hB hT hAo
            have hB := hBn
            clear hBn
            clear o7
            have o7 := o7n
            clear o7n
            clear o8
            have o8 := o8n
            clear o8n
            clear o9
            have o9 := o9n
            clear o9n
            have y3 := hB.size
            have zP := blk_lt hA.p
            have zL := blk_lt hA.l
            clear AA
            have AA := Lib.hid hA; clear hA
            obtain ⟨hne, hinv⟩ := HINV.out.take hi HF.out x
            have D1 : Hid (w.cell? ⟨ab, ao + k * 5 + 1, none⟩ = some (.int .i64 x)) := Lib.hid E1.out
            have HNE := Lib.hid hne; clear hne
            have INV := Lib.hid hinv; clear hinv
            have hls : (l.set i ⟨.int .i64 x, l[i].turn + 1, true⟩).length = n := by rw [List.length_set]; exact hLN.out
            generalize hl' : l.set i ⟨.int .i64 x, l[i].turn + 1, true⟩ = l' at *
            generalize hti : l[i].turn + 1 = ti at *
            clear hl' hti
            have hLS := Lib.hid hls; clear hls
            go_wp2_with fail
            go_loopw [13] (fun j wr => ∃ m : Nat, m ≤ told.length ∧ j = .int .i64 m ∧ wr.ownsRow w.heap.size 31 2 (.slice A7 told.length c7) told.length (refCells told) ∧ wr.ownsRow w.heap.size 3 1 (.slice A8 has.length c8) has.length (has.map (Value.int .i64)) ∧ wr.ownsRow w.heap.size 4 1 (.slice A9 gone.length c9) gone.length (gone.map Value.bool) ∧ At wr P L 62 65 l' (live + 1) ∧ wr.heap[w3.heap.size]? = some (.cells #[.int .i64 i, .int .u32 ti] 31 (0, 0)) ∧ Below w.heap.size w wr) (fun j _ => told.length - (intOf j).toNat)
            case atStart => exact ⟨0, by omega, rfl, (have hx := o7; (by repeat (first | (with_reducible assumption) | (with_reducible apply own_alloc) | (with_reducible apply own_drewN) | (with_reducible apply own_set_other) | (with_reducible apply heap_set_same) | ((with_reducible apply heap_alloc_new); (focus (first | omega | (simp; done) | (simp; omega)))) | (with_reducible apply heap_alloc_old') | decide))), (have hx := o8; (by repeat (first | (with_reducible assumption) | (with_reducible apply own_alloc) | (with_reducible apply own_drewN) | (with_reducible apply own_set_other) | (with_reducible apply heap_set_same) | ((with_reducible apply heap_alloc_new); (focus (first | omega | (simp; done) | (simp; omega)))) | (with_reducible apply heap_alloc_old') | decide))), (have hx := o9; (by repeat (first | (with_reducible assumption) | (with_reducible apply own_alloc) | (with_reducible apply own_drewN) | (with_reducible apply own_set_other) | (with_reducible apply heap_set_same) | ((with_reducible apply heap_alloc_new); (focus (first | omega | (simp; done) | (simp; omega)))) | (with_reducible apply heap_alloc_old') | decide))), (have hA := AA.out; (by repeat (first | (with_reducible assumption) | (with_reducible apply At.alloc) | (with_reducible apply At.drewN) | ((with_reducible apply at_set); (focus (first | omega | (simp; done) | (simp; omega))); (focus (first | omega | (simp; done) | (simp; omega))))))), (Eq.trans (b := some (Obj.cells _ _ (0, 0))) (by repeat (first | (with_reducible assumption) | (with_reducible apply heap_set_row2) | (with_reducible apply heap_set_same) | ((with_reducible apply heap_set_other'); (focus (first | omega | (simp; done) | (simp; omega)))) | ((with_reducible apply heap_alloc_new); (focus (first | omega | (simp; done) | (simp; omega)))) | (with_reducible apply heap_alloc_old') | (with_reducible apply (heap_drew_at _ _).trans) | (with_reducible apply (heap_drewN_at _ _ _).trans) | (simp only [List.size_toArray, List.length_cons, List.length_nil]; done))) (by exact rfl)), by go_grown⟩
            case round =>
              clear hB o7 o8 o9 AA
              obtain ⟨m, hm, rfl, o7, o8, o9, hA, h0, hB⟩ := hrel
              have yz := hB.size
              have zP := blk_lt hA.p
              have zL := blk_lt hA.l
              obtain ⟨c0, f0, z0⟩ := blk_facts h0
              have AA := Lib.hid hA; clear hA
              by_cases hmt : m < told.length
              · obtain ⟨b7, rfl, q7, z7, d70, d71⟩ := own_ref o7 hmt
                have hne := HNE.out m hmt
                generalize told.getD m (0, 0) = tm at *
                obtain ⟨ts, tt⟩ := tm
                dsimp only at d70 d71
                have hne2 : ts = (i : Int) → tt ≠ ti := fun q r => hne (by rw [q, r])
                clear hne
                by_cases hts : ts = (i : Int)
                · subst hts
                  have hb2 : (tt == ti) = false := beq_eq_false_iff_ne.2 (hne2 rfl)
                  clear hne2
                  go_wp2_with fail
                  go_quiet (fail)
                  go_wp2_with fail
                  go_roundw
                  case rel => exact ⟨m + 1, by omega, by go_num, own_drewN o7 _, own_drewN o8 _, own_drewN o9 _, (have hA := AA.out; (by repeat (first | (with_reducible assumption) | (with_reducible apply At.alloc) | (with_reducible apply At.drewN) | ((with_reducible apply at_set); (focus (first | omega | (simp; done) | (simp; omega))); (focus (first | omega | (simp; done) | (simp; omega))))))), (Eq.trans (b := some (Obj.cells _ _ (0, 0))) (by repeat (first | (with_reducible assumption) | (with_reducible apply heap_set_row2) | (with_reducible apply heap_set_same) | ((with_reducible apply heap_set_other'); (focus (first | omega | (simp; done) | (simp; omega)))) | ((with_reducible apply heap_alloc_new); (focus (first | omega | (simp; done) | (simp; omega)))) | (with_reducible apply heap_alloc_old') | (with_reducible apply (heap_drew_at _ _).trans) | (with_reducible apply (heap_drewN_at _ _ _).trans) | (simp only [List.size_toArray, List.length_cons, List.length_nil]; done))) (by exact rfl)), below_drewN hB _⟩
                  case measure => simp [intOf]; omega
                · have hb2 : (ts == (i : Int)) = false := beq_eq_false_iff_ne.2 hts
                  clear hne2
                  go_wp2_with fail
                  go_quiet (fail)
                  go_wp2_with fail
                  go_roundw
                  case rel => exact ⟨m + 1, by omega, by go_num, own_drewN o7 _, own_drewN o8 _, own_drewN o9 _, (have hA := AA.out; (by repeat (first | (with_reducible assumption) | (with_reducible apply At.alloc) | (with_reducible apply At.drewN) | ((with_reducible apply at_set); (focus (first | omega | (simp; done) | (simp; omega))); (focus (first | omega | (simp; done) | (simp; omega))))))), (Eq.trans (b := some (Obj.cells _ _ (0, 0))) (by repeat (first | (with_reducible assumption) | (with_reducible apply heap_set_row2) | (with_reducible apply heap_set_same) | ((with_reducible apply heap_set_other'); (focus (first | omega | (simp; done) | (simp; omega)))) | ((with_reducible apply heap_alloc_new); (focus (first | omega | (simp; done) | (simp; omega)))) | (with_reducible apply heap_alloc_old') | (with_reducible apply (heap_drew_at _ _).trans) | (with_reducible apply (heap_drewN_at _ _ _).trans) | (simp only [List.size_toArray, List.length_cons, List.length_nil]; done))) (by exact rfl)), below_drewN hB _⟩
                  case measure => simp [intOf]; omega
              · have hml : m = told.length := by omega
                have HEQ := Lib.hid hml; clear hml
                have d1 := (hB.cell (p := ⟨ab, ao + k * 5 + 1, none⟩) hab).trans D1.out
                have hb1 := Nat.lt_of_lt_of_le hab hB.size
                go_upto_region 22 with (at_builtin; try clear d1; refine wpList_append_own _ rfl (.tmp 71) (.tmp 73) 26 rfl w.heap.size 31 i31 (.agg #[.int .i64 0, .int .u32 0]) 2 16 Try.underlying26 hi31 hz310 hz311 hz312 rfl (by decide) _ _ _ rfl (o7.alloc _) ⟨wr.heap.size, 0, none⟩ 1 1 [.int .i64 i, .int .u32 ti] rfl rfl (new_cells (by simp)) (one_cells rfl) (by unfold maxLen; first | omega | (simp only [List.length_append, List.length_cons]; omega)) (by first | omega | (simp only [List.length_append, List.length_cons]; omega)) (by have := hB.size; first | omega | (simp; omega)) ?_; intro v7 w7 hown1 hgrow1 _; have hBn : Below w.heap.size w w7 := below_grown (by go_grown) (by first | omega | (simp; omega)) (o7.alloc _) hgrow1; have o8n := own_other (o8.alloc _) (o7.alloc _) hgrow1 (by decide); clear o8; have o8 := o8n; clear o8n; have o9n := own_other (o9.alloc _) (o7.alloc _) hgrow1 (by decide); clear o9; have o9 := o9n; clear o9n; have hAn := At.grown (have hA := AA.out; hA.alloc _) (o7.alloc _) hgrow1 (by decide) (by decide); clear AA; have AA := Lib.hid hAn; clear hAn; have o7n : w7.ownsRow w.heap.size 31 2 v7 (told ++ [((i : Int), ti)]).length (refCells (told ++ [((i : Int), ti)])) := (by simpa [refCells] using hown1); clear o7; have o7 := o7n; clear o7n; clear hown1 hgrow1 hB; have hB := hBn; clear hBn; have yn := hB.size; have d1 := (hB.cell (p := ⟨ab, ao + k * 5 + 1, none⟩) hab).trans D1.out; have hb1 := Nat.lt_of_lt_of_le hab hB.size; have zP := blk_lt AA.out.p; have zL := blk_lt AA.out.l; try (clear h0 c0 f0 z0))
                go_upto_region 23 with (at_builtin; refine wpList_append_own _ rfl (.tmp 75) (.tmp 81) 27 rfl w.heap.size 3 i3 (.int .i64 0) 1 8 Try.underlying27 hi3 hz30 hz31 hz32 rfl (by decide) _ _ _ rfl (o8.alloc _) ⟨w7.heap.size, 0, none⟩ 1 1 [.int .i64 x] rfl rfl (new_cells (by simp)) (one_cells rfl) (by unfold maxLen; first | omega | (simp only [List.length_append, List.length_cons]; omega)) (by first | omega | (simp only [List.length_append, List.length_cons]; omega)) (by have := hB.size; first | omega | (simp; omega)) ?_; intro v8 w8 hown1 hgrow1 _; have hBn : Below w.heap.size w w8 := below_grown (by go_grown) (by first | omega | (simp; omega)) (o8.alloc _) hgrow1; have o7n := own_other (o7.alloc _) (o8.alloc _) hgrow1 (by decide); clear o7; have o7 := o7n; clear o7n; have o9n := own_other (o9.alloc _) (o8.alloc _) hgrow1 (by decide); clear o9; have o9 := o9n; clear o9n; have hAn := At.grown (have hA := AA.out; hA.alloc _) (o8.alloc _) hgrow1 (by decide) (by decide); clear AA; have AA := Lib.hid hAn; clear hAn; have o8n : w8.ownsRow w.heap.size 3 1 v8 (has ++ [x]).length ((has ++ [x]).map (Value.int .i64)) := (by simpa using hown1); clear o8; have o8 := o8n; clear o8n; clear hown1 hgrow1 hB; have hB := hBn; clear hBn; have yn := hB.size; have zP := blk_lt AA.out.p; have zL := blk_lt AA.out.l; try (clear h0 c0 f0 z0))
                go_upto_region 30 with (at_builtin; refine wpList_append_own _ rfl (.tmp 83) (.tmp 84) 28 rfl w.heap.size 4 i4 (.bool false) 1 1 Try.underlying28 hi4 hz40 hz41 hz42 rfl (by decide) _ _ _ rfl (o9.alloc _) ⟨w8.heap.size, 0, none⟩ 1 1 [.bool false] rfl rfl (new_cells (by simp)) (one_cells rfl) (by unfold maxLen; first | omega | (simp only [List.length_append, List.length_cons]; omega)) (by first | omega | (simp only [List.length_append, List.length_cons]; omega)) (by have := hB.size; first | omega | (simp; omega)) ?_; intro v9 w9 hown1 hgrow1 _; have hBn : Below w.heap.size w w9 := below_grown (by go_grown) (by first | omega | (simp; omega)) (o9.alloc _) hgrow1; have o7n := own_other (o7.alloc _) (o9.alloc _) hgrow1 (by decide); clear o7; have o7 := o7n; clear o7n; have o8n := own_other (o8.alloc _) (o9.alloc _) hgrow1 (by decide); clear o8; have o8 := o8n; clear o8n; have hAn := At.grown (have hA := AA.out; hA.alloc _) (o9.alloc _) hgrow1 (by decide) (by decide); clear AA; have AA := Lib.hid hAn; clear hAn; have o9n : w9.ownsRow w.heap.size 4 1 v9 (gone ++ [false]).length ((gone ++ [false]).map Value.bool) := (by simpa using hown1); clear o9; have o9 := o9n; clear o9n; clear hown1 hgrow1 hB; have hB := hBn; clear hBn; have yn := hB.size; have zP := blk_lt AA.out.p; have zL := blk_lt AA.out.l; try (clear h0 c0 f0 z0))
                clear d1 hb1
                generalize told ++ [((i : Int), ti)] = told' at *
                generalize has ++ [x] = has' at *
                generalize gone ++ [false] = gone' at *
                obtain ⟨A7', c7', rfl⟩ := own_slice o7
                obtain ⟨A8', c8', rfl⟩ := own_slice o8
                obtain ⟨A9', c9', rfl⟩ := own_slice o9
                have hl64' : l'.length ≤ 64 := by rw [hLS.out]; omega
                have hlt3 := INV.out.lt
                go_wp2_with fail
                have INV0 := INV
                go_loopw [16] (fun j wr => ∃ m : Nat, m ≤ told'.length ∧ j = .int .i64 m ∧ wr.ownsRow w.heap.size 31 2 (.slice A7' told'.length c7') told'.length (refCells told') ∧ wr.ownsRow w.heap.size 3 1 (.slice A8' has'.length c8') has'.length (has'.map (Value.int .i64)) ∧ wr.ownsRow w.heap.size 4 1 (.slice A9' gone'.length c9') gone'.length (gone'.map Value.bool) ∧ At wr P L 62 65 l' (live + 1) ∧ Below w.heap.size w wr) (fun j _ => told'.length - (intOf j).toNat)
                case atStart => exact ⟨0, by omega, rfl, o7, o8, o9, (have hA := AA.out; (by repeat (first | (with_reducible assumption) | (with_reducible apply At.alloc) | (with_reducible apply At.drewN) | ((with_reducible apply at_set); (focus (first | omega | (simp; done) | (simp; omega))); (focus (first | omega | (simp; done) | (simp; omega))))))), by go_grown⟩
                case round =>
                  clear hB o7 o8 o9 AA
                  obtain ⟨m, hm, rfl, o7, o8, o9, hA, hB⟩ := hrel
                  have yz := hB.size
                  have zP := blk_lt hA.p
                  have zL := blk_lt hA.l
                  have AA := Lib.hid hA; clear hA
                  by_cases hmt : m < told'.length
                  · obtain ⟨b7q, e7q, q7, z7, d70, d71⟩ := own_ref o7 hmt
                    obtain ⟨b8q, e8q, q8, z8, d80, _⟩ := own_int o8 (j := m) (by rw [INV.out.lh]; exact hmt)
                    obtain ⟨b9q, e9q, q9, z9, d90, _⟩ := own_boo o9 (j := m) (by rw [INV.out.lg]; exact hmt)
                    cases e7q
                    cases e8q
                    cases e9q
                    have hl8 : m < has'.length := by rw [INV.out.lh]; exact hmt
                    have hl9 : m < gone'.length := by rw [INV.out.lg]; exact hmt
                    have hhere := INV.out.here hmt
                    have hstale := INV.out.stale hmt
                    generalize hgm : gone'.getD m false = gm at *
                    generalize told'.getD m (0, 0) = tm at *
                    obtain ⟨ts, tt⟩ := tm
                    dsimp only at d70 d71 hhere hstale
                    generalize has'.getD m 0 = hm8 at *
                    clear hgm
                    have O7 := Lib.hid o7; clear o7
                    have O8 := Lib.hid o8; clear o8
                    have O9 := Lib.hid o9; clear o9
                    cases gm with
                    | false =>
                      obtain ⟨i2, ha2, hx2⟩ := hhere rfl
                      clear hhere hstale
                      have HA2 := Lib.hid ha2; clear ha2
                      have HX2 := Lib.hid hx2; clear hx2
                      go_wp2_with fail
                      with_reducible refine (get_some_i _ P L l' (live + 1) ts tt hm8 i2 (have hA := AA.out; (by repeat (first | (with_reducible assumption) | (with_reducible apply At.alloc) | (with_reducible apply At.drewN) | ((with_reducible apply at_set); (focus (first | omega | (simp; done) | (simp; omega))); (focus (first | omega | (simp; done) | (simp; omega))))))) (by omega) HA2.out HX2.out).mono ?_
                      rintro e w9 ⟨rfl, hb⟩
                      have p7 := own_below O7.out hb
                      have p8 := own_below O8.out hb
                      have p9 := own_below O9.out hb
                      have hA9 := At.below AA.out hb
                      replace d80 := (hb.cell (p := ⟨_, m, none⟩) z8).trans d80
                      replace d90 := (hb.cell (p := ⟨_, m, none⟩) z9).trans d90
                      have hBn := below_next (w := w) hB hb
                      have y9 := hb.size
                      have z8n := Nat.lt_of_lt_of_le z8 y9
                      have z9n := Nat.lt_of_lt_of_le z9 y9
                      have P7 := Lib.hid p7; clear p7
                      have P8 := Lib.hid p8; clear p8
                      have P9 := Lib.hid p9; clear p9
                      have A9 := Lib.hid hA9; clear hA9
                      clear hb hB
                      go_wp2_with fail
                      go_roundw
                      case rel => exact ⟨m + 1, by omega, by go_num, P7.out, P8.out, P9.out, A9.out, hBn⟩
                      case measure => simp [intOf]; omega
                    | true =>
                      have ha2 := hstale rfl
                      clear hhere hstale
                      have HA2 := Lib.hid ha2; clear ha2
                      go_wp2_with fail
                      with_reducible refine (get_none_i _ P L l' (live + 1) ts tt (have hA := AA.out; (by repeat (first | (with_reducible assumption) | (with_reducible apply At.alloc) | (with_reducible apply At.drewN) | ((with_reducible apply at_set); (focus (first | omega | (simp; done) | (simp; omega))); (focus (first | omega | (simp; done) | (simp; omega))))))) (by omega) HA2.out).mono ?_
                      rintro e w9 ⟨rfl, hb⟩
                      have p7 := own_below O7.out hb
                      have p8 := own_below O8.out hb
                      have p9 := own_below O9.out hb
                      have hA9 := At.below AA.out hb
                      replace d80 := (hb.cell (p := ⟨_, m, none⟩) z8).trans d80
                      replace d90 := (hb.cell (p := ⟨_, m, none⟩) z9).trans d90
                      have hBn := below_next (w := w) hB hb
                      have y9 := hb.size
                      have z8n := Nat.lt_of_lt_of_le z8 y9
                      have z9n := Nat.lt_of_lt_of_le z9 y9
                      have P7 := Lib.hid p7; clear p7
                      have P8 := Lib.hid p8; clear p8
                      have P9 := Lib.hid p9; clear p9
                      have A9 := Lib.hid hA9; clear hA9
                      clear hb hB
                      go_wp2_with fail
                      go_roundw
                      case rel => exact ⟨m + 1, by omega, by go_num, P7.out, P8.out, P9.out, A9.out, hBn⟩
                      case measure => simp [intOf]; omega
                  · go_wp2_with fail
                    go_roundw
                    case rel => exact ⟨k + 1, told', has', gone', l', live + 1, by omega, by go_num, INV.out, hLS.out, by push_cast; omega, by push_cast; omega, o7, o8, o9, AA.out, hB⟩
                    case measure => simp [intOf]; omega
        · by_cases hkd : kd < 2
          all_goals
            go_wp2_with fail
            with_reducible refine (take_full_i _ P L l live x (have hA := AA.out; (by repeat (first | (with_reducible assumption) | (with_reducible apply At.alloc) | (with_reducible apply At.drewN) | ((with_reducible apply at_set); (focus (first | omega | (simp; done) | (simp; omega))); (focus (first | omega | (simp; done) | (simp; omega))))))) hl64 hall).mono ?_
            rintro e w3 ⟨rfl, hb⟩
            have p7 := own_below o7 hb
            have p8 := own_below o8 hb
            have p9 := own_below o9 hb
            have hA3 := At.below AA.out hb
            have hBn := below_next (w := w) hB hb
            have y3 := hBn.size
            have P7 := Lib.hid p7; clear p7
            have P8 := Lib.hid p8; clear p8
            have P9 := Lib.hid p9; clear p9
            have A3 := Lib.hid hA3; clear hA3
            clear o7 o8 o9
            go_wp2_with fail
            go_roundw
            case rel => exact ⟨k + 1, told, has, gone, l, live, by omega, by go_num, Lib.hid HINV.out.more, hLN.out, by push_cast; omega, by push_cast; omega, (have hx := P7.out; (by repeat (first | (with_reducible assumption) | (with_reducible apply own_alloc) | (with_reducible apply own_drewN) | (with_reducible apply own_set_other) | (with_reducible apply heap_set_same) | ((with_reducible apply heap_alloc_new); (focus (first | omega | (simp; done) | (simp; omega)))) | (with_reducible apply heap_alloc_old') | decide))), (have hx := P8.out; (by repeat (first | (with_reducible assumption) | (with_reducible apply own_alloc) | (with_reducible apply own_drewN) | (with_reducible apply own_set_other) | (with_reducible apply heap_set_same) | ((with_reducible apply heap_alloc_new); (focus (first | omega | (simp; done) | (simp; omega)))) | (with_reducible apply heap_alloc_old') | decide))), (have hx := P9.out; (by repeat (first | (with_reducible assumption) | (with_reducible apply own_alloc) | (with_reducible apply own_drewN) | (with_reducible apply own_set_other) | (with_reducible apply heap_set_same) | ((with_reducible apply heap_alloc_new); (focus (first | omega | (simp; done) | (simp; omega)))) | (with_reducible apply heap_alloc_old') | decide))), (have hA := A3.out; (by repeat (first | (with_reducible assumption) | (with_reducible apply At.alloc) | (with_reducible apply At.drewN) | ((with_reducible apply at_set); (focus (first | omega | (simp; done) | (simp; omega))); (focus (first | omega | (simp; done) | (simp; omega))))))), by go_grown⟩
            case measure => simp [intOf]; omega
      · have hkd : ¬ kd < 2 := fun q => htk (.inl q)
        have htl : 0 < told.length := by omega
        have hte : ((told.length : Int) == 0) = false := beq_eq_false_iff_ne.2 (by omega)
        clear htk
        have hlt3 : told.length ≤ k + 1 := by omega
        by_cases hwh : wh < 0
        · have INV : Hid (Inv l told has gone (k + 1)) := Lib.hid HINV.out.more
          go_wp2_with fail
          have INV0 := INV
          go_loopw [16] (fun j wr => ∃ m : Nat, m ≤ told.length ∧ j = .int .i64 m ∧ wr.ownsRow w.heap.size 31 2 (.slice A7 told.length c7) told.length (refCells told) ∧ wr.ownsRow w.heap.size 3 1 (.slice A8 has.length c8) has.length (has.map (Value.int .i64)) ∧ wr.ownsRow w.heap.size 4 1 (.slice A9 gone.length c9) gone.length (gone.map Value.bool) ∧ At wr P L 62 65 l live ∧ Below w.heap.size w wr) (fun j _ => told.length - (intOf j).toNat)
          case atStart => exact ⟨0, by omega, rfl, o7, o8, o9, (have hA := AA.out; (by repeat (first | (with_reducible assumption) | (with_reducible apply At.alloc) | (with_reducible apply At.drewN) | ((with_reducible apply at_set); (focus (first | omega | (simp; done) | (simp; omega))); (focus (first | omega | (simp; done) | (simp; omega))))))), by go_grown⟩
          case round =>
            clear hB o7 o8 o9 AA
            obtain ⟨m, hm, rfl, o7, o8, o9, hA, hB⟩ := hrel
            have yz := hB.size
            have zP := blk_lt hA.p
            have zL := blk_lt hA.l
            have AA := Lib.hid hA; clear hA
            by_cases hmt : m < told.length
            · obtain ⟨b7q, e7q, q7, z7, d70, d71⟩ := own_ref o7 hmt
              obtain ⟨b8q, e8q, q8, z8, d80, _⟩ := own_int o8 (j := m) (by rw [INV.out.lh]; exact hmt)
              obtain ⟨b9q, e9q, q9, z9, d90, _⟩ := own_boo o9 (j := m) (by rw [INV.out.lg]; exact hmt)
              cases e7q
              cases e8q
              cases e9q
              have hl8 : m < has.length := by rw [INV.out.lh]; exact hmt
              have hl9 : m < gone.length := by rw [INV.out.lg]; exact hmt
              have hhere := INV.out.here hmt
              have hstale := INV.out.stale hmt
              generalize hgm : gone.getD m false = gm at *
              generalize told.getD m (0, 0) = tm at *
              obtain ⟨ts, tt⟩ := tm
              dsimp only at d70 d71 hhere hstale
              generalize has.getD m 0 = hm8 at *
              clear hgm
              have O7 := Lib.hid o7; clear o7
              have O8 := Lib.hid o8; clear o8
              have O9 := Lib.hid o9; clear o9
              cases gm with
              | false =>
                obtain ⟨i2, ha2, hx2⟩ := hhere rfl
                clear hhere hstale
                have HA2 := Lib.hid ha2; clear ha2
                have HX2 := Lib.hid hx2; clear hx2
                go_wp2_with fail
                with_reducible refine (get_some_i _ P L l live ts tt hm8 i2 (have hA := AA.out; (by repeat (first | (with_reducible assumption) | (with_reducible apply At.alloc) | (with_reducible apply At.drewN) | ((with_reducible apply at_set); (focus (first | omega | (simp; done) | (simp; omega))); (focus (first | omega | (simp; done) | (simp; omega))))))) (by omega) HA2.out HX2.out).mono ?_
                rintro e w9 ⟨rfl, hb⟩
                have p7 := own_below O7.out hb
                have p8 := own_below O8.out hb
                have p9 := own_below O9.out hb
                have hA9 := At.below AA.out hb
                replace d80 := (hb.cell (p := ⟨_, m, none⟩) z8).trans d80
                replace d90 := (hb.cell (p := ⟨_, m, none⟩) z9).trans d90
                have hBn := below_next (w := w) hB hb
                have y9 := hb.size
                have z8n := Nat.lt_of_lt_of_le z8 y9
                have z9n := Nat.lt_of_lt_of_le z9 y9
                have P7 := Lib.hid p7; clear p7
                have P8 := Lib.hid p8; clear p8
                have P9 := Lib.hid p9; clear p9
                have A9 := Lib.hid hA9; clear hA9
                clear hb hB
                go_wp2_with fail
                go_roundw
                case rel => exact ⟨m + 1, by omega, by go_num, P7.out, P8.out, P9.out, A9.out, hBn⟩
                case measure => simp [intOf]; omega
              | true =>
                have ha2 := hstale rfl
                clear hhere hstale
                have HA2 := Lib.hid ha2; clear ha2
                go_wp2_with fail
                with_reducible refine (get_none_i _ P L l live ts tt (have hA := AA.out; (by repeat (first | (with_reducible assumption) | (with_reducible apply At.alloc) | (with_reducible apply At.drewN) | ((with_reducible apply at_set); (focus (first | omega | (simp; done) | (simp; omega))); (focus (first | omega | (simp; done) | (simp; omega))))))) (by omega) HA2.out).mono ?_
                rintro e w9 ⟨rfl, hb⟩
                have p7 := own_below O7.out hb
                have p8 := own_below O8.out hb
                have p9 := own_below O9.out hb
                have hA9 := At.below AA.out hb
                replace d80 := (hb.cell (p := ⟨_, m, none⟩) z8).trans d80
                replace d90 := (hb.cell (p := ⟨_, m, none⟩) z9).trans d90
                have hBn := below_next (w := w) hB hb
                have y9 := hb.size
                have z8n := Nat.lt_of_lt_of_le z8 y9
                have z9n := Nat.lt_of_lt_of_le z9 y9
                have P7 := Lib.hid p7; clear p7
                have P8 := Lib.hid p8; clear p8
                have P9 := Lib.hid p9; clear p9
                have A9 := Lib.hid hA9; clear hA9
                clear hb hB
                go_wp2_with fail
                go_roundw
                case rel => exact ⟨m + 1, by omega, by go_num, P7.out, P8.out, P9.out, A9.out, hBn⟩
                case measure => simp [intOf]; omega
            · go_wp2_with fail
              go_roundw
              case rel => exact ⟨k + 1, told, has, gone, l, live, by omega, by go_num, INV.out, hLN.out, by push_cast; omega, by push_cast; omega, o7, o8, o9, AA.out, hB⟩
              case measure => simp [intOf]; omega
        · obtain ⟨j, hj⟩ : ∃ j : Nat, wh % (told.length : Int) = j := ⟨(wh % (told.length : Int)).toNat, (Int.toNat_of_nonneg (Int.emod_nonneg wh (by omega))).symm⟩
          have hjl : j < told.length := by have h9 := Int.emod_lt_of_pos wh (b := (told.length : Int)) (by omega); rw [hj] at h9; omega
          have hjg : j < gone.length := by rw [hLG.out]; exact hjl
          obtain ⟨b7, rfl, q7, z7, d70, d71⟩ := own_ref o7 hjl
          have hhere := HINV.out.here hjl
          have hstale := HINV.out.stale hjl
          have hfree := fun h i ha z => HINV.out.free (j := j) (i := i) hjl h ha z
          have HJ := Lib.hid hj
          cases hgm : gone.getD j false with
          | false =>
            obtain ⟨i2, ha2, _⟩ := hhere hgm
            have hinv := (hfree hgm i2 ha2 (.int .i64 0)).more
            have HGM := Lib.hid hgm; clear hgm
            clear hhere hstale hfree
            generalize told.getD j (0, 0) = tm at *
            obtain ⟨ts, tt⟩ := tm
            dsimp only at d70 d71 ha2 hinv
            have INV := Lib.hid hinv; clear hinv
            have HA2 := Lib.hid ha2; clear ha2
            have hls : (l.set i2 ⟨.int .i64 0, tt, false⟩).length = n := by rw [List.length_set]; exact hLN.out
            have hLS := Lib.hid hls; clear hls
            have hGL : (gone.set j true).length = gone.length := by simp
            have HGL := Lib.hid hGL; clear hGL
            go_wp2_with fail
            with_reducible refine (show ∀ W, At W P L 62 65 l live → Calls Try.prog 10 #[.pointer (some ⟨P, 0, none⟩), .agg #[.int .i64 ts, .int .u32 tt]] W (fun e w' => e = .returned (.int .i64 0) ∧ At w' P L 62 65 (l.set i2 ⟨.int .i64 0, tt, false⟩) (live - 1) ∧ Turned P L W w' ∧ At W P L 62 65 l live) from fun W h => (free_some_i W P L l live ts tt i2 h hl64 (by omega) (by omega) HA2.out).mono fun e w' ⟨a, b, c⟩ => ⟨a, b, c, h⟩) _ (have hA := AA.out; (by repeat (first | (with_reducible assumption) | (with_reducible apply At.alloc) | (with_reducible apply At.drewN) | ((with_reducible apply at_set); (focus (first | omega | (simp; done) | (simp; omega))); (focus (first | omega | (simp; done) | (simp; omega))))))) |>.mono ?_
            rintro e w3 ⟨rfl, hA, hT, hAo⟩
            have hBn : Below w.heap.size w w3 := turned_below (by go_grown) hT (by omega) (by omega) (by first | omega | (simp; omega))
            have o7n : w3.ownsRow w.heap.size 31 2 (.slice (some ⟨b7, 0, none⟩) told.length c7) told.length (refCells told) := turned_own hT o7 hAo (by decide) (by decide)
            have o8n : w3.ownsRow w.heap.size 3 1 (.slice A8 has.length c8) has.length (has.map (Value.int .i64)) := turned_own hT o8 hAo (by decide) (by decide)
            have o9n : w3.ownsRow w.heap.size 4 1 (.slice A9 gone.length c9) gone.length (gone.map Value.bool) := turned_own hT o9 hAo (by decide) (by decide)
            clear hB hT hAo
            have hB := hBn
            clear hBn
            clear o7
            have o7 := o7n
            clear o7n
            clear o8
            have o8 := o8n
            clear o8n
            clear o9
            have o9 := o9n
            clear o9n
            have y3 := hB.size
            have zP := blk_lt hA.p
            have zL := blk_lt hA.l
            clear AA
            have AA := Lib.hid hA; clear hA
            obtain ⟨b9, rfl, q9, z9, d90, f90, s9⟩ := own_boo o9 hjg
            rw [HGM.out] at d90
            have o9n := s9 true
            have o7n := own_stored (u := .bool true) (j := j) o7 o9 (by decide)
            have o8n := own_stored (u := .bool true) (j := j) o8 o9 (by decide)
            have hAn := At.stored (u := .bool true) (j := j) AA.out o9 (by decide) (by decide)
            have O9 := Lib.hid o9n; clear s9 o9 o9n
            have O7 := Lib.hid o7n; clear o7 o7n
            have O8 := Lib.hid o8n; clear o8 o8n
            have A3 := Lib.hid hAn; clear hAn
            have D90 := Lib.hid d90
            go_wp2_with fail
            clear d90 f90
            have o7 := O7.out
            have o8 := O8.out
            have o9 := O9.out
            have AA := A3
            clear O7 O8 O9 A3 HGM
            generalize l.set i2 ⟨.int .i64 0, tt, false⟩ = l' at *
            generalize gone.set j true = gone' at *
            have hl64' : l'.length ≤ 64 := by rw [hLS.out]; omega
            have INV0 := INV
            go_loopw [16] (fun j wr => ∃ m : Nat, m ≤ told.length ∧ j = .int .i64 m ∧ wr.ownsRow w.heap.size 31 2 (.slice (some ⟨b7, 0, none⟩) told.length c7) told.length (refCells told) ∧ wr.ownsRow w.heap.size 3 1 (.slice A8 has.length c8) has.length (has.map (Value.int .i64)) ∧ wr.ownsRow w.heap.size 4 1 (.slice (some ⟨b9, 0, none⟩) gone.length c9) gone.length (gone'.map Value.bool) ∧ At wr P L 62 65 l' (live - 1) ∧ Below w.heap.size w wr) (fun j _ => told.length - (intOf j).toNat)
            case atStart => exact ⟨0, by omega, rfl, o7, o8, o9, (have hA := AA.out; (by repeat (first | (with_reducible assumption) | (with_reducible apply At.alloc) | (with_reducible apply At.drewN) | ((with_reducible apply at_set); (focus (first | omega | (simp; done) | (simp; omega))); (focus (first | omega | (simp; done) | (simp; omega))))))), by go_grown⟩
            case round =>
              clear hB o7 o8 o9 AA
              obtain ⟨m, hm, rfl, o7, o8, o9, hA, hB⟩ := hrel
              have yz := hB.size
              have zP := blk_lt hA.p
              have zL := blk_lt hA.l
              have AA := Lib.hid hA; clear hA
              by_cases hmt : m < told.length
              · obtain ⟨b7q, e7q, q7, z7, d70, d71⟩ := own_ref o7 hmt
                obtain ⟨b8q, e8q, q8, z8, d80, _⟩ := own_int o8 (j := m) (by rw [INV.out.lh]; exact hmt)
                obtain ⟨b9q, e9q, q9, z9, d90, _⟩ := own_boo o9 (j := m) (by rw [← HGL.out, INV.out.lg]; exact hmt)
                cases e7q
                cases e8q
                cases e9q
                have hl8 : m < has.length := by rw [INV.out.lh]; exact hmt
                have hl9 : m < gone'.length := by rw [INV.out.lg]; exact hmt
                have hl9b : m < gone.length := by rw [← HGL.out]; exact hl9
                have hhere := INV.out.here hmt
                have hstale := INV.out.stale hmt
                generalize hgm : gone'.getD m false = gm at *
                generalize told.getD m (0, 0) = tm at *
                obtain ⟨ts, tt⟩ := tm
                dsimp only at d70 d71 hhere hstale
                generalize has.getD m 0 = hm8 at *
                clear hgm
                have O7 := Lib.hid o7; clear o7
                have O8 := Lib.hid o8; clear o8
                have O9 := Lib.hid o9; clear o9
                cases gm with
                | false =>
                  obtain ⟨i2, ha2, hx2⟩ := hhere rfl
                  clear hhere hstale
                  have HA2 := Lib.hid ha2; clear ha2
                  have HX2 := Lib.hid hx2; clear hx2
                  go_wp2_with fail
                  with_reducible refine (get_some_i _ P L l' (live - 1) ts tt hm8 i2 (have hA := AA.out; (by repeat (first | (with_reducible assumption) | (with_reducible apply At.alloc) | (with_reducible apply At.drewN) | ((with_reducible apply at_set); (focus (first | omega | (simp; done) | (simp; omega))); (focus (first | omega | (simp; done) | (simp; omega))))))) (by omega) HA2.out HX2.out).mono ?_
                  rintro e w9 ⟨rfl, hb⟩
                  have p7 := own_below O7.out hb
                  have p8 := own_below O8.out hb
                  have p9 := own_below O9.out hb
                  have hA9 := At.below AA.out hb
                  replace d80 := (hb.cell (p := ⟨_, m, none⟩) z8).trans d80
                  replace d90 := (hb.cell (p := ⟨_, m, none⟩) z9).trans d90
                  have hBn := below_next (w := w) hB hb
                  have y9 := hb.size
                  have z8n := Nat.lt_of_lt_of_le z8 y9
                  have z9n := Nat.lt_of_lt_of_le z9 y9
                  have P7 := Lib.hid p7; clear p7
                  have P8 := Lib.hid p8; clear p8
                  have P9 := Lib.hid p9; clear p9
                  have A9 := Lib.hid hA9; clear hA9
                  clear hb hB
                  go_wp2_with fail
                  go_roundw
                  case rel => exact ⟨m + 1, by omega, by go_num, P7.out, P8.out, P9.out, A9.out, hBn⟩
                  case measure => simp [intOf]; omega
                | true =>
                  have ha2 := hstale rfl
                  clear hhere hstale
                  have HA2 := Lib.hid ha2; clear ha2
                  go_wp2_with fail
                  with_reducible refine (get_none_i _ P L l' (live - 1) ts tt (have hA := AA.out; (by repeat (first | (with_reducible assumption) | (with_reducible apply At.alloc) | (with_reducible apply At.drewN) | ((with_reducible apply at_set); (focus (first | omega | (simp; done) | (simp; omega))); (focus (first | omega | (simp; done) | (simp; omega))))))) (by omega) HA2.out).mono ?_
                  rintro e w9 ⟨rfl, hb⟩
                  have p7 := own_below O7.out hb
                  have p8 := own_below O8.out hb
                  have p9 := own_below O9.out hb
                  have hA9 := At.below AA.out hb
                  replace d80 := (hb.cell (p := ⟨_, m, none⟩) z8).trans d80
                  replace d90 := (hb.cell (p := ⟨_, m, none⟩) z9).trans d90
                  have hBn := below_next (w := w) hB hb
                  have y9 := hb.size
                  have z8n := Nat.lt_of_lt_of_le z8 y9
                  have z9n := Nat.lt_of_lt_of_le z9 y9
                  have P7 := Lib.hid p7; clear p7
                  have P8 := Lib.hid p8; clear p8
                  have P9 := Lib.hid p9; clear p9
                  have A9 := Lib.hid hA9; clear hA9
                  clear hb hB
                  go_wp2_with fail
                  go_roundw
                  case rel => exact ⟨m + 1, by omega, by go_num, P7.out, P8.out, P9.out, A9.out, hBn⟩
                  case measure => simp [intOf]; omega
              · go_wp2_with fail
                go_roundw
                case rel => exact ⟨k + 1, told, has, gone', l', (live - 1), by omega, by go_num, INV.out, hLS.out, by push_cast; omega, by push_cast; omega, o7, o8, (by rw [HGL.out]; exact o9), AA.out, hB⟩
                case measure => simp [intOf]; omega
          | true =>
            have ha2 := hstale hgm
            have HGM := Lib.hid hgm; clear hgm
            clear hhere hstale hfree
            generalize told.getD j (0, 0) = tm at *
            obtain ⟨ts, tt⟩ := tm
            dsimp only at d70 d71 ha2
            have INV := Lib.hid HINV.out.more
            have HA2 := Lib.hid ha2; clear ha2
            go_wp2_with fail
            with_reducible refine (free_none_i _ P L l live ts tt (have hA := AA.out; (by repeat (first | (with_reducible assumption) | (with_reducible apply At.alloc) | (with_reducible apply At.drewN) | ((with_reducible apply at_set); (focus (first | omega | (simp; done) | (simp; omega))); (focus (first | omega | (simp; done) | (simp; omega))))))) hl64 HA2.out).mono ?_
            rintro e w3 ⟨rfl, hb⟩
            have o7n := own_below o7 hb
            have o8n := own_below o8 hb
            have o9n := own_below o9 hb
            have hA3 := At.below AA.out hb
            have hBn := below_next (w := w) hB hb
            clear hb hB AA o7 o8 o9
            have hB := hBn
            clear hBn
            have y3 := hB.size
            have zP := blk_lt hA3.p
            have zL := blk_lt hA3.l
            obtain ⟨b9, rfl, q9, z9, d90, f90, s9⟩ := own_boo o9n hjg
            rw [HGM.out] at d90
            have o9 := s9 true
            rw [gone_set HGM.out] at o9
            have o7 := own_stored (u := .bool true) (j := j) o7n o9n (by decide)
            have o8 := own_stored (u := .bool true) (j := j) o8n o9n (by decide)
            have hAn := At.stored (u := .bool true) (j := j) hA3 o9n (by decide) (by decide)
            have O9 := Lib.hid o9; clear s9 o9 o9n
            have O7 := Lib.hid o7; clear o7 o7n
            have O8 := Lib.hid o8; clear o8 o8n
            have AA := Lib.hid hAn; clear hAn hA3
            go_wp2_with fail
            clear d90 f90
            have o7 := O7.out
            have o8 := O8.out
            have o9 := O9.out
            clear O7 O8 O9 HGM
            have INV0 := INV
            go_loopw [16] (fun j wr => ∃ m : Nat, m ≤ told.length ∧ j = .int .i64 m ∧ wr.ownsRow w.heap.size 31 2 (.slice (some ⟨b7, 0, none⟩) told.length c7) told.length (refCells told) ∧ wr.ownsRow w.heap.size 3 1 (.slice A8 has.length c8) has.length (has.map (Value.int .i64)) ∧ wr.ownsRow w.heap.size 4 1 (.slice (some ⟨b9, 0, none⟩) gone.length c9) gone.length (gone.map Value.bool) ∧ At wr P L 62 65 l live ∧ Below w.heap.size w wr) (fun j _ => told.length - (intOf j).toNat)
            case atStart => exact ⟨0, by omega, rfl, o7, o8, o9, (have hA := AA.out; (by repeat (first | (with_reducible assumption) | (with_reducible apply At.alloc) | (with_reducible apply At.drewN) | ((with_reducible apply at_set); (focus (first | omega | (simp; done) | (simp; omega))); (focus (first | omega | (simp; done) | (simp; omega))))))), by go_grown⟩
            case round =>
              clear hB o7 o8 o9 AA
              obtain ⟨m, hm, rfl, o7, o8, o9, hA, hB⟩ := hrel
              have yz := hB.size
              have zP := blk_lt hA.p
              have zL := blk_lt hA.l
              have AA := Lib.hid hA; clear hA
              by_cases hmt : m < told.length
              · obtain ⟨b7q, e7q, q7, z7, d70, d71⟩ := own_ref o7 hmt
                obtain ⟨b8q, e8q, q8, z8, d80, _⟩ := own_int o8 (j := m) (by rw [INV.out.lh]; exact hmt)
                obtain ⟨b9q, e9q, q9, z9, d90, _⟩ := own_boo o9 (j := m) (by rw [INV.out.lg]; exact hmt)
                cases e7q
                cases e8q
                cases e9q
                have hl8 : m < has.length := by rw [INV.out.lh]; exact hmt
                have hl9 : m < gone.length := by rw [INV.out.lg]; exact hmt
                have hhere := INV.out.here hmt
                have hstale := INV.out.stale hmt
                generalize hgm : gone.getD m false = gm at *
                generalize told.getD m (0, 0) = tm at *
                obtain ⟨ts, tt⟩ := tm
                dsimp only at d70 d71 hhere hstale
                generalize has.getD m 0 = hm8 at *
                clear hgm
                have O7 := Lib.hid o7; clear o7
                have O8 := Lib.hid o8; clear o8
                have O9 := Lib.hid o9; clear o9
                cases gm with
                | false =>
                  obtain ⟨i2, ha2, hx2⟩ := hhere rfl
                  clear hhere hstale
                  have HA2 := Lib.hid ha2; clear ha2
                  have HX2 := Lib.hid hx2; clear hx2
                  go_wp2_with fail
                  with_reducible refine (get_some_i _ P L l live ts tt hm8 i2 (have hA := AA.out; (by repeat (first | (with_reducible assumption) | (with_reducible apply At.alloc) | (with_reducible apply At.drewN) | ((with_reducible apply at_set); (focus (first | omega | (simp; done) | (simp; omega))); (focus (first | omega | (simp; done) | (simp; omega))))))) (by omega) HA2.out HX2.out).mono ?_
                  rintro e w9 ⟨rfl, hb⟩
                  have p7 := own_below O7.out hb
                  have p8 := own_below O8.out hb
                  have p9 := own_below O9.out hb
                  have hA9 := At.below AA.out hb
                  replace d80 := (hb.cell (p := ⟨_, m, none⟩) z8).trans d80
                  replace d90 := (hb.cell (p := ⟨_, m, none⟩) z9).trans d90
                  have hBn := below_next (w := w) hB hb
                  have y9 := hb.size
                  have z8n := Nat.lt_of_lt_of_le z8 y9
                  have z9n := Nat.lt_of_lt_of_le z9 y9
                  have P7 := Lib.hid p7; clear p7
                  have P8 := Lib.hid p8; clear p8
                  have P9 := Lib.hid p9; clear p9
                  have A9 := Lib.hid hA9; clear hA9
                  clear hb hB
                  go_wp2_with fail
                  go_roundw
                  case rel => exact ⟨m + 1, by omega, by go_num, P7.out, P8.out, P9.out, A9.out, hBn⟩
                  case measure => simp [intOf]; omega
                | true =>
                  have ha2 := hstale rfl
                  clear hhere hstale
                  have HA2 := Lib.hid ha2; clear ha2
                  go_wp2_with fail
                  with_reducible refine (get_none_i _ P L l live ts tt (have hA := AA.out; (by repeat (first | (with_reducible assumption) | (with_reducible apply At.alloc) | (with_reducible apply At.drewN) | ((with_reducible apply at_set); (focus (first | omega | (simp; done) | (simp; omega))); (focus (first | omega | (simp; done) | (simp; omega))))))) (by omega) HA2.out).mono ?_
                  rintro e w9 ⟨rfl, hb⟩
                  have p7 := own_below O7.out hb
                  have p8 := own_below O8.out hb
                  have p9 := own_below O9.out hb
                  have hA9 := At.below AA.out hb
                  replace d80 := (hb.cell (p := ⟨_, m, none⟩) z8).trans d80
                  replace d90 := (hb.cell (p := ⟨_, m, none⟩) z9).trans d90
                  have hBn := below_next (w := w) hB hb
                  have y9 := hb.size
                  have z8n := Nat.lt_of_lt_of_le z8 y9
                  have z9n := Nat.lt_of_lt_of_le z9 y9
                  have P7 := Lib.hid p7; clear p7
                  have P8 := Lib.hid p8; clear p8
                  have P9 := Lib.hid p9; clear p9
                  have A9 := Lib.hid hA9; clear hA9
                  clear hb hB
                  go_wp2_with fail
                  go_roundw
                  case rel => exact ⟨m + 1, by omega, by go_num, P7.out, P8.out, P9.out, A9.out, hBn⟩
                  case measure => simp [intOf]; omega
              · go_wp2_with fail
                go_roundw
                case rel => exact ⟨k + 1, told, has, gone, l, live, by omega, by go_num, INV.out, hLN.out, by push_cast; omega, by push_cast; omega, o7, o8, o9, AA.out, hB⟩
                case measure => simp [intOf]; omega
    · go_wp2_with fail
      go_ret
      exact ⟨rfl, hB⟩
end Go.Proofs.Ytdedbiacelgleaa
