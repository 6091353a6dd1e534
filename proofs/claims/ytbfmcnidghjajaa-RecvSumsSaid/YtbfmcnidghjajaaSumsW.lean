/- The law RecvSums, walked. -/
import Derived.Test.YtbfmcnidghjajaaAwake
import Derived.Deep.RegionHeld3
import Derived.Deep.DeepCutAuto
namespace Go.Proofs.Ytbfmcnidghjajaa
set_option linter.unusedSimpArgs false
set_option linter.unusedVariables false
open Go.RowKit
theorem i64_in (x : Int) (h0 : -9000000000000000000 ≤ x) (h1 : x ≤ 9000000000000000000) : IntKind.i64.wrap x = x := by
  simp [IntKind.wrap, IntKind.bits, IntKind.signed]
  omega
theorem small_more {t : Tr} {B C : Int} (h : t.Small B) (hb : B ≤ C) : t.Small C := by
  obtain ⟨h1, h2, h3, h4, h5, h6, h7⟩ := h
  exact ⟨by omega, by omega, by omega, by omega, by omega, by omega, h7⟩
theorem sums_step (on : Bool) (b h g : Int) (s : Nat) (x B : Int) (hf : Fine ⟨on, b, h, g, s⟩) (x0 : 0 ≤ x) (x1 : x ≤ 65535) (hs : Tr.Small ⟨on, b, h, g, s⟩ B) (hB : 0 ≤ B) :
    ∃ b' h' g' s' y a, takeF ⟨on, b, h, g, s⟩ x = (⟨true, b', h', g', s'⟩, y, a) ∧ Tr.Small ⟨true, b', h', g', s'⟩ (B + 65536) ∧ Fine ⟨true, b', h', g', s'⟩ ∧ 0 ≤ a ∧ a ≤ 3 ∧ 1 ≤ g' ∧ b' ≤ h' ∧ (a = 0 ∧ h' = y ∨ (a == 0) = false ∧ y ≤ h') := by
  have hm := takeF_small hs x0 (by omega) hB
  obtain ⟨h1, h2, h3, h4, h5, h6⟩ := fine_take hf x
  generalize takeF ⟨on, b, h, g, s⟩ x = r at *
  obtain ⟨⟨on', b', h', g', s'⟩, y, a⟩ := r
  dsimp only at *
  subst h2
  refine ⟨b', h', g', s', y, a, rfl, hm, h1, h3, h4, h1.got rfl, h1.le rfl, ?_⟩
  by_cases ha : a = 0
  · exact .inl ⟨ha, h5 ha⟩
  · exact .inr ⟨beq_eq_false_iff_ne.2 ha, h6 ha⟩
set_option maxRecDepth 100000 in
set_option maxHeartbeats 4000000 in
theorem sums_walk (A : Option Addr) (len cap : Nat) (zs : List Int) (w : World) (hlen : zs.length = len) (hl : len ≤ 9223372036854775807) (hp : IntsAt w A .u16 zs) (hr : ∀ s ∈ zs, 0 ≤ s ∧ s ≤ 65535) :
    Calls Try.prog 7 #[.slice A len cap] w fun e w' => e = .returned (.bool true) ∧ Below w.heap.size w w' := by
  subst hlen
  have HR := Lib.hid hr; clear hr
  have HP := Lib.hid hp; clear hp
  by_cases h60 : 200 < zs.length
  · go_enter Try.func7, Try.ntmps7
    go_wp2_with fail
    (with_reducible refine (awake_any _).mono ?_)
    rintro e w1 ⟨rfl, hb⟩
    go_wp2_with fail
    go_ret
    exact ⟨rfl, hb⟩
  go_enter Try.func7, Try.ntmps7
  go_wp2_with fail
  (with_reducible refine (awake_any _).mono ?_)
  rintro e w1 ⟨rfl, hB⟩
  have zA := hB.size
  go_wp2_with fail
  go_loopw [5] (fun i wr => ∃ (k : Nat) (on : Bool) (b h g : Int) (s : Nat), k ≤ zs.length ∧ i = .int .i64 k ∧ wr.heap[w1.heap.size]? = some (.cells #[.bool on, .int .i64 b, .int .i64 h, .int .i64 g, .int .u64 s] 26 (0, 0)) ∧ Hid (Tr.Small ⟨on, b, h, g, s⟩ (65536 * k) ∧ Fine ⟨on, b, h, g, s⟩) ∧ Below w.heap.size w wr) (fun i _ => zs.length - (intOf i).toNat)
  case atStart => exact ⟨0, false, 0, 0, 0, 0, by omega, rfl, (Eq.trans (b := some (Obj.cells _ _ (0, 0))) (by repeat (first | (with_reducible assumption) | (with_reducible apply heap_set_same) | ((with_reducible apply heap_set_other'); (focus (first | omega | (simp; done) | (simp; omega)))) | ((with_reducible apply heap_alloc_new); (focus (first | omega | (simp; done) | (simp; omega)))) | (with_reducible apply heap_alloc_old') | (with_reducible apply (heap_drew_at _ _).trans) | (with_reducible apply (heap_drewN_at _ _ _).trans))) (by exact rfl)), Lib.hid ⟨⟨by decide, by decide, by decide, by decide, by decide, by decide, by decide⟩, fine_zero⟩, by go_grown⟩
  case round =>
    obtain ⟨k, on, b, h, g, s, hk, rfl, h0, HS, hB⟩ := hrel
    obtain ⟨c0, f0, z0⟩ := blk_facts h0
    by_cases hlt : k < zs.length
    · obtain ⟨ab, ao, rfl, hab, q0⟩ := HP.out k hlt
      have hx := HR.out (zs.getD k 0) (by simp [List.getD, hlt])
      generalize zs.getD k 0 = x at *
      obtain ⟨x0, x1⟩ := hx
      replace q0 := (hB.cell (p := ⟨ab, ao + k, none⟩) hab).trans q0
      have hb1 := Nat.lt_of_lt_of_le hab hB.size
      have Q0 := Lib.hid ((hB.cell (p := ⟨ab, ao + k, none⟩) hab).symm.trans q0)
      obtain ⟨hsm, hfi⟩ := HS.out
      obtain ⟨b', h', g', s', y, a, ht, hsm', hfi', a0, a3, g1', bh', hay⟩ := sums_step on b h g s x (65536 * k) hfi x0 x1 hsm (by omega)
      obtain ⟨lh, uh, lb, ub, lg, ug, ls⟩ := hsm
      dsimp only at lh uh lb ub lg ug ls
      have LS := Lib.hid ls; clear ls
      have HT := Lib.hid ht; clear ht
      have HSM := Lib.hid (And.intro hsm' hfi')
      obtain ⟨lh', uh', lb', ub', lg', ug', ls'⟩ := hsm'
      dsimp only at lh' uh' lb' ub' lg' ug' ls'
      have LS' := Lib.hid ls'; clear ls' hfi hfi'
      obtain ⟨r, hr⟩ : ∃ r, lostF ⟨true, b', h', g', s'⟩ = r := ⟨_, rfl⟩
      have hr2 : r = h' - b' + 1 - g' := hr.symm.trans (if_pos rfl)
      have HL := Lib.hid hr; clear hr
      have r0 : -100000000 ≤ r := by omega
      have r1 : r ≤ 100000000 := by omega
      have w1' : IntKind.i64.wrap (g' + r) = h' - b' + 1 := (i64_in _ (by omega) (by omega)).trans (by omega)
      have w2' : IntKind.i64.wrap (h' - b') = h' - b' := i64_in _ (by omega) (by omega)
      have w3' : IntKind.i64.wrap (h' - b' + 1) = h' - b' + 1 := i64_in _ (by omega) (by omega)
      have HR2 := Lib.hid hr2; clear hr2
      have d1' : decide (g' < 1) = false := by simp; omega
      have d2' : decide (h' < b') = false := by simp; omega
      rcases hay with ⟨rfl, rfl⟩ | ⟨ha, hy⟩
      · go_upto_region 10 with fail
        go_cut [6, 7, 8] from 20 to 114 (fun s6 s7 s8 wx => ∃ g1 : Nat, s6 = .pointer (some ⟨g1, 0, none⟩) ∧ s7 = .int .i64 h' ∧ s8 = .int .i64 0 ∧ g1 ≠ w1.heap.size ∧ w.heap.size ≤ g1 ∧ wx.heap[w1.heap.size]? = some (.cells #[.bool on, .int .i64 b, .int .i64 h, .int .i64 g, .int .u64 s] 26 (0, 0)) ∧ wx.heap[g1]? = some (.cells #[.bool true, .int .i64 b', .int .i64 h', .int .i64 g', .int .u64 s'] 26 (0, 0)) ∧ Below w.heap.size w wx)
        case first =>
          go_region_held3 (fun w' => (w'.heap[w1.heap.size]? = some (.cells #[.bool on, .int .i64 b, .int .i64 h, .int .i64 g, .int .u64 s] 26 (0, 0)) ∧ (∀ j, w'.cell? ⟨w1.heap.size, j, none⟩ = #[.bool on, .int .i64 b, .int .i64 h, .int .i64 g, .int .u64 s][j]?) ∧ (∀ j, w'.frozen? ⟨w1.heap.size, j, none⟩ = false) ∧ w1.heap.size < w'.heap.size) ∧ w'.cell? ⟨ab, ao + k, none⟩ = some (.int .u16 x) ∧ ab < w'.heap.size ∧ Below w.heap.size w w') ((go_split_ands; exact ⟨blk_all (Eq.trans (b := some (Obj.cells _ _ (0, 0))) (by repeat (first | (with_reducible assumption) | (with_reducible apply heap_set_same) | ((with_reducible apply heap_set_other'); (focus (first | omega | (simp; done) | (simp; omega)))) | ((with_reducible apply heap_alloc_new); (focus (first | omega | (simp; done) | (simp; omega)))) | (with_reducible apply heap_alloc_old') | (with_reducible apply (heap_drew_at _ _).trans) | (with_reducible apply (heap_drewN_at _ _ _).trans))) (by exact rfl)), ((Below.cell (by go_grown : Below w.heap.size w _) hab).trans Q0.out), (Nat.lt_of_lt_of_le hab (Below.size (by go_grown : Below w.heap.size w _))), by go_grown⟩)) (first | (go_at_call 10; go_split_ands; (with_reducible refine (take_eq _ _ _ _ s _ _ _ _ _ s' _ _ s s' _ rfl rfl HT.out x0 x1 (by omega) (by omega) (by omega) (by omega) (by omega) (by omega)  LS.out).mono ?_); rintro e w2 ⟨rfl, hb⟩; have hB := below_next (w := w) (by go_grown) hb; have zS := hB.size; have hr0 : w2.heap[w1.heap.size]? = some (.cells #[.bool on, .int .i64 b, .int .i64 h, .int .i64 g, .int .u64 s] 26 (0, 0)) := (hb.block (w1.heap.size) (by first | omega | (simp; done) | (simp; omega))).trans (Eq.trans (b := some (Obj.cells _ _ (0, 0))) (by repeat (first | (with_reducible assumption) | (with_reducible apply heap_set_same) | ((with_reducible apply heap_set_other'); (focus (first | omega | (simp; done) | (simp; omega)))) | ((with_reducible apply heap_alloc_new); (focus (first | omega | (simp; done) | (simp; omega)))) | (with_reducible apply heap_alloc_old') | (with_reducible apply (heap_drew_at _ _).trans) | (with_reducible apply (heap_drewN_at _ _ _).trans))) (by exact rfl)); have zr0 := blk_lt hr0; (try first | ((have hn := heap_below hb (by first | omega | (simp; done) | (simp; omega)) hA); clear hA fA cA; have hA := hn; clear hn; obtain ⟨cA, fA, zA⟩ := blk_facts hA) | ((have hn := heap_below hb (by first | omega | (simp; done) | (simp; omega)) (heap_alloc_old' hA)); clear hA fA cA; have hA := hn; clear hn; obtain ⟨cA, fA, zA⟩ := blk_facts hA) | ((have hn := heap_below hb (by first | omega | (simp; done) | (simp; omega)) (heap_alloc_old' (heap_alloc_old' hA))); clear hA fA cA; have hA := hn; clear hn; obtain ⟨cA, fA, zA⟩ := blk_facts hA) | ((have hA := (hb.block (wr.heap.size) (by first | omega | (simp; done) | (simp; omega))).trans (by repeat (first | (with_reducible assumption) | (with_reducible apply heap_set_same) | ((with_reducible apply heap_set_other'); (focus (first | omega | (simp; done) | (simp; omega)))) | ((with_reducible apply heap_alloc_new); (focus (first | omega | (simp; done) | (simp; omega)))) | (with_reducible apply heap_alloc_old') | (with_reducible apply (heap_drew_at _ _).trans) | (with_reducible apply (heap_drewN_at _ _ _).trans)))); obtain ⟨cA, fA, zA⟩ := blk_facts hA) | ((have hA := (hb.block _ (lt_alloc _ _)).trans (heap_alloc_new _ _ _ rfl)); (fail_if_success (have hq : w2.heap[w1.heap.size]? = some _ := hA)); obtain ⟨cA, fA, zA⟩ := blk_facts hA)); clear hb))
          all_goals (go_wp2_with fail; go_meet; go_split_ands; exact ⟨_, rfl, rfl, rfl, by omega, by omega, (Eq.trans (b := some (Obj.cells _ _ (0, 0))) (by repeat (first | (with_reducible assumption) | (with_reducible apply heap_set_same) | ((with_reducible apply heap_set_other'); (focus (first | omega | (simp; done) | (simp; omega)))) | ((with_reducible apply heap_alloc_new); (focus (first | omega | (simp; done) | (simp; omega)))) | (with_reducible apply heap_alloc_old') | (with_reducible apply (heap_drew_at _ _).trans) | (with_reducible apply (heap_drewN_at _ _ _).trans))) (by exact rfl)), (Eq.trans (b := some (Obj.cells _ _ (0, 0))) (by repeat (first | (with_reducible assumption) | (with_reducible apply heap_set_same) | ((with_reducible apply heap_set_other'); (focus (first | omega | (simp; done) | (simp; omega)))) | ((with_reducible apply heap_alloc_new); (focus (first | omega | (simp; done) | (simp; omega)))) | (with_reducible apply heap_alloc_old') | (with_reducible apply (heap_drew_at _ _).trans) | (with_reducible apply (heap_drewN_at _ _ _).trans))) (by exact rfl)), by go_grown⟩)
        case rest =>
          obtain ⟨g1, rfl, rfl, rfl, hn1, hl1, h0, h1, hB⟩ := hcut
          clear c0 f0 z0 q0 hb1
          obtain ⟨c0, f0, z0⟩ := blk_facts h0
          obtain ⟨c1, f1, z1⟩ := blk_facts h1
          go_wp2_with fail
          go_upto_region 14 with fail
          go_cut [86] from 20 to 114 (fun s86 wx => s86 = .bool false ∧ wx.heap[w1.heap.size]? = some (.cells #[.bool true, .int .i64 b', .int .i64 h', .int .i64 g', .int .u64 s'] 26 (0, 0)) ∧ Below w.heap.size w wx)
          case first =>
            go_region_held3 (fun w' => (w'.heap[w1.heap.size]? = some (.cells #[.bool true, .int .i64 b', .int .i64 h', .int .i64 g', .int .u64 s'] 26 (0, 0)) ∧ (∀ j, w'.cell? ⟨w1.heap.size, j, none⟩ = #[.bool true, .int .i64 b', .int .i64 h', .int .i64 g', .int .u64 s'][j]?) ∧ (∀ j, w'.frozen? ⟨w1.heap.size, j, none⟩ = false) ∧ w1.heap.size < w'.heap.size) ∧ Below w.heap.size w w') ((go_split_ands; exact ⟨blk_all (Eq.trans (b := some (Obj.cells _ _ (0, 0))) (by repeat (first | (with_reducible assumption) | (with_reducible apply heap_set_same) | ((with_reducible apply heap_set_other'); (focus (first | omega | (simp; done) | (simp; omega)))) | ((with_reducible apply heap_alloc_new); (focus (first | omega | (simp; done) | (simp; omega)))) | (with_reducible apply heap_alloc_old') | (with_reducible apply (heap_drew_at _ _).trans) | (with_reducible apply (heap_drewN_at _ _ _).trans))) (by exact rfl)), by go_grown⟩)) (first | (go_at_call 12; go_split_ands; (with_reducible refine (lost_eq _ _ _ _ s' s' r _ rfl HL.out (by omega) (by omega) (by omega) (by omega) (by omega) (by omega) ).mono ?_); rintro e w2 ⟨rfl, hb⟩; have hB := below_next (w := w) (by go_grown) hb; have zS := hB.size; have hr0 : w2.heap[w1.heap.size]? = some (.cells #[.bool true, .int .i64 b', .int .i64 h', .int .i64 g', .int .u64 s'] 26 (0, 0)) := (hb.block (w1.heap.size) (by first | omega | (simp; done) | (simp; omega))).trans (Eq.trans (b := some (Obj.cells _ _ (0, 0))) (by repeat (first | (with_reducible assumption) | (with_reducible apply heap_set_same) | ((with_reducible apply heap_set_other'); (focus (first | omega | (simp; done) | (simp; omega)))) | ((with_reducible apply heap_alloc_new); (focus (first | omega | (simp; done) | (simp; omega)))) | (with_reducible apply heap_alloc_old') | (with_reducible apply (heap_drew_at _ _).trans) | (with_reducible apply (heap_drewN_at _ _ _).trans))) (by exact rfl)); have zr0 := blk_lt hr0; clear hb))
            all_goals (go_wp2_with fail; go_meet; go_split_ands; exact ⟨rfl, (Eq.trans (b := some (Obj.cells _ _ (0, 0))) (by repeat (first | (with_reducible assumption) | (with_reducible apply heap_set_same) | ((with_reducible apply heap_set_other'); (focus (first | omega | (simp; done) | (simp; omega)))) | ((with_reducible apply heap_alloc_new); (focus (first | omega | (simp; done) | (simp; omega)))) | (with_reducible apply heap_alloc_old') | (with_reducible apply (heap_drew_at _ _).trans) | (with_reducible apply (heap_drewN_at _ _ _).trans))) (by exact rfl)), by go_grown⟩)
          case rest =>
            obtain ⟨rfl, h0, hB⟩ := hcut
            clear c0 f0 z0 c1 f1 z1 h1 w1' w2' w3' d1' d2'
            obtain ⟨c0, f0, z0⟩ := blk_facts h0
            go_wp2_with fail
            with_reducible refine (miss_eq _ _ _ _ s' s' _ _ rfl rfl (by omega) (by omega) (by omega) (by omega) (by omega) (by omega)  LS'.out).mono ?_
            rintro e w5 ⟨v, rfl, hown, hb⟩
            (try (have g0 := h0; clear h0 f0 c0))
            have hB := below_next (w := w) (by go_grown) hb
            have h0 : w5.heap[w1.heap.size]? = some (.cells #[.bool true, .int .i64 b', .int .i64 h', .int .i64 g', .int .u64 s'] 26 (0, 0)) := (hb.block (w1.heap.size) (by first | omega | (simp; done) | (simp; omega))).trans (Eq.trans (b := some (Obj.cells _ _ (0, 0))) (by repeat (first | (with_reducible assumption) | (with_reducible apply heap_set_same) | ((with_reducible apply heap_set_other'); (focus (first | omega | (simp; done) | (simp; omega)))) | ((with_reducible apply heap_alloc_new); (focus (first | omega | (simp; done) | (simp; omega)))) | (with_reducible apply heap_alloc_old') | (with_reducible apply (heap_drew_at _ _).trans) | (with_reducible apply (heap_drewN_at _ _ _).trans))) (by exact rfl))
            clear hb
            (try clear g0)
            obtain ⟨c0, f0, z0⟩ := blk_facts h0
            have HLM := Lib.hid (miss_take ⟨true, b', h', g', s'⟩ rfl)
            have HLB := Lib.hid (missF_iff ⟨true, b', h', g', s'⟩ rfl)
            have hlen5 : (missF ⟨true, b', h', g', s'⟩).length ≤ 64 := missTo_length _ 64
            generalize missF ⟨true, b', h', g', s'⟩ = L at hown HLM HLB hlen5
            obtain ⟨A5, cap5, rfl⟩ := own_slice hown
            have hm5 := Lib.hid (ints_own hown)
            clear hown
            go_wp2_with fail
            go_loopw [10] (fun i wx => ∃ m : Nat, m ≤ L.length ∧ i = .int .i64 m ∧ wx.heap[w1.heap.size]? = some (.cells #[.bool true, .int .i64 b', .int .i64 h', .int .i64 g', .int .u64 s'] 26 (0, 0)) ∧ Below w5.heap.size w5 wx) (fun i _ => L.length - (intOf i).toNat)
            case atStart => exact ⟨0, by omega, rfl, (Eq.trans (b := some (Obj.cells _ _ (0, 0))) (by repeat (first | (with_reducible assumption) | (with_reducible apply heap_set_same) | ((with_reducible apply heap_set_other'); (focus (first | omega | (simp; done) | (simp; omega)))) | ((with_reducible apply heap_alloc_new); (focus (first | omega | (simp; done) | (simp; omega)))) | (with_reducible apply heap_alloc_old') | (with_reducible apply (heap_drew_at _ _).trans) | (with_reducible apply (heap_drewN_at _ _ _).trans))) (by exact rfl)), Below.refl _ _⟩
            case round =>
              clear c0 f0 z0 h0
              obtain ⟨m, hm, rfl, h0, hBx⟩ := hrel
              have zB5 := hBx.size
              obtain ⟨c0, f0, z0⟩ := blk_facts h0
              by_cases hmt : m < L.length
              · have hlm : m < (miss16 L).length := by simpa [miss16] using hmt
                obtain ⟨mb, mo, rfl, hmb, p0⟩ := hm5.out m hlm
                have hmem := List.getElem_mem hmt
                have e1 : (miss16 L).getD m 0 = L[m] % 65536 := by simp [miss16, List.getD, hmt]
                rw [e1] at p0
                have ht2 := HLM.out L[m] hmem (L[m] % 65536) (by omega)
                have hq := (HLB.out L[m]).1 hmem
                obtain ⟨q1, q2, q3, _⟩ := hq
                (try dsimp only at q1); (try dsimp only at q2); (try dsimp only at q3); (try dsimp only at ht2)
                clear e1 hmem
                generalize hy2 : L[m] = y2 at *
                clear hy2
                have x2 : 0 ≤ y2 % 65536 ∧ y2 % 65536 ≤ 65535 := by omega
                obtain ⟨x20, x21⟩ := x2
                generalize y2 % 65536 = s5 at *
                have HT2 := Lib.hid ht2; clear ht2
                have hs2 : orN s' (h' - y2).toNat < 2 ^ 64 := orN_lt _ _ LS'.out (by omega)
                generalize orN s' (h' - y2).toNat = s2 at *
                have LS2 := Lib.hid hs2; clear hs2
                have HL2 : Hid (lostF ⟨true, b', h', g' + 1, s2⟩ = r - 1) := Lib.hid (by rw [HR2.out]; show h' - b' + 1 - (g' + 1) = _; omega)
                have wr1 : IntKind.i64.wrap (r - 1) = r - 1 := i64_in _ (by omega) (by omega)
                have P0 := Lib.hid p0
                replace p0 := (hBx.cell (p := ⟨mb, mo + m, none⟩) hmb).trans p0
                have hmb1 := Nat.lt_of_lt_of_le hmb hBx.size
                go_upto_region 20 with fail
                go_cut [11, 12, 13] from 89 to 114 (fun s6 s7 s8 wx => ∃ g2 : Nat, s6 = .pointer (some ⟨g2, 0, none⟩) ∧ s7 = .int .i64 y2 ∧ s8 = .int .i64 1 ∧ g2 ≠ w1.heap.size ∧ w5.heap.size ≤ g2 ∧ wx.heap[w1.heap.size]? = some (.cells #[.bool true, .int .i64 b', .int .i64 h', .int .i64 g', .int .u64 s'] 26 (0, 0)) ∧ wx.heap[g2]? = some (.cells #[.bool true, .int .i64 b', .int .i64 h', .int .i64 (g' + 1), .int .u64 s2] 26 (0, 0)) ∧ Below w5.heap.size w5 wx)
                case first =>
                  go_region_held3 (fun w' => (w'.heap[w1.heap.size]? = some (.cells #[.bool true, .int .i64 b', .int .i64 h', .int .i64 g', .int .u64 s'] 26 (0, 0)) ∧ (∀ j, w'.cell? ⟨w1.heap.size, j, none⟩ = #[.bool true, .int .i64 b', .int .i64 h', .int .i64 g', .int .u64 s'][j]?) ∧ (∀ j, w'.frozen? ⟨w1.heap.size, j, none⟩ = false) ∧ w1.heap.size < w'.heap.size) ∧ w'.cell? ⟨mb, mo + m, none⟩ = some (.int .u16 s5) ∧ mb < w'.heap.size ∧ Below w5.heap.size w5 w') ((go_split_ands; exact ⟨blk_all (Eq.trans (b := some (Obj.cells _ _ (0, 0))) (by repeat (first | (with_reducible assumption) | (with_reducible apply heap_set_same) | ((with_reducible apply heap_set_other'); (focus (first | omega | (simp; done) | (simp; omega)))) | ((with_reducible apply heap_alloc_new); (focus (first | omega | (simp; done) | (simp; omega)))) | (with_reducible apply heap_alloc_old') | (with_reducible apply (heap_drew_at _ _).trans) | (with_reducible apply (heap_drewN_at _ _ _).trans))) (by exact rfl)), ((Below.cell (by go_grown : Below w5.heap.size w5 _) hmb).trans P0.out), (Nat.lt_of_lt_of_le hmb (Below.size (by go_grown : Below w5.heap.size w5 _))), by go_grown⟩)) (first | (go_at_call 10; go_split_ands; (with_reducible refine (take_eq _ _ _ _ s' _ _ _ _ _ s2 _ _ s' s2 _ rfl rfl HT2.out x20 x21 (by omega) (by omega) (by omega) (by omega) (by omega) (by omega)  LS'.out).mono ?_); rintro e w2 ⟨rfl, hb⟩; have hB := below_next (w := w5) (by go_grown) hb; have zS := hB.size; have hr0 : w2.heap[w1.heap.size]? = some (.cells #[.bool true, .int .i64 b', .int .i64 h', .int .i64 g', .int .u64 s'] 26 (0, 0)) := (hb.block (w1.heap.size) (by first | omega | (simp; done) | (simp; omega))).trans (Eq.trans (b := some (Obj.cells _ _ (0, 0))) (by repeat (first | (with_reducible assumption) | (with_reducible apply heap_set_same) | ((with_reducible apply heap_set_other'); (focus (first | omega | (simp; done) | (simp; omega)))) | ((with_reducible apply heap_alloc_new); (focus (first | omega | (simp; done) | (simp; omega)))) | (with_reducible apply heap_alloc_old') | (with_reducible apply (heap_drew_at _ _).trans) | (with_reducible apply (heap_drewN_at _ _ _).trans))) (by exact rfl)); have zr0 := blk_lt hr0; (try first | ((have hn := heap_below hb (by first | omega | (simp; done) | (simp; omega)) hA); clear hA fA cA; have hA := hn; clear hn; obtain ⟨cA, fA, zA⟩ := blk_facts hA) | ((have hn := heap_below hb (by first | omega | (simp; done) | (simp; omega)) (heap_alloc_old' hA)); clear hA fA cA; have hA := hn; clear hn; obtain ⟨cA, fA, zA⟩ := blk_facts hA) | ((have hn := heap_below hb (by first | omega | (simp; done) | (simp; omega)) (heap_alloc_old' (heap_alloc_old' hA))); clear hA fA cA; have hA := hn; clear hn; obtain ⟨cA, fA, zA⟩ := blk_facts hA) | ((have hA := (hb.block (wr.heap.size) (by first | omega | (simp; done) | (simp; omega))).trans (by repeat (first | (with_reducible assumption) | (with_reducible apply heap_set_same) | ((with_reducible apply heap_set_other'); (focus (first | omega | (simp; done) | (simp; omega)))) | ((with_reducible apply heap_alloc_new); (focus (first | omega | (simp; done) | (simp; omega)))) | (with_reducible apply heap_alloc_old') | (with_reducible apply (heap_drew_at _ _).trans) | (with_reducible apply (heap_drewN_at _ _ _).trans)))); obtain ⟨cA, fA, zA⟩ := blk_facts hA) | ((have hA := (hb.block _ (lt_alloc _ _)).trans (heap_alloc_new _ _ _ rfl)); (fail_if_success (have hq : w2.heap[w1.heap.size]? = some _ := hA)); obtain ⟨cA, fA, zA⟩ := blk_facts hA)); clear hb))
                  all_goals (go_wp2_with fail; go_meet; go_split_ands; exact ⟨_, rfl, rfl, rfl, by omega, by omega, (Eq.trans (b := some (Obj.cells _ _ (0, 0))) (by repeat (first | (with_reducible assumption) | (with_reducible apply heap_set_same) | ((with_reducible apply heap_set_other'); (focus (first | omega | (simp; done) | (simp; omega)))) | ((with_reducible apply heap_alloc_new); (focus (first | omega | (simp; done) | (simp; omega)))) | (with_reducible apply heap_alloc_old') | (with_reducible apply (heap_drew_at _ _).trans) | (with_reducible apply (heap_drewN_at _ _ _).trans))) (by exact rfl)), (Eq.trans (b := some (Obj.cells _ _ (0, 0))) (by repeat (first | (with_reducible assumption) | (with_reducible apply heap_set_same) | ((with_reducible apply heap_set_other'); (focus (first | omega | (simp; done) | (simp; omega)))) | ((with_reducible apply heap_alloc_new); (focus (first | omega | (simp; done) | (simp; omega)))) | (with_reducible apply heap_alloc_old') | (with_reducible apply (heap_drew_at _ _).trans) | (with_reducible apply (heap_drewN_at _ _ _).trans))) (by exact rfl)), by go_grown⟩)
                case rest =>
                  obtain ⟨g2, rfl, rfl, rfl, hn2, hl2, h0, h1, hBx⟩ := hcut
                  have zB6 := hBx.size
                  clear c0 f0 z0 p0 hmb1
                  obtain ⟨c0, f0, z0⟩ := blk_facts h0
                  obtain ⟨c1, f1, z1⟩ := blk_facts h1
                  go_upto_region 21 with fail
                  go_cut [114] from 89 to 114 (fun s114 wx => s114 = .bool false ∧ wx.heap[w1.heap.size]? = some (.cells #[.bool true, .int .i64 b', .int .i64 h', .int .i64 g', .int .u64 s'] 26 (0, 0)) ∧ Below w5.heap.size w5 wx)
                  case first =>
                    go_region_held3 (fun w' => (w'.heap[w1.heap.size]? = some (.cells #[.bool true, .int .i64 b', .int .i64 h', .int .i64 g', .int .u64 s'] 26 (0, 0)) ∧ (∀ j, w'.cell? ⟨w1.heap.size, j, none⟩ = #[.bool true, .int .i64 b', .int .i64 h', .int .i64 g', .int .u64 s'][j]?) ∧ (∀ j, w'.frozen? ⟨w1.heap.size, j, none⟩ = false) ∧ w1.heap.size < w'.heap.size) ∧ (w'.heap[g2]? = some (.cells #[.bool true, .int .i64 b', .int .i64 h', .int .i64 (g' + 1), .int .u64 s2] 26 (0, 0)) ∧ (∀ j, w'.cell? ⟨g2, j, none⟩ = #[.bool true, .int .i64 b', .int .i64 h', .int .i64 (g' + 1), .int .u64 s2][j]?) ∧ (∀ j, w'.frozen? ⟨g2, j, none⟩ = false) ∧ g2 < w'.heap.size) ∧ Below w5.heap.size w5 w') ((go_split_ands; exact ⟨blk_all (Eq.trans (b := some (Obj.cells _ _ (0, 0))) (by repeat (first | (with_reducible assumption) | (with_reducible apply heap_set_same) | ((with_reducible apply heap_set_other'); (focus (first | omega | (simp; done) | (simp; omega)))) | ((with_reducible apply heap_alloc_new); (focus (first | omega | (simp; done) | (simp; omega)))) | (with_reducible apply heap_alloc_old') | (with_reducible apply (heap_drew_at _ _).trans) | (with_reducible apply (heap_drewN_at _ _ _).trans))) (by exact rfl)), blk_all (Eq.trans (b := some (Obj.cells _ _ (0, 0))) (by repeat (first | (with_reducible assumption) | (with_reducible apply heap_set_same) | ((with_reducible apply heap_set_other'); (focus (first | omega | (simp; done) | (simp; omega)))) | ((with_reducible apply heap_alloc_new); (focus (first | omega | (simp; done) | (simp; omega)))) | (with_reducible apply heap_alloc_old') | (with_reducible apply (heap_drew_at _ _).trans) | (with_reducible apply (heap_drewN_at _ _ _).trans))) (by exact rfl)), by go_grown⟩)) (first | (go_at_call 12; go_split_ands; (with_reducible refine (lost_eq _ _ _ _ s2 s2 (r - 1) _ rfl HL2.out (by omega) (by omega) (by omega) (by omega) (by omega) (by omega) ).mono ?_); rintro e w2 ⟨rfl, hb⟩; have hB := below_next (w := w5) (by go_grown) hb; have zS := hB.size; have hr0 : w2.heap[w1.heap.size]? = some (.cells #[.bool true, .int .i64 b', .int .i64 h', .int .i64 g', .int .u64 s'] 26 (0, 0)) := (hb.block (w1.heap.size) (by first | omega | (simp; done) | (simp; omega))).trans (Eq.trans (b := some (Obj.cells _ _ (0, 0))) (by repeat (first | (with_reducible assumption) | (with_reducible apply heap_set_same) | ((with_reducible apply heap_set_other'); (focus (first | omega | (simp; done) | (simp; omega)))) | ((with_reducible apply heap_alloc_new); (focus (first | omega | (simp; done) | (simp; omega)))) | (with_reducible apply heap_alloc_old') | (with_reducible apply (heap_drew_at _ _).trans) | (with_reducible apply (heap_drewN_at _ _ _).trans))) (by exact rfl)); have hr1 : w2.heap[g2]? = some (.cells #[.bool true, .int .i64 b', .int .i64 h', .int .i64 (g' + 1), .int .u64 s2] 26 (0, 0)) := (hb.block (g2) (by first | omega | (simp; done) | (simp; omega))).trans (Eq.trans (b := some (Obj.cells _ _ (0, 0))) (by repeat (first | (with_reducible assumption) | (with_reducible apply heap_set_same) | ((with_reducible apply heap_set_other'); (focus (first | omega | (simp; done) | (simp; omega)))) | ((with_reducible apply heap_alloc_new); (focus (first | omega | (simp; done) | (simp; omega)))) | (with_reducible apply heap_alloc_old') | (with_reducible apply (heap_drew_at _ _).trans) | (with_reducible apply (heap_drewN_at _ _ _).trans))) (by exact rfl)); have zr0 := blk_lt hr0; have zr1 := blk_lt hr1; clear hb) | (go_at_call 12; go_split_ands; (with_reducible refine (lost_eq _ _ _ _ s' s' r _ rfl HL.out (by omega) (by omega) (by omega) (by omega) (by omega) (by omega) ).mono ?_); rintro e w2 ⟨rfl, hb⟩; have hB := below_next (w := w5) (by go_grown) hb; have zS := hB.size; have hr0 : w2.heap[w1.heap.size]? = some (.cells #[.bool true, .int .i64 b', .int .i64 h', .int .i64 g', .int .u64 s'] 26 (0, 0)) := (hb.block (w1.heap.size) (by first | omega | (simp; done) | (simp; omega))).trans (Eq.trans (b := some (Obj.cells _ _ (0, 0))) (by repeat (first | (with_reducible assumption) | (with_reducible apply heap_set_same) | ((with_reducible apply heap_set_other'); (focus (first | omega | (simp; done) | (simp; omega)))) | ((with_reducible apply heap_alloc_new); (focus (first | omega | (simp; done) | (simp; omega)))) | (with_reducible apply heap_alloc_old') | (with_reducible apply (heap_drew_at _ _).trans) | (with_reducible apply (heap_drewN_at _ _ _).trans))) (by exact rfl)); have hr1 : w2.heap[g2]? = some (.cells #[.bool true, .int .i64 b', .int .i64 h', .int .i64 (g' + 1), .int .u64 s2] 26 (0, 0)) := (hb.block (g2) (by first | omega | (simp; done) | (simp; omega))).trans (Eq.trans (b := some (Obj.cells _ _ (0, 0))) (by repeat (first | (with_reducible assumption) | (with_reducible apply heap_set_same) | ((with_reducible apply heap_set_other'); (focus (first | omega | (simp; done) | (simp; omega)))) | ((with_reducible apply heap_alloc_new); (focus (first | omega | (simp; done) | (simp; omega)))) | (with_reducible apply heap_alloc_old') | (with_reducible apply (heap_drew_at _ _).trans) | (with_reducible apply (heap_drewN_at _ _ _).trans))) (by exact rfl)); have zr0 := blk_lt hr0; have zr1 := blk_lt hr1; clear hb))
                    all_goals (go_wp2_with fail; go_meet; go_split_ands; exact ⟨rfl, (Eq.trans (b := some (Obj.cells _ _ (0, 0))) (by repeat (first | (with_reducible assumption) | (with_reducible apply heap_set_same) | ((with_reducible apply heap_set_other'); (focus (first | omega | (simp; done) | (simp; omega)))) | ((with_reducible apply heap_alloc_new); (focus (first | omega | (simp; done) | (simp; omega)))) | (with_reducible apply heap_alloc_old') | (with_reducible apply (heap_drew_at _ _).trans) | (with_reducible apply (heap_drewN_at _ _ _).trans))) (by exact rfl)), by go_grown⟩)
                  case rest =>
                    obtain ⟨rfl, h0, hBx⟩ := hcut
                    clear c0 f0 z0 c1 f1 z1 h1
                    go_wp2_with fail
                    go_roundw
                    case rel => exact ⟨m + 1, by omega, by go_num, h0, hBx⟩
                    case measure => simp [intOf]; omega
              · go_wp2_with fail
                go_roundw
                case rel => exact ⟨k + 1, true, b', h', g', s', by omega, by go_num, h0, Lib.hid ⟨small_more HSM.out.1 (by omega), HSM.out.2⟩, below_next (w := w) hB hBx⟩
                case measure => simp [intOf]; omega

      · have ea : decide (a < 0) = false := by simp; omega
        have eb : decide (3 < a) = false := by simp; omega
        have ec : (a != 0) = true := by rw [bne, ha]; rfl
        have ed : decide (h' < y) = false := by simp; omega
        go_upto_region 10 with fail
        go_cut [6, 7, 8] from 20 to 114 (fun s6 s7 s8 wx => ∃ g1 : Nat, s6 = .pointer (some ⟨g1, 0, none⟩) ∧ s7 = .int .i64 y ∧ s8 = .int .i64 a ∧ g1 ≠ w1.heap.size ∧ w.heap.size ≤ g1 ∧ wx.heap[w1.heap.size]? = some (.cells #[.bool on, .int .i64 b, .int .i64 h, .int .i64 g, .int .u64 s] 26 (0, 0)) ∧ wx.heap[g1]? = some (.cells #[.bool true, .int .i64 b', .int .i64 h', .int .i64 g', .int .u64 s'] 26 (0, 0)) ∧ Below w.heap.size w wx)
        case first =>
          go_region_held3 (fun w' => (w'.heap[w1.heap.size]? = some (.cells #[.bool on, .int .i64 b, .int .i64 h, .int .i64 g, .int .u64 s] 26 (0, 0)) ∧ (∀ j, w'.cell? ⟨w1.heap.size, j, none⟩ = #[.bool on, .int .i64 b, .int .i64 h, .int .i64 g, .int .u64 s][j]?) ∧ (∀ j, w'.frozen? ⟨w1.heap.size, j, none⟩ = false) ∧ w1.heap.size < w'.heap.size) ∧ w'.cell? ⟨ab, ao + k, none⟩ = some (.int .u16 x) ∧ ab < w'.heap.size ∧ Below w.heap.size w w') ((go_split_ands; exact ⟨blk_all (Eq.trans (b := some (Obj.cells _ _ (0, 0))) (by repeat (first | (with_reducible assumption) | (with_reducible apply heap_set_same) | ((with_reducible apply heap_set_other'); (focus (first | omega | (simp; done) | (simp; omega)))) | ((with_reducible apply heap_alloc_new); (focus (first | omega | (simp; done) | (simp; omega)))) | (with_reducible apply heap_alloc_old') | (with_reducible apply (heap_drew_at _ _).trans) | (with_reducible apply (heap_drewN_at _ _ _).trans))) (by exact rfl)), ((Below.cell (by go_grown : Below w.heap.size w _) hab).trans Q0.out), (Nat.lt_of_lt_of_le hab (Below.size (by go_grown : Below w.heap.size w _))), by go_grown⟩)) (first | (go_at_call 10; go_split_ands; (with_reducible refine (take_eq _ _ _ _ s _ _ _ _ _ s' _ _ s s' _ rfl rfl HT.out x0 x1 (by omega) (by omega) (by omega) (by omega) (by omega) (by omega)  LS.out).mono ?_); rintro e w2 ⟨rfl, hb⟩; have hB := below_next (w := w) (by go_grown) hb; have zS := hB.size; have hr0 : w2.heap[w1.heap.size]? = some (.cells #[.bool on, .int .i64 b, .int .i64 h, .int .i64 g, .int .u64 s] 26 (0, 0)) := (hb.block (w1.heap.size) (by first | omega | (simp; done) | (simp; omega))).trans (Eq.trans (b := some (Obj.cells _ _ (0, 0))) (by repeat (first | (with_reducible assumption) | (with_reducible apply heap_set_same) | ((with_reducible apply heap_set_other'); (focus (first | omega | (simp; done) | (simp; omega)))) | ((with_reducible apply heap_alloc_new); (focus (first | omega | (simp; done) | (simp; omega)))) | (with_reducible apply heap_alloc_old') | (with_reducible apply (heap_drew_at _ _).trans) | (with_reducible apply (heap_drewN_at _ _ _).trans))) (by exact rfl)); have zr0 := blk_lt hr0; (try first | ((have hn := heap_below hb (by first | omega | (simp; done) | (simp; omega)) hA); clear hA fA cA; have hA := hn; clear hn; obtain ⟨cA, fA, zA⟩ := blk_facts hA) | ((have hn := heap_below hb (by first | omega | (simp; done) | (simp; omega)) (heap_alloc_old' hA)); clear hA fA cA; have hA := hn; clear hn; obtain ⟨cA, fA, zA⟩ := blk_facts hA) | ((have hn := heap_below hb (by first | omega | (simp; done) | (simp; omega)) (heap_alloc_old' (heap_alloc_old' hA))); clear hA fA cA; have hA := hn; clear hn; obtain ⟨cA, fA, zA⟩ := blk_facts hA) | ((have hA := (hb.block (wr.heap.size) (by first | omega | (simp; done) | (simp; omega))).trans (by repeat (first | (with_reducible assumption) | (with_reducible apply heap_set_same) | ((with_reducible apply heap_set_other'); (focus (first | omega | (simp; done) | (simp; omega)))) | ((with_reducible apply heap_alloc_new); (focus (first | omega | (simp; done) | (simp; omega)))) | (with_reducible apply heap_alloc_old') | (with_reducible apply (heap_drew_at _ _).trans) | (with_reducible apply (heap_drewN_at _ _ _).trans)))); obtain ⟨cA, fA, zA⟩ := blk_facts hA) | ((have hA := (hb.block _ (lt_alloc _ _)).trans (heap_alloc_new _ _ _ rfl)); (fail_if_success (have hq : w2.heap[w1.heap.size]? = some _ := hA)); obtain ⟨cA, fA, zA⟩ := blk_facts hA)); clear hb))
          all_goals (go_wp2_with fail; go_meet; go_split_ands; exact ⟨_, rfl, rfl, rfl, by omega, by omega, (Eq.trans (b := some (Obj.cells _ _ (0, 0))) (by repeat (first | (with_reducible assumption) | (with_reducible apply heap_set_same) | ((with_reducible apply heap_set_other'); (focus (first | omega | (simp; done) | (simp; omega)))) | ((with_reducible apply heap_alloc_new); (focus (first | omega | (simp; done) | (simp; omega)))) | (with_reducible apply heap_alloc_old') | (with_reducible apply (heap_drew_at _ _).trans) | (with_reducible apply (heap_drewN_at _ _ _).trans))) (by exact rfl)), (Eq.trans (b := some (Obj.cells _ _ (0, 0))) (by repeat (first | (with_reducible assumption) | (with_reducible apply heap_set_same) | ((with_reducible apply heap_set_other'); (focus (first | omega | (simp; done) | (simp; omega)))) | ((with_reducible apply heap_alloc_new); (focus (first | omega | (simp; done) | (simp; omega)))) | (with_reducible apply heap_alloc_old') | (with_reducible apply (heap_drew_at _ _).trans) | (with_reducible apply (heap_drewN_at _ _ _).trans))) (by exact rfl)), by go_grown⟩)
        case rest =>
          obtain ⟨g1, rfl, rfl, rfl, hn1, hl1, h0, h1, hB⟩ := hcut
          clear c0 f0 z0 q0 hb1
          obtain ⟨c0, f0, z0⟩ := blk_facts h0
          obtain ⟨c1, f1, z1⟩ := blk_facts h1
          go_wp2_with fail
          go_upto_region 14 with fail
          go_cut [86] from 20 to 114 (fun s86 wx => s86 = .bool false ∧ wx.heap[w1.heap.size]? = some (.cells #[.bool true, .int .i64 b', .int .i64 h', .int .i64 g', .int .u64 s'] 26 (0, 0)) ∧ Below w.heap.size w wx)
          case first =>
            go_region_held3 (fun w' => (w'.heap[w1.heap.size]? = some (.cells #[.bool true, .int .i64 b', .int .i64 h', .int .i64 g', .int .u64 s'] 26 (0, 0)) ∧ (∀ j, w'.cell? ⟨w1.heap.size, j, none⟩ = #[.bool true, .int .i64 b', .int .i64 h', .int .i64 g', .int .u64 s'][j]?) ∧ (∀ j, w'.frozen? ⟨w1.heap.size, j, none⟩ = false) ∧ w1.heap.size < w'.heap.size) ∧ Below w.heap.size w w') ((go_split_ands; exact ⟨blk_all (Eq.trans (b := some (Obj.cells _ _ (0, 0))) (by repeat (first | (with_reducible assumption) | (with_reducible apply heap_set_same) | ((with_reducible apply heap_set_other'); (focus (first | omega | (simp; done) | (simp; omega)))) | ((with_reducible apply heap_alloc_new); (focus (first | omega | (simp; done) | (simp; omega)))) | (with_reducible apply heap_alloc_old') | (with_reducible apply (heap_drew_at _ _).trans) | (with_reducible apply (heap_drewN_at _ _ _).trans))) (by exact rfl)), by go_grown⟩)) (first | (go_at_call 12; go_split_ands; (with_reducible refine (lost_eq _ _ _ _ s' s' r _ rfl HL.out (by omega) (by omega) (by omega) (by omega) (by omega) (by omega) ).mono ?_); rintro e w2 ⟨rfl, hb⟩; have hB := below_next (w := w) (by go_grown) hb; have zS := hB.size; have hr0 : w2.heap[w1.heap.size]? = some (.cells #[.bool true, .int .i64 b', .int .i64 h', .int .i64 g', .int .u64 s'] 26 (0, 0)) := (hb.block (w1.heap.size) (by first | omega | (simp; done) | (simp; omega))).trans (Eq.trans (b := some (Obj.cells _ _ (0, 0))) (by repeat (first | (with_reducible assumption) | (with_reducible apply heap_set_same) | ((with_reducible apply heap_set_other'); (focus (first | omega | (simp; done) | (simp; omega)))) | ((with_reducible apply heap_alloc_new); (focus (first | omega | (simp; done) | (simp; omega)))) | (with_reducible apply heap_alloc_old') | (with_reducible apply (heap_drew_at _ _).trans) | (with_reducible apply (heap_drewN_at _ _ _).trans))) (by exact rfl)); have zr0 := blk_lt hr0; clear hb))
            all_goals (go_wp2_with fail; go_meet; go_split_ands; exact ⟨rfl, (Eq.trans (b := some (Obj.cells _ _ (0, 0))) (by repeat (first | (with_reducible assumption) | (with_reducible apply heap_set_same) | ((with_reducible apply heap_set_other'); (focus (first | omega | (simp; done) | (simp; omega)))) | ((with_reducible apply heap_alloc_new); (focus (first | omega | (simp; done) | (simp; omega)))) | (with_reducible apply heap_alloc_old') | (with_reducible apply (heap_drew_at _ _).trans) | (with_reducible apply (heap_drewN_at _ _ _).trans))) (by exact rfl)), by go_grown⟩)
          case rest =>
            obtain ⟨rfl, h0, hB⟩ := hcut
            clear c0 f0 z0 c1 f1 z1 h1 w1' w2' w3' d1' d2'
            obtain ⟨c0, f0, z0⟩ := blk_facts h0
            go_wp2_with fail
            with_reducible refine (miss_eq _ _ _ _ s' s' _ _ rfl rfl (by omega) (by omega) (by omega) (by omega) (by omega) (by omega)  LS'.out).mono ?_
            rintro e w5 ⟨v, rfl, hown, hb⟩
            (try (have g0 := h0; clear h0 f0 c0))
            have hB := below_next (w := w) (by go_grown) hb
            have h0 : w5.heap[w1.heap.size]? = some (.cells #[.bool true, .int .i64 b', .int .i64 h', .int .i64 g', .int .u64 s'] 26 (0, 0)) := (hb.block (w1.heap.size) (by first | omega | (simp; done) | (simp; omega))).trans (Eq.trans (b := some (Obj.cells _ _ (0, 0))) (by repeat (first | (with_reducible assumption) | (with_reducible apply heap_set_same) | ((with_reducible apply heap_set_other'); (focus (first | omega | (simp; done) | (simp; omega)))) | ((with_reducible apply heap_alloc_new); (focus (first | omega | (simp; done) | (simp; omega)))) | (with_reducible apply heap_alloc_old') | (with_reducible apply (heap_drew_at _ _).trans) | (with_reducible apply (heap_drewN_at _ _ _).trans))) (by exact rfl))
            clear hb
            (try clear g0)
            obtain ⟨c0, f0, z0⟩ := blk_facts h0
            have HLM := Lib.hid (miss_take ⟨true, b', h', g', s'⟩ rfl)
            have HLB := Lib.hid (missF_iff ⟨true, b', h', g', s'⟩ rfl)
            have hlen5 : (missF ⟨true, b', h', g', s'⟩).length ≤ 64 := missTo_length _ 64
            generalize missF ⟨true, b', h', g', s'⟩ = L at hown HLM HLB hlen5
            obtain ⟨A5, cap5, rfl⟩ := own_slice hown
            have hm5 := Lib.hid (ints_own hown)
            clear hown
            go_wp2_with fail
            go_loopw [10] (fun i wx => ∃ m : Nat, m ≤ L.length ∧ i = .int .i64 m ∧ wx.heap[w1.heap.size]? = some (.cells #[.bool true, .int .i64 b', .int .i64 h', .int .i64 g', .int .u64 s'] 26 (0, 0)) ∧ Below w5.heap.size w5 wx) (fun i _ => L.length - (intOf i).toNat)
            case atStart => exact ⟨0, by omega, rfl, (Eq.trans (b := some (Obj.cells _ _ (0, 0))) (by repeat (first | (with_reducible assumption) | (with_reducible apply heap_set_same) | ((with_reducible apply heap_set_other'); (focus (first | omega | (simp; done) | (simp; omega)))) | ((with_reducible apply heap_alloc_new); (focus (first | omega | (simp; done) | (simp; omega)))) | (with_reducible apply heap_alloc_old') | (with_reducible apply (heap_drew_at _ _).trans) | (with_reducible apply (heap_drewN_at _ _ _).trans))) (by exact rfl)), Below.refl _ _⟩
            case round =>
              clear c0 f0 z0 h0
              obtain ⟨m, hm, rfl, h0, hBx⟩ := hrel
              have zB5 := hBx.size
              obtain ⟨c0, f0, z0⟩ := blk_facts h0
              by_cases hmt : m < L.length
              · have hlm : m < (miss16 L).length := by simpa [miss16] using hmt
                obtain ⟨mb, mo, rfl, hmb, p0⟩ := hm5.out m hlm
                have hmem := List.getElem_mem hmt
                have e1 : (miss16 L).getD m 0 = L[m] % 65536 := by simp [miss16, List.getD, hmt]
                rw [e1] at p0
                have ht2 := HLM.out L[m] hmem (L[m] % 65536) (by omega)
                have hq := (HLB.out L[m]).1 hmem
                obtain ⟨q1, q2, q3, _⟩ := hq
                (try dsimp only at q1); (try dsimp only at q2); (try dsimp only at q3); (try dsimp only at ht2)
                clear e1 hmem
                generalize hy2 : L[m] = y2 at *
                clear hy2
                have x2 : 0 ≤ y2 % 65536 ∧ y2 % 65536 ≤ 65535 := by omega
                obtain ⟨x20, x21⟩ := x2
                generalize y2 % 65536 = s5 at *
                have HT2 := Lib.hid ht2; clear ht2
                have hs2 : orN s' (h' - y2).toNat < 2 ^ 64 := orN_lt _ _ LS'.out (by omega)
                generalize orN s' (h' - y2).toNat = s2 at *
                have LS2 := Lib.hid hs2; clear hs2
                have HL2 : Hid (lostF ⟨true, b', h', g' + 1, s2⟩ = r - 1) := Lib.hid (by rw [HR2.out]; show h' - b' + 1 - (g' + 1) = _; omega)
                have wr1 : IntKind.i64.wrap (r - 1) = r - 1 := i64_in _ (by omega) (by omega)
                have P0 := Lib.hid p0
                replace p0 := (hBx.cell (p := ⟨mb, mo + m, none⟩) hmb).trans p0
                have hmb1 := Nat.lt_of_lt_of_le hmb hBx.size
                go_upto_region 20 with fail
                go_cut [11, 12, 13] from 89 to 114 (fun s6 s7 s8 wx => ∃ g2 : Nat, s6 = .pointer (some ⟨g2, 0, none⟩) ∧ s7 = .int .i64 y2 ∧ s8 = .int .i64 1 ∧ g2 ≠ w1.heap.size ∧ w5.heap.size ≤ g2 ∧ wx.heap[w1.heap.size]? = some (.cells #[.bool true, .int .i64 b', .int .i64 h', .int .i64 g', .int .u64 s'] 26 (0, 0)) ∧ wx.heap[g2]? = some (.cells #[.bool true, .int .i64 b', .int .i64 h', .int .i64 (g' + 1), .int .u64 s2] 26 (0, 0)) ∧ Below w5.heap.size w5 wx)
                case first =>
                  go_region_held3 (fun w' => (w'.heap[w1.heap.size]? = some (.cells #[.bool true, .int .i64 b', .int .i64 h', .int .i64 g', .int .u64 s'] 26 (0, 0)) ∧ (∀ j, w'.cell? ⟨w1.heap.size, j, none⟩ = #[.bool true, .int .i64 b', .int .i64 h', .int .i64 g', .int .u64 s'][j]?) ∧ (∀ j, w'.frozen? ⟨w1.heap.size, j, none⟩ = false) ∧ w1.heap.size < w'.heap.size) ∧ w'.cell? ⟨mb, mo + m, none⟩ = some (.int .u16 s5) ∧ mb < w'.heap.size ∧ Below w5.heap.size w5 w') ((go_split_ands; exact ⟨blk_all (Eq.trans (b := some (Obj.cells _ _ (0, 0))) (by repeat (first | (with_reducible assumption) | (with_reducible apply heap_set_same) | ((with_reducible apply heap_set_other'); (focus (first | omega | (simp; done) | (simp; omega)))) | ((with_reducible apply heap_alloc_new); (focus (first | omega | (simp; done) | (simp; omega)))) | (with_reducible apply heap_alloc_old') | (with_reducible apply (heap_drew_at _ _).trans) | (with_reducible apply (heap_drewN_at _ _ _).trans))) (by exact rfl)), ((Below.cell (by go_grown : Below w5.heap.size w5 _) hmb).trans P0.out), (Nat.lt_of_lt_of_le hmb (Below.size (by go_grown : Below w5.heap.size w5 _))), by go_grown⟩)) (first | (go_at_call 10; go_split_ands; (with_reducible refine (take_eq _ _ _ _ s' _ _ _ _ _ s2 _ _ s' s2 _ rfl rfl HT2.out x20 x21 (by omega) (by omega) (by omega) (by omega) (by omega) (by omega)  LS'.out).mono ?_); rintro e w2 ⟨rfl, hb⟩; have hB := below_next (w := w5) (by go_grown) hb; have zS := hB.size; have hr0 : w2.heap[w1.heap.size]? = some (.cells #[.bool true, .int .i64 b', .int .i64 h', .int .i64 g', .int .u64 s'] 26 (0, 0)) := (hb.block (w1.heap.size) (by first | omega | (simp; done) | (simp; omega))).trans (Eq.trans (b := some (Obj.cells _ _ (0, 0))) (by repeat (first | (with_reducible assumption) | (with_reducible apply heap_set_same) | ((with_reducible apply heap_set_other'); (focus (first | omega | (simp; done) | (simp; omega)))) | ((with_reducible apply heap_alloc_new); (focus (first | omega | (simp; done) | (simp; omega)))) | (with_reducible apply heap_alloc_old') | (with_reducible apply (heap_drew_at _ _).trans) | (with_reducible apply (heap_drewN_at _ _ _).trans))) (by exact rfl)); have zr0 := blk_lt hr0; (try first | ((have hn := heap_below hb (by first | omega | (simp; done) | (simp; omega)) hA); clear hA fA cA; have hA := hn; clear hn; obtain ⟨cA, fA, zA⟩ := blk_facts hA) | ((have hn := heap_below hb (by first | omega | (simp; done) | (simp; omega)) (heap_alloc_old' hA)); clear hA fA cA; have hA := hn; clear hn; obtain ⟨cA, fA, zA⟩ := blk_facts hA) | ((have hn := heap_below hb (by first | omega | (simp; done) | (simp; omega)) (heap_alloc_old' (heap_alloc_old' hA))); clear hA fA cA; have hA := hn; clear hn; obtain ⟨cA, fA, zA⟩ := blk_facts hA) | ((have hA := (hb.block (wr.heap.size) (by first | omega | (simp; done) | (simp; omega))).trans (by repeat (first | (with_reducible assumption) | (with_reducible apply heap_set_same) | ((with_reducible apply heap_set_other'); (focus (first | omega | (simp; done) | (simp; omega)))) | ((with_reducible apply heap_alloc_new); (focus (first | omega | (simp; done) | (simp; omega)))) | (with_reducible apply heap_alloc_old') | (with_reducible apply (heap_drew_at _ _).trans) | (with_reducible apply (heap_drewN_at _ _ _).trans)))); obtain ⟨cA, fA, zA⟩ := blk_facts hA) | ((have hA := (hb.block _ (lt_alloc _ _)).trans (heap_alloc_new _ _ _ rfl)); (fail_if_success (have hq : w2.heap[w1.heap.size]? = some _ := hA)); obtain ⟨cA, fA, zA⟩ := blk_facts hA)); clear hb))
                  all_goals (go_wp2_with fail; go_meet; go_split_ands; exact ⟨_, rfl, rfl, rfl, by omega, by omega, (Eq.trans (b := some (Obj.cells _ _ (0, 0))) (by repeat (first | (with_reducible assumption) | (with_reducible apply heap_set_same) | ((with_reducible apply heap_set_other'); (focus (first | omega | (simp; done) | (simp; omega)))) | ((with_reducible apply heap_alloc_new); (focus (first | omega | (simp; done) | (simp; omega)))) | (with_reducible apply heap_alloc_old') | (with_reducible apply (heap_drew_at _ _).trans) | (with_reducible apply (heap_drewN_at _ _ _).trans))) (by exact rfl)), (Eq.trans (b := some (Obj.cells _ _ (0, 0))) (by repeat (first | (with_reducible assumption) | (with_reducible apply heap_set_same) | ((with_reducible apply heap_set_other'); (focus (first | omega | (simp; done) | (simp; omega)))) | ((with_reducible apply heap_alloc_new); (focus (first | omega | (simp; done) | (simp; omega)))) | (with_reducible apply heap_alloc_old') | (with_reducible apply (heap_drew_at _ _).trans) | (with_reducible apply (heap_drewN_at _ _ _).trans))) (by exact rfl)), by go_grown⟩)
                case rest =>
                  obtain ⟨g2, rfl, rfl, rfl, hn2, hl2, h0, h1, hBx⟩ := hcut
                  have zB6 := hBx.size
                  clear c0 f0 z0 p0 hmb1
                  obtain ⟨c0, f0, z0⟩ := blk_facts h0
                  obtain ⟨c1, f1, z1⟩ := blk_facts h1
                  go_upto_region 21 with fail
                  go_cut [114] from 89 to 114 (fun s114 wx => s114 = .bool false ∧ wx.heap[w1.heap.size]? = some (.cells #[.bool true, .int .i64 b', .int .i64 h', .int .i64 g', .int .u64 s'] 26 (0, 0)) ∧ Below w5.heap.size w5 wx)
                  case first =>
                    go_region_held3 (fun w' => (w'.heap[w1.heap.size]? = some (.cells #[.bool true, .int .i64 b', .int .i64 h', .int .i64 g', .int .u64 s'] 26 (0, 0)) ∧ (∀ j, w'.cell? ⟨w1.heap.size, j, none⟩ = #[.bool true, .int .i64 b', .int .i64 h', .int .i64 g', .int .u64 s'][j]?) ∧ (∀ j, w'.frozen? ⟨w1.heap.size, j, none⟩ = false) ∧ w1.heap.size < w'.heap.size) ∧ (w'.heap[g2]? = some (.cells #[.bool true, .int .i64 b', .int .i64 h', .int .i64 (g' + 1), .int .u64 s2] 26 (0, 0)) ∧ (∀ j, w'.cell? ⟨g2, j, none⟩ = #[.bool true, .int .i64 b', .int .i64 h', .int .i64 (g' + 1), .int .u64 s2][j]?) ∧ (∀ j, w'.frozen? ⟨g2, j, none⟩ = false) ∧ g2 < w'.heap.size) ∧ Below w5.heap.size w5 w') ((go_split_ands; exact ⟨blk_all (Eq.trans (b := some (Obj.cells _ _ (0, 0))) (by repeat (first | (with_reducible assumption) | (with_reducible apply heap_set_same) | ((with_reducible apply heap_set_other'); (focus (first | omega | (simp; done) | (simp; omega)))) | ((with_reducible apply heap_alloc_new); (focus (first | omega | (simp; done) | (simp; omega)))) | (with_reducible apply heap_alloc_old') | (with_reducible apply (heap_drew_at _ _).trans) | (with_reducible apply (heap_drewN_at _ _ _).trans))) (by exact rfl)), blk_all (Eq.trans (b := some (Obj.cells _ _ (0, 0))) (by repeat (first | (with_reducible assumption) | (with_reducible apply heap_set_same) | ((with_reducible apply heap_set_other'); (focus (first | omega | (simp; done) | (simp; omega)))) | ((with_reducible apply heap_alloc_new); (focus (first | omega | (simp; done) | (simp; omega)))) | (with_reducible apply heap_alloc_old') | (with_reducible apply (heap_drew_at _ _).trans) | (with_reducible apply (heap_drewN_at _ _ _).trans))) (by exact rfl)), by go_grown⟩)) (first | (go_at_call 12; go_split_ands; (with_reducible refine (lost_eq _ _ _ _ s2 s2 (r - 1) _ rfl HL2.out (by omega) (by omega) (by omega) (by omega) (by omega) (by omega) ).mono ?_); rintro e w2 ⟨rfl, hb⟩; have hB := below_next (w := w5) (by go_grown) hb; have zS := hB.size; have hr0 : w2.heap[w1.heap.size]? = some (.cells #[.bool true, .int .i64 b', .int .i64 h', .int .i64 g', .int .u64 s'] 26 (0, 0)) := (hb.block (w1.heap.size) (by first | omega | (simp; done) | (simp; omega))).trans (Eq.trans (b := some (Obj.cells _ _ (0, 0))) (by repeat (first | (with_reducible assumption) | (with_reducible apply heap_set_same) | ((with_reducible apply heap_set_other'); (focus (first | omega | (simp; done) | (simp; omega)))) | ((with_reducible apply heap_alloc_new); (focus (first | omega | (simp; done) | (simp; omega)))) | (with_reducible apply heap_alloc_old') | (with_reducible apply (heap_drew_at _ _).trans) | (with_reducible apply (heap_drewN_at _ _ _).trans))) (by exact rfl)); have hr1 : w2.heap[g2]? = some (.cells #[.bool true, .int .i64 b', .int .i64 h', .int .i64 (g' + 1), .int .u64 s2] 26 (0, 0)) := (hb.block (g2) (by first | omega | (simp; done) | (simp; omega))).trans (Eq.trans (b := some (Obj.cells _ _ (0, 0))) (by repeat (first | (with_reducible assumption) | (with_reducible apply heap_set_same) | ((with_reducible apply heap_set_other'); (focus (first | omega | (simp; done) | (simp; omega)))) | ((with_reducible apply heap_alloc_new); (focus (first | omega | (simp; done) | (simp; omega)))) | (with_reducible apply heap_alloc_old') | (with_reducible apply (heap_drew_at _ _).trans) | (with_reducible apply (heap_drewN_at _ _ _).trans))) (by exact rfl)); have zr0 := blk_lt hr0; have zr1 := blk_lt hr1; clear hb) | (go_at_call 12; go_split_ands; (with_reducible refine (lost_eq _ _ _ _ s' s' r _ rfl HL.out (by omega) (by omega) (by omega) (by omega) (by omega) (by omega) ).mono ?_); rintro e w2 ⟨rfl, hb⟩; have hB := below_next (w := w5) (by go_grown) hb; have zS := hB.size; have hr0 : w2.heap[w1.heap.size]? = some (.cells #[.bool true, .int .i64 b', .int .i64 h', .int .i64 g', .int .u64 s'] 26 (0, 0)) := (hb.block (w1.heap.size) (by first | omega | (simp; done) | (simp; omega))).trans (Eq.trans (b := some (Obj.cells _ _ (0, 0))) (by repeat (first | (with_reducible assumption) | (with_reducible apply heap_set_same) | ((with_reducible apply heap_set_other'); (focus (first | omega | (simp; done) | (simp; omega)))) | ((with_reducible apply heap_alloc_new); (focus (first | omega | (simp; done) | (simp; omega)))) | (with_reducible apply heap_alloc_old') | (with_reducible apply (heap_drew_at _ _).trans) | (with_reducible apply (heap_drewN_at _ _ _).trans))) (by exact rfl)); have hr1 : w2.heap[g2]? = some (.cells #[.bool true, .int .i64 b', .int .i64 h', .int .i64 (g' + 1), .int .u64 s2] 26 (0, 0)) := (hb.block (g2) (by first | omega | (simp; done) | (simp; omega))).trans (Eq.trans (b := some (Obj.cells _ _ (0, 0))) (by repeat (first | (with_reducible assumption) | (with_reducible apply heap_set_same) | ((with_reducible apply heap_set_other'); (focus (first | omega | (simp; done) | (simp; omega)))) | ((with_reducible apply heap_alloc_new); (focus (first | omega | (simp; done) | (simp; omega)))) | (with_reducible apply heap_alloc_old') | (with_reducible apply (heap_drew_at _ _).trans) | (with_reducible apply (heap_drewN_at _ _ _).trans))) (by exact rfl)); have zr0 := blk_lt hr0; have zr1 := blk_lt hr1; clear hb))
                    all_goals (go_wp2_with fail; go_meet; go_split_ands; exact ⟨rfl, (Eq.trans (b := some (Obj.cells _ _ (0, 0))) (by repeat (first | (with_reducible assumption) | (with_reducible apply heap_set_same) | ((with_reducible apply heap_set_other'); (focus (first | omega | (simp; done) | (simp; omega)))) | ((with_reducible apply heap_alloc_new); (focus (first | omega | (simp; done) | (simp; omega)))) | (with_reducible apply heap_alloc_old') | (with_reducible apply (heap_drew_at _ _).trans) | (with_reducible apply (heap_drewN_at _ _ _).trans))) (by exact rfl)), by go_grown⟩)
                  case rest =>
                    obtain ⟨rfl, h0, hBx⟩ := hcut
                    clear c0 f0 z0 c1 f1 z1 h1
                    go_wp2_with fail
                    go_roundw
                    case rel => exact ⟨m + 1, by omega, by go_num, h0, hBx⟩
                    case measure => simp [intOf]; omega
              · go_wp2_with fail
                go_roundw
                case rel => exact ⟨k + 1, true, b', h', g', s', by omega, by go_num, h0, Lib.hid ⟨small_more HSM.out.1 (by omega), HSM.out.2⟩, below_next (w := w) hB hBx⟩
                case measure => simp [intOf]; omega

    · go_wp2_with fail
      go_ret
      exact ⟨rfl, hB⟩
end Go.Proofs.Ytbfmcnidghjajaa
