/- The law RecvPlays, walked. -/
import Derived.Test.YtbfmcnidghjajaaRef3W
import Derived.Deep.QuietTactic
import Derived.Deep.DeepCutAuto
namespace Go.Proofs.Ytbfmcnidghjajaa
set_option linter.unusedSimpArgs false
set_option linter.unusedVariables false
open Go.RowKit
/-- What the reference's Take makes of a row of the call's own. -/
theorem refTake_own (B : Nat) (A : Option Addr) (cap : Nat) (l l' : List Int) (s y k : Int) (w : World) (hr : refTakeF l s = (l', y, k)) (hB : B ≤ w.heap.size) (hl : l.length ≤ 100000) (hown : w.ownsRow B 2 1 (.slice A l.length cap) l.length (l.map (Value.int .i64))) (s0 : 0 ≤ s) (s1 : s ≤ 65535) (lh : -1000000000000 ≤ highF l) (uh : highF l ≤ 1000000000000) :
    Calls Try.prog 11 #[.agg #[.slice A l.length cap], .int .u16 s] w fun e w' => ∃ A' cap', e = .returned (.tuple #[.agg #[.slice A' l'.length cap'], .int .i64 y, .int .i64 k]) ∧ w'.ownsRow B 2 1 (.slice A' l'.length cap') l'.length (l'.map (Value.int .i64)) ∧ Below w.heap.size w w' := by
  refine (refTake_any B A cap l s w hB hl hown s0 s1 lh uh).mono ?_
  rintro e w' ⟨⟨A', cap', he, ho⟩, hb⟩
  rw [hr] at he ho
  exact ⟨A', cap', he, ho, hb⟩
theorem small_more {t : Tr} {B C : Int} (h : t.Small B) (hb : B ≤ C) : t.Small C := by
  obtain ⟨h1, h2, h3, h4, h5, h6, h7⟩ := h
  exact ⟨by omega, by omega, by omega, by omega, by omega, by omega, h7⟩
theorem refMissTo_bd (l : List Int) (i : Nat) : ∀ x ∈ refMissTo l i, highF l - 63 ≤ x ∧ x < highF l - 63 + i := by
  induction i with
  | zero => simp [refMissTo]
  | succ i ih =>
    intro x hx
    unfold refMissTo at hx
    rw [List.mem_append] at hx
    rcases hx with hx | hx
    · have := ih x hx; omega
    · split at hx
      · simp at hx; omega
      · simp at hx
theorem refMiss_bd (l : List Int) (x : Int) (hx : x ∈ refMissF l) (h0 : -1000000000000 ≤ highF l) (h1 : highF l ≤ 1000000000000) : -10000000000000 ≤ x ∧ x ≤ 10000000000000 := by
  unfold refMissF at hx
  split at hx
  · simp at hx
  · have := refMissTo_bd l 64 x hx
    omega
theorem refMissF_length (l : List Int) : (refMissF l).length ≤ 64 := by
  unfold refMissF
  split
  · simp
  · exact refMissTo_length l 64
/-- What one step comes to. -/
theorem plays_step (on : Bool) (b h g : Int) (s : Nat) (l : List Int) (x B : Int) (hs : Says ⟨on, b, h, g, s⟩ l) (x0 : 0 ≤ x) (x1 : x ≤ 65535) (hm : Tr.Small ⟨on, b, h, g, s⟩ B) (hB : 0 ≤ B) :
    ∃ b' h' s' y a l', takeF ⟨on, b, h, g, s⟩ x = (⟨true, b', h', l'.length, s'⟩, y, a) ∧ refTakeF l x = (l', y, a) ∧ Says ⟨true, b', h', l'.length, s'⟩ l' ∧ Tr.Small ⟨true, b', h', l'.length, s'⟩ (B + 65536) ∧
      highF l' = h' ∧ baseF l' = b' ∧ refLostF l' = lostF ⟨true, b', h', l'.length, s'⟩ ∧ refMissF l' = missF ⟨true, b', h', l'.length, s'⟩ ∧ 0 < l'.length ∧ l'.length ≤ l.length + 1 ∧ -B ≤ highF l ∧ highF l ≤ B := by
  obtain ⟨q1, q2⟩ := says_take hs x
  have q3 := takeF_small hm x0 (by omega) hB
  have hne : (refTakeF l x).1 ≠ [] ∧ (refTakeF l x).1.length ≤ l.length + 1 := by
    unfold refTakeF
    split
    · exact ⟨by simp, by simp⟩
    · rename_i hl
      have hl1 : l ++ [near16 (highF l) x] ≠ [] := by simp
      split
      · exact ⟨hl1, by simp⟩
      · split
        · exact ⟨hl, by simp⟩
        · split
          · exact ⟨hl, by simp⟩
          · exact ⟨hl1, by simp⟩
  have hh : -B ≤ highF l ∧ highF l ≤ B := by
    by_cases hl : l = []
    · subst hl; exact ⟨by simp [highF, highTo]; omega, by simp [highF, highTo]; omega⟩
    · rw [← hs.high hl]; exact ⟨hm.h0, hm.h1⟩
  generalize takeF ⟨on, b, h, g, s⟩ x = r at *
  generalize refTakeF l x = r' at *
  obtain ⟨⟨on', b', h', g', s'⟩, y, a⟩ := r
  obtain ⟨l', y', a'⟩ := r'
  simp only [Prod.mk.injEq] at q2
  obtain ⟨rfl, rfl⟩ := q2
  dsimp only at *
  have e1 := q1.on
  dsimp only at e1
  have e2 : on' = true := by
    rw [e1]
    cases l' with
    | nil => exact absurd rfl hne.1
    | cons a l => rfl
  subst e2
  have e3 := q1.got
  dsimp only at e3
  subst e3
  refine ⟨b', h', s', y, a, l', rfl, rfl, q1, q3, (q1.high hne.1).symm, (q1.base hne.1).symm, (says_lost q1).symm, (says_miss q1).symm, ?_, hne.2, hh.1, hh.2⟩
  exact List.length_pos_iff.2 hne.1
set_option maxRecDepth 100000 in
set_option maxHeartbeats 4000000 in
theorem plays_walk (A : Option Addr) (len cap : Nat) (zs : List Int) (w : World) (hlen : zs.length = len) (hl : len ≤ 9223372036854775807) (hp : IntsAt w A .u16 zs) (hr : ∀ s ∈ zs, 0 ≤ s ∧ s ≤ 65535) :
    Calls Try.prog 3 #[.slice A len cap] w fun e w' => e = .returned (.bool true) ∧ Below w.heap.size w w' := by
  subst hlen
  have HR := Lib.hid hr; clear hr
  have HP := Lib.hid hp; clear hp
  by_cases h60 : 150 < zs.length
  · go_enter Try.func3, Try.ntmps3
    go_wp2_with fail
    (with_reducible refine (awake_any _).mono ?_)
    rintro e w1 ⟨rfl, hb⟩
    go_wp2_with fail
    go_ret
    exact ⟨rfl, hb⟩
  go_enter Try.func3, Try.ntmps3
  go_wp2_with fail
  (with_reducible refine (awake_any _).mono ?_)
  rintro e w1 ⟨rfl, hB⟩
  have zA := hB.size
  go_wp2_with fail
  go_loopw [6] (fun i wr => ∃ (k : Nat) (on : Bool) (b h g : Int) (s : Nat) (l : List Int) (A2 : Option Addr) (cap2 : Nat), k ≤ zs.length ∧ i = .int .i64 k ∧ wr.heap[w1.heap.size]? = some (.cells #[.bool on, .int .i64 b, .int .i64 h, .int .i64 g, .int .u64 s] 26 (0, 0)) ∧ wr.heap[w1.heap.size + 1]? = some (.cells #[.slice A2 l.length cap2] 29 (0, 0)) ∧ wr.ownsRow w.heap.size 2 1 (.slice A2 l.length cap2) l.length (l.map (Value.int .i64)) ∧ l.length ≤ k ∧ Hid (Tr.Small ⟨on, b, h, g, s⟩ (65536 * k) ∧ Says ⟨on, b, h, g, s⟩ l) ∧ Below w.heap.size w wr) (fun i _ => zs.length - (intOf i).toNat)
  case atStart => exact ⟨0, false, 0, 0, 0, 0, [], none, 0, by omega, rfl, (Eq.trans (b := some (Obj.cells _ _ (0, 0))) (by repeat (first | (with_reducible assumption) | (with_reducible apply heap_set_same) | ((with_reducible apply heap_set_other'); (focus (first | omega | (simp; done) | (simp; omega)))) | ((with_reducible apply heap_alloc_new); (focus (first | omega | (simp; done) | (simp; omega)))) | (with_reducible apply heap_alloc_old') | (with_reducible apply (heap_drew_at _ _).trans) | (with_reducible apply (heap_drewN_at _ _ _).trans))) (by exact rfl)), (Eq.trans (b := some (Obj.cells _ _ (0, 0))) (by repeat (first | (with_reducible assumption) | (with_reducible apply heap_set_same) | ((with_reducible apply heap_set_other'); (focus (first | omega | (simp; done) | (simp; omega)))) | ((with_reducible apply heap_alloc_new); (focus (first | omega | (simp; done) | (simp; omega)))) | (with_reducible apply heap_alloc_old') | (with_reducible apply (heap_drew_at _ _).trans) | (with_reducible apply (heap_drewN_at _ _ _).trans))) (by exact rfl)), World.ownsRow_nil _ _ _ _, by simp, Lib.hid ⟨⟨by decide, by decide, by decide, by decide, by decide, by decide, by decide⟩, says_nil⟩, by go_grown⟩
  case round =>
    clear hB
    obtain ⟨k, on, b, h, g, s, l, A2, cap2, hk, rfl, h0, h1, hown, hlk, HS, hB⟩ := hrel
    obtain ⟨c0, f0, z0⟩ := blk_facts h0
    obtain ⟨c1, f1, z1⟩ := blk_facts h1
    by_cases hlt : k < zs.length
    · obtain ⟨ab, ao, rfl, hab, q0⟩ := HP.out k hlt
      have hx := HR.out (zs.getD k 0) (by simp [List.getD, hlt])
      generalize zs.getD k 0 = x at *
      obtain ⟨x0, x1⟩ := hx
      replace q0 := (hB.cell (p := ⟨ab, ao + k, none⟩) hab).trans q0
      have hb1 := Nat.lt_of_lt_of_le hab hB.size
      have Q0 := Lib.hid ((hB.cell (p := ⟨ab, ao + k, none⟩) hab).symm.trans q0)
      obtain ⟨hsm, hsa⟩ := HS.out
      obtain ⟨b', h', s', y, a, l', ht, hrt, hsa', hsm', hh, hb', hlo, hmi, hpos, hll, hhl, hhu⟩ := plays_step on b h g s l x (65536 * k) hsa x0 x1 hsm (by omega)
      obtain ⟨lh, uh, lb, ub, lg, ug, ls⟩ := hsm
      dsimp only at lh uh lb ub lg ug ls
      have LS := Lib.hid ls; clear ls hsa
      have HT := Lib.hid ht; clear ht
      have HRT := Lib.hid hrt; clear hrt
      have HSM := Lib.hid (And.intro hsm' hsa')
      obtain ⟨lh', uh', lb', ub', lg', ug', ls'⟩ := hsm'
      dsimp only at lh' uh' lb' ub' lg' ug' ls'
      have LS' := Lib.hid ls'; clear ls' hsa'
      have HH := Lib.hid hh; clear hh
      have HBB := Lib.hid hb'; clear hb'
      obtain ⟨r, hr⟩ : ∃ r, lostF ⟨true, b', h', l'.length, s'⟩ = r := ⟨_, rfl⟩
      rw [hr] at hlo
      have HLO := Lib.hid hlo; clear hlo
      have HL := Lib.hid hr; clear hr
      have HMI := Lib.hid hmi; clear hmi
      go_upto_region 11 with fail
      go_cut [7, 8, 9] from 23 to 120 (fun s6 s7 s8 wx => ∃ g1 : Nat, s6 = .pointer (some ⟨g1, 0, none⟩) ∧ s7 = .int .i64 y ∧ s8 = .int .i64 a ∧ g1 ≠ w1.heap.size ∧ g1 ≠ w1.heap.size + 1 ∧ w.heap.size ≤ g1 ∧ wx.heap[w1.heap.size]? = some (.cells #[.bool on, .int .i64 b, .int .i64 h, .int .i64 g, .int .u64 s] 26 (0, 0)) ∧ wx.heap[w1.heap.size + 1]? = some (.cells #[.slice A2 l.length cap2] 29 (0, 0)) ∧ wx.heap[g1]? = some (.cells #[.bool true, .int .i64 b', .int .i64 h', .int .i64 (l'.length : Int), .int .u64 s'] 26 (0, 0)) ∧ wx.ownsRow w.heap.size 2 1 (.slice A2 l.length cap2) l.length (l.map (Value.int .i64)) ∧ Below w.heap.size w wx)
      case first =>
        go_region_held3 (fun w' => (w'.heap[w1.heap.size]? = some (.cells #[.bool on, .int .i64 b, .int .i64 h, .int .i64 g, .int .u64 s] 26 (0, 0)) ∧ (∀ j, w'.cell? ⟨w1.heap.size, j, none⟩ = #[.bool on, .int .i64 b, .int .i64 h, .int .i64 g, .int .u64 s][j]?) ∧ (∀ j, w'.frozen? ⟨w1.heap.size, j, none⟩ = false) ∧ w1.heap.size < w'.heap.size) ∧ (w'.heap[w1.heap.size + 1]? = some (.cells #[.slice A2 l.length cap2] 29 (0, 0)) ∧ (∀ j, w'.cell? ⟨w1.heap.size + 1, j, none⟩ = #[.slice A2 l.length cap2][j]?) ∧ (∀ j, w'.frozen? ⟨w1.heap.size + 1, j, none⟩ = false) ∧ w1.heap.size + 1 < w'.heap.size) ∧ w'.cell? ⟨ab, ao + k, none⟩ = some (.int .u16 x) ∧ ab < w'.heap.size ∧ w'.ownsRow w.heap.size 2 1 (.slice A2 l.length cap2) l.length (l.map (Value.int .i64)) ∧ Below w.heap.size w w') ((go_split_ands; exact ⟨blk_all (Eq.trans (b := some (Obj.cells _ _ (0, 0))) (by repeat (first | (with_reducible assumption) | (with_reducible apply heap_set_same) | ((with_reducible apply heap_set_other'); (focus (first | omega | (simp; done) | (simp; omega)))) | ((with_reducible apply heap_alloc_new); (focus (first | omega | (simp; done) | (simp; omega)))) | (with_reducible apply heap_alloc_old') | (with_reducible apply (heap_drew_at _ _).trans) | (with_reducible apply (heap_drewN_at _ _ _).trans))) (by exact rfl)), blk_all (Eq.trans (b := some (Obj.cells _ _ (0, 0))) (by repeat (first | (with_reducible assumption) | (with_reducible apply heap_set_same) | ((with_reducible apply heap_set_other'); (focus (first | omega | (simp; done) | (simp; omega)))) | ((with_reducible apply heap_alloc_new); (focus (first | omega | (simp; done) | (simp; omega)))) | (with_reducible apply heap_alloc_old') | (with_reducible apply (heap_drew_at _ _).trans) | (with_reducible apply (heap_drewN_at _ _ _).trans))) (by exact rfl)), ((Below.cell (by go_grown : Below w.heap.size w _) hab).trans Q0.out), (Nat.lt_of_lt_of_le hab (Below.size (by go_grown : Below w.heap.size w _))), (by repeat (first | (with_reducible assumption) | (with_reducible apply own_alloc) | (with_reducible apply World.ownsRow.drew) | (with_reducible apply own_set_other) | (with_reducible apply heap_set_same) | ((with_reducible apply heap_set_other'); (focus (first | omega | (simp; done) | (simp; omega)))) | ((with_reducible apply heap_alloc_new); (focus (first | omega | (simp; done) | (simp; omega)))) | (with_reducible apply heap_alloc_old') | (with_reducible apply (heap_drew_at _ _).trans) | (with_reducible apply (heap_drewN_at _ _ _).trans) | decide)), by first | ((repeat (first | (with_reducible exact Below.refl _ _) | (with_reducible apply Below.drew))); done) | go_grown⟩)) (first | (go_at_call 10; go_split_ands; (with_reducible refine (take_eq _ _ _ _ s _ _ _ _ _ s' _ _ s s' _ rfl rfl HT.out x0 x1 (by omega) (by omega) (by omega) (by omega) (by omega) (by omega)  LS.out).mono ?_); rintro e w2 ⟨rfl, hb⟩; have hown := own_below (by assumption) hb; have hB := below_next (w := w) (by go_grown) hb; have zS := hB.size; have hr0 : w2.heap[w1.heap.size]? = some (.cells #[.bool on, .int .i64 b, .int .i64 h, .int .i64 g, .int .u64 s] 26 (0, 0)) := (hb.block (w1.heap.size) (by first | omega | (simp; done) | (simp; omega))).trans (Eq.trans (b := some (Obj.cells _ _ (0, 0))) (by repeat (first | (with_reducible assumption) | (with_reducible apply heap_set_same) | ((with_reducible apply heap_set_other'); (focus (first | omega | (simp; done) | (simp; omega)))) | ((with_reducible apply heap_alloc_new); (focus (first | omega | (simp; done) | (simp; omega)))) | (with_reducible apply heap_alloc_old') | (with_reducible apply (heap_drew_at _ _).trans) | (with_reducible apply (heap_drewN_at _ _ _).trans))) (by exact rfl)); have hr1 : w2.heap[w1.heap.size + 1]? = some (.cells #[.slice A2 l.length cap2] 29 (0, 0)) := (hb.block (w1.heap.size + 1) (by first | omega | (simp; done) | (simp; omega))).trans (Eq.trans (b := some (Obj.cells _ _ (0, 0))) (by repeat (first | (with_reducible assumption) | (with_reducible apply heap_set_same) | ((with_reducible apply heap_set_other'); (focus (first | omega | (simp; done) | (simp; omega)))) | ((with_reducible apply heap_alloc_new); (focus (first | omega | (simp; done) | (simp; omega)))) | (with_reducible apply heap_alloc_old') | (with_reducible apply (heap_drew_at _ _).trans) | (with_reducible apply (heap_drewN_at _ _ _).trans))) (by exact rfl)); have zr0 := blk_lt hr0; have zr1 := blk_lt hr1; (try first | ((have hn := heap_below hb (by first | omega | (simp; done) | (simp; omega)) hA); clear hA fA cA; have hA := hn; clear hn; obtain ⟨cA, fA, zA⟩ := blk_facts hA) | ((have hn := heap_below hb (by first | omega | (simp; done) | (simp; omega)) (heap_alloc_old' hA)); clear hA fA cA; have hA := hn; clear hn; obtain ⟨cA, fA, zA⟩ := blk_facts hA) | ((have hn := heap_below hb (by first | omega | (simp; done) | (simp; omega)) (heap_alloc_old' (heap_alloc_old' hA))); clear hA fA cA; have hA := hn; clear hn; obtain ⟨cA, fA, zA⟩ := blk_facts hA) | ((have hA := (hb.block (wr.heap.size) (by first | omega | (simp; done) | (simp; omega))).trans (by repeat (first | (with_reducible assumption) | (with_reducible apply heap_set_same) | ((with_reducible apply heap_set_other'); (focus (first | omega | (simp; done) | (simp; omega)))) | ((with_reducible apply heap_alloc_new); (focus (first | omega | (simp; done) | (simp; omega)))) | (with_reducible apply heap_alloc_old') | (with_reducible apply (heap_drew_at _ _).trans) | (with_reducible apply (heap_drewN_at _ _ _).trans)))); obtain ⟨cA, fA, zA⟩ := blk_facts hA) | ((have hA := (hb.block _ (lt_alloc _ _)).trans (heap_alloc_new _ _ _ rfl)); (fail_if_success (have hq : w2.heap[w1.heap.size]? = some _ := hA)); (fail_if_success (have hq : w2.heap[w1.heap.size + 1]? = some _ := hA)); obtain ⟨cA, fA, zA⟩ := blk_facts hA)); clear hb))
        all_goals (go_wp2_with fail; go_meet; go_split_ands; exact ⟨_, rfl, rfl, rfl, by omega, by omega, by omega, (Eq.trans (b := some (Obj.cells _ _ (0, 0))) (by repeat (first | (with_reducible assumption) | (with_reducible apply heap_set_same) | ((with_reducible apply heap_set_other'); (focus (first | omega | (simp; done) | (simp; omega)))) | ((with_reducible apply heap_alloc_new); (focus (first | omega | (simp; done) | (simp; omega)))) | (with_reducible apply heap_alloc_old') | (with_reducible apply (heap_drew_at _ _).trans) | (with_reducible apply (heap_drewN_at _ _ _).trans))) (by exact rfl)), (Eq.trans (b := some (Obj.cells _ _ (0, 0))) (by repeat (first | (with_reducible assumption) | (with_reducible apply heap_set_same) | ((with_reducible apply heap_set_other'); (focus (first | omega | (simp; done) | (simp; omega)))) | ((with_reducible apply heap_alloc_new); (focus (first | omega | (simp; done) | (simp; omega)))) | (with_reducible apply heap_alloc_old') | (with_reducible apply (heap_drew_at _ _).trans) | (with_reducible apply (heap_drewN_at _ _ _).trans))) (by exact rfl)), (Eq.trans (b := some (Obj.cells _ _ (0, 0))) (by repeat (first | (with_reducible assumption) | (with_reducible apply heap_set_same) | ((with_reducible apply heap_set_other'); (focus (first | omega | (simp; done) | (simp; omega)))) | ((with_reducible apply heap_alloc_new); (focus (first | omega | (simp; done) | (simp; omega)))) | (with_reducible apply heap_alloc_old') | (with_reducible apply (heap_drew_at _ _).trans) | (with_reducible apply (heap_drewN_at _ _ _).trans))) (by exact rfl)), (by repeat (first | (with_reducible assumption) | (with_reducible apply own_alloc) | (with_reducible apply World.ownsRow.drew) | (with_reducible apply own_set_other) | (with_reducible apply heap_set_same) | ((with_reducible apply heap_set_other'); (focus (first | omega | (simp; done) | (simp; omega)))) | ((with_reducible apply heap_alloc_new); (focus (first | omega | (simp; done) | (simp; omega)))) | (with_reducible apply heap_alloc_old') | (with_reducible apply (heap_drew_at _ _).trans) | (with_reducible apply (heap_drewN_at _ _ _).trans) | decide)), by go_grown⟩)
      case rest =>
        obtain ⟨g1, rfl, rfl, rfl, hn1, hn2, hl1, h0, h1, h2, hown, hB⟩ := hcut
        clear c0 f0 z0 c1 f1 z1 q0 hb1
        obtain ⟨c0, f0, z0⟩ := blk_facts h0
        obtain ⟨c1, f1, z1⟩ := blk_facts h1
        obtain ⟨c2, f2, z2⟩ := blk_facts h2
        have q0 := (hB.cell (p := ⟨ab, ao + k, none⟩) hab).trans Q0.out
        have hb1 := Nat.lt_of_lt_of_le hab hB.size
        go_upto_region 12 with fail
        go_cut [10, 11, 12] from 23 to 120 (fun s6 s7 s8 wx => ∃ (g2 : Nat) (A3 : Option Addr) (cap3 : Nat), s6 = .pointer (some ⟨g2, 0, none⟩) ∧ s7 = .int .i64 y ∧ s8 = .int .i64 a ∧ g2 ≠ w1.heap.size ∧ g2 ≠ w1.heap.size + 1 ∧ g2 ≠ g1 ∧ w.heap.size ≤ g2 ∧ wx.heap[w1.heap.size]? = some (.cells #[.bool on, .int .i64 b, .int .i64 h, .int .i64 g, .int .u64 s] 26 (0, 0)) ∧ wx.heap[w1.heap.size + 1]? = some (.cells #[.slice A2 l.length cap2] 29 (0, 0)) ∧ wx.heap[g1]? = some (.cells #[.bool true, .int .i64 b', .int .i64 h', .int .i64 (l'.length : Int), .int .u64 s'] 26 (0, 0)) ∧ wx.heap[g2]? = some (.cells #[.slice A3 l'.length cap3] 29 (0, 0)) ∧ wx.ownsRow w.heap.size 2 1 (.slice A3 l'.length cap3) l'.length (l'.map (Value.int .i64)) ∧ Below w.heap.size w wx)
        case first =>
          go_region_held3 (fun w' => (w'.heap[w1.heap.size]? = some (.cells #[.bool on, .int .i64 b, .int .i64 h, .int .i64 g, .int .u64 s] 26 (0, 0)) ∧ (∀ j, w'.cell? ⟨w1.heap.size, j, none⟩ = #[.bool on, .int .i64 b, .int .i64 h, .int .i64 g, .int .u64 s][j]?) ∧ (∀ j, w'.frozen? ⟨w1.heap.size, j, none⟩ = false) ∧ w1.heap.size < w'.heap.size) ∧ (w'.heap[w1.heap.size + 1]? = some (.cells #[.slice A2 l.length cap2] 29 (0, 0)) ∧ (∀ j, w'.cell? ⟨w1.heap.size + 1, j, none⟩ = #[.slice A2 l.length cap2][j]?) ∧ (∀ j, w'.frozen? ⟨w1.heap.size + 1, j, none⟩ = false) ∧ w1.heap.size + 1 < w'.heap.size) ∧ (w'.heap[g1]? = some (.cells #[.bool true, .int .i64 b', .int .i64 h', .int .i64 (l'.length : Int), .int .u64 s'] 26 (0, 0)) ∧ (∀ j, w'.cell? ⟨g1, j, none⟩ = #[.bool true, .int .i64 b', .int .i64 h', .int .i64 (l'.length : Int), .int .u64 s'][j]?) ∧ (∀ j, w'.frozen? ⟨g1, j, none⟩ = false) ∧ g1 < w'.heap.size) ∧ w'.cell? ⟨ab, ao + k, none⟩ = some (.int .u16 x) ∧ ab < w'.heap.size ∧ w'.ownsRow w.heap.size 2 1 (.slice A2 l.length cap2) l.length (l.map (Value.int .i64)) ∧ Below w.heap.size w w') ((go_split_ands; exact ⟨blk_all (Eq.trans (b := some (Obj.cells _ _ (0, 0))) (by repeat (first | (with_reducible assumption) | (with_reducible apply heap_set_same) | ((with_reducible apply heap_set_other'); (focus (first | omega | (simp; done) | (simp; omega)))) | ((with_reducible apply heap_alloc_new); (focus (first | omega | (simp; done) | (simp; omega)))) | (with_reducible apply heap_alloc_old') | (with_reducible apply (heap_drew_at _ _).trans) | (with_reducible apply (heap_drewN_at _ _ _).trans))) (by exact rfl)), blk_all (Eq.trans (b := some (Obj.cells _ _ (0, 0))) (by repeat (first | (with_reducible assumption) | (with_reducible apply heap_set_same) | ((with_reducible apply heap_set_other'); (focus (first | omega | (simp; done) | (simp; omega)))) | ((with_reducible apply heap_alloc_new); (focus (first | omega | (simp; done) | (simp; omega)))) | (with_reducible apply heap_alloc_old') | (with_reducible apply (heap_drew_at _ _).trans) | (with_reducible apply (heap_drewN_at _ _ _).trans))) (by exact rfl)), blk_all (Eq.trans (b := some (Obj.cells _ _ (0, 0))) (by repeat (first | (with_reducible assumption) | (with_reducible apply heap_set_same) | ((with_reducible apply heap_set_other'); (focus (first | omega | (simp; done) | (simp; omega)))) | ((with_reducible apply heap_alloc_new); (focus (first | omega | (simp; done) | (simp; omega)))) | (with_reducible apply heap_alloc_old') | (with_reducible apply (heap_drew_at _ _).trans) | (with_reducible apply (heap_drewN_at _ _ _).trans))) (by exact rfl)), ((Below.cell (by go_grown : Below w.heap.size w _) hab).trans Q0.out), (Nat.lt_of_lt_of_le hab (Below.size (by go_grown : Below w.heap.size w _))), (by repeat (first | (with_reducible assumption) | (with_reducible apply own_alloc) | (with_reducible apply World.ownsRow.drew) | (with_reducible apply own_set_other) | (with_reducible apply heap_set_same) | ((with_reducible apply heap_set_other'); (focus (first | omega | (simp; done) | (simp; omega)))) | ((with_reducible apply heap_alloc_new); (focus (first | omega | (simp; done) | (simp; omega)))) | (with_reducible apply heap_alloc_old') | (with_reducible apply (heap_drew_at _ _).trans) | (with_reducible apply (heap_drewN_at _ _ _).trans) | decide)), by first | ((repeat (first | (with_reducible exact Below.refl _ _) | (with_reducible apply Below.drew))); done) | go_grown⟩)) (first | (go_at_call 11; go_split_ands; (with_reducible refine (refTake_own w.heap.size _ _ l l' x y a _ HRT.out (by omega) (by omega) (by first | assumption | exact (by repeat (first | (with_reducible assumption) | (with_reducible apply own_alloc) | (with_reducible apply World.ownsRow.drew) | (with_reducible apply own_set_other) | (with_reducible apply heap_set_same) | ((with_reducible apply heap_set_other'); (focus (first | omega | (simp; done) | (simp; omega)))) | ((with_reducible apply heap_alloc_new); (focus (first | omega | (simp; done) | (simp; omega)))) | (with_reducible apply heap_alloc_old') | (with_reducible apply (heap_drew_at _ _).trans) | (with_reducible apply (heap_drewN_at _ _ _).trans) | decide))) x0 x1 (by omega) (by omega)).mono ?_); rintro e w2 ⟨A3, cap3, rfl, hown3, hb⟩; have hown2 : w2.ownsRow w.heap.size 2 1 (.slice A2 l.length cap2) l.length (l.map (Value.int .i64)) := own_below (by assumption) hb; have hB := below_next (w := w) (by go_grown) hb; have zS := hB.size; have hr0 : w2.heap[w1.heap.size]? = some (.cells #[.bool on, .int .i64 b, .int .i64 h, .int .i64 g, .int .u64 s] 26 (0, 0)) := (hb.block (w1.heap.size) (by first | omega | (simp; done) | (simp; omega))).trans (Eq.trans (b := some (Obj.cells _ _ (0, 0))) (by repeat (first | (with_reducible assumption) | (with_reducible apply heap_set_same) | ((with_reducible apply heap_set_other'); (focus (first | omega | (simp; done) | (simp; omega)))) | ((with_reducible apply heap_alloc_new); (focus (first | omega | (simp; done) | (simp; omega)))) | (with_reducible apply heap_alloc_old') | (with_reducible apply (heap_drew_at _ _).trans) | (with_reducible apply (heap_drewN_at _ _ _).trans))) (by exact rfl)); have hr1 : w2.heap[w1.heap.size + 1]? = some (.cells #[.slice A2 l.length cap2] 29 (0, 0)) := (hb.block (w1.heap.size + 1) (by first | omega | (simp; done) | (simp; omega))).trans (Eq.trans (b := some (Obj.cells _ _ (0, 0))) (by repeat (first | (with_reducible assumption) | (with_reducible apply heap_set_same) | ((with_reducible apply heap_set_other'); (focus (first | omega | (simp; done) | (simp; omega)))) | ((with_reducible apply heap_alloc_new); (focus (first | omega | (simp; done) | (simp; omega)))) | (with_reducible apply heap_alloc_old') | (with_reducible apply (heap_drew_at _ _).trans) | (with_reducible apply (heap_drewN_at _ _ _).trans))) (by exact rfl)); have hr2 : w2.heap[g1]? = some (.cells #[.bool true, .int .i64 b', .int .i64 h', .int .i64 (l'.length : Int), .int .u64 s'] 26 (0, 0)) := (hb.block (g1) (by first | omega | (simp; done) | (simp; omega))).trans (Eq.trans (b := some (Obj.cells _ _ (0, 0))) (by repeat (first | (with_reducible assumption) | (with_reducible apply heap_set_same) | ((with_reducible apply heap_set_other'); (focus (first | omega | (simp; done) | (simp; omega)))) | ((with_reducible apply heap_alloc_new); (focus (first | omega | (simp; done) | (simp; omega)))) | (with_reducible apply heap_alloc_old') | (with_reducible apply (heap_drew_at _ _).trans) | (with_reducible apply (heap_drewN_at _ _ _).trans))) (by exact rfl)); have zr0 := blk_lt hr0; have zr1 := blk_lt hr1; have zr2 := blk_lt hr2; (try first | ((have hn := heap_below hb (by first | omega | (simp; done) | (simp; omega)) hA); clear hA fA cA; have hA := hn; clear hn; obtain ⟨cA, fA, zA⟩ := blk_facts hA) | ((have hn := heap_below hb (by first | omega | (simp; done) | (simp; omega)) (heap_alloc_old' hA)); clear hA fA cA; have hA := hn; clear hn; obtain ⟨cA, fA, zA⟩ := blk_facts hA) | ((have hn := heap_below hb (by first | omega | (simp; done) | (simp; omega)) (heap_alloc_old' (heap_alloc_old' hA))); clear hA fA cA; have hA := hn; clear hn; obtain ⟨cA, fA, zA⟩ := blk_facts hA) | ((have hA := (hb.block (wc.heap.size) (by first | omega | (simp; done) | (simp; omega))).trans (by repeat (first | (with_reducible assumption) | (with_reducible apply heap_set_same) | ((with_reducible apply heap_set_other'); (focus (first | omega | (simp; done) | (simp; omega)))) | ((with_reducible apply heap_alloc_new); (focus (first | omega | (simp; done) | (simp; omega)))) | (with_reducible apply heap_alloc_old') | (with_reducible apply (heap_drew_at _ _).trans) | (with_reducible apply (heap_drewN_at _ _ _).trans)))); obtain ⟨cA, fA, zA⟩ := blk_facts hA) | ((have hA := (hb.block _ (lt_alloc _ _)).trans (heap_alloc_new _ _ _ rfl)); (fail_if_success (have hq : w2.heap[w1.heap.size]? = some _ := hA)); (fail_if_success (have hq : w2.heap[w1.heap.size + 1]? = some _ := hA)); (fail_if_success (have hq : w2.heap[g1]? = some _ := hA)); obtain ⟨cA, fA, zA⟩ := blk_facts hA)); clear hb))
          all_goals (go_wp2_with fail; go_meet; go_split_ands; exact ⟨_, A3, cap3, rfl, rfl, rfl, by omega, by omega, by omega, by omega, (Eq.trans (b := some (Obj.cells _ _ (0, 0))) (by repeat (first | (with_reducible assumption) | (with_reducible apply heap_set_same) | ((with_reducible apply heap_set_other'); (focus (first | omega | (simp; done) | (simp; omega)))) | ((with_reducible apply heap_alloc_new); (focus (first | omega | (simp; done) | (simp; omega)))) | (with_reducible apply heap_alloc_old') | (with_reducible apply (heap_drew_at _ _).trans) | (with_reducible apply (heap_drewN_at _ _ _).trans))) (by exact rfl)), (Eq.trans (b := some (Obj.cells _ _ (0, 0))) (by repeat (first | (with_reducible assumption) | (with_reducible apply heap_set_same) | ((with_reducible apply heap_set_other'); (focus (first | omega | (simp; done) | (simp; omega)))) | ((with_reducible apply heap_alloc_new); (focus (first | omega | (simp; done) | (simp; omega)))) | (with_reducible apply heap_alloc_old') | (with_reducible apply (heap_drew_at _ _).trans) | (with_reducible apply (heap_drewN_at _ _ _).trans))) (by exact rfl)), (Eq.trans (b := some (Obj.cells _ _ (0, 0))) (by repeat (first | (with_reducible assumption) | (with_reducible apply heap_set_same) | ((with_reducible apply heap_set_other'); (focus (first | omega | (simp; done) | (simp; omega)))) | ((with_reducible apply heap_alloc_new); (focus (first | omega | (simp; done) | (simp; omega)))) | (with_reducible apply heap_alloc_old') | (with_reducible apply (heap_drew_at _ _).trans) | (with_reducible apply (heap_drewN_at _ _ _).trans))) (by exact rfl)), (Eq.trans (b := some (Obj.cells _ _ (0, 0))) (by repeat (first | (with_reducible assumption) | (with_reducible apply heap_set_same) | ((with_reducible apply heap_set_other'); (focus (first | omega | (simp; done) | (simp; omega)))) | ((with_reducible apply heap_alloc_new); (focus (first | omega | (simp; done) | (simp; omega)))) | (with_reducible apply heap_alloc_old') | (with_reducible apply (heap_drew_at _ _).trans) | (with_reducible apply (heap_drewN_at _ _ _).trans))) (by exact rfl)), (by repeat (first | (with_reducible assumption) | (with_reducible apply own_alloc) | (with_reducible apply World.ownsRow.drew) | (with_reducible apply own_set_other) | (with_reducible apply heap_set_same) | ((with_reducible apply heap_set_other'); (focus (first | omega | (simp; done) | (simp; omega)))) | ((with_reducible apply heap_alloc_new); (focus (first | omega | (simp; done) | (simp; omega)))) | (with_reducible apply heap_alloc_old') | (with_reducible apply (heap_drew_at _ _).trans) | (with_reducible apply (heap_drewN_at _ _ _).trans) | decide)), by go_grown⟩)
        case rest =>
          obtain ⟨g2, A3, cap3, rfl, rfl, rfl, hn3, hn4, hn5, hl2, h0, h1, h2, h3, hown, hB⟩ := hcut
          clear c0 f0 z0 c1 f1 z1 c2 f2 z2 q0 hb1
          obtain ⟨c0, f0, z0⟩ := blk_facts h0
          obtain ⟨c1, f1, z1⟩ := blk_facts h1
          obtain ⟨c2, f2, z2⟩ := blk_facts h2
          obtain ⟨c3, f3, z3⟩ := blk_facts h3
          have wl : IntKind.i64.wrap (l'.length : Int) = l'.length := i64_in _ (by omega) (by omega)
          have fh1 : -1000000000000 ≤ highF l' := by rw [HH.out]; omega
          have fh2 : highF l' ≤ 1000000000000 := by rw [HH.out]; omega
          have fb1 : -1000000000000 ≤ baseF l' := by rw [HBB.out]; omega
          have fb2 : baseF l' ≤ 1000000000000 := by rw [HBB.out]; omega
          go_upto_region 15 with fail
          go_cut [92] from 23 to 120 (fun s92 wx => s92 = .bool false ∧ wx.heap[w1.heap.size]? = some (.cells #[.bool true, .int .i64 b', .int .i64 h', .int .i64 (l'.length : Int), .int .u64 s'] 26 (0, 0)) ∧ wx.heap[w1.heap.size + 1]? = some (.cells #[.slice A3 l'.length cap3] 29 (0, 0)) ∧ wx.ownsRow w.heap.size 2 1 (.slice A3 l'.length cap3) l'.length (l'.map (Value.int .i64)) ∧ Below w.heap.size w wx)
          case first =>
            go_region_held3 (fun w' => (w'.heap[w1.heap.size]? = some (.cells #[.bool true, .int .i64 b', .int .i64 h', .int .i64 (l'.length : Int), .int .u64 s'] 26 (0, 0)) ∧ (∀ j, w'.cell? ⟨w1.heap.size, j, none⟩ = #[.bool true, .int .i64 b', .int .i64 h', .int .i64 (l'.length : Int), .int .u64 s'][j]?) ∧ (∀ j, w'.frozen? ⟨w1.heap.size, j, none⟩ = false) ∧ w1.heap.size < w'.heap.size) ∧ (w'.heap[w1.heap.size + 1]? = some (.cells #[.slice A3 l'.length cap3] 29 (0, 0)) ∧ (∀ j, w'.cell? ⟨w1.heap.size + 1, j, none⟩ = #[.slice A3 l'.length cap3][j]?) ∧ (∀ j, w'.frozen? ⟨w1.heap.size + 1, j, none⟩ = false) ∧ w1.heap.size + 1 < w'.heap.size) ∧ w'.ownsRow w.heap.size 2 1 (.slice A3 l'.length cap3) l'.length (l'.map (Value.int .i64)) ∧ Below w.heap.size w w') ((go_split_ands; exact ⟨blk_all (Eq.trans (b := some (Obj.cells _ _ (0, 0))) (by repeat (first | (with_reducible assumption) | (with_reducible apply heap_set_same) | ((with_reducible apply heap_set_other'); (focus (first | omega | (simp; done) | (simp; omega)))) | ((with_reducible apply heap_alloc_new); (focus (first | omega | (simp; done) | (simp; omega)))) | (with_reducible apply heap_alloc_old') | (with_reducible apply (heap_drew_at _ _).trans) | (with_reducible apply (heap_drewN_at _ _ _).trans))) (by exact rfl)), blk_all (Eq.trans (b := some (Obj.cells _ _ (0, 0))) (by repeat (first | (with_reducible assumption) | (with_reducible apply heap_set_same) | ((with_reducible apply heap_set_other'); (focus (first | omega | (simp; done) | (simp; omega)))) | ((with_reducible apply heap_alloc_new); (focus (first | omega | (simp; done) | (simp; omega)))) | (with_reducible apply heap_alloc_old') | (with_reducible apply (heap_drew_at _ _).trans) | (with_reducible apply (heap_drewN_at _ _ _).trans))) (by exact rfl)), (by repeat (first | (with_reducible assumption) | (with_reducible apply own_alloc) | (with_reducible apply World.ownsRow.drew) | (with_reducible apply own_set_other) | (with_reducible apply heap_set_same) | ((with_reducible apply heap_set_other'); (focus (first | omega | (simp; done) | (simp; omega)))) | ((with_reducible apply heap_alloc_new); (focus (first | omega | (simp; done) | (simp; omega)))) | (with_reducible apply heap_alloc_old') | (with_reducible apply (heap_drew_at _ _).trans) | (with_reducible apply (heap_drewN_at _ _ _).trans) | decide)), by first | ((repeat (first | (with_reducible exact Below.refl _ _) | (with_reducible apply Below.drew))); done) | go_grown⟩)) (first | (go_at_call 12; go_split_ands; (with_reducible refine (lost_eq _ _ _ _ s' s' r _ rfl HL.out (by omega) (by omega) (by omega) (by omega) (by omega) (by omega) ).mono ?_); rintro e w2 ⟨rfl, hb⟩; have hown3 : w2.ownsRow w.heap.size 2 1 (.slice A3 l'.length cap3) l'.length (l'.map (Value.int .i64)) := own_below (by assumption) hb; have hB := below_next (w := w) (by go_grown) hb; have zS := hB.size; have hr0 : w2.heap[w1.heap.size]? = some (.cells #[.bool true, .int .i64 b', .int .i64 h', .int .i64 (l'.length : Int), .int .u64 s'] 26 (0, 0)) := (hb.block (w1.heap.size) (by first | omega | (simp; done) | (simp; omega))).trans (Eq.trans (b := some (Obj.cells _ _ (0, 0))) (by repeat (first | (with_reducible assumption) | (with_reducible apply heap_set_same) | ((with_reducible apply heap_set_other'); (focus (first | omega | (simp; done) | (simp; omega)))) | ((with_reducible apply heap_alloc_new); (focus (first | omega | (simp; done) | (simp; omega)))) | (with_reducible apply heap_alloc_old') | (with_reducible apply (heap_drew_at _ _).trans) | (with_reducible apply (heap_drewN_at _ _ _).trans))) (by exact rfl)); have hr1 : w2.heap[w1.heap.size + 1]? = some (.cells #[.slice A3 l'.length cap3] 29 (0, 0)) := (hb.block (w1.heap.size + 1) (by first | omega | (simp; done) | (simp; omega))).trans (Eq.trans (b := some (Obj.cells _ _ (0, 0))) (by repeat (first | (with_reducible assumption) | (with_reducible apply heap_set_same) | ((with_reducible apply heap_set_other'); (focus (first | omega | (simp; done) | (simp; omega)))) | ((with_reducible apply heap_alloc_new); (focus (first | omega | (simp; done) | (simp; omega)))) | (with_reducible apply heap_alloc_old') | (with_reducible apply (heap_drew_at _ _).trans) | (with_reducible apply (heap_drewN_at _ _ _).trans))) (by exact rfl)); have zr0 := blk_lt hr0; have zr1 := blk_lt hr1; clear hb) | (go_at_call 13; go_split_ands; (with_reducible refine (refLost_any _ _ _ l' _ rfl hpos (by omega) (show IntsAt _ A3 .i64 l' from ints_own (B := w.heap.size) (e := 2) (n := l'.length) (cap := cap3) (by assumption)) fh1 fh2 fb1 fb2).mono ?_); rintro e w2 ⟨rfl, hb⟩; rw [HLO.out]; have hown3 : w2.ownsRow w.heap.size 2 1 (.slice A3 l'.length cap3) l'.length (l'.map (Value.int .i64)) := own_below (by assumption) hb; have hB := below_next (w := w) (by go_grown) hb; have zS := hB.size; have hr0 : w2.heap[w1.heap.size]? = some (.cells #[.bool true, .int .i64 b', .int .i64 h', .int .i64 (l'.length : Int), .int .u64 s'] 26 (0, 0)) := (hb.block (w1.heap.size) (by first | omega | (simp; done) | (simp; omega))).trans (Eq.trans (b := some (Obj.cells _ _ (0, 0))) (by repeat (first | (with_reducible assumption) | (with_reducible apply heap_set_same) | ((with_reducible apply heap_set_other'); (focus (first | omega | (simp; done) | (simp; omega)))) | ((with_reducible apply heap_alloc_new); (focus (first | omega | (simp; done) | (simp; omega)))) | (with_reducible apply heap_alloc_old') | (with_reducible apply (heap_drew_at _ _).trans) | (with_reducible apply (heap_drewN_at _ _ _).trans))) (by exact rfl)); have hr1 : w2.heap[w1.heap.size + 1]? = some (.cells #[.slice A3 l'.length cap3] 29 (0, 0)) := (hb.block (w1.heap.size + 1) (by first | omega | (simp; done) | (simp; omega))).trans (Eq.trans (b := some (Obj.cells _ _ (0, 0))) (by repeat (first | (with_reducible assumption) | (with_reducible apply heap_set_same) | ((with_reducible apply heap_set_other'); (focus (first | omega | (simp; done) | (simp; omega)))) | ((with_reducible apply heap_alloc_new); (focus (first | omega | (simp; done) | (simp; omega)))) | (with_reducible apply heap_alloc_old') | (with_reducible apply (heap_drew_at _ _).trans) | (with_reducible apply (heap_drewN_at _ _ _).trans))) (by exact rfl)); have zr0 := blk_lt hr0; have zr1 := blk_lt hr1; clear hb) | (go_at_call 14; go_split_ands; (with_reducible refine (High_any _ _ _ l' _ rfl hpos (by omega) (show IntsAt _ A3 .i64 l' from ints_own (B := w.heap.size) (e := 2) (n := l'.length) (cap := cap3) (by assumption))).mono ?_); rintro e w2 ⟨rfl, hb⟩; rw [HH.out]; have hown3 : w2.ownsRow w.heap.size 2 1 (.slice A3 l'.length cap3) l'.length (l'.map (Value.int .i64)) := own_below (by assumption) hb; have hB := below_next (w := w) (by go_grown) hb; have zS := hB.size; have hr0 : w2.heap[w1.heap.size]? = some (.cells #[.bool true, .int .i64 b', .int .i64 h', .int .i64 (l'.length : Int), .int .u64 s'] 26 (0, 0)) := (hb.block (w1.heap.size) (by first | omega | (simp; done) | (simp; omega))).trans (Eq.trans (b := some (Obj.cells _ _ (0, 0))) (by repeat (first | (with_reducible assumption) | (with_reducible apply heap_set_same) | ((with_reducible apply heap_set_other'); (focus (first | omega | (simp; done) | (simp; omega)))) | ((with_reducible apply heap_alloc_new); (focus (first | omega | (simp; done) | (simp; omega)))) | (with_reducible apply heap_alloc_old') | (with_reducible apply (heap_drew_at _ _).trans) | (with_reducible apply (heap_drewN_at _ _ _).trans))) (by exact rfl)); have hr1 : w2.heap[w1.heap.size + 1]? = some (.cells #[.slice A3 l'.length cap3] 29 (0, 0)) := (hb.block (w1.heap.size + 1) (by first | omega | (simp; done) | (simp; omega))).trans (Eq.trans (b := some (Obj.cells _ _ (0, 0))) (by repeat (first | (with_reducible assumption) | (with_reducible apply heap_set_same) | ((with_reducible apply heap_set_other'); (focus (first | omega | (simp; done) | (simp; omega)))) | ((with_reducible apply heap_alloc_new); (focus (first | omega | (simp; done) | (simp; omega)))) | (with_reducible apply heap_alloc_old') | (with_reducible apply (heap_drew_at _ _).trans) | (with_reducible apply (heap_drewN_at _ _ _).trans))) (by exact rfl)); have zr0 := blk_lt hr0; have zr1 := blk_lt hr1; clear hb) | (go_at_call 15; go_split_ands; (with_reducible refine (Base_any _ _ _ l' _ rfl hpos (by omega) (show IntsAt _ A3 .i64 l' from ints_own (B := w.heap.size) (e := 2) (n := l'.length) (cap := cap3) (by assumption))).mono ?_); rintro e w2 ⟨rfl, hb⟩; rw [HBB.out]; have hown3 : w2.ownsRow w.heap.size 2 1 (.slice A3 l'.length cap3) l'.length (l'.map (Value.int .i64)) := own_below (by assumption) hb; have hB := below_next (w := w) (by go_grown) hb; have zS := hB.size; have hr0 : w2.heap[w1.heap.size]? = some (.cells #[.bool true, .int .i64 b', .int .i64 h', .int .i64 (l'.length : Int), .int .u64 s'] 26 (0, 0)) := (hb.block (w1.heap.size) (by first | omega | (simp; done) | (simp; omega))).trans (Eq.trans (b := some (Obj.cells _ _ (0, 0))) (by repeat (first | (with_reducible assumption) | (with_reducible apply heap_set_same) | ((with_reducible apply heap_set_other'); (focus (first | omega | (simp; done) | (simp; omega)))) | ((with_reducible apply heap_alloc_new); (focus (first | omega | (simp; done) | (simp; omega)))) | (with_reducible apply heap_alloc_old') | (with_reducible apply (heap_drew_at _ _).trans) | (with_reducible apply (heap_drewN_at _ _ _).trans))) (by exact rfl)); have hr1 : w2.heap[w1.heap.size + 1]? = some (.cells #[.slice A3 l'.length cap3] 29 (0, 0)) := (hb.block (w1.heap.size + 1) (by first | omega | (simp; done) | (simp; omega))).trans (Eq.trans (b := some (Obj.cells _ _ (0, 0))) (by repeat (first | (with_reducible assumption) | (with_reducible apply heap_set_same) | ((with_reducible apply heap_set_other'); (focus (first | omega | (simp; done) | (simp; omega)))) | ((with_reducible apply heap_alloc_new); (focus (first | omega | (simp; done) | (simp; omega)))) | (with_reducible apply heap_alloc_old') | (with_reducible apply (heap_drew_at _ _).trans) | (with_reducible apply (heap_drewN_at _ _ _).trans))) (by exact rfl)); have zr0 := blk_lt hr0; have zr1 := blk_lt hr1; clear hb))
            all_goals (go_wp2_with fail; go_meet; go_split_ands; exact ⟨rfl, (Eq.trans (b := some (Obj.cells _ _ (0, 0))) (by repeat (first | (with_reducible assumption) | (with_reducible apply heap_set_same) | ((with_reducible apply heap_set_other'); (focus (first | omega | (simp; done) | (simp; omega)))) | ((with_reducible apply heap_alloc_new); (focus (first | omega | (simp; done) | (simp; omega)))) | (with_reducible apply heap_alloc_old') | (with_reducible apply (heap_drew_at _ _).trans) | (with_reducible apply (heap_drewN_at _ _ _).trans))) (by exact rfl)), (Eq.trans (b := some (Obj.cells _ _ (0, 0))) (by repeat (first | (with_reducible assumption) | (with_reducible apply heap_set_same) | ((with_reducible apply heap_set_other'); (focus (first | omega | (simp; done) | (simp; omega)))) | ((with_reducible apply heap_alloc_new); (focus (first | omega | (simp; done) | (simp; omega)))) | (with_reducible apply heap_alloc_old') | (with_reducible apply (heap_drew_at _ _).trans) | (with_reducible apply (heap_drewN_at _ _ _).trans))) (by exact rfl)), (by repeat (first | (with_reducible assumption) | (with_reducible apply own_alloc) | (with_reducible apply World.ownsRow.drew) | (with_reducible apply own_set_other) | (with_reducible apply heap_set_same) | ((with_reducible apply heap_set_other'); (focus (first | omega | (simp; done) | (simp; omega)))) | ((with_reducible apply heap_alloc_new); (focus (first | omega | (simp; done) | (simp; omega)))) | (with_reducible apply heap_alloc_old') | (with_reducible apply (heap_drew_at _ _).trans) | (with_reducible apply (heap_drewN_at _ _ _).trans) | decide)), by go_grown⟩)
          case rest =>
            obtain ⟨rfl, h0, h1, hown, hB⟩ := hcut
            clear c0 f0 z0 c1 f1 z1 c2 f2 z2 c3 f3 z3 h2 h3
            obtain ⟨c0, f0, z0⟩ := blk_facts h0
            obtain ⟨c1, f1, z1⟩ := blk_facts h1
            go_wp2_with fail
            with_reducible refine (miss_eq _ _ _ _ s' s' _ _ rfl rfl (by omega) (by omega) (by omega) (by omega) (by omega) (by omega)  LS'.out).mono ?_
            rintro e w5 ⟨v, rfl, hownm, hb⟩
            have hown5 := own_below hown hb
            clear hown
            (try (have g0 := h0; clear h0 f0 c0))
            (try (have g1 := h1; clear h1 f1 c1))
            have hB := below_next (w := w) (by go_grown) hb
            have h0 : w5.heap[w1.heap.size]? = some (.cells #[.bool true, .int .i64 b', .int .i64 h', .int .i64 (l'.length : Int), .int .u64 s'] 26 (0, 0)) := (hb.block (w1.heap.size) (by first | omega | (simp; done) | (simp; omega))).trans (Eq.trans (b := some (Obj.cells _ _ (0, 0))) (by repeat (first | (with_reducible assumption) | (with_reducible apply heap_set_same) | ((with_reducible apply heap_set_other'); (focus (first | omega | (simp; done) | (simp; omega)))) | ((with_reducible apply heap_alloc_new); (focus (first | omega | (simp; done) | (simp; omega)))) | (with_reducible apply heap_alloc_old') | (with_reducible apply (heap_drew_at _ _).trans) | (with_reducible apply (heap_drewN_at _ _ _).trans))) (by exact rfl))
            have h1 : w5.heap[w1.heap.size + 1]? = some (.cells #[.slice A3 l'.length cap3] 29 (0, 0)) := (hb.block (w1.heap.size + 1) (by first | omega | (simp; done) | (simp; omega))).trans (Eq.trans (b := some (Obj.cells _ _ (0, 0))) (by repeat (first | (with_reducible assumption) | (with_reducible apply heap_set_same) | ((with_reducible apply heap_set_other'); (focus (first | omega | (simp; done) | (simp; omega)))) | ((with_reducible apply heap_alloc_new); (focus (first | omega | (simp; done) | (simp; omega)))) | (with_reducible apply heap_alloc_old') | (with_reducible apply (heap_drew_at _ _).trans) | (with_reducible apply (heap_drewN_at _ _ _).trans))) (by exact rfl))
            clear hb
            (try clear g0)
            obtain ⟨c0, f0, z0⟩ := blk_facts h0
            (try clear g1)
            obtain ⟨c1, f1, z1⟩ := blk_facts h1
            obtain ⟨A5, cap5, rfl⟩ := own_slice hownm
            generalize missF ⟨true, b', h', l'.length, s'⟩ = M at hownm HMI
            go_wp2_with fail
            with_reducible refine (refMiss_any _ _ _ l' _ rfl hpos (by omega) (ints_own hown5) fh1 fh2 fb1 fb2).mono ?_
            rintro e w6 ⟨v, rfl, hownn, hb⟩
            rw [HMI.out] at hownn
            have hown6 := own_below hown5 hb
            have hm6 := Lib.hid (ints_own (own_below hownm hb))
            clear hown5 hownm
            (try (have g0 := h0; clear h0 f0 c0))
            (try (have g1 := h1; clear h1 f1 c1))
            have hB := below_next (w := w) (by go_grown) hb
            have h0 : w6.heap[w1.heap.size]? = some (.cells #[.bool true, .int .i64 b', .int .i64 h', .int .i64 (l'.length : Int), .int .u64 s'] 26 (0, 0)) := (hb.block (w1.heap.size) (by first | omega | (simp; done) | (simp; omega))).trans (Eq.trans (b := some (Obj.cells _ _ (0, 0))) (by repeat (first | (with_reducible assumption) | (with_reducible apply heap_set_same) | ((with_reducible apply heap_set_other'); (focus (first | omega | (simp; done) | (simp; omega)))) | ((with_reducible apply heap_alloc_new); (focus (first | omega | (simp; done) | (simp; omega)))) | (with_reducible apply heap_alloc_old') | (with_reducible apply (heap_drew_at _ _).trans) | (with_reducible apply (heap_drewN_at _ _ _).trans))) (by exact rfl))
            have h1 : w6.heap[w1.heap.size + 1]? = some (.cells #[.slice A3 l'.length cap3] 29 (0, 0)) := (hb.block (w1.heap.size + 1) (by first | omega | (simp; done) | (simp; omega))).trans (Eq.trans (b := some (Obj.cells _ _ (0, 0))) (by repeat (first | (with_reducible assumption) | (with_reducible apply heap_set_same) | ((with_reducible apply heap_set_other'); (focus (first | omega | (simp; done) | (simp; omega)))) | ((with_reducible apply heap_alloc_new); (focus (first | omega | (simp; done) | (simp; omega)))) | (with_reducible apply heap_alloc_old') | (with_reducible apply (heap_drew_at _ _).trans) | (with_reducible apply (heap_drewN_at _ _ _).trans))) (by exact rfl))
            clear hb
            (try clear g0)
            obtain ⟨c0, f0, z0⟩ := blk_facts h0
            (try clear g1)
            obtain ⟨c1, f1, z1⟩ := blk_facts h1
            obtain ⟨A6, cap6, rfl⟩ := own_slice hownn
            have hn6 := Lib.hid (ints_own hownn)
            have hM64 := hownn.1
            have hMB : Hid (∀ x ∈ M, -10000000000000 ≤ x ∧ x ≤ 10000000000000) := Lib.hid (fun x hx => by rw [← HMI.out] at hx; exact refMiss_bd l' x hx (by omega) (by omega))
            clear hownn hM64
            have hM1 : M.length ≤ 64 := by rw [← HMI.out]; exact refMissF_length _
            go_wp2_with fail
            go_loopw [15] (fun i wx => ∃ m : Nat, m ≤ M.length ∧ i = .int .i64 m ∧ Below w6.heap.size w6 wx) (fun i _ => M.length - (intOf i).toNat)
            case atStart => exact ⟨0, by omega, rfl, Below.refl _ _⟩
            case round =>
              obtain ⟨m, hm, rfl, hBx⟩ := hrel
              have h0x := (hBx.block _ z0).trans h0
              have h1x := (hBx.block _ z1).trans h1
              clear h0 c0 f0 h1 c1 f1
              obtain ⟨c0, f0, z0x⟩ := blk_facts h0x
              obtain ⟨c1, f1, z1x⟩ := blk_facts h1x
              by_cases hmt : m < M.length
              · have hlm : m < (miss16 M).length := by simpa [miss16] using hmt
                obtain ⟨b2, o2, hA2, hb2, d0⟩ := hm6.out m hlm
                obtain ⟨b3, o3, hA3, hb3, d1⟩ := hn6.out m hmt
                obtain ⟨v0, v1⟩ := hMB.out (M.getD m 0) (by simp [List.getD, hmt])
                have e1 : (miss16 M).getD m 0 = M.getD m 0 % 65536 := by simp [miss16, List.getD, hmt]
                rw [e1] at d0
                clear e1
                generalize M.getD m 0 = v at *
                subst hA2 hA3
                replace d0 := (hBx.cell (p := ⟨b2, o2 + m, none⟩) hb2).trans d0
                replace d1 := (hBx.cell (p := ⟨b3, o3 + m, none⟩) hb3).trans d1
                have tc := tmod_cases v 65536
                have t0 : -65536 < v.tmod 65536 := by omega
                have t1 : v.tmod 65536 < 65536 := by omega
                have E1 : IntKind.i64.wrap (v.tmod 65536 + 65536) = v.tmod 65536 + 65536 := i64_in _ (by omega) (by omega)
                have E2 : (v.tmod 65536 + 65536).tmod 65536 = v % 65536 := by rw [Int.tmod_eq_emod_of_nonneg (by omega)]; omega
                have E3 : IntKind.i64.wrap (v % 65536) = v % 65536 := i64_in _ (by omega) (by omega)
                have E4 : (v.tmod 65536 + 65536) % 65536 = v % 65536 := by omega
                clear tc
                go_wp2_with fail
                go_quiet (fail)
                go_wp2_with fail
                go_roundw
                case rel => exact ⟨m + 1, by omega, by go_num, below_drewN hBx _⟩
                case measure => simp [intOf]; omega
              · go_wp2_with fail
                go_roundw
                case rel => exact ⟨k + 1, true, b', h', l'.length, s', l', A3, cap3, by omega, by go_num, h0x, h1x, own_below hown6 hBx, by omega, Lib.hid ⟨small_more HSM.out.1 (by omega), HSM.out.2⟩, below_next (w := w) hB hBx⟩
                case measure => simp [intOf]; omega

    · go_wp2_with fail
      go_ret
      exact ⟨rfl, hB⟩
end Go.Proofs.Ytbfmcnidghjajaa
