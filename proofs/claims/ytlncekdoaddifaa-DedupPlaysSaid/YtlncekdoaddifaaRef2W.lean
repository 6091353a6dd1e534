/- The reference's functions that write, walked. -/
import Derived.Test.YtlncekdoaddifaaRefW
namespace Go.Proofs.Ytlncekdoaddifaa
set_option linter.unusedSimpArgs false
set_option linter.unusedVariables false
open Go.RowKit

theorem down_set {w : World} {B : Nat} {A : Option Addr} {c : Nat} {L : List En} {p : Addr} {v : Value} (h : DOwn w B A c L) (hp : p.block < B) : DOwn (w.setCell p v) B A c L := by
  refine ⟨?_, h.2⟩
  rcases h.1 with q | ⟨b, o, cur, rfl, h2, h3⟩
  · exact .inl q
  · have := h.2 b o rfl
    exact .inr ⟨b, o, cur, rfl, heap_set_other' (by omega) h2, h3⟩
theorem lit_d {w : World} {n : Nat} (hn : n = w.heap.size) (x : Int) : ∀ j y, (pCells (new x))[j]? = some y → (w.alloc (.cells #[.int .u64 x, .string ⟨#[]⟩, .bool false] 53)).cell? ((⟨n, 0, none⟩ : Addr).add j) = some y := by
  subst hn
  intro j u hj
  rw [Addr.add_lit, World.cell?_alloc_mark]
  simpa [pCells, new] using hj
def RefSaid (e : Ending) (w' : World) (room : Int) (L' : List En) (k : Int) : Prop := ∃ A' c', e = .returned (.tuple #[.agg #[.slice A' L'.length c', .int .i64 room], .int .i64 k]) ∧ DAt w' A' c' L'
set_option maxRecDepth 100000 in
set_option maxHeartbeats 2000000 in
theorem start_r (w : World) (A : Option Addr) (c room : Nat) (L : List En) (x : Int) (h : DAt w A c L) (hl : L.length ≤ 5000) (hok : Ok L room) (hr0 : 1 ≤ room) (hr1 : room ≤ 4096) (L' : List En) (k : Int) (he : startF L room x = (L', k)) :
    Calls Try.prog 12 #[.agg #[.slice A L.length c, .int .i64 room], .int .u64 x] w fun e w' => RefSaid e w' room L' k ∧ Below w.heap.size w w' := by
  have HD := Lib.hid h; clear h
  have hle := hok.le
  have HE := Lib.hid he; clear he
  have hl5 : L.length ≤ 1000000 := by omega
  have HOK := Lib.hid hok; clear hok
  obtain ⟨i0, hi, hz0, hz1, hz2⟩ := info_parts info53
  have HLn : Hid ((dCells L).length = L.length * 3) := Lib.hid (dCells_length L)
  go_enter Try.func12, Try.ntmps12
  go_wp2_with fail
  (with_reducible refine (find_r _ A c room L x (HD.out.below (by first | (with_reducible exact Below.refl _ _) | go_grown)) (by omega)).mono ?_)
  rintro e w1 ⟨hs, hb⟩
  have hx0 : w1.heap[w.heap.size]? = some (.cells #[.slice A L.length c, .int .i64 room] 28 (0, 0)) := (hb.block _ (by first | omega | (simp; done) | (simp; omega))).trans (Eq.trans (b := some (Obj.cells _ _ (0, 0))) (by repeat (first | (with_reducible assumption) | (with_reducible apply heap_set_row2) | (with_reducible apply heap_set_row3) | (with_reducible apply heap_set_same) | ((with_reducible apply heap_set_other'); (focus (first | omega | (simp; done) | (simp; omega)))) | ((with_reducible apply heap_alloc_new); (focus (first | omega | (simp; done) | (simp; omega)))) | (with_reducible apply heap_alloc_old') | (with_reducible apply (heap_drew_at _ _).trans) | (with_reducible apply (heap_drewN_at _ _ _).trans) | (simp only [List.size_toArray, List.length_cons, List.length_nil]; done))) (by exact rfl))
  have hx1 : w1.heap[w.heap.size + 1]? = some (.cells #[.slice none 0 0, .int .i64 0] 28 (0, 0)) := (hb.block _ (by first | omega | (simp; done) | (simp; omega))).trans (Eq.trans (b := some (Obj.cells _ _ (0, 0))) (by repeat (first | (with_reducible assumption) | (with_reducible apply heap_set_row2) | (with_reducible apply heap_set_row3) | (with_reducible apply heap_set_same) | ((with_reducible apply heap_set_other'); (focus (first | omega | (simp; done) | (simp; omega)))) | ((with_reducible apply heap_alloc_new); (focus (first | omega | (simp; done) | (simp; omega)))) | (with_reducible apply heap_alloc_old') | (with_reducible apply (heap_drew_at _ _).trans) | (with_reducible apply (heap_drewN_at _ _ _).trans) | (simp only [List.size_toArray, List.length_cons, List.length_nil]; done))) (by exact rfl))
  have hB := below_next (w := w) (by go_grown) hb
  clear hb
  obtain ⟨c0, f0, z0⟩ := blk_facts hx0
  obtain ⟨c1, f1, z1⟩ := blk_facts hx1
  have zz0 : w.heap.size + 1 < w1.heap.size := z1
  have hD1 := HD.out.below hB
  rcases hs with ⟨rfl, hn⟩ | ⟨i, hi', rfl, hn, _⟩
  · have hns : ¬ (findF L x).isSome = true := by rw [hn]; simp
    have hBw : Below w1.heap.size w1 w1 := Below.refl _ _
    have hown : w1.ownsRow w1.heap.size 53 3 (.slice none 0 0) 0 [] := World.ownsRow_nil _ _ _ _
    have hsrc := Lib.hid hD1.src
    have zB := hB.size
    by_cases hc : L.length = room
    · cases L with
      | nil => simp at hc; omega
      | cons e r =>
        have hr : r.length + 1 = room := by simpa using hc
        have hlr : r.length + 1 ≤ 5000 := by simpa using hl
        have hle2 : (room : Int) ≤ (r.length : Int) + 1 := by omega
        have HR := Lib.hid hr; clear hr hc
        cases hd : e.done with
        | false =>
          have hv := HE.out
          unfold startF at hv
          rw [if_neg hns, if_pos (by simpa using HR.out)] at hv
          simp only [hd] at hv
          cases hv
          go_wp2_with (first
            | ((at_builtin; refine wpList_append_src _ rfl (.tmp 12) (.tmp 14) 26 rfl w1.heap.size 53 i0 ((.agg #[.int .u64 0, .string ⟨#[]⟩, .bool false])) 3 32 Try.underlying26 hi hz0 hz1 hz2 rfl (by decide) _ _ _ rfl hown _ _ _ (dCells (e :: r)) rfl HLn.out hsrc.out (dCells_one _) (by unfold maxLen; first | omega | (simp only [List.length_append, List.length_cons]; omega)) (by first | omega | (simp only [List.length_append, List.length_cons]; omega)) (by have := hBw.size; first | omega | (simp; omega)) ?_; intro v2 w2 hown1 hgrow1)
               have hown0 : w2.ownsRow w1.heap.size 53 3 v2 (r.length + 1) (dCells (e :: r)) := by simpa using hown1
               clear hown1
               obtain ⟨A2, cap2, rfl⟩ := own_slice hown0
               have hD2 := (dat_own hown0).1
               have hB2 : Below w1.heap.size w1 w2 := below_grown hBw (Nat.le_refl _) hown hgrow1
               have g0 := block_grown (t := 28) hown hgrow1 hx0 (by decide)
               have g1 := block_grown (t := 28) hown hgrow1 hx1 (by decide)
               clear hx0 hx1 c0 f0 z0 c1 f1 z1 hown0 hown hgrow1 hsrc
               have zw := hB2.size
               have hx0 := g0
               have hx1 := g1
               clear g0 g1
               obtain ⟨c0, f0, z0⟩ := blk_facts hx0
               obtain ⟨c1, f1, z1⟩ := blk_facts hx1
               obtain ⟨b2, o2, cur, e2, hh, hcp, _, _, hcc⟩ : ∃ b o cur, A2 = some ⟨b, o, none⟩ ∧ w2.heap[b]? = some (.cells cur 53 (0, 0)) ∧ (e :: r).length ≤ cap2 ∧ cap2 ≤ maxLen ∧ o + cap2 * 3 ≤ cur.size ∧ ∀ j u, (dCells (e :: r))[j]? = some u → cur[o + j]? = some u := (by rcases hD2.1 with ⟨q, _⟩ | q; cases q; exact q)
               subst e2
               have d2 := ((blk_facts hh).1 (o2 + 2)).trans (hcc 2 (.bool e.done) rfl)
               rw [hd] at d2
               have zb := blk_lt hh
               clear hcc))
          (try simp only [Exit.inBlock, Exit.then])
          refine ret_cell_tmp rfl rfl Try.underlying28 rfl rfl ⟨_, _, (by repeat (first | (with_reducible assumption) | (with_reducible apply heap_set_row2) | (with_reducible apply heap_set_row3) | (with_reducible apply heap_set_same) | ((with_reducible apply heap_set_other'); (focus (first | omega | (simp; done) | (simp; omega)))) | ((with_reducible apply heap_alloc_new); (focus (first | omega | (simp; done) | (simp; omega)))) | (with_reducible apply heap_alloc_old') | (with_reducible apply (heap_drew_at _ _).trans) | (with_reducible apply (heap_drewN_at _ _ _).trans) | (simp only [List.size_toArray, List.length_cons, List.length_nil]; done))), (by kernel_rfl), ?_, ?_⟩
          · exact ⟨_, _, rfl, HD.out.below (((hB.trans (hB2.mono zB)).setCell (p := ⟨w.heap.size + 1, 0, none⟩) (by show w.heap.size ≤ w.heap.size + 1; omega) _).setCell (p := ⟨w.heap.size + 1, 1, none⟩) (by show w.heap.size ≤ w.heap.size + 1; omega) _)⟩
          · exact (((hB.trans (hB2.mono zB)).setCell (p := ⟨w.heap.size + 1, 0, none⟩) (by show w.heap.size ≤ w.heap.size + 1; omega) _).setCell (p := ⟨w.heap.size + 1, 1, none⟩) (by show w.heap.size ≤ w.heap.size + 1; omega) _)
        | true =>
          have hv := HE.out
          unfold startF at hv
          rw [if_neg hns, if_pos (by simpa using HR.out)] at hv
          simp only [hd] at hv
          cases hv
          go_upto_region 5 with (first
            | ((at_builtin; refine wpList_append_src _ rfl (.tmp 12) (.tmp 14) 26 rfl w1.heap.size 53 i0 ((.agg #[.int .u64 0, .string ⟨#[]⟩, .bool false])) 3 32 Try.underlying26 hi hz0 hz1 hz2 rfl (by decide) _ _ _ rfl hown _ _ _ (dCells (e :: r)) rfl HLn.out hsrc.out (dCells_one _) (by unfold maxLen; first | omega | (simp only [List.length_append, List.length_cons]; omega)) (by first | omega | (simp only [List.length_append, List.length_cons]; omega)) (by have := hBw.size; first | omega | (simp; omega)) ?_; intro v2 w2 hown1 hgrow1)
               have hown0 : w2.ownsRow w1.heap.size 53 3 v2 (r.length + 1) (dCells (e :: r)) := by simpa using hown1
               clear hown1
               obtain ⟨A2, cap2, rfl⟩ := own_slice hown0
               have hD2 := (dat_own hown0).1
               have hB2 : Below w1.heap.size w1 w2 := below_grown hBw (Nat.le_refl _) hown hgrow1
               have g0 := block_grown (t := 28) hown hgrow1 hx0 (by decide)
               have g1 := block_grown (t := 28) hown hgrow1 hx1 (by decide)
               clear hx0 hx1 c0 f0 z0 c1 f1 z1 hown0 hown hgrow1 hsrc
               have zw := hB2.size
               have hx0 := g0
               have hx1 := g1
               clear g0 g1
               obtain ⟨c0, f0, z0⟩ := blk_facts hx0
               obtain ⟨c1, f1, z1⟩ := blk_facts hx1
               obtain ⟨b2, o2, cur, e2, hh, hcp, _, _, hcc⟩ : ∃ b o cur, A2 = some ⟨b, o, none⟩ ∧ w2.heap[b]? = some (.cells cur 53 (0, 0)) ∧ (e :: r).length ≤ cap2 ∧ cap2 ≤ maxLen ∧ o + cap2 * 3 ≤ cur.size ∧ ∀ j u, (dCells (e :: r))[j]? = some u → cur[o + j]? = some u := (by rcases hD2.1 with ⟨q, _⟩ | q; cases q; exact q)
               subst e2
               have d2 := ((blk_facts hh).1 (o2 + 2)).trans (hcc 2 (.bool e.done) rfl)
               rw [hd] at d2
               have zb := blk_lt hh
               clear hcc))
          by_cases hc1 : cap2 = 1
          · subst hc1
            obtain ⟨hrn, hD3⟩ := down_nil hD2
            have hr0 : r.length = 0 := by rw [hrn]; rfl
            have hroom1 : (room : Int) ≤ 1 := by have := HR.out; omega
            subst hrn
            go_wp2_with (first
              | ((at_builtin; refine wpList_append_d _ rfl (.tmp 29) (.tmp 32) 26 rfl w1.heap.size i0 (.agg #[.int .u64 0, .string ⟨#[]⟩, .bool false]) Try.underlying26 hi hz0 hz1 hz2 rfl (some ⟨b2, o2, none⟩) 0 0 ([] : List En) (new x) rfl rfl (hD3.alloc _) ⟨_, 0, none⟩ 1 rfl (by first | exact lit_d (by simp) _ | exact lit_d rfl _) (by first | exact hl5 | omega | simp) (by first | omega | (have := hBw.size; simp; omega)) w1 (Below.alloc hB2 zw _) ?_; intro A3 c3 w3 hD4 hB4 hk)
                 have g0 := hk _ _ 28 (by decide) (heap_alloc_old' hx0)
                 have g1 := hk _ _ 28 (by decide) (heap_alloc_old' hx1)
                 clear hx0 hx1 c0 f0 z0 c1 f1 z1 hk
                 have hx0 := g0
                 have hx1 := g1
                 clear g0 g1
                 obtain ⟨c0, f0, z0⟩ := blk_facts hx0
                 obtain ⟨c1, f1, z1⟩ := blk_facts hx1))
            (try simp only [Exit.inBlock, Exit.then])
            refine ret_cell_tmp rfl rfl Try.underlying28 rfl rfl ⟨_, _, (by repeat (first | (with_reducible assumption) | (with_reducible apply heap_set_row2) | (with_reducible apply heap_set_row3) | (with_reducible apply heap_set_same) | ((with_reducible apply heap_set_other'); (focus (first | omega | (simp; done) | (simp; omega)))) | ((with_reducible apply heap_alloc_new); (focus (first | omega | (simp; done) | (simp; omega)))) | (with_reducible apply heap_alloc_old') | (with_reducible apply (heap_drew_at _ _).trans) | (with_reducible apply (heap_drewN_at _ _ _).trans) | (simp only [List.size_toArray, List.length_cons, List.length_nil]; done))), (by kernel_rfl), ?_, ?_⟩
            · exact ⟨A3, c3, by simp, (down_set (down_set (down_set hD4 (by show w.heap.size < w1.heap.size; omega)) (by show w.heap.size + 1 < w1.heap.size; omega)) (by show w.heap.size + 1 < w1.heap.size; omega)).1⟩
            · exact (((hB.trans (hB4.mono zB)).setCell (p := ⟨w.heap.size, 0, none⟩) (Nat.le_refl _) _).setCell (p := ⟨w.heap.size + 1, 0, none⟩) (by show w.heap.size ≤ w.heap.size + 1; omega) _).setCell (p := ⟨w.heap.size + 1, 1, none⟩) (by show w.heap.size ≤ w.heap.size + 1; omega) _
          · have hD3 := down_tail hD2 hc1
            have hc2 : 1 < cap2 := by rw [List.length_cons] at hcp; omega
            go_wp2_with (first
              | ((at_builtin; refine wpList_append_d _ rfl (.tmp 29) (.tmp 32) 26 rfl w1.heap.size i0 (.agg #[.int .u64 0, .string ⟨#[]⟩, .bool false]) Try.underlying26 hi hz0 hz1 hz2 rfl _ _ _ _ (new x) (by first | rfl | omega | simp) rfl (hD3.alloc _) ⟨_, 0, none⟩ 1 rfl (by first | exact lit_d (by simp) _ | exact lit_d rfl _) (by first | exact hl5 | omega | simp) (by first | omega | (have := hBw.size; simp; omega)) w1 (Below.alloc hB2 zw _) ?_; intro A3 c3 w3 hD4 hB4 hk)
                 have g0 := hk _ _ 28 (by decide) (heap_alloc_old' hx0)
                 have g1 := hk _ _ 28 (by decide) (heap_alloc_old' hx1)
                 clear hx0 hx1 c0 f0 z0 c1 f1 z1 hk
                 have hx0 := g0
                 have hx1 := g1
                 clear g0 g1
                 obtain ⟨c0, f0, z0⟩ := blk_facts hx0
                 obtain ⟨c1, f1, z1⟩ := blk_facts hx1))
            (try simp only [Exit.inBlock, Exit.then])
            refine ret_cell_tmp rfl rfl Try.underlying28 rfl rfl ⟨_, _, (by repeat (first | (with_reducible assumption) | (with_reducible apply heap_set_row2) | (with_reducible apply heap_set_row3) | (with_reducible apply heap_set_same) | ((with_reducible apply heap_set_other'); (focus (first | omega | (simp; done) | (simp; omega)))) | ((with_reducible apply heap_alloc_new); (focus (first | omega | (simp; done) | (simp; omega)))) | (with_reducible apply heap_alloc_old') | (with_reducible apply (heap_drew_at _ _).trans) | (with_reducible apply (heap_drewN_at _ _ _).trans) | (simp only [List.size_toArray, List.length_cons, List.length_nil]; done))), (by kernel_rfl), ?_, ?_⟩
            · exact ⟨A3, c3, by simp, (down_set (down_set (down_set hD4 (by show w.heap.size < w1.heap.size; omega)) (by show w.heap.size + 1 < w1.heap.size; omega)) (by show w.heap.size + 1 < w1.heap.size; omega)).1⟩
            · exact (((hB.trans (hB4.mono zB)).setCell (p := ⟨w.heap.size, 0, none⟩) (Nat.le_refl _) _).setCell (p := ⟨w.heap.size + 1, 0, none⟩) (by show w.heap.size ≤ w.heap.size + 1; omega) _).setCell (p := ⟨w.heap.size + 1, 1, none⟩) (by show w.heap.size ≤ w.heap.size + 1; omega) _
    · have hv := HE.out
      unfold startF at hv
      rw [if_neg hns, if_neg hc] at hv
      cases hv
      have hlt : (L.length : Int) < (room : Int) := by omega
      go_wp2_with (first
        | ((at_builtin; refine wpList_append_src _ rfl (.tmp 12) (.tmp 14) 26 rfl w1.heap.size 53 i0 ((.agg #[.int .u64 0, .string ⟨#[]⟩, .bool false])) 3 32 Try.underlying26 hi hz0 hz1 hz2 rfl (by decide) _ _ _ rfl hown _ _ _ (dCells L) rfl HLn.out hsrc.out (dCells_one _) (by unfold maxLen; first | omega | (simp only [List.length_append, List.length_cons]; omega)) (by first | omega | (simp only [List.length_append, List.length_cons]; omega)) (by have := hBw.size; first | omega | (simp; omega)) ?_; intro v2 w2 hown1 hgrow1)
           have hown0 : w2.ownsRow w1.heap.size 53 3 v2 L.length (dCells L) := by simpa using hown1
           clear hown1
           obtain ⟨A2, cap2, rfl⟩ := own_slice hown0
           have hD2 := (dat_own hown0).1
           have hB2 : Below w1.heap.size w1 w2 := below_grown hBw (Nat.le_refl _) hown hgrow1
           have g0 := block_grown (t := 28) hown hgrow1 hx0 (by decide)
           have g1 := block_grown (t := 28) hown hgrow1 hx1 (by decide)
           clear hx0 hx1 c0 f0 z0 c1 f1 z1 hown0 hown hgrow1 hsrc
           have zw := hB2.size
           have hx0 := g0
           have hx1 := g1
           clear g0 g1
           obtain ⟨c0, f0, z0⟩ := blk_facts hx0
           obtain ⟨c1, f1, z1⟩ := blk_facts hx1)
        | ((at_builtin; refine wpList_append_d _ rfl (.tmp 29) (.tmp 32) 26 rfl w1.heap.size i0 (.agg #[.int .u64 0, .string ⟨#[]⟩, .bool false]) Try.underlying26 hi hz0 hz1 hz2 rfl _ _ _ _ (new x) rfl rfl (hD2.alloc _) ⟨_, 0, none⟩ 1 rfl (by first | exact lit_d (by simp) _ | exact lit_d rfl _) (by first | exact hl5 | omega | simp) (by first | omega | (have := hBw.size; simp; omega)) w1 (Below.alloc hB2 zw _) ?_; intro A3 c3 w3 hD4 hB4 hk)
           have g0 := hk _ _ 28 (by decide) (heap_alloc_old' hx0)
           have g1 := hk _ _ 28 (by decide) (heap_alloc_old' hx1)
           clear hx0 hx1 c0 f0 z0 c1 f1 z1 hk
           have hx0 := g0
           have hx1 := g1
           clear g0 g1
           obtain ⟨c0, f0, z0⟩ := blk_facts hx0
           obtain ⟨c1, f1, z1⟩ := blk_facts hx1))
      (try simp only [Exit.inBlock, Exit.then])
      refine ret_cell_tmp rfl rfl Try.underlying28 rfl rfl ⟨_, _, (by repeat (first | (with_reducible assumption) | (with_reducible apply heap_set_row2) | (with_reducible apply heap_set_row3) | (with_reducible apply heap_set_same) | ((with_reducible apply heap_set_other'); (focus (first | omega | (simp; done) | (simp; omega)))) | ((with_reducible apply heap_alloc_new); (focus (first | omega | (simp; done) | (simp; omega)))) | (with_reducible apply heap_alloc_old') | (with_reducible apply (heap_drew_at _ _).trans) | (with_reducible apply (heap_drewN_at _ _ _).trans) | (simp only [List.size_toArray, List.length_cons, List.length_nil]; done))), (by kernel_rfl), ?_, ?_⟩
      · exact ⟨A3, c3, by simp, (down_set (down_set (down_set hD4 (by show w.heap.size < w1.heap.size; omega)) (by show w.heap.size + 1 < w1.heap.size; omega)) (by show w.heap.size + 1 < w1.heap.size; omega)).1⟩
      · exact (((hB.trans (hB4.mono zB)).setCell (p := ⟨w.heap.size, 0, none⟩) (Nat.le_refl _) _).setCell (p := ⟨w.heap.size + 1, 0, none⟩) (by show w.heap.size ≤ w.heap.size + 1; omega) _).setCell (p := ⟨w.heap.size + 1, 1, none⟩) (by show w.heap.size ≤ w.heap.size + 1; omega) _
  · have hv := HE.out
    unfold startF at hv
    rw [if_pos (by rw [hn]; rfl)] at hv
    cases hv
    have hge : (0 : Int) ≤ (i : Int) := by omega
    go_wp2_with fail
    (try simp only [Exit.inBlock, Exit.then])
    refine ret_cell_tmp rfl rfl Try.underlying28 rfl rfl ⟨_, _, (by repeat (first | (with_reducible assumption) | (with_reducible apply heap_set_row2) | (with_reducible apply heap_set_row3) | (with_reducible apply heap_set_same) | ((with_reducible apply heap_set_other'); (focus (first | omega | (simp; done) | (simp; omega)))) | ((with_reducible apply heap_alloc_new); (focus (first | omega | (simp; done) | (simp; omega)))) | (with_reducible apply heap_alloc_old') | (with_reducible apply (heap_drew_at _ _).trans) | (with_reducible apply (heap_drewN_at _ _ _).trans) | (simp only [List.size_toArray, List.length_cons, List.length_nil]; done))), (by kernel_rfl), ?_, ?_⟩
    · exact ⟨_, _, rfl, HD.out.below ((hB.setCell (p := ⟨w.heap.size + 1, 0, none⟩) (by show w.heap.size ≤ w.heap.size + 1; omega) _).setCell (p := ⟨w.heap.size + 1, 1, none⟩) (by show w.heap.size ≤ w.heap.size + 1; omega) _)⟩
    · exact ((hB.setCell (p := ⟨w.heap.size + 1, 0, none⟩) (by show w.heap.size ≤ w.heap.size + 1; omega) _).setCell (p := ⟨w.heap.size + 1, 1, none⟩) (by show w.heap.size ≤ w.heap.size + 1; omega) _)
theorem set_at {L : List En} {x : Int} {a : ByteArray} {i : Nat} (hi : i < L.length) (h : (L.map En.id).Nodup) (hx : L[i].id = x) : setF L x a = L.set i ⟨x, a, true⟩ := by
  unfold setF
  apply List.ext_getElem (by simp)
  intro j h1 h2
  rw [List.getElem_map, List.getElem_set]
  have hj : j < L.length := by simpa using h1
  by_cases e : i = j
  · subst e
    rw [if_pos hx, if_pos rfl]
  · rw [if_neg e, if_neg]
    intro q
    have := List.getElem_inj (h₀ := by simpa using hi) (h₁ := by simpa using hj) h (i := i) (j := j)
    simp only [List.getElem_map] at this
    exact e (this.1 (by rw [hx, q]))
theorem down_put {w : World} {B b o c : Nat} {L : List En} {i : Nat} (h : DOwn w B (some ⟨b, o, none⟩) c L) (hi : i < L.length) (p : En) :
    DOwn (((w.setCell ⟨b, o + i * 3, none⟩ (.int .u64 p.id)).setCell ⟨b, o + i * 3 + 1, none⟩ (.string p.ans)).setCell ⟨b, o + i * 3 + 2, none⟩ (.bool p.done)) B (some ⟨b, o, none⟩) c (L.set i p) := by
  refine ⟨?_, h.2⟩
  rcases h.1 with ⟨rfl, _, _⟩ | ⟨b', o', cur, e, h2, h3, h4, h5, h6⟩
  · simp at hi
  · cases e
    refine .inr ⟨_, _, _, rfl, heap_set_same _ _ (heap_set_same _ _ (heap_set_same _ _ h2)), by simpa using h3, h4, by simpa using h5, fun j u hj => ?_⟩
    have hdl := dCells_length L
    rw [← dCells_set L i hi p, List.getElem?_set, List.getElem?_set, List.getElem?_set] at hj
    simp only [List.length_set] at hj
    simp only [Array.getElem?_setIfInBounds, Array.size_setIfInBounds]
    by_cases q2 : i * 3 + 2 = j
    · rw [if_pos q2, if_pos (by omega)] at hj
      rw [if_pos (by omega), if_pos (by omega)]
      exact hj
    · rw [if_neg q2] at hj
      rw [if_neg (by omega)]
      by_cases q1 : i * 3 + 1 = j
      · rw [if_pos q1, if_pos (by omega)] at hj
        rw [if_pos (by omega), if_pos (by omega)]
        exact hj
      · rw [if_neg q1] at hj
        rw [if_neg (by omega)]
        by_cases q0 : i * 3 = j
        · rw [if_pos q0, if_pos (by omega)] at hj
          rw [if_pos (by omega), if_pos (by omega)]
          exact hj
        · rw [if_neg q0] at hj
          rw [if_neg (by omega)]
          exact h6 j u hj
set_option maxRecDepth 100000 in
set_option maxHeartbeats 2000000 in
theorem end_r (w : World) (A : Option Addr) (c room : Nat) (L : List En) (x : Int) (s : ByteArray) (h : DAt w A c L) (hl : L.length ≤ 5000) (hok : Ok L room) (L' : List En) (k : Int) (he : endF L x s = (L', k)) :
    Calls Try.prog 10 #[.agg #[.slice A L.length c, .int .i64 room], .int .u64 x, .string s] w fun e w' => RefSaid e w' room L' k ∧ Below w.heap.size w w' := by
  have HD := Lib.hid h; clear h
  have HE := Lib.hid he; clear he
  have HOK := Lib.hid hok; clear hok
  have hl5 : L.length ≤ 1000000 := by omega
  obtain ⟨i0, hi, hz0, hz1, hz2⟩ := info_parts info53
  have HLn : Hid ((dCells L).length = L.length * 3) := Lib.hid (dCells_length L)
  go_enter Try.func10, Try.ntmps10
  go_wp2_with fail
  (with_reducible refine (find_r _ A c room L x (HD.out.below (by first | (with_reducible exact Below.refl _ _) | go_grown)) (by omega)).mono ?_)
  rintro e w1 ⟨hs, hb⟩
  have hx0 : w1.heap[w.heap.size]? = some (.cells #[.slice A L.length c, .int .i64 room] 28 (0, 0)) := (hb.block _ (by first | omega | (simp; done) | (simp; omega))).trans (Eq.trans (b := some (Obj.cells _ _ (0, 0))) (by repeat (first | (with_reducible assumption) | (with_reducible apply heap_set_row2) | (with_reducible apply heap_set_row3) | (with_reducible apply heap_set_same) | ((with_reducible apply heap_set_other'); (focus (first | omega | (simp; done) | (simp; omega)))) | ((with_reducible apply heap_alloc_new); (focus (first | omega | (simp; done) | (simp; omega)))) | (with_reducible apply heap_alloc_old') | (with_reducible apply (heap_drew_at _ _).trans) | (with_reducible apply (heap_drewN_at _ _ _).trans) | (simp only [List.size_toArray, List.length_cons, List.length_nil]; done))) (by exact rfl))
  have hx1 : w1.heap[w.heap.size + 1]? = some (.cells #[.slice none 0 0, .int .i64 0] 28 (0, 0)) := (hb.block _ (by first | omega | (simp; done) | (simp; omega))).trans (Eq.trans (b := some (Obj.cells _ _ (0, 0))) (by repeat (first | (with_reducible assumption) | (with_reducible apply heap_set_row2) | (with_reducible apply heap_set_row3) | (with_reducible apply heap_set_same) | ((with_reducible apply heap_set_other'); (focus (first | omega | (simp; done) | (simp; omega)))) | ((with_reducible apply heap_alloc_new); (focus (first | omega | (simp; done) | (simp; omega)))) | (with_reducible apply heap_alloc_old') | (with_reducible apply (heap_drew_at _ _).trans) | (with_reducible apply (heap_drewN_at _ _ _).trans) | (simp only [List.size_toArray, List.length_cons, List.length_nil]; done))) (by exact rfl))
  have hB := below_next (w := w) (by go_grown) hb
  clear hb
  obtain ⟨c0, f0, z0⟩ := blk_facts hx0
  obtain ⟨c1, f1, z1⟩ := blk_facts hx1
  have zz0 : w.heap.size + 1 < w1.heap.size := z1
  have hD1 := HD.out.below hB
  rcases hs with ⟨rfl, hn⟩ | ⟨i, hi', rfl, hn, hix⟩
  · have hv := HE.out
    unfold endF at hv
    rw [hn] at hv
    cases hv
    go_wp2_with fail
    (try simp only [Exit.inBlock, Exit.then])
    refine ret_cell_tmp rfl rfl Try.underlying28 rfl rfl ⟨_, _, (by repeat (first | (with_reducible assumption) | (with_reducible apply heap_set_row2) | (with_reducible apply heap_set_row3) | (with_reducible apply heap_set_same) | ((with_reducible apply heap_set_other'); (focus (first | omega | (simp; done) | (simp; omega)))) | ((with_reducible apply heap_alloc_new); (focus (first | omega | (simp; done) | (simp; omega)))) | (with_reducible apply heap_alloc_old') | (with_reducible apply (heap_drew_at _ _).trans) | (with_reducible apply (heap_drewN_at _ _ _).trans) | (simp only [List.size_toArray, List.length_cons, List.length_nil]; done))), (by kernel_rfl), ?_, ?_⟩
    · exact ⟨_, _, rfl, HD.out.below ((hB.setCell (p := ⟨w.heap.size + 1, 0, none⟩) (by show w.heap.size ≤ w.heap.size + 1; omega) _).setCell (p := ⟨w.heap.size + 1, 1, none⟩) (by show w.heap.size ≤ w.heap.size + 1; omega) _)⟩
    · exact ((hB.setCell (p := ⟨w.heap.size + 1, 0, none⟩) (by show w.heap.size ≤ w.heap.size + 1; omega) _).setCell (p := ⟨w.heap.size + 1, 1, none⟩) (by show w.heap.size ≤ w.heap.size + 1; omega) _)
  · have hBw : Below w1.heap.size w1 w1 := Below.refl _ _
    have hown : w1.ownsRow w1.heap.size 53 3 (.slice none 0 0) 0 [] := World.ownsRow_nil _ _ _ _
    have hsrc := Lib.hid hD1.src
    have zB := hB.size
    have hge : (0 : Int) ≤ (i : Int) := by omega
    obtain ⟨b, o, cur, rfl, hh, _, _, _, hcc⟩ : ∃ b o cur, A = some ⟨b, o, none⟩ ∧ w1.heap[b]? = some (.cells cur 53 (0, 0)) ∧ L.length ≤ c ∧ c ≤ maxLen ∧ o + c * 3 ≤ cur.size ∧ ∀ j u, (dCells L)[j]? = some u → cur[o + j]? = some u := (by rcases hD1 with ⟨q, _⟩ | q; subst q; simp at hi'; exact q)
    have d2 := ((blk_facts hh).1 (o + (i * 3 + 2))).trans (hcc _ _ (dCells_get L i hi').2.2)
    rw [← Nat.add_assoc] at d2
    have zb1 := blk_lt hh
    have HIX := Lib.hid hix; clear hix
    clear hcc hh hD1
    cases hd : L[i].done with
    | true =>
      rw [hd] at d2
      have hv := HE.out
      unfold endF at hv
      rw [hn] at hv
      simp only [hd, if_true] at hv
      cases hv
      go_wp2_with fail
      (try simp only [Exit.inBlock, Exit.then])
      refine ret_cell_tmp rfl rfl Try.underlying28 rfl rfl ⟨_, _, (by repeat (first | (with_reducible assumption) | (with_reducible apply heap_set_row2) | (with_reducible apply heap_set_row3) | (with_reducible apply heap_set_same) | ((with_reducible apply heap_set_other'); (focus (first | omega | (simp; done) | (simp; omega)))) | ((with_reducible apply heap_alloc_new); (focus (first | omega | (simp; done) | (simp; omega)))) | (with_reducible apply heap_alloc_old') | (with_reducible apply (heap_drew_at _ _).trans) | (with_reducible apply (heap_drewN_at _ _ _).trans) | (simp only [List.size_toArray, List.length_cons, List.length_nil]; done))), (by kernel_rfl), ?_, ?_⟩
      · exact ⟨_, _, rfl, HD.out.below ((hB.setCell (p := ⟨w.heap.size + 1, 0, none⟩) (by show w.heap.size ≤ w.heap.size + 1; omega) _).setCell (p := ⟨w.heap.size + 1, 1, none⟩) (by show w.heap.size ≤ w.heap.size + 1; omega) _)⟩
      · exact ((hB.setCell (p := ⟨w.heap.size + 1, 0, none⟩) (by show w.heap.size ≤ w.heap.size + 1; omega) _).setCell (p := ⟨w.heap.size + 1, 1, none⟩) (by show w.heap.size ≤ w.heap.size + 1; omega) _)
    | false =>
      rw [hd] at d2
      have hv := HE.out
      unfold endF at hv
      rw [hn] at hv
      simp only [hd] at hv
      have hset := Lib.hid (set_at (a := s) hi' HOK.out.nd HIX.out)
      obtain ⟨rfl, rfl⟩ : L' = setF L x s ∧ k = 0 := by
        simp at hv
        exact ⟨hv.1.symm, hv.2.symm⟩
      clear hd hv hn
      go_wp2_with (first
        | ((at_builtin; refine wpList_append_src _ rfl (.tmp 23) (.tmp 25) 26 rfl w1.heap.size 53 i0 ((.agg #[.int .u64 0, .string ⟨#[]⟩, .bool false])) 3 32 Try.underlying26 hi hz0 hz1 hz2 rfl (by decide) _ _ _ rfl hown _ _ _ (dCells L) rfl HLn.out hsrc.out (dCells_one _) (by unfold maxLen; first | omega | (simp only [List.length_append, List.length_cons]; omega)) (by first | omega | (simp only [List.length_append, List.length_cons]; omega)) (by have := hBw.size; first | omega | (simp; omega)) ?_; intro v2 w2 hown1 hgrow1)
           have hown0 : w2.ownsRow w1.heap.size 53 3 v2 L.length (dCells L) := by simpa using hown1
           clear hown1
           obtain ⟨A2, cap2, rfl⟩ := own_slice hown0
           have hD2 := (dat_own hown0).1
           have hB2 : Below w1.heap.size w1 w2 := below_grown hBw (Nat.le_refl _) hown hgrow1
           have g0 := block_grown (t := 28) hown hgrow1 hx0 (by decide)
           have g1 := block_grown (t := 28) hown hgrow1 hx1 (by decide)
           clear hx0 hx1 c0 f0 z0 c1 f1 z1 hown0 hown hgrow1 hsrc
           have zw := hB2.size
           have hx0 := g0
           have hx1 := g1
           clear g0 g1
           obtain ⟨c0, f0, z0⟩ := blk_facts hx0
           obtain ⟨c1, f1, z1⟩ := blk_facts hx1
           obtain ⟨b2, o2, cur, e2, hh, hcp, _, hcs, hcc⟩ : ∃ b o cur, A2 = some ⟨b, o, none⟩ ∧ w2.heap[b]? = some (.cells cur 53 (0, 0)) ∧ L.length ≤ cap2 ∧ cap2 ≤ maxLen ∧ o + cap2 * 3 ≤ cur.size ∧ ∀ j u, (dCells L)[j]? = some u → cur[o + j]? = some u := (by rcases hD2.1 with ⟨q, _⟩ | q; subst q; simp at hi'; exact q)
           subst e2
           have e0 := ((blk_facts hh).1 (o2 + i * 3)).trans (hcc _ _ (dCells_get L i hi').1)
           have e1 := ((blk_facts hh).1 (o2 + (i * 3 + 1))).trans (hcc _ _ (dCells_get L i hi').2.1)
           have e2 := ((blk_facts hh).1 (o2 + (i * 3 + 2))).trans (hcc _ _ (dCells_get L i hi').2.2)
           rw [← Nat.add_assoc] at e1 e2
           have f2 := (blk_facts hh).2.1
           have zb := blk_lt hh
           have zb2 := hD2.2 _ _ rfl
           clear hcc))
      have hD3 := down_put hD2 hi' ⟨x, s, true⟩
      rw [← hset.out] at hD3
      have hl2 : (setF L x s).length = L.length := set_length L x s
      (try simp only [Exit.inBlock, Exit.then])
      refine ret_cell_tmp rfl rfl Try.underlying28 rfl rfl ⟨_, _, (by repeat (first | (with_reducible assumption) | (with_reducible apply heap_set_row2) | (with_reducible apply heap_set_row3) | (with_reducible apply heap_set_same) | ((with_reducible apply heap_set_other'); (focus (first | omega | (simp; done) | (simp; omega)))) | ((with_reducible apply heap_alloc_new); (focus (first | omega | (simp; done) | (simp; omega)))) | (with_reducible apply heap_alloc_old') | (with_reducible apply (heap_drew_at _ _).trans) | (with_reducible apply (heap_drewN_at _ _ _).trans) | (simp only [List.size_toArray, List.length_cons, List.length_nil]; done))), (by kernel_rfl), ?_, ?_⟩
      · exact ⟨_, _, (by rw [hl2]; rfl), (down_set (down_set (down_set hD3 (by show w.heap.size < w1.heap.size; omega)) (by show w.heap.size + 1 < w1.heap.size; omega)) (by show w.heap.size + 1 < w1.heap.size; omega)).1⟩
      · exact ((((((hB.trans (hB2.mono zB)).setCell (p := ⟨b2, _, none⟩) (by show w.heap.size ≤ b2; omega) _).setCell (p := ⟨b2, _, none⟩) (by show w.heap.size ≤ b2; omega) _).setCell (p := ⟨b2, _, none⟩) (by show w.heap.size ≤ b2; omega) _).setCell (p := ⟨w.heap.size, 0, none⟩) (Nat.le_refl _) _).setCell (p := ⟨w.heap.size + 1, 0, none⟩) (by show w.heap.size ≤ w.heap.size + 1; omega) _).setCell (p := ⟨w.heap.size + 1, 1, none⟩) (by show w.heap.size ≤ w.heap.size + 1; omega) _
end Go.Proofs.Ytlncekdoaddifaa
