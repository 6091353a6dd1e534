/- The law RecvMisses, walked. -/
import Derived.Test.YtbfmcnidghjajaaAwake
import Derived.Deep.RegionHeld3
import Derived.Deep.DeepCutAuto
namespace Go.Proofs.Ytbfmcnidghjajaa
set_option linter.unusedSimpArgs false
set_option linter.unusedVariables false
open Go.RowKit
/-- One of those that were gone comes late. -/
theorem gone_step {t : Tr} {f : Int} {g : List Bool} {n k : Nat} (hn : n ≤ 60) (hk : k < (goneF f g n).length) (hts : t.seen < 2 ^ 64) (h : Gaps t f (cameF f g n ++ [f + n + 1] ++ (goneF f g n).take k) (f + n + 1)) (s : Int) (hs : (s - (goneF f g n).getD k 0) % 65536 = 0) :
    ∃ s', s' < 2 ^ 64 ∧ takeF t s = (⟨true, f, f + n + 1, t.got + 1, s'⟩, (goneF f g n).getD k 0, 1) ∧ Gaps ⟨true, f, f + n + 1, t.got + 1, s'⟩ f (cameF f g n ++ [f + n + 1] ++ (goneF f g n).take (k + 1)) (f + n + 1) := by
  have hm : (goneF f g n).getD k 0 = (goneF f g n)[k] := by simp [List.getD, hk]
  have hmem : (goneF f g n)[k] ∈ goneF f g n := List.getElem_mem hk
  obtain ⟨i, hi1, hi2, hi3⟩ := (goneF_iff f g n _).1 hmem
  rw [hm] at hs ⊢
  have hno : (goneF f g n)[k] ∉ cameF f g n ++ [f + n + 1] ++ (goneF f g n).take k := by
    rw [List.mem_append, List.mem_append, cameF_iff]
    rintro (((q | ⟨j, q1, q2, q3⟩) | q) | q)
    · omega
    · obtain rfl : j = i := by omega
      rw [hi2] at q2
      cases q2
    · rw [List.mem_singleton] at q; omega
    · obtain ⟨j, hj, e⟩ := List.getElem_of_mem q
      have hjk : j < k := by simp at hj; omega
      rw [List.getElem_take] at e
      have := List.pairwise_iff_getElem.1 (goneF_rise f g n) j k (by omega) hk hjk
      omega
  have key := gaps_late h (goneF f g n)[k] s (by omega) (by omega) (by omega) hno hs
  refine ⟨orN t.seen (f + n + 1 - (goneF f g n)[k]).toNat, orN_lt _ _ hts (by omega), key.1, ?_⟩
  have e : cameF f g n ++ [f + n + 1] ++ (goneF f g n).take (k + 1) = cameF f g n ++ [f + n + 1] ++ (goneF f g n).take k ++ [(goneF f g n)[k]] := by
    rw [List.take_succ_eq_append_getElem hk]
    simp
  rw [e]
  exact key.2
theorem own_blk {w : World} {B : Nat} {e : TypeId} {s n cap b o g : Nat} {xs : List Value} {A : Option Addr} {c : Array Value} {t : TypeId} {f : Nat × Nat} (h : w.ownsRow B e s (.slice A n cap) n xs) (hA : A = some ⟨b, o, none⟩) (hb : w.heap[g]? = some (.cells c t f)) (ht : t ≠ e) : b ≠ g := by
  subst hA
  intro e
  subst e
  exact own_ne h hb ht rfl
/-- All blocks but one are as they were. -/
def ButAt (T : Nat) (w w' : World) : Prop := ∀ j, j < w.heap.size → j ≠ T → w'.heap[j]? = w.heap[j]?
theorem ButAt.cell {T : Nat} {w w' : World} (h : ButAt T w w') {b o : Nat} (hb : b < w.heap.size) (hn : b ≠ T) : w'.cell? ⟨b, o, none⟩ = w.cell? ⟨b, o, none⟩ := World.cell?_of_block (w := w) (a := ⟨b, o, none⟩) (h b hb hn)
theorem ButAt.refl (T : Nat) (w : World) : ButAt T w w := fun _ _ _ => rfl
theorem ButAt.below {T : Nat} {w w1 w2 : World} (h : ButAt T w w1) (hs : w.heap.size ≤ w1.heap.size) (hb : Below w1.heap.size w1 w2) : ButAt T w w2 := fun j hj hn => (hb.block j (Nat.lt_of_lt_of_le hj hs)).trans (h j hj hn)
theorem ButAt.set {T : Nat} {w w1 : World} (h : ButAt T w w1) (o : Nat) (v : Value) : ButAt T w (w1.setCell ⟨T, o, none⟩ v) := fun j hj hn => (heap_set_other w1 ⟨T, o, none⟩ v j hn).trans (h j hj hn)
set_option maxRecDepth 100000 in
set_option maxHeartbeats 4000000 in
theorem misses_walk (f : Int) (A : Option Addr) (len cap : Nat) (bs : List Bool) (w : World) (lf : 0 ≤ f) (uf : f ≤ 65535) (hlen : bs.length = len) (hl : len ≤ 9223372036854775807) (hp : ∀ i, i < bs.length → ∃ b o, A = some ⟨b, o, none⟩ ∧ b < w.heap.size ∧ w.cell? ⟨b, o + i, none⟩ = some (.bool (bs.getD i false))) :
    Calls Try.prog 6 #[.int .u16 f, .slice A len cap] w fun e w' => e = .returned (.bool true) ∧ Below w.heap.size w w' := by
  subst hlen
  have HP := Lib.hid hp; clear hp
  by_cases h60 : 60 < bs.length
  · go_enter Try.func6, Try.ntmps6
    go_wp2_with fail
    (with_reducible refine (awake_any _).mono ?_)
    rintro e w1 ⟨rfl, hb⟩
    go_wp2_with fail
    go_ret
    exact ⟨rfl, hb⟩
  obtain ⟨i0, hi, hz0, hz1, hz2⟩ := info_parts info32
  go_enter Try.func6, Try.ntmps6
  go_wp2_with fail
  (with_reducible refine (awake_any _).mono ?_)
  rintro e w1 ⟨rfl, hB⟩
  have zA := hB.size
  go_wp2_with fail
  with_reducible refine (take_eq _ _ _ _ 0 _ _ _ _ _ 1 _ _ 0 1 _ rfl rfl (takeF_off rfl f) (by omega) (by omega) (by omega) (by omega) (by omega) (by omega) (by omega) (by omega) (by decide)).mono ?_
  rintro e w2 ⟨rfl, hb⟩
  (try (have g0 := h0; clear h0 f0 c0))
  have hB := below_next (w := w) (by go_grown) hb
  have h0 : w2.heap[w1.heap.size]? = some (.cells #[.bool false, .int .i64 0, .int .i64 0, .int .i64 0, .int .u64 0] 26 (0, 0)) := (hb.block (w1.heap.size) (by first | omega | (simp; done) | (simp; omega))).trans (Eq.trans (b := some (Obj.cells _ _ (0, 0))) (by repeat (first | (with_reducible assumption) | (with_reducible apply heap_set_same) | ((with_reducible apply heap_set_other'); (focus (first | omega | (simp; done) | (simp; omega)))) | ((with_reducible apply heap_alloc_new); (focus (first | omega | (simp; done) | (simp; omega)))) | (with_reducible apply heap_alloc_old') | (with_reducible apply (heap_drew_at _ _).trans) | (with_reducible apply (heap_drewN_at _ _ _).trans))) (by exact rfl))
  clear hb
  (try clear g0)
  obtain ⟨c0, f0, z0⟩ := blk_facts h0
  go_wp2_with fail
  go_loopw [7, 8] (fun v i wr => ∃ (k : Nat) (h g : Int) (s : Nat), k ≤ bs.length ∧ i = .int .i64 k ∧ wr.ownsRow w.heap.size 32 1 v (goneF f bs k).length ((miss16 (goneF f bs k)).map (Value.int .u16)) ∧ wr.heap[w1.heap.size]? = some (.cells #[.bool true, .int .i64 f, .int .i64 h, .int .i64 g, .int .u64 s] 26 (0, 0)) ∧ s < 2 ^ 64 ∧ f ≤ h ∧ h ≤ f + k ∧ 0 ≤ g ∧ g ≤ 100 ∧ Hid (Gaps ⟨true, f, h, g, s⟩ f (cameF f bs k) h ∧ ∀ x ∈ cameF f bs k, x ≤ h) ∧ Below w.heap.size w wr) (fun _ i _ => bs.length - (intOf i).toNat)
  case atStart => exact ⟨0, f, 1, 1, by omega, rfl, World.ownsRow_nil _ _ _ _, (Eq.trans (b := some (Obj.cells _ _ (0, 0))) (by repeat (first | (with_reducible assumption) | (with_reducible apply heap_set_same) | ((with_reducible apply heap_set_other'); (focus (first | omega | (simp; done) | (simp; omega)))) | ((with_reducible apply heap_alloc_new); (focus (first | omega | (simp; done) | (simp; omega)))) | (with_reducible apply heap_alloc_old') | (with_reducible apply (heap_drew_at _ _).trans) | (with_reducible apply (heap_drewN_at _ _ _).trans))) (by exact rfl)), by decide, by omega, by simp, by omega, by omega, Lib.hid ⟨gaps_one f, by simp [cameF]⟩, by go_grown⟩
  case round =>
    clear hB h0 c0 f0
    obtain ⟨k, h, g, s, hk, rfl, hown, h0, hs, fh, hf, lg, ug, HG, hB⟩ := hrel
    obtain ⟨c0, f0, z0'⟩ := blk_facts h0
    have LS := Lib.hid hs; clear hs
    have z1 := hB.size
    have hgl : (goneF f bs k).length ≤ k + 1 := by have := came_gone f bs k; omega
    by_cases hlt : k < bs.length
    · obtain ⟨b, o, rfl, hb, q0⟩ := HP.out k hlt
      replace q0 := (hB.cell (p := ⟨b, o + k, none⟩) hb).trans q0
      have hbr := Nat.lt_of_lt_of_le hb hB.size
      cases hg : bs.getD k false with
      | true =>
        rw [hg] at q0
        have hst : Hid (goneF f bs (k + 1) = goneF f bs k ++ [f + k + 1]) := Lib.hid (by show goneF f bs k ++ _ = _; rw [if_pos hg])
        have hst2 : Hid (cameF f bs (k + 1) = cameF f bs k) := Lib.hid (by show cameF f bs k ++ _ = _; rw [if_pos hg, List.append_nil])
        clear hg
        generalize goneF f bs k = L at hown hst hgl
        go_wp2_with (first
          | (at_builtin; refine wpList_append_own _ rfl (.tmp 43) (.tmp 49) 22 rfl w.heap.size 32 i0 (.int .u16 0) 1 2 Try.underlying22 hi hz0 hz1 hz2 rfl (by decide) _ _ _ rfl (hown.alloc _) ⟨wr.heap.size, 0, none⟩ 1 1 [.int .u16 (IntKind.u16.wrap (IntKind.u16.wrap (f + (k : Int)) + 1))] rfl rfl (new_cells (by simp)) (one_cells rfl) (by unfold maxLen; first | omega | (simp only [List.length_append, List.length_cons]; omega)) (by first | omega | (simp only [List.length_append, List.length_cons]; omega)) (by have := hB.size; first | omega | (simp; omega)) ?_; intro v3 w3 hown1 hgrow1 _))
        have hB3 : Below w.heap.size w w3 := below_grown (by go_grown) (by simp; omega) (hown.alloc _) hgrow1
        have h3 := block_grown (t := 26) (hown.alloc _) hgrow1 (heap_alloc_old' h0) (by decide)
        have hown3 : w3.ownsRow w.heap.size 32 1 v3 (goneF f bs (k + 1)).length ((miss16 (goneF f bs (k + 1))).map (Value.int .u16)) := by
          rw [hst.out]
          have e : IntKind.u16.wrap (IntKind.u16.wrap (f + (k : Int)) + 1) = (f + k + 1) % 65536 := by rw [u16_mod, u16_mod]; omega
          rw [e] at hown1
          simpa [miss16] using hown1
        clear hown1 hgrow1 hown h0 c0 f0 hB
        go_roundw
        case rel => exact ⟨k + 1, h, g, s, by omega, by go_num, hown3, h3, LS.out, by omega, by push_cast; omega, by omega, by omega, by rw [hst2.out]; exact HG, hB3⟩
        case measure => simp [intOf]; omega
      | false =>
        rw [hg] at q0
        have hst : Hid (goneF f bs (k + 1) = goneF f bs k) := Lib.hid (by show goneF f bs k ++ _ = _; rw [if_neg (by rw [hg]; simp), List.append_nil])
        have hst2 : Hid (cameF f bs (k + 1) = cameF f bs k ++ [f + k + 1]) := Lib.hid (by show cameF f bs k ++ _ = _; rw [if_neg (by rw [hg]; simp)])
        clear hg
        have hx0 : 0 ≤ IntKind.u16.wrap (IntKind.u16.wrap (f + (k : Int)) + 1) := by rw [u16_mod]; omega
        have hx1 : IntKind.u16.wrap (IntKind.u16.wrap (f + (k : Int)) + 1) ≤ 65535 := by rw [u16_mod]; omega
        obtain ⟨ht, hg2⟩ := gaps_new HG.out.1 (f + k + 1) (IntKind.u16.wrap (IntKind.u16.wrap (f + (k : Int)) + 1)) (by omega) (by omega) HG.out.2 (by rw [u16_mod, u16_mod]; omega)
        dsimp only at ht hg2
        have hs2 : shlN s (f + k + 1 - h).toNat < 2 ^ 64 := shlN_lt _ _
        generalize shlN s (f + k + 1 - h).toNat = s2 at *
        have LS2 := Lib.hid hs2; clear hs2
        have HT := Lib.hid ht; clear ht
        have HG2 : Hid (Gaps ⟨true, f, f + k + 1, g + 1, s2⟩ f (cameF f bs (k + 1)) (f + k + 1) ∧ ∀ x ∈ cameF f bs (k + 1), x ≤ f + k + 1) := Lib.hid (by
          rw [hst2.out]
          refine ⟨hg2, fun x hx => ?_⟩
          rcases List.mem_append.1 hx with q | q
          · have := HG.out.2 x q; omega
          · simp at q; omega)
        have hgb : g + 1 ≤ 100 := by
          have e1 := HG2.out.1.got
          have e2 := came_gone f bs (k + 1)
          dsimp only at e1
          omega
        clear hg2
        go_wp2_with fail
        with_reducible refine (take_eq _ _ _ _ s _ _ _ _ _ s2 _ _ s s2 _ rfl rfl HT.out hx0 hx1 (by omega) (by omega) (by omega) (by omega) (by omega) (by omega)  LS.out).mono ?_
        rintro e w3 ⟨rfl, hb⟩
        have hown2 := own_below hown hb
        clear hown
        (try (have g0 := h0; clear h0 f0 c0))
        have hB := below_next (w := w) (by go_grown) hb
        have h0 : w3.heap[w1.heap.size]? = some (.cells #[.bool true, .int .i64 f, .int .i64 h, .int .i64 g, .int .u64 s] 26 (0, 0)) := (hb.block (w1.heap.size) (by first | omega | (simp; done) | (simp; omega))).trans (Eq.trans (b := some (Obj.cells _ _ (0, 0))) (by repeat (first | (with_reducible assumption) | (with_reducible apply heap_set_same) | ((with_reducible apply heap_set_other'); (focus (first | omega | (simp; done) | (simp; omega)))) | ((with_reducible apply heap_alloc_new); (focus (first | omega | (simp; done) | (simp; omega)))) | (with_reducible apply heap_alloc_old') | (with_reducible apply (heap_drew_at _ _).trans) | (with_reducible apply (heap_drewN_at _ _ _).trans))) (by exact rfl))
        clear hb
        (try clear g0)
        obtain ⟨c0, f0, z0⟩ := blk_facts h0
        go_wp2_with fail
        go_roundw
        case rel => exact ⟨k + 1, f + k + 1, g + 1, s2, by omega, by go_num, by rw [hst.out]; exact (by repeat (first | (with_reducible assumption) | (with_reducible apply own_alloc) | (with_reducible apply own_set_other (t := 26)) | (with_reducible apply heap_set_same) | ((with_reducible apply heap_set_other'); (focus (first | omega | (simp; done) | (simp; omega)))) | ((with_reducible apply heap_alloc_new); (focus (first | omega | (simp; done) | (simp; omega)))) | (with_reducible apply heap_alloc_old') | decide)), (Eq.trans (b := some (Obj.cells _ _ (0, 0))) (by repeat (first | (with_reducible assumption) | (with_reducible apply heap_set_same) | ((with_reducible apply heap_set_other'); (focus (first | omega | (simp; done) | (simp; omega)))) | ((with_reducible apply heap_alloc_new); (focus (first | omega | (simp; done) | (simp; omega)))) | (with_reducible apply heap_alloc_old') | (with_reducible apply (heap_drew_at _ _).trans) | (with_reducible apply (heap_drewN_at _ _ _).trans))) (by exact rfl)), LS2.out, by omega, by push_cast; omega, by omega, by omega, HG2, by go_grown⟩
        case measure => simp [intOf]; omega
    · have hkl : k = bs.length := by omega
      subst hkl
      clear hlt hk
      have hn60 : bs.length ≤ 60 := by omega
      generalize hn : bs.length = n at *
      clear hn
      have hx0 : 0 ≤ IntKind.u16.wrap (IntKind.u16.wrap (f + (n : Int)) + 1) := by rw [u16_mod]; omega
      have hx1 : IntKind.u16.wrap (IntKind.u16.wrap (f + (n : Int)) + 1) ≤ 65535 := by rw [u16_mod]; omega
      obtain ⟨ht, hg2⟩ := gaps_new HG.out.1 (f + n + 1) (IntKind.u16.wrap (IntKind.u16.wrap (f + (n : Int)) + 1)) (by omega) (by omega) HG.out.2 (by rw [u16_mod, u16_mod]; omega)
      dsimp only at ht hg2
      have hs2 : shlN s (f + n + 1 - h).toNat < 2 ^ 64 := shlN_lt _ _
      generalize shlN s (f + n + 1 - h).toNat = s2 at *
      have LS2 := Lib.hid hs2; clear hs2
      have HT := Lib.hid ht; clear ht
      obtain ⟨hm1, hm2⟩ := gaps_all hn60 hg2
      have HM1 := Lib.hid hm1; clear hm1
      have HM2 := Lib.hid hm2; clear hm2
      have HG2 := Lib.hid hg2; clear hg2
      go_wp2_with fail
      with_reducible refine (take_eq _ _ _ _ s _ _ _ _ _ s2 _ _ s s2 _ rfl rfl HT.out hx0 hx1 (by omega) (by omega) (by omega) (by omega) (by omega) (by omega)  LS.out).mono ?_
      rintro e w3 ⟨rfl, hb⟩
      have hown2 := own_below hown hb
      clear hown
      (try (have g0 := h0; clear h0 f0 c0))
      have hB := below_next (w := w) (by go_grown) hb
      have h0 : w3.heap[w1.heap.size]? = some (.cells #[.bool true, .int .i64 f, .int .i64 h, .int .i64 g, .int .u64 s] 26 (0, 0)) := (hb.block (w1.heap.size) (by first | omega | (simp; done) | (simp; omega))).trans (Eq.trans (b := some (Obj.cells _ _ (0, 0))) (by repeat (first | (with_reducible assumption) | (with_reducible apply heap_set_same) | ((with_reducible apply heap_set_other'); (focus (first | omega | (simp; done) | (simp; omega)))) | ((with_reducible apply heap_alloc_new); (focus (first | omega | (simp; done) | (simp; omega)))) | (with_reducible apply heap_alloc_old') | (with_reducible apply (heap_drew_at _ _).trans) | (with_reducible apply (heap_drewN_at _ _ _).trans))) (by exact rfl))
      clear hb
      (try clear g0)
      obtain ⟨c0, f0, z0⟩ := blk_facts h0
      go_wp2_with fail
      with_reducible refine (miss_eq _ _ _ _ s2 s2 _ _ rfl HM1.out (by omega) (by omega) (by omega) (by omega) (by omega) (by omega)  LS2.out).mono ?_
      rintro e w4 ⟨v, rfl, hownm, hb⟩
      have hown3 := own_below (B := w.heap.size) (e := 32) (s := 1) (n := (goneF f bs n).length) (xs := (miss16 (goneF f bs n)).map (Value.int .u16)) (by repeat (first | (with_reducible assumption) | (with_reducible apply own_alloc) | (with_reducible apply own_set_other (t := 26)) | (with_reducible apply heap_set_same) | ((with_reducible apply heap_set_other'); (focus (first | omega | (simp; done) | (simp; omega)))) | ((with_reducible apply heap_alloc_new); (focus (first | omega | (simp; done) | (simp; omega)))) | (with_reducible apply heap_alloc_old') | decide)) hb
      clear hown2
      (try (have g0 := h0; clear h0 f0 c0))
      have hB := below_next (w := w) (by go_grown) hb
      have h0 : w4.heap[w1.heap.size]? = some (.cells #[.bool true, .int .i64 f, .int .i64 (f + n + 1), .int .i64 (g + 1), .int .u64 s2] 26 (0, 0)) := (hb.block (w1.heap.size) (by first | omega | (simp; done) | (simp; omega))).trans (Eq.trans (b := some (Obj.cells _ _ (0, 0))) (by repeat (first | (with_reducible assumption) | (with_reducible apply heap_set_same) | ((with_reducible apply heap_set_other'); (focus (first | omega | (simp; done) | (simp; omega)))) | ((with_reducible apply heap_alloc_new); (focus (first | omega | (simp; done) | (simp; omega)))) | (with_reducible apply heap_alloc_old') | (with_reducible apply (heap_drew_at _ _).trans) | (with_reducible apply (heap_drewN_at _ _ _).trans))) (by exact rfl))
      clear hb
      (try clear g0)
      obtain ⟨c0, f0, z0⟩ := blk_facts h0
      obtain ⟨A5, cap5, rfl⟩ := own_slice hownm
      obtain ⟨A6, cap6, rfl⟩ := own_slice hown3
      go_wp2_with fail
      with_reducible refine (lost_eq _ _ _ _ s2 s2 _ _ rfl HM2.out (by omega) (by omega) (by omega) (by omega) (by omega) (by omega) ).mono ?_
      rintro e w5 ⟨rfl, hb⟩
      have hmm := Lib.hid (ints_own (own_below hownm hb))
      have hmw := Lib.hid (ints_own (own_below hown3 hb))
      have hnm := Lib.hid (fun b o (hA : A5 = some ⟨b, o, none⟩) => own_blk hownm hA h0 (by decide))
      have hnw := Lib.hid (fun b o (hA : A6 = some ⟨b, o, none⟩) => own_blk hown3 hA h0 (by decide))
      clear hownm hown3
      (try (have g0 := h0; clear h0 f0 c0))
      have hB := below_next (w := w) (by go_grown) hb
      have h0 : w5.heap[w1.heap.size]? = some (.cells #[.bool true, .int .i64 f, .int .i64 (f + n + 1), .int .i64 (g + 1), .int .u64 s2] 26 (0, 0)) := (hb.block (w1.heap.size) (by first | omega | (simp; done) | (simp; omega))).trans (Eq.trans (b := some (Obj.cells _ _ (0, 0))) (by repeat (first | (with_reducible assumption) | (with_reducible apply heap_set_same) | ((with_reducible apply heap_set_other'); (focus (first | omega | (simp; done) | (simp; omega)))) | ((with_reducible apply heap_alloc_new); (focus (first | omega | (simp; done) | (simp; omega)))) | (with_reducible apply heap_alloc_old') | (with_reducible apply (heap_drew_at _ _).trans) | (with_reducible apply (heap_drewN_at _ _ _).trans))) (by exact rfl))
      clear hb
      (try clear g0)
      obtain ⟨c0, f0, z0⟩ := blk_facts h0
      go_wp2_with fail
      go_loopw [16] (fun i wx => ∃ (k : Nat) (g : Int) (s : Nat), k ≤ (goneF f bs n).length ∧ i = .int .i64 k ∧ wx.heap[w1.heap.size]? = some (.cells #[.bool true, .int .i64 f, .int .i64 (f + n + 1), .int .i64 g, .int .u64 s] 26 (0, 0)) ∧ s < 2 ^ 64 ∧ 0 ≤ g ∧ g ≤ 200 ∧ Hid (Gaps ⟨true, f, f + n + 1, g, s⟩ f (cameF f bs n ++ [f + n + 1] ++ (goneF f bs n).take k) (f + n + 1)) ∧ Hid (ButAt w1.heap.size w5 wx) ∧ w5.heap.size ≤ wx.heap.size ∧ Below w.heap.size w wx) (fun i _ => (goneF f bs n).length - (intOf i).toNat)
      case atStart => exact ⟨0, g + 1, s2, by omega, rfl, h0, LS2.out, by omega, by omega, Lib.hid (by simpa using HG2.out), Lib.hid (ButAt.refl _ _), Nat.le_refl _, hB⟩
      case round =>
        clear h0 c0 f0 z0 HG HG2 HM1 HM2 HT LS LS2 lg ug fh hf
        obtain ⟨k, g, s, hk, rfl, h0, hs, lg, ug, HG, HK, zB5, hBx⟩ := hrel
        have zB6 := hBx.size
        obtain ⟨c0, f0, z0⟩ := blk_facts h0
        have LS := Lib.hid hs; clear hs
        by_cases hlt : k < (goneF f bs n).length
        · have hlm : k < (miss16 (goneF f bs n)).length := by simpa [miss16] using hlt
          obtain ⟨b2, o2, hA2, hb2, d0⟩ := hmm.out k hlm
          obtain ⟨b3, o3, hA3, hb3, d1⟩ := hmw.out k hlm
          have e1 : (miss16 (goneF f bs n)).getD k 0 = (goneF f bs n).getD k 0 % 65536 := by simp [miss16, List.getD, hlt]
          rw [e1] at d0 d1
          obtain ⟨s2, hs2, ht, hg2⟩ := gone_step hn60 hlt LS.out HG.out ((goneF f bs n).getD k 0 % 65536) (by omega)
          dsimp only at ht hg2
          have LS2 := Lib.hid hs2; clear hs2
          have HT := Lib.hid ht; clear ht
          have HG2 := Lib.hid hg2; clear hg2
          have hgb : g + 1 ≤ 200 := by
            have e1 := HG2.out.got
            have e2 := came_gone f bs n
            dsimp only at e1
            rw [List.length_append, List.length_append, List.length_take] at e1
            simp only [List.length_singleton] at e1
            omega
          clear e1
          generalize hyk : (goneF f bs n).getD k 0 = y at *
          clear hyk
          have x2 : 0 ≤ y % 65536 ∧ y % 65536 ≤ 65535 := by omega
          obtain ⟨x20, x21⟩ := x2
          generalize y % 65536 = x at *
          subst hA2 hA3
          have hn2 := hnm.out b2 o2 rfl
          have hn3 := hnw.out b3 o3 rfl
          replace d0 := (HK.out.cell (o := o2 + k) hb2 hn2).trans d0
          replace d1 := (HK.out.cell (o := o3 + k) hb3 hn3).trans d1
          replace hb2 := Nat.lt_of_lt_of_le hb2 zB5
          clear hn2 hn3
          have P0 := Lib.hid d0
          have hwr : Below wr.heap.size wr wr := Below.refl _ _
          go_wp2_with fail
          go_region
          go_upto_region 28 with fail
          go_cut [17, 18, 19] from 92 to 119 (fun s6 s7 s8 wx => ∃ g2 : Nat, s6 = .pointer (some ⟨g2, 0, none⟩) ∧ s7 = .int .i64 y ∧ s8 = .int .i64 1 ∧ g2 ≠ w1.heap.size ∧ wr.heap.size ≤ g2 ∧ wx.heap[w1.heap.size]? = some (.cells #[.bool true, .int .i64 f, .int .i64 (f + n + 1), .int .i64 g, .int .u64 s] 26 (0, 0)) ∧ wx.heap[g2]? = some (.cells #[.bool true, .int .i64 f, .int .i64 (f + n + 1), .int .i64 (g + 1), .int .u64 s2] 26 (0, 0)) ∧ Below wr.heap.size wr wx)
          case first =>
            go_region_held3 (fun w' => (w'.heap[w1.heap.size]? = some (.cells #[.bool true, .int .i64 f, .int .i64 (f + n + 1), .int .i64 g, .int .u64 s] 26 (0, 0)) ∧ (∀ j, w'.cell? ⟨w1.heap.size, j, none⟩ = #[.bool true, .int .i64 f, .int .i64 (f + n + 1), .int .i64 g, .int .u64 s][j]?) ∧ (∀ j, w'.frozen? ⟨w1.heap.size, j, none⟩ = false) ∧ w1.heap.size < w'.heap.size) ∧ w'.cell? ⟨b2, o2 + k, none⟩ = some (.int .u16 x) ∧ b2 < w'.heap.size ∧ Below wr.heap.size wr w') ((go_split_ands; exact ⟨blk_all (Eq.trans (b := some (Obj.cells _ _ (0, 0))) (by repeat (first | (with_reducible assumption) | (with_reducible apply heap_set_same) | ((with_reducible apply heap_set_other'); (focus (first | omega | (simp; done) | (simp; omega)))) | ((with_reducible apply heap_alloc_new); (focus (first | omega | (simp; done) | (simp; omega)))) | (with_reducible apply heap_alloc_old') | (with_reducible apply (heap_drew_at _ _).trans) | (with_reducible apply (heap_drewN_at _ _ _).trans))) (by exact rfl)), ((Below.cell (by first | ((repeat (first | (with_reducible exact Below.refl _ _) | (with_reducible apply Below.drew))); done) | go_grown : Below wr.heap.size wr _) hb2).trans P0.out), (Nat.lt_of_lt_of_le hb2 (Below.size (by first | ((repeat (first | (with_reducible exact Below.refl _ _) | (with_reducible apply Below.drew))); done) | go_grown : Below wr.heap.size wr _))), by first | ((repeat (first | (with_reducible exact Below.refl _ _) | (with_reducible apply Below.drew))); done) | go_grown⟩)) (first | (go_at_call 10; go_split_ands; (with_reducible refine (take_eq _ _ _ _ s _ _ _ _ _ s2 _ _ s s2 _ rfl rfl HT.out x20 x21 (by omega) (by omega) (by omega) (by omega) (by omega) (by omega)  LS.out).mono ?_); rintro e w2 ⟨rfl, hb⟩; have hB := below_next (w := wr) (by go_grown) hb; have zS := hB.size; have hr0 : w2.heap[w1.heap.size]? = some (.cells #[.bool true, .int .i64 f, .int .i64 (f + n + 1), .int .i64 g, .int .u64 s] 26 (0, 0)) := (hb.block (w1.heap.size) (by first | omega | (simp; done) | (simp; omega))).trans (Eq.trans (b := some (Obj.cells _ _ (0, 0))) (by repeat (first | (with_reducible assumption) | (with_reducible apply heap_set_same) | ((with_reducible apply heap_set_other'); (focus (first | omega | (simp; done) | (simp; omega)))) | ((with_reducible apply heap_alloc_new); (focus (first | omega | (simp; done) | (simp; omega)))) | (with_reducible apply heap_alloc_old') | (with_reducible apply (heap_drew_at _ _).trans) | (with_reducible apply (heap_drewN_at _ _ _).trans))) (by exact rfl)); have zr0 := blk_lt hr0; (try first | ((have hn := heap_below hb (by first | omega | (simp; done) | (simp; omega)) hA); clear hA fA cA; have hA := hn; clear hn; obtain ⟨cA, fA, zA⟩ := blk_facts hA) | ((have hn := heap_below hb (by first | omega | (simp; done) | (simp; omega)) (heap_alloc_old' hA)); clear hA fA cA; have hA := hn; clear hn; obtain ⟨cA, fA, zA⟩ := blk_facts hA) | ((have hn := heap_below hb (by first | omega | (simp; done) | (simp; omega)) (heap_alloc_old' (heap_alloc_old' hA))); clear hA fA cA; have hA := hn; clear hn; obtain ⟨cA, fA, zA⟩ := blk_facts hA) | ((have hA := (hb.block (wr.heap.size) (by first | omega | (simp; done) | (simp; omega))).trans (by repeat (first | (with_reducible assumption) | (with_reducible apply heap_set_same) | ((with_reducible apply heap_set_other'); (focus (first | omega | (simp; done) | (simp; omega)))) | ((with_reducible apply heap_alloc_new); (focus (first | omega | (simp; done) | (simp; omega)))) | (with_reducible apply heap_alloc_old') | (with_reducible apply (heap_drew_at _ _).trans) | (with_reducible apply (heap_drewN_at _ _ _).trans)))); obtain ⟨cA, fA, zA⟩ := blk_facts hA) | ((have hA := (hb.block _ (lt_alloc _ _)).trans (heap_alloc_new _ _ _ rfl)); (fail_if_success (have hq : w2.heap[w1.heap.size]? = some _ := hA)); obtain ⟨cA, fA, zA⟩ := blk_facts hA)); clear hb))
            all_goals (go_wp2_with fail; go_meet; go_split_ands; exact ⟨_, rfl, rfl, rfl, by omega, by omega, (Eq.trans (b := some (Obj.cells _ _ (0, 0))) (by repeat (first | (with_reducible assumption) | (with_reducible apply heap_set_same) | ((with_reducible apply heap_set_other'); (focus (first | omega | (simp; done) | (simp; omega)))) | ((with_reducible apply heap_alloc_new); (focus (first | omega | (simp; done) | (simp; omega)))) | (with_reducible apply heap_alloc_old') | (with_reducible apply (heap_drew_at _ _).trans) | (with_reducible apply (heap_drewN_at _ _ _).trans))) (by exact rfl)), (Eq.trans (b := some (Obj.cells _ _ (0, 0))) (by repeat (first | (with_reducible assumption) | (with_reducible apply heap_set_same) | ((with_reducible apply heap_set_other'); (focus (first | omega | (simp; done) | (simp; omega)))) | ((with_reducible apply heap_alloc_new); (focus (first | omega | (simp; done) | (simp; omega)))) | (with_reducible apply heap_alloc_old') | (with_reducible apply (heap_drew_at _ _).trans) | (with_reducible apply (heap_drewN_at _ _ _).trans))) (by exact rfl)), by go_grown⟩)
          case rest =>
            obtain ⟨g2, rfl, rfl, rfl, hn2, hl2, h0, h1, hBy⟩ := hcut
            have hB7 : Below w.heap.size w wc := below_next (w := w) hBx hBy
            have HK2 := Lib.hid (HK.out.below zB5 hBy)
            have zB7 := Nat.le_trans zB5 hBy.size
            clear c0 f0 z0 d0 d1 hBx hBy
            obtain ⟨c0, f0, z0⟩ := blk_facts h0
            obtain ⟨c1, f1, z1⟩ := blk_facts h1
            go_wp2_with fail
            go_roundw
            case rel => exact ⟨k + 1, g + 1, s2, by omega, by go_num, (Eq.trans (b := some (Obj.cells _ _ (0, 0))) (by repeat (first | (with_reducible assumption) | (with_reducible apply heap_set_same) | ((with_reducible apply heap_set_other'); (focus (first | omega | (simp; done) | (simp; omega)))) | ((with_reducible apply heap_alloc_new); (focus (first | omega | (simp; done) | (simp; omega)))) | (with_reducible apply heap_alloc_old') | (with_reducible apply (heap_drew_at _ _).trans) | (with_reducible apply (heap_drewN_at _ _ _).trans))) (by exact rfl)), LS2.out, by omega, by omega, HG2, Lib.hid (by repeat (first | exact HK2.out | apply ButAt.set)), by simpa using zB7, by go_grown⟩
            case measure => simp [intOf]; omega
        · have hkl : k = (goneF f bs n).length := by omega
          subst hkl
          clear hlt hk
          have hgn := HG.out
          rw [List.take_length] at hgn
          obtain ⟨e1, e2⟩ := gaps_none hgn
          have E1 := Lib.hid e1; clear e1
          have E2 := Lib.hid e2; clear e2 hgn
          go_wp2_with fail
          with_reducible refine (miss_eq _ _ _ _ s s _ _ rfl E1.out (by omega) (by omega) (by omega) (by omega) (by omega) (by omega)  LS.out).mono ?_
          rintro e w6 ⟨v, rfl, hown, hb⟩
          obtain ⟨A7, cap7, rfl⟩ := own_slice hown
          clear hown
          (try (have g0 := h0; clear h0 f0 c0))
          have hB := below_next (w := w) (by go_grown) hb
          have h0 : w6.heap[w1.heap.size]? = some (.cells #[.bool true, .int .i64 f, .int .i64 (f + n + 1), .int .i64 g, .int .u64 s] 26 (0, 0)) := (hb.block (w1.heap.size) (by first | omega | (simp; done) | (simp; omega))).trans (Eq.trans (b := some (Obj.cells _ _ (0, 0))) (by repeat (first | (with_reducible assumption) | (with_reducible apply heap_set_same) | ((with_reducible apply heap_set_other'); (focus (first | omega | (simp; done) | (simp; omega)))) | ((with_reducible apply heap_alloc_new); (focus (first | omega | (simp; done) | (simp; omega)))) | (with_reducible apply heap_alloc_old') | (with_reducible apply (heap_drew_at _ _).trans) | (with_reducible apply (heap_drewN_at _ _ _).trans))) (by exact rfl))
          clear hb
          (try clear g0)
          obtain ⟨c0, f0, z0⟩ := blk_facts h0
          go_wp2_with fail
          with_reducible refine (lost_eq _ _ _ _ s s _ _ rfl E2.out (by omega) (by omega) (by omega) (by omega) (by omega) (by omega) ).mono ?_
          rintro e w7 ⟨rfl, hb⟩
          (try (have g0 := h0; clear h0 f0 c0))
          have hB := below_next (w := w) (by go_grown) hb
          have h0 : w7.heap[w1.heap.size]? = some (.cells #[.bool true, .int .i64 f, .int .i64 (f + n + 1), .int .i64 g, .int .u64 s] 26 (0, 0)) := (hb.block (w1.heap.size) (by first | omega | (simp; done) | (simp; omega))).trans (Eq.trans (b := some (Obj.cells _ _ (0, 0))) (by repeat (first | (with_reducible assumption) | (with_reducible apply heap_set_same) | ((with_reducible apply heap_set_other'); (focus (first | omega | (simp; done) | (simp; omega)))) | ((with_reducible apply heap_alloc_new); (focus (first | omega | (simp; done) | (simp; omega)))) | (with_reducible apply heap_alloc_old') | (with_reducible apply (heap_drew_at _ _).trans) | (with_reducible apply (heap_drewN_at _ _ _).trans))) (by exact rfl))
          clear hb
          (try clear g0)
          obtain ⟨c0, f0, z0⟩ := blk_facts h0
          go_wp2_with fail
          go_ret
          exact ⟨rfl, hB⟩
end Go.Proofs.Ytbfmcnidghjajaa
