/- The reference's functions that read, walked. -/
import Derived.Test.YtlncekdoaddifaaRow
import Derived.Deep.QuietTactic
namespace Go.Proofs.Ytlncekdoaddifaa
set_option linter.unusedSimpArgs false
set_option linter.unusedVariables false
open Go.RowKit

theorem findF_at {L : List En} {x : Int} {i : Nat} (hi : i < L.length) (h1 : L[i].id = x) (h2 : ∀ j (hj : j < L.length), j < i → L[j].id ≠ x) : findF L x = some L[i] := by
  induction L generalizing i with
  | nil => simp at hi
  | cons a L ih =>
    rw [findF_cons]
    cases i with
    | zero => simp only [List.getElem_cons_zero] at h1 ⊢; rw [if_pos h1]
    | succ i =>
      have h0 := h2 0 (by simp) (by omega)
      simp only [List.getElem_cons_zero] at h0
      rw [if_neg h0]
      simp only [List.getElem_cons_succ] at h1 ⊢
      exact ih (by simpa using hi) h1 (fun j hj hlt => by
        have := h2 (j + 1) (by simpa using hj) (by omega)
        simpa using this)
theorem findF_no {L : List En} {x : Int} (h : ∀ j (hj : j < L.length), L[j].id ≠ x) : findF L x = none := by
  rw [findF_none, List.mem_map]
  rintro ⟨e, he, q⟩
  obtain ⟨j, hj, rfl⟩ := List.getElem_of_mem he
  exact h j hj q
/-- Where a request is found. -/
def FindSaid (e : Ending) (L : List En) (x : Int) : Prop := (e = .returned (.int .i64 (-1)) ∧ findF L x = none) ∨ ∃ (i : Nat) (hi : i < L.length), e = .returned (.int .i64 i) ∧ findF L x = some L[i] ∧ L[i].id = x
set_option maxRecDepth 100000 in
theorem find_r (w : World) (A : Option Addr) (c : Nat) (room : Int) (L : List En) (x : Int) (h : DAt w A c L) (hl : L.length ≤ 1000000) :
    Calls Try.prog 19 #[.agg #[.slice A L.length c, .int .i64 room], .int .u64 x] w fun e w' => FindSaid e L x ∧ Below w.heap.size w w' := by
  have HD := Lib.hid h; clear h
  go_enter Try.func19, Try.ntmps19
  go_wp2_with fail
  go_loopw [5] (fun i wr => ∃ k : Nat, k ≤ L.length ∧ i = .int .i64 k ∧ Hid (∀ j (hj : j < L.length), j < k → L[j].id ≠ x) ∧ wr.heap[w.heap.size]? = some (.cells #[.slice A L.length c, .int .i64 room] 28 (0, 0)) ∧ Below w.heap.size w wr) (fun i _ => L.length - (intOf i).toNat)
  case atStart => exact ⟨0, by omega, rfl, Lib.hid (fun j _ hj => absurd hj (by omega)), (Eq.trans (b := some (Obj.cells _ _ (0, 0))) (by repeat (first | (with_reducible assumption) | (with_reducible apply heap_set_row2) | (with_reducible apply heap_set_row3) | (with_reducible apply heap_set_same) | ((with_reducible apply heap_set_other'); (focus (first | omega | (simp; done) | (simp; omega)))) | ((with_reducible apply heap_alloc_new); (focus (first | omega | (simp; done) | (simp; omega)))) | (with_reducible apply heap_alloc_old') | (with_reducible apply (heap_drew_at _ _).trans) | (with_reducible apply (heap_drewN_at _ _ _).trans) | (simp only [List.size_toArray, List.length_cons, List.length_nil]; done))) (by exact rfl)), by go_grown⟩
  case round =>
    obtain ⟨k, hk, rfl, hno, hx0, hB⟩ := hrel
    obtain ⟨c0, f0, z0⟩ := blk_facts hx0
    by_cases hlt : k < L.length
    · obtain ⟨g0, g1, g2⟩ := dCells_get L k hlt
      rcases HD.out with ⟨rfl, _, _⟩ | ⟨b, o, cur, rfl, hh, _, _, _, hc⟩
      · simp at hlt
      have hb := blk_lt hh
      have d0 := (hB.cell (p := ⟨b, o + k * 3, none⟩) hb).trans (((blk_facts hh).1 _).trans (hc _ _ g0))
      have hb1 := Nat.lt_of_lt_of_le hb hB.size
      clear hc g0 g1 g2
      by_cases hq : L[k].id = x
      · have hqb : (L[k].id == x) = true := by rw [hq]; exact beq_self_eq_true _
        have hf := Lib.hid (findF_at hlt hq (fun j hj hlt => hno.out j hj hlt))
        have HQ := Lib.hid hq; clear hq
        generalize L[k].id = xi at d0 hqb
        go_wp2_with fail
        go_ret
        exact ⟨.inr ⟨k, hlt, rfl, hf.out, HQ.out⟩, hB⟩
      · have hqb : (L[k].id == x) = false := beq_eq_false_iff_ne.2 hq
        have hno2 : Hid (∀ j (hj : j < L.length), j < k + 1 → L[j].id ≠ x) := Lib.hid (fun j hj hk2 => by
          by_cases e : j = k
          · subst e; exact hq
          · exact hno.out j hj (by omega))
        clear hno hq
        generalize L[k].id = xi at d0 hqb
        go_wp2_with fail
        go_roundw
        case rel => exact ⟨k + 1, by omega, by go_num, hno2, hx0, hB⟩
        case measure => simp [intOf]; omega
    · go_wp2_with fail
      go_ret
      exact ⟨.inl ⟨rfl, findF_no (fun j hj => hno.out j hj (by omega))⟩, hB⟩
set_option maxRecDepth 100000 in
theorem refFind (w : World) (A : Option Addr) (c : Nat) (room : Int) (L : List En) (x : Int) (h : DAt w A c L) (hl : L.length ≤ 1000000) (a : ByteArray) (d is : Bool) (hf : findV L x = (a, d, is)) :
    Calls Try.prog 15 #[.agg #[.slice A L.length c, .int .i64 room], .int .u64 x] w fun e w' => e = .returned (.tuple #[.string a, .bool d, .bool is]) ∧ Below w.heap.size w w' := by
  have HD := Lib.hid h; clear h
  have HF := Lib.hid hf; clear hf
  go_enter Try.func15, Try.ntmps15
  go_wp2_with fail
  (with_reducible refine (find_r _ A c room L x (HD.out.below (by first | (with_reducible exact Below.refl _ _) | go_grown)) hl).mono ?_)
  rintro e w1 ⟨hs, hb⟩
  have hx0 : w1.heap[w.heap.size]? = some (.cells #[.slice A L.length c, .int .i64 room] 28 (0, 0)) := (hb.block _ (by first | omega | (simp; done) | (simp; omega))).trans (Eq.trans (b := some (Obj.cells _ _ (0, 0))) (by repeat (first | (with_reducible assumption) | (with_reducible apply heap_set_row2) | (with_reducible apply heap_set_row3) | (with_reducible apply heap_set_same) | ((with_reducible apply heap_set_other'); (focus (first | omega | (simp; done) | (simp; omega)))) | ((with_reducible apply heap_alloc_new); (focus (first | omega | (simp; done) | (simp; omega)))) | (with_reducible apply heap_alloc_old') | (with_reducible apply (heap_drew_at _ _).trans) | (with_reducible apply (heap_drewN_at _ _ _).trans) | (simp only [List.size_toArray, List.length_cons, List.length_nil]; done))) (by exact rfl))
  have hB := below_next (w := w) (by go_grown) hb
  clear hb
  obtain ⟨c0, f0, z0⟩ := blk_facts hx0
  rcases hs with ⟨rfl, hn⟩ | ⟨i, hi, rfl, hn, _⟩
  · have hv := HF.out
    unfold findV at hv
    rw [hn] at hv
    cases hv
    go_wp2_with fail
    go_ret3
    exact ⟨rfl, hB⟩
  · have hv := HF.out
    unfold findV at hv
    rw [hn] at hv
    obtain ⟨g0, g1, g2⟩ := dCells_get L i hi
    simp only [Prod.mk.injEq] at hv
    obtain ⟨rfl, rfl, rfl⟩ := hv
    rcases HD.out with ⟨rfl, _, _⟩ | ⟨b, o, cur, rfl, hh, _, _, _, hc⟩
    · simp at hi
    have hb := blk_lt hh
    have d1 := (hB.cell (p := ⟨b, o + (i * 3 + 1), none⟩) hb).trans (((blk_facts hh).1 _).trans (hc _ _ g1))
    have d2 := (hB.cell (p := ⟨b, o + (i * 3 + 2), none⟩) hb).trans (((blk_facts hh).1 _).trans (hc _ _ g2))
    rw [← Nat.add_assoc] at d1 d2
    have hb1 := Nat.lt_of_lt_of_le hb hB.size
    clear hc g0 g1 g2 hn
    obtain ⟨ei, hei⟩ : ∃ ei, L[i] = ei := ⟨_, rfl⟩
    rw [hei] at d1 d2
    have HEI := Lib.hid hei; clear hei
    obtain ⟨eid, ea, ed⟩ := ei
    dsimp only at d1 d2
    go_wp2_with fail
    (try go_quiet (fail))
    go_wp2_with fail
    go_ret3
    refine ⟨?_, by first | exact hB | exact below_drewN hB _ | go_grown⟩
    simp only [HEI.out]
    rfl
set_option maxRecDepth 100000 in
theorem refWaits (w : World) (A : Option Addr) (c : Nat) (room : Int) (L : List En) (h : DAt w A c L) (hl : L.length ≤ 1000000) (n : Nat) (hn : waitsF L = n) :
    Calls Try.prog 18 #[.agg #[.slice A L.length c, .int .i64 room]] w fun e w' => e = .returned (.int .i64 n) ∧ Below w.heap.size w w' := by
  have HD := Lib.hid h; clear h
  have HN := Lib.hid hn; clear hn
  go_enter Try.func18, Try.ntmps18
  go_wp2_with fail
  go_loopw [3, 4] (fun s i wr => ∃ k m : Nat, k ≤ L.length ∧ i = .int .i64 k ∧ s = .int .i64 m ∧ m ≤ k ∧ Hid (waitsF (L.take k) = m) ∧ wr.heap[w.heap.size]? = some (.cells #[.slice A L.length c, .int .i64 room] 28 (0, 0)) ∧ Below w.heap.size w wr) (fun _ i _ => L.length - (intOf i).toNat)
  case atStart => exact ⟨0, 0, by omega, rfl, rfl, by omega, Lib.hid (by simp [waitsF]), (Eq.trans (b := some (Obj.cells _ _ (0, 0))) (by repeat (first | (with_reducible assumption) | (with_reducible apply heap_set_row2) | (with_reducible apply heap_set_row3) | (with_reducible apply heap_set_same) | ((with_reducible apply heap_set_other'); (focus (first | omega | (simp; done) | (simp; omega)))) | ((with_reducible apply heap_alloc_new); (focus (first | omega | (simp; done) | (simp; omega)))) | (with_reducible apply heap_alloc_old') | (with_reducible apply (heap_drew_at _ _).trans) | (with_reducible apply (heap_drewN_at _ _ _).trans) | (simp only [List.size_toArray, List.length_cons, List.length_nil]; done))) (by exact rfl)), by go_grown⟩
  case round =>
    obtain ⟨k, m, hk, rfl, rfl, hmk, hm, hx0, hB⟩ := hrel
    obtain ⟨c0, f0, z0⟩ := blk_facts hx0
    by_cases hlt : k < L.length
    · obtain ⟨g0, g1, g2⟩ := dCells_get L k hlt
      have ht := Lib.hid (waits_take L k hlt)
      rcases HD.out with ⟨rfl, _, _⟩ | ⟨b, o, cur, rfl, hh, _, _, _, hc⟩
      · simp at hlt
      have hb := blk_lt hh
      have d2 := (hB.cell (p := ⟨b, o + (k * 3 + 2), none⟩) hb).trans (((blk_facts hh).1 _).trans (hc _ _ g2))
      rw [← Nat.add_assoc] at d2
      have hb1 := Nat.lt_of_lt_of_le hb hB.size
      clear hc g0 g1 g2
      cases hd : L[k].done with
      | true =>
        have ht2 : Hid (waitsF (L.take (k + 1)) = m) := Lib.hid (by rw [ht.out, hm.out, hd]; simp)
        rw [hd] at d2
        clear ht hd
        go_wp2_with fail
        go_roundw
        case rel => exact ⟨k + 1, m, by omega, by go_num, rfl, by omega, ht2, hx0, hB⟩
        case measure => simp [intOf]; omega
      | false =>
        have ht2 : Hid (waitsF (L.take (k + 1)) = m + 1) := Lib.hid (by rw [ht.out, hm.out, hd]; simp)
        rw [hd] at d2
        clear ht hd
        go_wp2_with fail
        go_roundw
        case rel => exact ⟨k + 1, m + 1, by omega, by go_num, by go_num, by omega, ht2, hx0, hB⟩
        case measure => simp [intOf]; omega
    · have e := hm.out
      rw [List.take_of_length_le (by omega), HN.out] at e
      subst e
      go_wp2_with fail
      go_ret
      exact ⟨rfl, hB⟩
end Go.Proofs.Ytlncekdoaddifaa
