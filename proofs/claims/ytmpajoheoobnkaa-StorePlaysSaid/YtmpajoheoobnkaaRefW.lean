/- The reference's rows: Add, Get, walked. -/
import Derived.Test.YtmpajoheoobnkaaPuts
import Derived.Test.YtmpajoheoobnkaaSrc
namespace Go.Proofs.Ytmpajoheoobnkaa
set_option linter.unusedSimpArgs false
set_option linter.unusedVariables false
open Go.RowKit

theorem info54 : (Try.prog.info? 54).map (fun i => (i.zero, i.size, i.bytes)) = some (some (.agg #[.int .u16 0, .string ⟨#[]⟩]), 2, 24) := by kernel_rfl
def eCells : List Pk → List Value
  | [] => []
  | p :: K => .int .u16 p.1 :: .string (strOfNums p.2) :: eCells K
theorem eCells_length (K : List Pk) : (eCells K).length = K.length * 2 := by
  induction K with
  | nil => rfl
  | cons p K ih => simp [eCells, ih]; omega
theorem eCells_append (K L : List Pk) : eCells (K ++ L) = eCells K ++ eCells L := by
  induction K with
  | nil => rfl
  | cons p K ih => simp [eCells, ih]
theorem eCells_one (K : List Pk) : ∀ u ∈ eCells K, u.oneCell' = true := by
  induction K with
  | nil => intro u hu; simp [eCells] at hu
  | cons p K ih =>
    intro u hu
    simp only [eCells, List.mem_cons] at hu
    rcases hu with rfl | rfl | hu
    · rfl
    · rfl
    · exact ih u hu
theorem eCells_get (K : List Pk) (i : Nat) (hi : i < K.length) : (eCells K)[i * 2]? = some (.int .u16 K[i].1) ∧ (eCells K)[i * 2 + 1]? = some (.string (strOfNums K[i].2)) := by
  induction K generalizing i with
  | nil => simp at hi
  | cons p K ih =>
    cases i with
    | zero => simp [eCells]
    | succ i =>
      have := ih i (by simpa using hi)
      rw [show (i + 1) * 2 = i * 2 + 2 by omega]
      simpa [eCells] using this
theorem eCells_tail (K : List Pk) (hk : K ≠ []) (j : Nat) : (eCells K.tail)[j]? = (eCells K)[j + 2]? := by
  cases K with
  | nil => exact absurd rfl hk
  | cons p K => simp [eCells]
/-- A row of the reference in memory. -/
def EAt (w : World) (A : Option Addr) (c : Nat) (K : List Pk) : Prop :=
  (K = [] ∧ A = none ∧ c = 0) ∨ ∃ b o cur, A = some ⟨b, o, none⟩ ∧ w.heap[b]? = some (.cells cur 54 (0, 0)) ∧ ∀ j u, (eCells K)[j]? = some u → cur[o + j]? = some u
theorem EAt.below {w w' : World} {A : Option Addr} {c : Nat} {K : List Pk} (h : EAt w A c K) (hb : Below w.heap.size w w') : EAt w' A c K := by
  rcases h with h | ⟨b, o, cur, h1, h2, h3⟩
  · exact .inl h
  · exact .inr ⟨b, o, cur, h1, heap_below hb (blk_lt h2) h2, h3⟩
theorem EAt.moved {w w' : World} {S R M B E n t m : Nat} {L : List Pk} {rg : List RE} {A : Option Addr} {c : Nat} {K : List Pk} (h : EAt w A c K) (hs : StoreAt w S R M B E n t m L rg) (hm : Moved S R B w w') : EAt w' A c K := by
  rcases h with h | ⟨b, o, cur, h1, h2, h3⟩
  · exact .inl h
  · exact .inr ⟨b, o, cur, h1, hm.other b cur 54 h2 (fun e => by subst e; have := hs.s; rw [h2] at this; simp at this) (fun e => by subst e; have := hs.r; rw [h2] at this; simp at this), h3⟩
theorem EAt.src {w : World} {A : Option Addr} {c : Nat} {K : List Pk} (h : EAt w A c K) : SrcAt w A K.length c (eCells K) := by
  rcases h with ⟨rfl, rfl, rfl⟩ | ⟨b, o, cur, rfl, h2, h3⟩
  · exact ⟨fun _ => ⟨rfl, rfl⟩, fun ad h => by cases h⟩
  · refine ⟨fun h => (by cases h), fun ad h j u hj => ?_⟩
    cases h
    rw [Addr.add_lit, (blk_facts h2).1]
    exact h3 j u hj
theorem eat_own {w : World} {B : Nat} {A : Option Addr} {n cap : Nat} {K : List Pk} (h : w.ownsRow B 54 2 (.slice A n cap) n (eCells K)) : EAt w A cap K ∧ n = K.length := by
  have hn : n = K.length := by
    have := h.1
    rw [eCells_length] at this
    omega
  refine ⟨?_, hn⟩
  rcases h.2 with ⟨h1, h2⟩ | ⟨g, cap', cur, h1, _, h3, _, _, h6⟩
  · simp only [Value.slice.injEq] at h1
    refine .inl ⟨?_, h1.1, h1.2.2⟩
    exact List.eq_nil_of_length_eq_zero (by omega)
  · simp only [Value.slice.injEq] at h1
    obtain ⟨rfl, _, rfl⟩ := h1
    refine .inr ⟨g, 0, cur, rfl, h3, fun j u hj => ?_⟩
    have hjl : j < n * 2 := by
      have := (List.getElem?_eq_some_iff.1 hj).1
      rw [eCells_length] at this
      omega
    rw [Nat.zero_add, ← hj, ← h6.2, List.getElem?_take_of_lt hjl, Array.getElem?_toList]
theorem eat_tail {w : World} {g c : Nat} {K : List Pk} (h : EAt w (some ⟨g, 0, none⟩) c K) (hk : K ≠ []) (c' : Nat) : EAt w (some ⟨g, 2, none⟩) c' K.tail := by
  rcases h with ⟨_, h, _⟩ | ⟨b, o, cur, h1, h2, h3⟩
  · cases h
  · cases h1
    refine .inr ⟨_, _, cur, rfl, h2, fun j u hj => ?_⟩
    rw [eCells_tail K hk] at hj
    rw [← h3 _ _ hj]
    congr 1
    omega
theorem lit_src (w : World) (q : Int) (s : ByteArray) (t : TypeId) : SrcAt (w.alloc (.cells #[.int .u16 q, .string s] t)) (some ⟨w.heap.size, 0, none⟩) 1 1 [.int .u16 q, .string s] := by
  refine ⟨fun h => (by cases h), fun ad h j u hj => ?_⟩
  cases h
  rw [Addr.add_lit, World.cell?_alloc_mark]
  simpa using hj
theorem lit_one (q : Int) (s : ByteArray) : ∀ u ∈ [Value.int .u16 q, .string s], u.oneCell' = true := by
  intro u hu
  simp at hu
  rcases hu with rfl | rfl <;> rfl
set_option maxRecDepth 100000 in
set_option maxHeartbeats 1000000 in
theorem refAdd (w : World) (A : Option Addr) (c n : Nat) (K : List Pk) (q : Int) (s : ByteArray) (zs : List Int) (hs : s = strOfNums zs) (h : EAt w A c K) (hn : 1 ≤ n) (hn1 : n ≤ 4096) (hkn : K.length ≤ n) :
    Calls Try.prog 12 #[.slice A K.length c, .int .i64 n, .int .u16 q, .string s] w fun e w' => ∃ A' c', e = .returned (.slice A' (addK n K (q, zs)).length c') ∧ EAt w' A' c' (addK n K (q, zs)) ∧ Below w.heap.size w w' := by
  obtain ⟨i0, hi, hz0, hz1, hz2⟩ := info_parts info54
  have hown : w.ownsRow w.heap.size 54 2 (.slice none 0 0) 0 [] := World.ownsRow_nil _ _ _ _
  have hsrc := Lib.hid h.src
  have HLn : Hid ((eCells K).length = K.length * 2) := Lib.hid (eCells_length K)
  have hB0 : Below w.heap.size w w := Below.refl _ _
  have HE := Lib.hid hs; clear hs
  by_cases hc : K.length = n
  · have hmn : (n : Int) < (K.length : Int) + 1 := by omega
    have HC := Lib.hid hc; clear hc
    go_enter Try.func12, Try.ntmps12
    go_wp2_with (first
      | ((at_builtin; refine wpList_append_src _ rfl (.tmp 10) (.tmp 11) 27 rfl w.heap.size 54 i0 ((.agg #[.int .u16 0, .string ⟨#[]⟩])) 2 24 Try.underlying27 hi hz0 hz1 hz2 rfl (by decide) _ _ _ rfl hown _ _ _ (eCells K) rfl HLn.out hsrc.out (eCells_one _) (by unfold maxLen; first | omega | (simp only [List.length_append, List.length_cons]; omega)) (by first | omega | (simp only [List.length_append, List.length_cons]; omega)) (by have := hB0.size; first | omega | (simp; omega)) ?_; intro v1 w1 hown1 hgrow1)
         have hown0 : w1.ownsRow w.heap.size 54 2 v1 K.length (eCells K) := by simpa using hown1
         clear hown1
         have hown1 := hown0
         clear hown0
         obtain ⟨A1, cap1, rfl⟩ := own_slice hown1
         have hB1 := below_grown hB0 hB0.size hown hgrow1)
      | ((at_builtin; refine wpList_append_src _ rfl (.tmp 13) (.tmp 17) 27 rfl w.heap.size 54 i0 ((.agg #[.int .u16 0, .string ⟨#[]⟩])) 2 24 Try.underlying27 hi hz0 hz1 hz2 rfl (by decide) _ _ _ rfl (hown1.alloc _) _ _ _ ([.int .u16 q, .string s]) rfl rfl (lit_src _ _ _ _) (lit_one _ _) (by unfold maxLen; first | omega | (simp only [List.length_append, List.length_cons]; omega)) (by first | omega | (simp only [List.length_append, List.length_cons]; omega)) (by have := hB1.size; first | omega | (simp; omega)) ?_; intro v2 w2 hown2 hgrow2)
         have hB2 := below_grown (Below.alloc hB1 hB1.size _) (by have := hB1.size; simp; omega) (hown1.alloc _) hgrow2
         have hown3 : w2.ownsRow w.heap.size 54 2 v2 (K.length + 1) (eCells (K ++ [(q, zs)])) := by rw [eCells_append]; simp only [eCells, ← HE.out]; simpa using hown2
         clear hown2
         obtain ⟨A2, cap2, rfl⟩ := own_slice hown3
         obtain ⟨g, cap3, e3, _, hg, hcap, _⟩ : ∃ g cap', Value.slice A2 (K.length + 1) cap2 = .slice (some ⟨g, 0, none⟩) (K.length + 1) cap' ∧ w.heap.size ≤ g ∧ g < w2.heap.size ∧ K.length + 1 ≤ cap' ∧ cap' ≤ maxLen := (by
           rcases own_shape hown3 with ⟨_, h2, _⟩ | h2
           · omega
           · exact h2)
         simp only [Value.slice.injEq, true_and] at e3
         obtain ⟨rfl, rfl⟩ := e3
         have hk1 : (1 : Int) ≤ (K.length : Int) + 1 := by omega
         have hc2 : 1 < cap2 := by have := HC.out; omega
         have hc3 : ¬ cap2 = 1 := by omega
         have he2 := (eat_own hown3).1
         clear hown3))
    clear hown1 hgrow1 hgrow2 hown hsrc hB0 hB1
    go_ret
    have e4 : addK n K (q, zs) = (K ++ [(q, zs)]).tail := by
      unfold addK
      rw [if_pos HC.out]
      cases K with
      | nil => have := HC.out; simp at this; omega
      | cons p K => rfl
    have e5 : (K ++ [(q, zs)]).tail.length = K.length := by rw [List.length_tail, List.length_append, List.length_singleton]; omega
    rw [e4, e5]
    refine ⟨_, _, ?_, eat_tail he2 (by simp) (cap2 - 1), hB2⟩
    first | rfl | (simp; done)
  · have hmn : (K.length : Int) + 1 ≤ (n : Int) := by omega
    go_enter Try.func12, Try.ntmps12
    go_wp2_with (first
      | ((at_builtin; refine wpList_append_src _ rfl (.tmp 10) (.tmp 11) 27 rfl w.heap.size 54 i0 ((.agg #[.int .u16 0, .string ⟨#[]⟩])) 2 24 Try.underlying27 hi hz0 hz1 hz2 rfl (by decide) _ _ _ rfl hown _ _ _ (eCells K) rfl HLn.out hsrc.out (eCells_one _) (by unfold maxLen; first | omega | (simp only [List.length_append, List.length_cons]; omega)) (by first | omega | (simp only [List.length_append, List.length_cons]; omega)) (by have := hB0.size; first | omega | (simp; omega)) ?_; intro v1 w1 hown1 hgrow1)
         have hown0 : w1.ownsRow w.heap.size 54 2 v1 K.length (eCells K) := by simpa using hown1
         clear hown1
         have hown1 := hown0
         clear hown0
         obtain ⟨A1, cap1, rfl⟩ := own_slice hown1
         have hB1 := below_grown hB0 hB0.size hown hgrow1)
      | ((at_builtin; refine wpList_append_src _ rfl (.tmp 13) (.tmp 17) 27 rfl w.heap.size 54 i0 ((.agg #[.int .u16 0, .string ⟨#[]⟩])) 2 24 Try.underlying27 hi hz0 hz1 hz2 rfl (by decide) _ _ _ rfl (hown1.alloc _) _ _ _ ([.int .u16 q, .string s]) rfl rfl (lit_src _ _ _ _) (lit_one _ _) (by unfold maxLen; first | omega | (simp only [List.length_append, List.length_cons]; omega)) (by first | omega | (simp only [List.length_append, List.length_cons]; omega)) (by have := hB1.size; first | omega | (simp; omega)) ?_; intro v2 w2 hown2 hgrow2)
         have hB2 := below_grown (Below.alloc hB1 hB1.size _) (by have := hB1.size; simp; omega) (hown1.alloc _) hgrow2
         have hown3 : w2.ownsRow w.heap.size 54 2 v2 (K.length + 1) (eCells (K ++ [(q, zs)])) := by rw [eCells_append]; simp only [eCells, ← HE.out]; simpa using hown2
         clear hown2
         obtain ⟨A2, cap2, rfl⟩ := own_slice hown3))
    clear hown1 hgrow1 hgrow2 hown hsrc hB0 hB1
    have he2 := (eat_own hown3).1
    clear hown3
    go_ret
    have e4 : addK n K (q, zs) = K ++ [(q, zs)] := by unfold addK; rw [if_neg hc]
    rw [e4, List.length_append, List.length_singleton]
    exact ⟨_, _, rfl, he2, hB2⟩
set_option maxRecDepth 100000 in
theorem refGet (w : World) (A : Option Addr) (c : Nat) (K : List Pk) (x : Int) (h : EAt w A c K) (hl : K.length ≤ 1000000) (v : Option (List Int)) (hv : (lastF K x).map (fun j => (K.getD j (0, [])).2) = v) :
    Calls Try.prog 14 #[.slice A K.length c, .int .u16 x] w fun e w' => e = .returned (.tuple #[.string (strOfNums (v.getD [])), .bool v.isSome]) ∧ Below w.heap.size w w' := by
  have HV := Lib.hid hv; clear hv
  go_enter Try.func14, Try.ntmps14
  go_wp2_with fail
  go_loopw [6] (fun i wr => ∃ k : Nat, k ≤ K.length ∧ i = .int .i64 ((k : Int) - 1) ∧ Hid (∀ j (hj : j < K.length), k ≤ j → K[j].1 ≠ x) ∧ Below w.heap.size w wr) (fun i _ => (intOf i + 1).toNat)
  case atStart => exact ⟨K.length, by omega, rfl, Lib.hid (fun j hj hk => absurd hk (by omega)), by first | (with_reducible exact Below.refl _ _) | go_grown⟩
  case round =>
    obtain ⟨k, hk, rfl, hno, hB⟩ := hrel
    cases k with
    | zero =>
      have hz : (((0 : Nat) : Int) - 1) = -1 := by omega
      rw [hz]
      go_wp2_with fail
      go_ret2
      have hn : lastF K x = none := lastF_none (fun p hp => by
        obtain ⟨j, hj, e⟩ := List.getElem_of_mem hp
        rw [← e]
        exact hno.out j hj (by omega))
      have hv := HV.out
      rw [hn] at hv
      subst hv
      exact ⟨rfl, hB⟩
    | succ k =>
      have hz : (((k + 1 : Nat) : Int) - 1) = (k : Int) := by omega
      rw [hz]
      have hkl : k < K.length := by omega
      obtain ⟨c0, c1⟩ := eCells_get K k hkl
      rcases h with ⟨rfl, _, _⟩ | ⟨b, o, cur, rfl, hh, hc⟩
      · simp at hkl
      have hb := blk_lt hh
      have d0 := (hB.cell (p := ⟨b, o + k * 2, none⟩) hb).trans (((blk_facts hh).1 _).trans (hc _ _ c0))
      have d1 := (hB.cell (p := ⟨b, o + (k * 2 + 1), none⟩) hb).trans (((blk_facts hh).1 _).trans (hc _ _ c1))
      rw [← Nat.add_assoc] at d1
      have hb1 := Nat.lt_of_lt_of_le hb hB.size
      by_cases hq : K[k].1 = x
      · have hlast : lastF K x = some k := lastF_at hkl hq (fun i hi hlt => hno.out i hi (by omega))
        have hqb : (K[k].1 == x) = true := by rw [hq]; exact beq_self_eq_true _
        have hv := HV.out
        rw [hlast] at hv
        have hget : K.getD k (0, []) = K[k] := by simp [List.getD, hkl]
        simp only [Option.map_some, hget] at hv
        subst hv
        generalize hpk : K[k] = pk at *
        obtain ⟨p1, p2⟩ := pk
        dsimp only at d0 d1 hq hqb
        have HPK := Lib.hid hpk
        clear hc c0 c1 hlast hpk hget
        go_wp2_with fail
        go_ret2
        refine ⟨?_, hB⟩
        simp only [HPK.out]
        rfl
      · have hqb : (K[k].1 == x) = false := beq_eq_false_iff_ne.2 hq
        have hno2 : Hid (∀ j (hj : j < K.length), k ≤ j → K[j].1 ≠ x) := Lib.hid (fun j hj hk2 => by
          by_cases e : j = k
          · subst e; exact hq
          · exact hno.out j hj (by omega))
        clear hno hc c0 c1
        generalize K[k] = pk at *
        obtain ⟨p1, p2⟩ := pk
        dsimp only at d0 d1 hq hqb
        go_wp2_with fail
        go_roundw
        case rel => exact ⟨k, by omega, by go_num, hno2, hB⟩
        case measure => first | (simp [intOf]; done) | (simp [intOf]; omega)
end Go.Proofs.Ytmpajoheoobnkaa
