/- The store's Add: what it leaves. -/
import Derived.Test.YtmpajoheoobnkaaAdd
namespace Go.Proofs.Ytmpajoheoobnkaa
set_option linter.unusedSimpArgs false
set_option linter.unusedVariables false
open Go.RowKit

theorem fresh_ent {w w' : World} {S R M B E n t m : Nat} {K : List Pk} {rg : List RE} (h : StoreAt w S R M B E n t m K rg) (hn : 1 ≤ n) {q : Int} {zs : List Int} {g2 : Nat} (hMv : Moved S R B w w')
    (hq : w'.heap[g2]? = some (.cells (zs.map (Value.int .u8)).toArray 5 (0, 0))) (gz2 : w.heap.size ≤ g2) :
    ∀ j (hj : j < (addK n K (q, zs)).length), ∃ re, (rg.set (t % n) ⟨q, .slice (some ⟨g2, 0, none⟩) zs.length zs.length⟩)[(t + 1 - (addK n K (q, zs)).length + j) % n]? = some re ∧ re.q = (addK n K (q, zs))[j].1 ∧ BytesAt w' E re.v (addK n K (q, zs))[j].2 := by
  have hkl := h.kl
  have hrl := h.rl
  have hew := h.ew
  have hkeep : ∀ {v : Value} {ys : List Int}, BytesAt w E v ys → BytesAt w' E v ys := fun hb => hb.kept (fun g c _ hg => hMv.other g c 5 hg (fun e => by subst e; have := h.s; rw [hg] at this; simp at this) (fun e => by subst e; have := h.r; rw [hg] at this; simp at this))
  have hnew : BytesAt w' E (.slice (some ⟨g2, 0, none⟩) zs.length zs.length) zs := ⟨g2, rfl, by omega, hq⟩
  have ha : t % n < n := Nat.mod_lt _ (by omega)
  have hset : ∀ i, i < n → (rg.set (t % n) ⟨q, .slice (some ⟨g2, 0, none⟩) zs.length zs.length⟩)[i]? = if t % n = i then some ⟨q, .slice (some ⟨g2, 0, none⟩) zs.length zs.length⟩ else rg[i]? := by
    intro i hi
    rw [List.getElem?_set]
    by_cases e : t % n = i
    · rw [if_pos e, if_pos e, if_pos (by omega)]
    · rw [if_neg e, if_neg e]
  intro j hj
  rw [hset _ (Nat.mod_lt _ (by omega))]
  by_cases hc : K.length = n
  · have e : addK n K (q, zs) = K.tail ++ [(q, zs)] := by unfold addK; rw [if_pos hc]
    have hl : (addK n K (q, zs)).length = n := by rw [e, List.length_append, List.length_tail, List.length_singleton]; omega
    have hjn : j < n := by omega
    rw [hl]
    by_cases hj2 : j = n - 1
    · rw [show t + 1 - n + j = t by omega, if_pos rfl]
      refine ⟨_, rfl, ?_⟩
      have e2 : (addK n K (q, zs))[j]? = some (q, zs) := by rw [e, List.getElem?_append_right (by rw [List.length_tail]; omega), List.length_tail, show j - (K.length - 1) = 0 by omega]; rfl
      rw [List.getElem?_eq_getElem hj] at e2
      simp only [Option.some.injEq] at e2
      rw [e2]
      exact ⟨rfl, hnew⟩
    · obtain ⟨re, h1, h2, h3⟩ := h.ent (j + 1) (by omega)
      have hne : ¬ t % n = (t + 1 - n + j) % n := by
        intro q2
        have := pos_inj (n := n) (b := t - n) (i := n) (j := j + 1 + 0)
        have h4 : (t - n + 0) % n = (t - n + (j + 1)) % n := by rw [show t - n + (j + 1) = t + 1 - n + j by omega, ← q2, Nat.add_zero]; conv => rhs; rw [show t = t - n + n by omega, Nat.add_mod_right]
        have := pos_inj (b := t - n) (i := 0) (j := j + 1) (by omega) (by omega) h4
        omega
      rw [if_neg hne]
      have e2 : (addK n K (q, zs))[j]? = K[j + 1]? := by rw [e, List.getElem?_append_left (by rw [List.length_tail]; omega), List.getElem?_tail]
      rw [List.getElem?_eq_getElem hj, List.getElem?_eq_getElem (show j + 1 < K.length by omega)] at e2
      simp only [Option.some.injEq] at e2
      rw [show (t + 1 - n + j) = t - K.length + (j + 1) by omega]
      rw [e2]
      exact ⟨re, h1, h2, hkeep h3⟩
  · have hlt : K.length < n := by omega
    have ht : t = K.length := by omega
    have e : addK n K (q, zs) = K ++ [(q, zs)] := by unfold addK; rw [if_neg hc]
    have hl : (addK n K (q, zs)).length = K.length + 1 := by rw [e, List.length_append, List.length_singleton]
    rw [hl, show t + 1 - (K.length + 1) + j = j by omega]
    have hjl : j < K.length + 1 := by omega
    rw [Nat.mod_eq_of_lt (show j < n by omega), Nat.mod_eq_of_lt (show t < n by omega)]
    by_cases hj2 : j = K.length
    · rw [if_pos (by omega)]
      refine ⟨_, rfl, ?_⟩
      have e2 : (addK n K (q, zs))[j]? = some (q, zs) := by rw [e, List.getElem?_append_right (by omega), show j - K.length = 0 by omega]; rfl
      rw [List.getElem?_eq_getElem hj] at e2
      simp only [Option.some.injEq] at e2
      rw [e2]
      exact ⟨rfl, hnew⟩
    · obtain ⟨re, h1, h2, h3⟩ := h.ent j (by omega)
      rw [show t - K.length + j = j by omega, Nat.mod_eq_of_lt (by omega)] at h1
      rw [if_neg (by omega)]
      have e2 : (addK n K (q, zs))[j]? = K[j]? := by rw [e, List.getElem?_append_left (by omega)]
      rw [List.getElem?_eq_getElem hj, List.getElem?_eq_getElem (show j < K.length by omega)] at e2
      simp only [Option.some.injEq] at e2
      rw [e2]
      exact ⟨re, h1, h2, hkeep h3⟩
theorem add_t (w : World) (S R M B E n t m : Nat) (K : List Pk) (rg : List RE) (h : StoreAt w S R M B E n t m K rg) (hn : 1 ≤ n) (hn1 : n ≤ 4096) (q : Int) (q0 : 0 ≤ q) (q1 : q ≤ 65535) (A : Option Addr) (cap : Nat) (zs : List Int) (hl : zs.length ≤ 1000000) (hA : IntsAt w A .u8 zs) (hm : m ≤ 1000000) :
    Calls Try.prog 11 #[.pointer (some ⟨S, 0, none⟩), .int .u16 q, .slice A zs.length cap] w fun e w' => e = .returned (.tuple #[]) ∧ (∃ rg', StoreAt w' S R M B E n (t + 1) (m + 1) (addK n K (q, zs)) rg') ∧ Moved S R B w w' := by
  have ha : t % n < n := Nat.mod_lt _ (by omega)
  have hc : K.length ≤ n := by have := h.kl; omega
  have hal : t % n < rg.length := by rw [h.rl]; exact ha
  obtain ⟨e0, e1, A0, n0, c0, e2⟩ := h.rw _ (List.getElem_mem hal)
  obtain ⟨⟨p, v⟩, he⟩ : ∃ re, rg[t % n] = re := ⟨_, rfl⟩
  rw [he] at e0 e1 e2
  dsimp only at e0 e1 e2
  subst e2
  have hre : rg[t % n]? = some ⟨p, .slice A0 n0 c0⟩ := by rw [List.getElem?_eq_getElem hal, he]
  have hmod : ((t % n : Nat) : Int) + 1 = ((t % n + 1 : Nat) : Int) := by push_cast; rfl
  have ha' : (((t % n : Nat) : Int) + 1) % (n : Int) = (((t + 1) % n : Nat) : Int) := by
    rw [hmod, ← Int.natCast_emod, Nat.mod_add_mod]
  have hc' : min ((K.length : Int) + 1) (n : Int) = (((addK n K (q, zs)).length : Nat) : Int) := by
    rw [addK_length h.kl hn]
    have := h.kl
    omega
  have fin : ∀ (w' : World) (g2 : Nat) (f' : Int → Option Value), w'.heap[S]? = some (.cells #[.slice (some ⟨R, 0, none⟩) n n, .int .i64 (((t + 1) % n : Nat) : Int), .int .i64 (((addK n K (q, zs)).length : Nat) : Int), .map (some M)] 48 (0, 0)) →
      w'.heap[R]? = some (.cells (cellsR (rg.set (t % n) ⟨q, .slice (some ⟨g2, 0, none⟩) zs.length zs.length⟩)).toArray 50 (0, 0)) → w'.heap[g2]? = some (.cells (zs.map (Value.int .u8)).toArray 5 (0, 0)) → w.heap.size ≤ g2 → MapIs w' Try.prog 29 .u16 M (m + 1) f' → Moved S R B w w' →
      (∀ y, f' y = posF n (t + 1) (addK n K (q, zs)) y) → (∃ rg', StoreAt w' S R M B E n (t + 1) (m + 1) (addK n K (q, zs)) rg') ∧ Moved S R B w w' := by
    intro w' g2 f' h1 h2 h3 h4 h5 h6 h7
    refine ⟨⟨_, h1, h2, by rw [List.length_set]; exact h.rl, ?_, h5.congr h7, addK_length h.kl hn, fresh_ent h hn h6 h3 h4, h.bS, h.bR, h.bM, Nat.le_trans h.bw h6.size, Nat.le_trans h.ew h6.size⟩, h6⟩
    intro x hx
    rcases List.mem_or_eq_of_mem_set hx with hx | rfl
    · exact h.rw x hx
    · exact ⟨q0, q1, _, _, _, rfl⟩
  by_cases hcn : K.length = n
  · match K, h, hc, hcn, hc', fin with
    | [], _, _, hcn, _, _ => simp at hcn; omega
    | k0 :: K', h, hc, hcn, hc', fin =>
      have hcn' : K'.length + 1 = n := by simpa using hcn
      have htn : n ≤ t := by have := h.kl; omega
      obtain ⟨re, g1, g3, _⟩ := h.ent 0 (by simp)
      have hp0 : (t - (k0 :: K').length + 0) % n = t % n := by rw [hcn, Nat.add_zero]; conv => rhs; rw [show t = t - n + n by omega, Nat.add_mod_right]
      rw [hp0, hre] at g1
      simp only [Option.some.injEq] at g1
      rw [← g1] at g3
      simp only [List.getElem_cons_zero] at g3
      have hlast : lastF (k0 :: K') p = match lastF K' p with | some j => some (j + 1) | none => some 0 := by rw [lastF]; cases lastF K' p <;> simp [g3]
      cases hq : lastF K' p with
      | none =>
        rw [hq] at hlast
        have hpos : posF n t (k0 :: K') p = some (.int .i64 ((t % n : Nat) : Int)) := by unfold posF; rw [hlast]; simp only [Option.map_some]; rw [hp0]
        refine (add_del w S R M B n m (t % n) (k0 :: K').length _ rg h.s h.r h.rl h.map h.bS h.bR h.bM h.bw hn hn1 ha hc q q0 q1 p A0 n0 c0 hre e0 e1 A cap zs hl hA hm ((t + 1) % n) ha' _ true (by rw [hpos]; rfl) (by rw [hpos]; rfl) _ hc' (Lib.hid hcn) (Lib.hid rfl) (Lib.hid rfl)).mono ?_
        rintro e w' ⟨g2, h1, h2, h3, h4, h5, h6, h7⟩
        refine ⟨h1, fin w' g2 _ h2 h3 h4 h5 h6 h7 (fun y => ?_)⟩
        rw [← evict_push (p0 := k0) hcn' htn y]
        by_cases hy : y = (q, zs).1
        · rw [if_pos hy, if_pos hy]
        · rw [if_neg hy, if_neg hy, g3]; exact evict_drop hcn' htn (by rw [← g3]; exact hq) y
      | some j =>
        rw [hq] at hlast
        have hpos : posF n t (k0 :: K') p = some (.int .i64 (((t - (k0 :: K').length + (j + 1)) % n : Nat) : Int)) := by unfold posF; rw [hlast]; rfl
        obtain ⟨hjl, _⟩ := lastF_lt hq
        refine (add_keep w S R M B n m (t % n) (k0 :: K').length _ rg h.s h.r h.rl h.map h.bS h.bR h.bM h.bw hn hn1 ha hc q q0 q1 p A0 n0 c0 hre e0 e1 A cap zs hl hA hm ((t + 1) % n) ha' _ true (by rw [hpos]; rfl) (by rw [hpos]; rfl) _ hc' (.inr (.inr ?_))).mono ?_
        · intro he2
          have he3 : (t - (k0 :: K').length + (j + 1)) % n = t % n := by exact_mod_cast he2
          rw [← hp0] at he3
          have := pos_inj (by omega) (by omega) he3
          omega
        rintro e w' ⟨g2, h1, h2, h3, h4, h5, h6, h7⟩
        refine ⟨h1, fin w' g2 _ h2 h3 h4 h5 h6 h7 (fun y => ?_)⟩
        rw [← evict_push (p0 := k0) hcn' htn y]
        by_cases hy : y = (q, zs).1
        · rw [if_pos hy, if_pos hy]
        · rw [if_neg hy, if_neg hy, (evict_keep hcn' htn (by rw [← g3, hq]; simp) y).1]
  · have hlt : K.length < n := by omega
    obtain ⟨j, hj⟩ : ∃ j, (posF n t K p).getD (.int .i64 0) = .int .i64 j := by
      unfold posF
      cases lastF K p with
      | none => exact ⟨_, rfl⟩
      | some i => exact ⟨_, rfl⟩
    refine (add_keep w S R M B n m (t % n) K.length _ rg h.s h.r h.rl h.map h.bS h.bR h.bM h.bw hn hn1 ha hc q q0 q1 p A0 n0 c0 hre e0 e1 A cap zs hl hA hm ((t + 1) % n) ha' j _ hj rfl _ hc' (.inl hcn)).mono ?_
    rintro e w' ⟨g2, h1, h2, h3, h4, h5, h6, h7⟩
    exact ⟨h1, fin w' g2 _ h2 h3 h4 h5 h6 h7 (fun y => posF_push (p := (q, zs)) h.kl hlt y)⟩
theorem add_nil (q : Int) (v : Value) (w : World) : Calls Try.prog 11 #[.pointer none, .int .u16 q, v] w fun e w' => e = .returned (.tuple #[]) ∧ w = w' := by
  go_enter Try.func11, Try.ntmps11
  go_wp2_with fail
  (try simp only [Exit.inBlock, Exit.then])
  (refine bodyPost_ret (results_none rfl _ _ _) rfl ?_)
  exact ⟨rfl, rfl⟩
end Go.Proofs.Ytmpajoheoobnkaa
