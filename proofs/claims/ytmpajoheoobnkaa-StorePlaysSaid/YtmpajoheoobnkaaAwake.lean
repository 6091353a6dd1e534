/- The store's example; few. -/
import Derived.Test.YtmpajoheoobnkaaAddT
import Derived.Test.YtmpajoheoobnkaaPlain
import Derived.Lib.SlBytesConst
import Derived.Deep.QuietTactic
namespace Go.Proofs.Ytmpajoheoobnkaa
set_option linter.unusedSimpArgs false
set_option linter.unusedVariables false
open Go.RowKit

theorem one_ints (w : World) (x : Int) (fz : Nat × Nat) : IntsAt (w.alloc (.cells #[.int .u8 x] 5 fz)) (some ⟨w.heap.size, 0, none⟩) .u8 [x] := by
  intro i hi
  have : i = 0 := by simpa using hi
  subst this
  exact ⟨_, 0, rfl, by rw [size_alloc]; omega, by rw [World.cell?_alloc_mark]; rfl⟩
theorem add_k (w : World) (S R M B E n t m : Nat) (K : List Pk) (rg : List RE) (h : StoreAt w S R M B E n t m K rg) (hn : 1 ≤ n) (hn1 : n ≤ 4096) (q : Int) (q0 : 0 ≤ q) (q1 : q ≤ 65535) (A : Option Addr) (k cap : Nat) (zs : List Int) (hk : zs.length = k) (hl : k ≤ 1000000) (hA : IntsAt w A .u8 zs) (hm : m ≤ 1000000) :
    Calls Try.prog 11 #[.pointer (some ⟨S, 0, none⟩), .int .u16 q, .slice A k cap] w fun e w' => e = .returned (.tuple #[]) ∧ (∃ rg', StoreAt w' S R M B E n (t + 1) (m + 1) (addK n K (q, zs)) rg') ∧ Moved S R B w w' := by
  subst hk
  exact add_t w S R M B E n t m K rg h hn hn1 q q0 q1 A cap zs hl hA hm
theorem get_k (w : World) (S R M B E n t m : Nat) (K : List Pk) (rg : List RE) (h : StoreAt w S R M B E n t m K rg) (hn : 1 ≤ n) (hn1 : n ≤ 4096) (x : Int) (x0 : 0 ≤ x) (x1 : x ≤ 65535) (j : Nat) (hx : lastF K x = some j) (zs : List Int) (hzs : ∀ hj : j < K.length, K[j].2 = zs) (k : Nat) (hk : zs.length = k) (hl : k ≤ 1000000) :
    Calls Try.prog 13 #[.pointer (some ⟨S, 0, none⟩), .int .u16 x] w fun e w' => ∃ g, e = .returned (.tuple #[.slice (some ⟨g, 0, none⟩) k k, .bool true]) ∧ w'.heap[g]? = some (.cells (zs.map (Value.int .u8)).toArray 5 (0, 0)) ∧ w.heap.size ≤ g ∧ Below w.heap.size w w' := by
  subst hk
  exact get_some w S R M B E n t m K rg h hn hn1 x x0 x1 j hx zs hzs hl
theorem ints_blk {w : World} {g : Nat} {zs : List Int} {t : TypeId} (h1 : w.heap[g]? = some (.cells (zs.map (Value.int .u8)).toArray t (0, 0))) : IntsAt w (some ⟨g, 0, none⟩) .u8 zs := by
  intro i hi
  refine ⟨g, 0, rfl, blk_lt h1, ?_⟩
  rw [(blk_facts h1).1, Nat.zero_add]
  simp [List.getD, hi]
theorem get_t (w : World) (S R M B E n t m : Nat) (K : List Pk) (rg : List RE) (h : StoreAt w S R M B E n t m K rg) (hn : 1 ≤ n) (hn1 : n ≤ 4096) (x : Int) (x0 : 0 ≤ x) (x1 : x ≤ 65535) (v : Option (List Int)) (hv : (lastF K x).map (fun j => (K.getD j (0, [])).2) = v) (hl : ∀ p ∈ K, p.2.length ≤ 1000000) :
    Calls Try.prog 13 #[.pointer (some ⟨S, 0, none⟩), .int .u16 x] w fun e w' => ∃ A k c, e = .returned (.tuple #[.slice A k c, .bool v.isSome]) ∧ IntsAt w' A .u8 (v.getD []) ∧ k = (v.getD []).length ∧ (∀ b o, A = some ⟨b, o, none⟩ → w.heap.size ≤ b) ∧ Below w.heap.size w w' := by
  cases hx : lastF K x with
  | none =>
    rw [hx] at hv
    subst hv
    refine (get_none w S R M B E n t m K rg h x x0 x1 hx).mono ?_
    rintro e w' ⟨rfl, rfl⟩
    exact ⟨none, 0, 0, rfl, (fun i hi => by simp at hi), rfl, (fun b o q => by cases q), Below.refl _ _⟩
  | some j =>
    obtain ⟨hj, _⟩ := lastF_lt hx
    rw [hx] at hv
    subst hv
    have hget : K.getD j (0, []) = K[j] := by simp [List.getD, hj]
    refine (get_some w S R M B E n t m K rg h hn hn1 x x0 x1 j hx (K[j].2) (fun _ => rfl) (hl _ (List.getElem_mem hj))).mono ?_
    rintro e w' ⟨g, rfl, h1, h2, h3⟩
    refine ⟨_, _, _, rfl, ?_, ?_, ?_, h3⟩
    · simp only [Option.map_some, Option.getD_some, hget]
      intro i hi
      refine ⟨g, 0, rfl, blk_lt h1, ?_⟩
      rw [(blk_facts h1).1, Nat.zero_add]
      simp [List.getD, hi]
    · simp only [Option.map_some, Option.getD_some, hget]
    · intro b o q
      cases q
      exact h2
theorem str_of {w : World} {A : Option Addr} {zs : List Int} {c : Nat} (h : IntsAt w A .u8 zs) (hk : zs ≠ []) : (convert 30 9 (.slice A zs.length c)).run Try.prog w = .ok (.string (strOfNums zs)) w := by
  obtain ⟨b, o, rfl, _, _⟩ := h 0 (by cases zs; exact absurd rfl hk; simp)
  exact run_convert_bytes_arg w 30 5 Try.underlying30 (by kernel_rfl) b o zs.length c zs rfl (fun i hi => by
    obtain ⟨b2, o2, q, _, hc⟩ := h i hi
    cases q
    exact hc) 9 Try.underlying9
theorem str_nil (w : World) (A : Option Addr) (c : Nat) : (convert 30 9 (.slice A 0 c)).run Try.prog w = .ok (.string (strOfNums [])) w := by
  cases A with
  | none => exact run_convert_bytes_nil w 30 5 Try.underlying30 (by kernel_rfl) 0 c 9 Try.underlying9
  | some a =>
    obtain ⟨b, o, m⟩ := a
    cases m with
    | none => exact run_convert_bytes_arg w 30 5 Try.underlying30 (by kernel_rfl) b o 0 c [] rfl (fun i hi => by omega) 9 Try.underlying9
    | some m =>
      rw [run_convert_bytes_string w 30 9 5 _ 0 c Try.underlying30 (by kernel_rfl) Try.underlying9]
      rfl
theorem str_at {w : World} {A : Option Addr} {zs : List Int} {k c : Nat} (h : IntsAt w A .u8 zs) (hk : k = zs.length) : (convert 30 9 (.slice A k c)).run Try.prog w = .ok (.string (strOfNums zs)) w := by
  subst hk
  cases zs with
  | nil => exact str_nil w A c
  | cons z l => exact str_of h (by simp)
set_option maxRecDepth 100000 in
theorem awake_any (w : World) : Calls Try.prog 8 #[] w fun e w' => e = .returned (.bool true) ∧ Below w.heap.size w w' := by
  go_enter Try.func8, Try.ntmps8
  go_wp2_with fail
  (with_reducible refine (new_t 1 1 rfl _ (by omega) (by omega)).mono ?_)
  rintro e w1 ⟨S, R, M, rfl, h1, hb1⟩
  have hcv := Lib.run_convert_bytes_const w1 30 5 #[.int .u8 97] 1 1 Try.underlying30 (by kernel_rfl)
  go_wp2_with fail
  (with_reducible refine (add_k _ S R M _ _ 1 0 0 [] _ (h1.alloc _) (by omega) (by omega) 5 (by omega) (by omega) _ 1 1 [97] rfl (by omega) (one_ints _ _ _) (by omega)).mono ?_)
  rintro e w2 ⟨rfl, ⟨rg2, h2⟩, hMv2⟩
  have hb2 : Below w.heap.size w w2 := by
    have := (Below.alloc hb1 hb1.size (.cells #[.int .u8 97] 5 (1, 2))).trans hMv2.below
    exact this
  clear h1 hb1 hMv2 hcv
  go_wp2_with fail
  (with_reducible refine (get_k w2 S R M _ _ 1 1 1 _ _ h2 (by omega) (by omega) 5 (by omega) (by omega) 0 (by simp [lastF, addK]) [97] (fun _ => rfl) 1 rfl (by omega)).mono ?_)
  rintro e w3 ⟨g, rfl, hg, gz, hb3⟩
  have gS : g ≠ S := by have := blk_lt h2.s; omega
  have gR : g ≠ R := by have := blk_lt h2.r; omega
  have h3 := h2.below hb3
  have hb4 := below_next (w := w) hb2 hb3
  clear h2 hb2 hb3
  have hcv := Lib.run_convert_bytes_const w3 30 5 #[.int .u8 98] 1 1 Try.underlying30 (by kernel_rfl)
  go_wp2_with fail
  (with_reducible refine (add_k _ S R M _ _ 1 1 1 _ _ (h3.alloc _) (by omega) (by omega) 6 (by omega) (by omega) _ 1 1 [98] rfl (by omega) (one_ints _ _ _) (by omega)).mono ?_)
  rintro e w5 ⟨rfl, ⟨rg5, h5⟩, hMv5⟩
  have hg5 := hMv5.other g _ 5 (heap_alloc_old' hg) gS gR
  have hA5 := ints_blk (zs := [97]) hg5
  have hb6 : Below w.heap.size w w5 := by
    have := (Below.alloc hb4 hb4.size (.cells #[.int .u8 98] 5 (1, 2))).trans hMv5.below
    exact this
  clear h3 hb4 hMv5 hcv hg
  go_wp2_with fail
  (with_reducible refine (get_none w5 S R M _ _ 1 2 2 _ _ h5 5 (by omega) (by omega) (by simp [lastF, addK])).mono ?_)
  rintro e w6 ⟨rfl, rfl⟩
  have hst : (convert 30 9 (.slice (some ⟨g, 0, none⟩) 1 1)).run Try.prog w5 = .ok (.string ⟨#[97]⟩) w5 := str_at (zs := [97]) hA5 rfl
  have hst2 : (convert 30 9 (.slice (some ⟨g, 0, none⟩) 1 1)).run Try.prog w5.drew = .ok (.string ⟨#[97]⟩) w5.drew := str_at (w := w5.drew) (zs := [97]) hA5 rfl
  go_wp2_with (first | (go_at_call 15; (with_reducible refine (len_t _ S R M _ _ 1 2 2 _ _ (by first | exact h5 | exact h5.drew) 1 (by simp [addK])).mono ?_); rintro e w7 ⟨rfl, rfl⟩))
  go_ret
  exact ⟨rfl, by first | exact hb6 | go_grown⟩
end Go.Proofs.Ytmpajoheoobnkaa
