/- The law NackWithin, walked. -/
import Derived.Test.YtfcocnmghmhflaaAwake
import Derived.Test.YtfcocnmghmhflaaBackF
import Derived.Deep.QuietTactic
namespace Go.Proofs.Ytfcocnmghmhflaa
set_option linter.unusedSimpArgs false
set_option linter.unusedVariables false
open Go.RowKit
theorem pairs_new {w : World} {k : IntKind} {t : TypeId} {n : Nat} {p m : Int} (hn : n = w.heap.size) : PairsAt (w.alloc (.cells #[.int k p, .int k m] t)) (some ⟨n, 0, none⟩) k [(p, m)] := by
  subst hn
  intro i hi
  obtain rfl : i = 0 := by simp at hi; exact hi
  have := blk_facts (heap_alloc_new w (.cells #[.int k p, .int k m] t (0, 0)) _ rfl)
  exact ⟨w.heap.size, 0, rfl, by simp, by rw [this.1]; rfl, by rw [this.1]; rfl⟩
theorem popF_length (p m : Int) : ((listF [(p, m)]).length : Int) = 1 + popF m 16 := by
  show ((p :: bitsF p m 16 ++ []).length : Int) = _
  rw [List.append_nil, List.length_cons, ← bitsF_pop p m 16]
  omega
theorem listF_one (p m : Int) : listF [(p, m)] = p :: bitsF p m 16 := by
  show p :: bitsF p m 16 ++ [] = _
  rw [List.append_nil]
set_option maxRecDepth 100000 in
set_option maxHeartbeats 1000000 in
theorem within_walk (p m : Int) (w : World) (p0 : 0 ≤ p) (p1 : p ≤ 65535) (m0 : 0 ≤ m) (m1 : m ≤ 65535) :
    Calls Try.prog 7 #[.agg #[.int .u16 p, .int .u16 m]] w fun e w' => e = .returned (.bool true) ∧ Below w.heap.size w w' := by
  have HW := Lib.hid (fun i => within p m p0 (by omega) i)
  have HP := Lib.hid (popF_length p m)
  have HM : Hid (∀ x ∈ listF [(p, m)], 0 ≤ x ∧ x < 65536) := Lib.hid (listF_mem [(p, m)] (by simp; omega))
  have HE := Lib.hid (listF_one p m)
  go_enter Try.func7, Try.ntmps7
  go_wp2_with fail
  (with_reducible refine (awake_any _).mono ?_)
  rintro e w1 ⟨rfl, hb⟩
  (try (have g0 := h0; clear h0 f0 c0))
  have hB := below_next (w := w) (by go_grown) hb
  have h0 : w1.heap[w.heap.size]? = some (.cells #[.int .u16 p, .int .u16 m] 27 (0, 0)) := (hb.block (w.heap.size) (by first | omega | (simp; done) | (simp; omega))).trans (Eq.trans (b := some (Obj.cells _ _ (0, 0))) (by repeat (first | (with_reducible assumption) | (with_reducible apply heap_set_same) | ((with_reducible apply heap_set_other'); (focus (first | omega | (simp; done) | (simp; omega)))) | ((with_reducible apply heap_alloc_new); (focus (first | omega | (simp; done) | (simp; omega)))) | (with_reducible apply heap_alloc_old') | (with_reducible apply (heap_drew_at _ _).trans) | (with_reducible apply (heap_drewN_at _ _ _).trans))) (by exact rfl))
  clear hb
  (try clear g0)
  obtain ⟨c0, f0, z0⟩ := blk_facts h0
  go_wp2_with fail
  with_reducible refine (List_any _ 1 _ [(p, m)] _ rfl (by decide) (pairs_new rfl) (by simp; omega)).mono ?_
  rintro e w2 ⟨v, rfl, hown, hb⟩
  have g0 : w2.heap[w.heap.size]? = some (.cells #[.int .u16 p, .int .u16 m] 27 (0, 0)) := (hb.block _ (by simp; omega)).trans (by rw [heap_alloc_old _ _ _ (by omega)]; exact h0)
  have hB2 : Below w.heap.size w w2 := below_next (w := w) (by go_grown) hb
  clear hb h0 c0 f0 z0 hB
  obtain ⟨c0, f0, z0⟩ := blk_facts g0
  have hlen : (listF [(p, m)]).length ≤ 17 := by have := listF_length [(p, m)]; simpa using this
  have hpos : 0 < (listF [(p, m)]).length := by rw [HE.out]; simp
  have hz : (listF [(p, m)]).getD 0 0 = p := by rw [HE.out]; rfl
  have hI := Lib.hid hz; clear hz
  rw [← HE.out] at HW
  clear HE
  generalize listF [(p, m)] = X at *
  obtain ⟨A, cap, rfl⟩ := own_slice hown
  have hx := Lib.hid (ints_own hown)
  clear hown
  go_wp2_with fail
  go_loop [5, 6, 7] (fun n q i => ∃ k : Nat, k ≤ 16 ∧ i = .int .i64 k ∧ n = .int .i64 (1 + popF m k) ∧ q = .int .u16 (m / 2 ^ k)) (fun _ _ i => 16 - (intOf i).toNat)
  case atStart => exact ⟨0, by omega, rfl, by simp [popF], by simp⟩
  case round =>
    obtain ⟨k, hk, rfl, rfl, rfl⟩ := hrel
    have hq : 0 ≤ m / 2 ^ k ∧ m / 2 ^ k < 65536 := by
      have h1 : (0 : Int) < 2 ^ k := Int.pow_pos (by decide)
      exact ⟨Int.ediv_nonneg m0 (by omega), Int.lt_of_le_of_lt (Int.ediv_le_self _ m0) (by omega)⟩
    obtain ⟨q0, q1⟩ := hq
    have hpb := popF_bd m k
    obtain ⟨b0, b1⟩ := hpb
    by_cases hlt : k < 16
    · have hs1 : Hid (popF m (k + 1) = popF m k + m / 2 ^ k % 2) := Lib.hid rfl
      have hs2 : Hid (m / 2 ^ (k + 1) = m / 2 ^ k / 2) := Lib.hid (by rw [Int.pow_succ, Int.ediv_ediv_of_nonneg (Int.le_of_lt (pow_pos2 k))])
      generalize m / 2 ^ k = q at *
      have hw := i64_same (q % 2) (by omega) (by omega)
      have hs3 : Hid (IntKind.u16.wrap (q.tdiv 2) = q / 2) := Lib.hid (by rw [Int.tdiv_eq_ediv_of_nonneg q0, u16_mod]; omega)
      go_wp2_with fail
      go_round
      case rel => exact ⟨k + 1, by omega, by go_num, by rw [hs1.out]; congr 1; omega, by rw [hs2.out]; first | rfl | rw [hs3.out]⟩
      case measure => simp [intOf]; omega
    · have hk16 : k = 16 := by omega
      subst hk16
      rw [← HP.out]
      clear HP b0 b1 hlt hk
      generalize m / 2 ^ 16 = q at *
      obtain ⟨b, o, rfl, hb, d0⟩ := hx.out 0 hpos
      rw [hI.out, Nat.add_zero] at d0
      go_wp2_with fail
      go_quiet (fail)
      go_wp2_with fail
      go_loopw [8] (fun i wx => ∃ k : Nat, 1 ≤ k ∧ k ≤ X.length ∧ i = .int .i64 k ∧ Below w2.heap.size w2 wx) (fun i _ => X.length - (intOf i).toNat)
      case atStart => exact ⟨1, by omega, by omega, by simp, ⟨rfl, rfl, rfl, Nat.le_refl _, fun _ _ => rfl⟩⟩
      case round =>
        obtain ⟨k, hk1, hk, rfl, hBx⟩ := hrel
        by_cases hlt : k < X.length
        · obtain ⟨b2, o2, hA2, hb2, d1⟩ := hx.out k hlt
          obtain ⟨b3, o3, hA3, hb3, d2⟩ := hx.out (k - 1) (by omega)
          simp only [Option.some.injEq, Addr.mk.injEq] at hA2 hA3
          obtain ⟨rfl, rfl, _⟩ := hA2
          obtain ⟨rfl, rfl, _⟩ := hA3
          obtain ⟨s0, s1⟩ := HM.out (X.getD k 0) (by simp [List.getD, hlt])
          obtain ⟨t0, t1⟩ := HM.out (X.getD (k - 1) 0) (by simp [List.getD, show k - 1 < X.length by omega])
          obtain ⟨r0, r1⟩ := HW.out k (by omega) hlt
          rw [← u16_mod] at r0 r1
          rw [← u16_mod] at r1
          generalize X.getD k 0 = x at *
          generalize X.getD (k - 1) 0 = y at *
          clear d0
          replace d1 := (hBx.cell (p := ⟨b, o + k, none⟩) hb).trans d1
          replace d2 := (hBx.cell (p := ⟨b, o + (k - 1), none⟩) hb).trans d2
          replace c0 := fun j => (hBx.cell (p := ⟨w.heap.size, j, none⟩) z0).trans (c0 j)
          have l1 : (0 : Int) ≤ (k : Int) - 1 := by omega
          have l5 : (1 : Int) ≤ (k : Int) := by omega
          have l6 : (k : Int) ≤ X.length := by omega
          have l7 : (k : Int) < X.length + 1 := by omega
          have l2 : (k : Int) - 1 < X.length := by omega
          have l3 : IntKind.i64.wrap ((k : Int) - 1) = (k : Int) - 1 := i64_same _ (by omega) (by omega)
          have l4 : ((k : Int) - 1).toNat = k - 1 := by omega
          go_wp2_with fail
          go_quiet (fail)
          clear l1 l2 l3 l4 l5 l6 l7
          go_wp2_with fail
          go_roundw
          case rel => exact ⟨k + 1, by omega, by omega, by go_num, ⟨hBx.os, hBx.tape, hBx.output, hBx.size, hBx.block⟩⟩
          case measure => simp [intOf]; omega
        · go_wp2_with fail
          go_ret
          exact ⟨rfl, below_next (w := w) hB2 hBx⟩
end Go.Proofs.Ytfcocnmghmhflaa
