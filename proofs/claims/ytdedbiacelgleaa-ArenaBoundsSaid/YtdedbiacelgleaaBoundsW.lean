/- The law ArenaBounds, walked. -/
import Derived.Test.YtdedbiacelgleaaAwake
import Derived.Test.YtdedbiacelgleaaFnsS
import Derived.Test.YtdedbiacelgleaaPlain
namespace Go.Proofs.Ytdedbiacelgleaa
set_option linter.unusedSimpArgs false
set_option linter.unusedVariables false
open Go.RowKit

theorem new_nil (m : Int) (hm : m < 1 ∨ 64 < m) (w : World) : Calls Try.prog 17 #[.int .i64 m] w fun e w' => e = .returned (.pointer none) ∧ Below w.heap.size w w' := by
  by_cases h : m < 1
  · go_enter Try.func17, Try.ntmps17
    go_wp2_with fail
    go_ret
    exact ⟨rfl, by first | exact Below.refl _ _ | go_grown⟩
  · have h2 : 64 < m := by omega
    go_enter Try.func17, Try.ntmps17
    go_wp2_with fail
    go_ret
    exact ⟨rfl, by first | exact Below.refl _ _ | go_grown⟩
theorem take_nil (x : ByteArray) (w : World) : Calls Try.prog 18 #[.pointer none, .string x] w fun e w' => e = .returned (.tuple #[.agg #[.int .i64 0, .int .u32 0], .int .i64 1]) ∧ Below w.heap.size w w' := by
  go_enter Try.func18, Try.ntmps18
  go_wp2_with fail
  (try simp only [Exit.inBlock, Exit.then])
  exact ret_cell_tmp rfl rfl Try.underlying31 rfl rfl ⟨_, _, (by repeat (first | (with_reducible assumption) | (with_reducible apply heap_set_row2) | (with_reducible apply heap_set_same) | ((with_reducible apply heap_set_other'); (focus (first | omega | (simp; done) | (simp; omega)))) | ((with_reducible apply heap_alloc_new); (focus (first | omega | (simp; done) | (simp; omega)))) | (with_reducible apply heap_alloc_old') | (with_reducible apply (heap_drew_at _ _).trans) | (with_reducible apply (heap_drewN_at _ _ _).trans) | (simp only [List.size_toArray, List.length_cons, List.length_nil]; done))), (by kernel_rfl), rfl, by go_grown⟩
theorem at_nil (sl tn : Int) (w : World) : Calls Try.prog 25 #[.pointer none, .agg #[.int .i64 sl, .int .u32 tn]] w fun e w' => e = .returned (.tuple #[.pointer none, .int .i64 1]) ∧ Below w.heap.size w w' := by
  go_enter Try.func25, Try.ntmps25
  go_wp2_with fail
  go_ret2
  exact ⟨rfl, by go_grown⟩
theorem get_nil (sl tn : Int) (w : World) : Calls Try.prog 19 #[.pointer none, .agg #[.int .i64 sl, .int .u32 tn]] w fun e w' => e = .returned (.tuple #[.string ⟨#[]⟩, .int .i64 1]) ∧ Below w.heap.size w w' := by
  go_enter Try.func19, Try.ntmps19
  go_wp2_with fail
  with_reducible refine (at_nil sl tn _).mono ?_
  rintro e w1 ⟨rfl, hb⟩
  go_wp2_with fail
  go_ret2
  exact ⟨rfl, below_next (Below.alloc (Below.refl _ _) (Nat.le_refl _) _) hb⟩
theorem free_nil (sl tn : Int) (w : World) : Calls Try.prog 20 #[.pointer none, .agg #[.int .i64 sl, .int .u32 tn]] w fun e w' => e = .returned (.int .i64 1) ∧ Below w.heap.size w w' := by
  go_enter Try.func20, Try.ntmps20
  go_wp2_with fail
  with_reducible refine (at_nil sl tn _).mono ?_
  rintro e w1 ⟨rfl, hb⟩
  go_wp2_with fail
  go_ret
  exact ⟨rfl, below_next (Below.alloc (Below.refl _ _) (Nat.le_refl _) _) hb⟩
theorem live_nil (w : World) : Calls Try.prog 21 #[.pointer none] w fun e w' => e = .returned (.int .i64 0) ∧ w = w' := by
  go_enter Try.func21, Try.ntmps21
  go_wp2_with fail
  go_ret
  exact ⟨rfl, rfl⟩
theorem refs_nil (w : World) : Calls Try.prog 22 #[.pointer none] w fun e w' => e = .returned (.slice none 0 0) ∧ w = w' := by
  go_enter Try.func22, Try.ntmps22
  go_wp2_with fail
  go_ret
  exact ⟨rfl, rfl⟩
def filled (x : ByteArray) (n k : Nat) : List Sl := List.replicate k ⟨.string x, 1, true⟩ ++ List.replicate (n - k) (sl0 (.string ⟨#[]⟩))
theorem filled_length (x : ByteArray) {n k : Nat} (h : k ≤ n) : (filled x n k).length = n := by simp [filled]; omega
theorem filled_zero (x : ByteArray) (n : Nat) : filled x n 0 = List.replicate n (sl0 (.string ⟨#[]⟩)) := by simp [filled]
theorem filled_at (x : ByteArray) {n k j : Nat} (h : j < (filled x n k).length) : (filled x n k)[j] = if j < k then ⟨.string x, 1, true⟩ else sl0 (.string ⟨#[]⟩) := by
  unfold filled at h ⊢
  rw [List.getElem_append]
  split
  · rename_i q
    have : j < k := by simpa using q
    rw [if_pos this]
    simp
  · rename_i q
    have : ¬ j < k := by simpa using q
    rw [if_neg this]
    simp
theorem filled_set (x : ByteArray) {n k : Nat} (h : k < n) : (filled x n k).set k ⟨.string x, 1, true⟩ = filled x n (k + 1) := by
  apply List.ext_getElem
  · rw [List.length_set, filled_length x (by omega), filled_length x (by omega)]
  · intro j h1 h2
    rw [List.getElem_set, filled_at x h2]
    by_cases e : k = j
    · subst e; rw [if_pos rfl, if_pos (by omega)]
    · rw [if_neg e, filled_at]
      by_cases q : j < k
      · rw [if_pos q, if_pos (by omega)]
      · rw [if_neg q, if_neg (by omega)]
theorem filled_wf (x : ByteArray) (n k : Nat) : ∀ s ∈ filled x n k, 0 ≤ s.turn ∧ s.turn ≤ 1000000 := by
  intro s hs
  unfold filled at hs
  rw [List.mem_append] at hs
  rcases hs with q | q <;> (have e := List.eq_of_mem_replicate q; subst e; simp [sl0])
set_option maxRecDepth 100000 in
set_option maxHeartbeats 4000000 in
theorem bounds_walk (room : Int) (w : World) : Calls Try.prog 6 #[.int .i64 room] w fun e w' => e = .returned (.bool true) ∧ Below w.heap.size w w' := by
  by_cases hm : room < 1 ∨ 64 < room
  · by_cases h1 : room < 1
    all_goals
      go_enter Try.func6, Try.ntmps6
      go_wp2_with fail
      (with_reducible refine (awake_any _).mono ?_)
      rintro e w1 ⟨rfl, hb⟩
      have hB := hb
      clear hb
      go_wp2_with fail
      with_reducible refine (new_nil room hm _).mono ?_
      rintro e w2 ⟨rfl, hb⟩
      replace hB := below_next (w := w) hB hb
      clear hb
      go_wp2_with fail
      with_reducible refine (take_nil _ _).mono ?_
      rintro e w3 ⟨rfl, hb⟩
      replace hB := below_next (w := w) (by go_grown) hb
      clear hb
      have y3 := hB.size
      go_wp2_with fail
      with_reducible refine (get_nil _ _ _).mono ?_
      rintro e w4 ⟨rfl, hb⟩
      replace hB := below_next (w := w) (by go_grown) hb
      clear hb
      have y4 := hB.size
      go_wp2_with fail
      with_reducible refine (free_nil _ _ _).mono ?_
      rintro e w5 ⟨rfl, hb⟩
      replace hB := below_next (w := w) (by go_grown) hb
      clear hb
      have y5 := hB.size
      go_wp2_with fail
      with_reducible refine (live_nil _).mono ?_
      rintro e w6 ⟨rfl, rfl⟩
      go_wp2_with fail
      with_reducible refine (refs_nil _).mono ?_
      rintro e w7 ⟨rfl, rfl⟩
      go_wp2_with fail
      go_ret
      exact ⟨rfl, by go_grown⟩
  · obtain ⟨n, hn⟩ : ∃ n : Nat, room = n := ⟨room.toNat, by omega⟩
    subst hn
    have hn0 : 1 ≤ n := by omega
    have hn1 : n ≤ 64 := by omega
    clear hm
    go_enter Try.func6, Try.ntmps6
    go_wp2_with fail
    (with_reducible refine (awake_any _).mono ?_)
    rintro e w1 ⟨rfl, hb⟩
    have hB := hb
    clear hb
    have y1 := hB.size
    go_wp2_with fail
    with_reducible refine (new_s _ n rfl _ hn0 hn1).mono ?_
    rintro e w2 ⟨P, L, rfl, hA, hp, hq, hb⟩
    replace hB := below_next (w := w) hB hb
    clear hb
    have y2 := hB.size
    rw [← filled_zero ⟨#[120]⟩ n] at hA
    have AA := Lib.hid hA; clear hA
    go_wp2_with fail
    go_loopw [9] (fun i wr => ∃ k : Nat, k ≤ n ∧ i = .int .i64 k ∧ At wr P L 71 74 (filled ⟨#[120]⟩ n k) k ∧ Below w.heap.size w wr) (fun i _ => n - (intOf i).toNat)
    case atStart => exact ⟨0, by omega, rfl, AA.out, hB⟩
    case round =>
      clear hB AA
      obtain ⟨k, hk, rfl, hA, hB⟩ := hrel
      have yr := hB.size
      have zP := blk_lt hA.p
      have zL := blk_lt hA.l
      have AA := Lib.hid hA; clear hA
      by_cases hlt : k < n
      · have hkl : k < (filled ⟨#[120]⟩ n k).length := by rw [filled_length _ hk]; exact hlt
        have hkn : (filled ⟨#[120]⟩ n k).length ≤ 64 := by rw [filled_length _ hk]; exact hn1
        have hf : (filled ⟨#[120]⟩ n k)[k] = sl0 (.string ⟨#[]⟩) := by rw [filled_at, if_neg (by omega)]
        have HT : Hid (∀ W, At W P L 71 74 (filled ⟨#[120]⟩ n k) k → Calls Try.prog 18 #[.pointer (some ⟨P, 0, none⟩), .string ⟨#[120]⟩] W (fun e w' => e = .returned (.tuple #[.agg #[.int .i64 k, .int .u32 1], .int .i64 0]) ∧ At w' P L 71 74 (filled ⟨#[120]⟩ n (k + 1)) ((k + 1 : Nat) : Int) ∧ Turned P L W w')) := Lib.hid (fun W h => by
          have := take_s W P L (filled ⟨#[120]⟩ n k) k ⟨#[120]⟩ h hkn (filled_wf _ n k) (by omega) (by omega) k hkl (by rw [hf]; rfl) (fun j hj hjl => by rw [filled_at, if_pos hj])
          rw [hf] at this
          refine this.mono fun e w' ⟨a, b, c⟩ => ⟨a, ?_, c⟩
          rw [← filled_set _ hlt]
          exact b)
        clear hkl hkn hf
        go_wp2_with fail
        with_reducible refine (HT.out _ (have hA := AA.out; (by repeat (first | (with_reducible assumption) | (with_reducible apply At.alloc) | (with_reducible apply At.drewN) | ((with_reducible apply at_set); (focus (first | omega | (simp; done) | (simp; omega))); (focus (first | omega | (simp; done) | (simp; omega)))))))).mono ?_
        rintro e w3 ⟨rfl, hA, hT⟩
        clear AA HT
        have hBn : Below w.heap.size w w3 := turned_below (by go_grown) hT (by omega) (by omega) (by first | omega | (simp; omega))
        clear hB hT
        have hB := hBn
        clear hBn
        have y3 := hB.size
        have zP := blk_lt hA.p
        have zL := blk_lt hA.l
        have AA := Lib.hid hA; clear hA
        go_wp2_with fail
        go_roundw
        case rel => exact ⟨k + 1, by omega, by go_num, (have hA := AA.out; (by repeat (first | (with_reducible assumption) | (with_reducible apply At.alloc) | (with_reducible apply At.drewN) | ((with_reducible apply at_set); (focus (first | omega | (simp; done) | (simp; omega))); (focus (first | omega | (simp; done) | (simp; omega))))))), by go_grown⟩
        case measure => simp [intOf]; omega
      · have hkn : k = n := by omega
        subst hkn
        have HT : Hid (∀ W, At W P L 71 74 (filled ⟨#[120]⟩ k k) k → Calls Try.prog 18 #[.pointer (some ⟨P, 0, none⟩), .string ⟨#[121]⟩] W (fun e w' => e = .returned (.tuple #[.agg #[.int .i64 0, .int .u32 0], .int .i64 20]) ∧ Below W.heap.size W w')) := Lib.hid (fun W h => take_full_s W P L (filled ⟨#[120]⟩ k k) k ⟨#[121]⟩ h (by rw [filled_length _ (Nat.le_refl _)]; exact hn1) (fun j hjl => by
          have : j < k := by rw [filled_length _ (Nat.le_refl _)] at hjl; exact hjl
          rw [filled_at, if_pos this]))
        go_wp2_with fail
        with_reducible refine (HT.out _ (have hA := AA.out; (by repeat (first | (with_reducible assumption) | (with_reducible apply At.alloc) | (with_reducible apply At.drewN) | ((with_reducible apply at_set); (focus (first | omega | (simp; done) | (simp; omega))); (focus (first | omega | (simp; done) | (simp; omega)))))))).mono ?_
        rintro e w3 ⟨rfl, hb⟩
        have hA := At.below AA.out hb
        replace hB := below_next (w := w) (by go_grown) hb
        clear hb AA HT
        have y3 := hB.size
        have zP := blk_lt hA.p
        have zL := blk_lt hA.l
        have AA := Lib.hid hA; clear hA
        go_wp2_with fail
        with_reducible refine (live_s _ P L (filled ⟨#[120]⟩ k k) k (have hA := AA.out; (by repeat (first | (with_reducible assumption) | (with_reducible apply At.alloc) | (with_reducible apply At.drewN) | ((with_reducible apply at_set); (focus (first | omega | (simp; done) | (simp; omega))); (focus (first | omega | (simp; done) | (simp; omega)))))))).mono ?_
        rintro e w4 ⟨rfl, rfl⟩
        go_wp2_with fail
        go_ret
        exact ⟨rfl, by go_grown⟩
end Go.Proofs.Ytdedbiacelgleaa
