/- What Track's methods compute. No condition but that numbers are small. -/
import Derived.Test.YtbfmcnidghjajaaSerial
import Derived.Test.YtbfmcnidghjajaaBits64
import Derived.Test.YtbfmcnidghjajaaPlain2
import Derived.Test.YtbfmcnidghjajaaOwn
import Derived.Laws.Shifts
namespace Go.Proofs.Ytbfmcnidghjajaa
set_option linter.unusedSimpArgs false
set_option linter.unusedVariables false
open Go.RowKit
theorem came_any (on : Bool) (b h g : Int) (s : Nat) (y : Int) (w : World) (hs : s < 2 ^ 64) (y0 : 0 ≤ y) (y1 : y < 64) :
    Calls Try.prog 19 #[.agg #[.bool on, .int .i64 b, .int .i64 h, .int .i64 g, .int .u64 s], .int .i64 y] w fun e w' => e = .returned (.bool (s.testBit y.toNat)) ∧ Below w.heap.size w w' := by
  have H := Lib.hid (bit_asked s y.toNat hs)
  clear hs
  go_enter Try.func19, Try.ntmps19
  go_wp2
  go_ret
  exact ⟨ret_bool (by rw [← H.out]), by go_grown⟩
/-- The cells of a state. -/
def trC (t : Tr) : Array Value := #[.bool t.on, .int .i64 t.base, .int .i64 t.high, .int .i64 t.got, .int .u64 t.seen]
/-- A state, a number, and what a packet is, as Take hands them back. -/
def TookT (r : Tr × Int × Int) (e : Ending) : Prop := e = .returned (.tuple #[.agg (trC r.1), .int .i64 r.2.1, .int .i64 r.2.2])
theorem tookT_mk {t : Tr} {x k : Int} {e : Ending} {r : Tr × Int × Int} (h : r = (t, x, k)) (he : e = .returned (.tuple #[.agg (trC t), .int .i64 x, .int .i64 k])) : TookT r e := by subst h; exact he
theorem take_off (b h g : Int) (s : Nat) (x : Int) (w : World) (x0 : 0 ≤ x) (x1 : x ≤ 65535) :
    Calls Try.prog 10 #[.agg #[.bool false, .int .i64 b, .int .i64 h, .int .i64 g, .int .u64 s], .int .u16 x] w fun e w' => TookT (takeF ⟨false, b, h, g, s⟩ x) e ∧ Below w.heap.size w w' := by
  have hx : IntKind.i64.wrap x = x := i64_same x x0 (by omega)
  go_enter Try.func10, Try.ntmps10
  go_wp2
  (try simp only [Exit.inBlock, Exit.then])
  refine ret_cell_tmp2 rfl rfl Try.underlying26 rfl rfl ⟨_, _, (by repeat (first | (with_reducible assumption) | (with_reducible apply heap_set_same) | ((with_reducible apply heap_set_other'); (focus (first | omega | (simp; done) | (simp; omega)))) | ((with_reducible apply heap_alloc_new); (focus (first | omega | (simp; done) | (simp; omega)))) | (with_reducible apply heap_alloc_old') | (with_reducible apply (heap_drew_at _ _).trans) | (with_reducible apply (heap_drewN_at _ _ _).trans))), (by kernel_rfl), ?_, by go_grown⟩
  exact tookT_mk (takeF_off rfl x) rfl
set_option maxHeartbeats 1000000 in
theorem take_on (b h g : Int) (s : Nat) (x : Int) (w : World) (x0 : 0 ≤ x) (x1 : x ≤ 65535) (lb : -1000000000000 ≤ b) (ub : b ≤ 1000000000000) (lh : -1000000000000 ≤ h) (uh : h ≤ 1000000000000) (lg : 0 ≤ g) (ug : g ≤ 1000000000000) (hs : s < 2 ^ 64) :
    Calls Try.prog 10 #[.agg #[.bool true, .int .i64 b, .int .i64 h, .int .i64 g, .int .u64 s], .int .u16 x] w fun e w' => TookT (takeF ⟨true, b, h, g, s⟩ x) e ∧ Below w.heap.size w w' := by
  obtain ⟨n0, n1⟩ := near16_bd h x
  have hw := takeF_ways ⟨true, b, h, g, s⟩ rfl x
  dsimp only at hw
  have HS := Lib.hid hs; clear hs
  generalize hy : near16 h x = y at *
  have HY := Lib.hid hy; clear hy
  rcases hw with ⟨c1, e⟩ | ⟨c1, c2, e⟩ | ⟨c1, c2, c3, e⟩ | ⟨c1, c2, c3, e⟩
  · obtain ⟨d, rfl⟩ : ∃ d : Nat, y = h + d := ⟨(y - h).toNat, by omega⟩
    have hd1 : 1 ≤ d := by omega
    rw [show (h + (d : Int) - h).toNat = d by omega] at e
    have HE := Lib.hid e; clear e
    have hdd : (-(h - (h + (d : Int)))) = d := by omega
    by_cases hd : d ≤ 64
    · have hm := Lib.hid (bit_moved s d HS.out hd1)
      go_enter Try.func10, Try.ntmps10
      go_wp2_with (first | (go_at_call 18; (with_reducible refine (Near16_any _ _ _ (by omega) (by omega)).mono ?_); rintro e w' ⟨rfl, rfl⟩; rw [HY.out]))
      (try simp only [Exit.inBlock, Exit.then])
      refine ret_cell_tmp2 rfl rfl Try.underlying26 rfl rfl ⟨_, _, (by repeat (first | (with_reducible assumption) | (with_reducible apply heap_set_same) | ((with_reducible apply heap_set_other'); (focus (first | omega | (simp; done) | (simp; omega)))) | ((with_reducible apply heap_alloc_new); (focus (first | omega | (simp; done) | (simp; omega)))) | (with_reducible apply heap_alloc_old') | (with_reducible apply (heap_drew_at _ _).trans) | (with_reducible apply (heap_drewN_at _ _ _).trans))), (by kernel_rfl), ?_, by go_grown⟩
      refine tookT_mk HE.out (ret_is ?_)
      rw [hm.out]
      rfl
    · have hm : Hid (bits BinOp.or IntKind.u64 (IntKind.u64.wrap ((s : Int) * 18446744073709551616)) 1 = (shlN s d : Int)) := Lib.hid (bit_moved_far s d HS.out (by omega))
      have hmin : min d 64 = 64 := by omega
      go_enter Try.func10, Try.ntmps10
      go_wp2_with (first | (go_at_call 18; (with_reducible refine (Near16_any _ _ _ (by omega) (by omega)).mono ?_); rintro e w' ⟨rfl, rfl⟩; rw [HY.out]))
      (try simp only [Exit.inBlock, Exit.then])
      refine ret_cell_tmp2 rfl rfl Try.underlying26 rfl rfl ⟨_, _, (by repeat (first | (with_reducible assumption) | (with_reducible apply heap_set_same) | ((with_reducible apply heap_set_other'); (focus (first | omega | (simp; done) | (simp; omega)))) | ((with_reducible apply heap_alloc_new); (focus (first | omega | (simp; done) | (simp; omega)))) | (with_reducible apply heap_alloc_old') | (with_reducible apply (heap_drew_at _ _).trans) | (with_reducible apply (heap_drewN_at _ _ _).trans))), (by kernel_rfl), ?_, by go_grown⟩
      refine tookT_mk HE.out (ret_is ?_)
      rw [hm.out]
      rfl
  · have HE := Lib.hid e; clear e
    go_enter Try.func10, Try.ntmps10
    go_wp2_with (first | (go_at_call 18; (with_reducible refine (Near16_any _ _ _ (by omega) (by omega)).mono ?_); rintro e w' ⟨rfl, rfl⟩; rw [HY.out]))
    (try simp only [Exit.inBlock, Exit.then])
    refine ret_cell_tmp2 rfl rfl Try.underlying26 rfl rfl ⟨_, _, (by repeat (first | (with_reducible assumption) | (with_reducible apply heap_set_same) | ((with_reducible apply heap_set_other'); (focus (first | omega | (simp; done) | (simp; omega)))) | ((with_reducible apply heap_alloc_new); (focus (first | omega | (simp; done) | (simp; omega)))) | (with_reducible apply heap_alloc_old') | (with_reducible apply (heap_drew_at _ _).trans) | (with_reducible apply (heap_drewN_at _ _ _).trans))), (by kernel_rfl), ?_, by go_grown⟩
    exact tookT_mk HE.out rfl
  · have HE := Lib.hid e; clear e
    have HB := Lib.hid c3; clear c3
    go_enter Try.func10, Try.ntmps10
    go_wp2_with (first
      | (go_at_call 18; (with_reducible refine (Near16_any _ _ _ (by omega) (by omega)).mono ?_); rintro e w' ⟨rfl, rfl⟩; rw [HY.out])
      | (go_at_call 19; (with_reducible refine (came_any _ _ _ _ _ _ _ HS.out (by omega) (by omega)).mono ?_); rintro e w1 ⟨rfl, hb⟩; rw [HB.out]; (try (have g0 := h0; clear h0 f0 c0)); (try (have g1 := h1; clear h1 f1 c1)); have hB := below_next (w := w) (by go_grown) hb; have h0 : w1.heap[w.heap.size]? = some (.cells #[.bool true, .int .i64 b, .int .i64 h, .int .i64 g, .int .u64 s] 26 (0, 0)) := (hb.block (w.heap.size) (by first | omega | (simp; done) | (simp; omega))).trans (Eq.trans (b := some (Obj.cells _ _ (0, 0))) (by repeat (first | (with_reducible assumption) | (with_reducible apply heap_set_same) | ((with_reducible apply heap_set_other'); (focus (first | omega | (simp; done) | (simp; omega)))) | ((with_reducible apply heap_alloc_new); (focus (first | omega | (simp; done) | (simp; omega)))) | (with_reducible apply heap_alloc_old') | (with_reducible apply (heap_drew_at _ _).trans) | (with_reducible apply (heap_drewN_at _ _ _).trans))) (by exact rfl)); have h1 : w1.heap[w.heap.size + 1]? = some (.cells #[.bool false, .int .i64 0, .int .i64 0, .int .i64 0, .int .u64 0] 26 (0, 0)) := (hb.block (w.heap.size + 1) (by first | omega | (simp; done) | (simp; omega))).trans (Eq.trans (b := some (Obj.cells _ _ (0, 0))) (by repeat (first | (with_reducible assumption) | (with_reducible apply heap_set_same) | ((with_reducible apply heap_set_other'); (focus (first | omega | (simp; done) | (simp; omega)))) | ((with_reducible apply heap_alloc_new); (focus (first | omega | (simp; done) | (simp; omega)))) | (with_reducible apply heap_alloc_old') | (with_reducible apply (heap_drew_at _ _).trans) | (with_reducible apply (heap_drewN_at _ _ _).trans))) (by exact rfl)); clear hb; (try clear g0); obtain ⟨c0, f0, z0⟩ := blk_facts h0; (try clear g1); obtain ⟨c1, f1, z1⟩ := blk_facts h1))
    (try simp only [Exit.inBlock, Exit.then])
    refine ret_cell_tmp2 rfl rfl Try.underlying26 rfl rfl ⟨_, _, (by repeat (first | (with_reducible assumption) | (with_reducible apply heap_set_same) | ((with_reducible apply heap_set_other'); (focus (first | omega | (simp; done) | (simp; omega)))) | ((with_reducible apply heap_alloc_new); (focus (first | omega | (simp; done) | (simp; omega)))) | (with_reducible apply heap_alloc_old') | (with_reducible apply (heap_drew_at _ _).trans) | (with_reducible apply (heap_drewN_at _ _ _).trans))), (by kernel_rfl), ?_, by go_grown⟩
    exact tookT_mk HE.out rfl
  · obtain ⟨n, rfl⟩ : ∃ n : Nat, y = h - n := ⟨(h - y).toNat, by omega⟩
    have hnn : (h - (h - (n : Int))).toNat = n := by omega
    have hn : n < 64 := by omega
    have hn2 : n ≤ 64 := by omega
    rw [hnn] at c3 e
    have HB := Lib.hid c3; clear c3
    have hm := Lib.hid (bit_set s n HS.out hn)
    have hsub : h - (h - (n : Int)) = n := by omega
    by_cases hmn : b ≤ h - n
    all_goals
      first | rw [Int.min_eq_left hmn] at e | rw [Int.min_eq_right (by omega)] at e
      have HE := Lib.hid e; clear e
      go_enter Try.func10, Try.ntmps10
      go_wp2_with (first
        | (go_at_call 18; (with_reducible refine (Near16_any _ _ _ (by omega) (by omega)).mono ?_); rintro e w' ⟨rfl, rfl⟩; rw [HY.out])
        | (go_at_call 19; (with_reducible refine (came_any _ _ _ _ _ _ _ HS.out (by omega) (by omega)).mono ?_); rintro e w1 ⟨rfl, hb⟩; rw [Int.toNat_natCast, HB.out]; (try (have g0 := h0; clear h0 f0 c0)); (try (have g1 := h1; clear h1 f1 c1)); have hB := below_next (w := w) (by go_grown) hb; have h0 : w1.heap[w.heap.size]? = some (.cells #[.bool true, .int .i64 b, .int .i64 h, .int .i64 g, .int .u64 s] 26 (0, 0)) := (hb.block (w.heap.size) (by first | omega | (simp; done) | (simp; omega))).trans (Eq.trans (b := some (Obj.cells _ _ (0, 0))) (by repeat (first | (with_reducible assumption) | (with_reducible apply heap_set_same) | ((with_reducible apply heap_set_other'); (focus (first | omega | (simp; done) | (simp; omega)))) | ((with_reducible apply heap_alloc_new); (focus (first | omega | (simp; done) | (simp; omega)))) | (with_reducible apply heap_alloc_old') | (with_reducible apply (heap_drew_at _ _).trans) | (with_reducible apply (heap_drewN_at _ _ _).trans))) (by exact rfl)); have h1 : w1.heap[w.heap.size + 1]? = some (.cells #[.bool false, .int .i64 0, .int .i64 0, .int .i64 0, .int .u64 0] 26 (0, 0)) := (hb.block (w.heap.size + 1) (by first | omega | (simp; done) | (simp; omega))).trans (Eq.trans (b := some (Obj.cells _ _ (0, 0))) (by repeat (first | (with_reducible assumption) | (with_reducible apply heap_set_same) | ((with_reducible apply heap_set_other'); (focus (first | omega | (simp; done) | (simp; omega)))) | ((with_reducible apply heap_alloc_new); (focus (first | omega | (simp; done) | (simp; omega)))) | (with_reducible apply heap_alloc_old') | (with_reducible apply (heap_drew_at _ _).trans) | (with_reducible apply (heap_drewN_at _ _ _).trans))) (by exact rfl)); clear hb; (try clear g0); obtain ⟨c0, f0, z0⟩ := blk_facts h0; (try clear g1); obtain ⟨c1, f1, z1⟩ := blk_facts h1))
      go_region
      go_wp2_with fail
      (try simp only [Exit.inBlock, Exit.then])
      refine ret_cell_tmp2 rfl rfl Try.underlying26 rfl rfl ⟨_, _, (by repeat (first | (with_reducible assumption) | (with_reducible apply heap_set_same) | ((with_reducible apply heap_set_other'); (focus (first | omega | (simp; done) | (simp; omega)))) | ((with_reducible apply heap_alloc_new); (focus (first | omega | (simp; done) | (simp; omega)))) | (with_reducible apply heap_alloc_old') | (with_reducible apply (heap_drew_at _ _).trans) | (with_reducible apply (heap_drewN_at _ _ _).trans))), (by kernel_rfl), ?_, by go_grown⟩
      refine tookT_mk HE.out (ret_is ?_)
      rw [hm.out]
      rfl
end Go.Proofs.Ytbfmcnidghjajaa
