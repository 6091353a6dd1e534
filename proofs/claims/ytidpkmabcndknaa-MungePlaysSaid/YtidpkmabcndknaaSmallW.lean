/- What the program's and the reference's small functions compute. No condition but that numbers are of their widths. -/
import Derived.Test.YtidpkmabcndknaaSerial
namespace Go.Proofs.Ytidpkmabcndknaa
set_option linter.unusedSimpArgs false
set_option linter.unusedVariables false
open Go.RowKit

theorem from_eq (n i m : Nu) (w : World) (hr : fromF n i = m) : Calls Try.prog 22 #[.agg #[.int .u16 n.seq, .int .u32 n.time, .int .u16 n.pic, .int .u8 n.tl0], .agg #[.int .u16 i.seq, .int .u32 i.time, .int .u16 i.pic, .int .u8 i.tl0]] w fun e w' => e = .returned (.agg #[.int .u16 m.seq, .int .u32 m.time, .int .u16 m.pic, .int .u8 m.tl0]) ∧ Below w.heap.size w w' := by
  subst hr
  have H : Hid (Value.agg #[.int .u16 (IntKind.u16.wrap (i.seq - n.seq)), .int .u32 (IntKind.u32.wrap (i.time - n.time)), .int .u16 (IntKind.u16.wrap (i.pic - n.pic)), .int .u8 (IntKind.u8.wrap (i.tl0 - n.tl0))] = .agg #[.int .u16 (fromF n i).seq, .int .u32 (fromF n i).time, .int .u16 (fromF n i).pic, .int .u8 (fromF n i).tl0]) := Lib.hid (by simp only [u16_mod, u32_mod, u8_mod]; rfl)
  go_enter Try.func22, Try.ntmps22
  go_wp2
  (try simp only [Exit.inBlock, Exit.then])
  refine ret_cell rfl rfl Try.underlying25 rfl rfl ⟨_, _, (by repeat (first | (with_reducible assumption) | (with_reducible apply heap_set_same) | ((with_reducible apply heap_set_other'); (focus (first | omega | (simp; done) | (simp; omega)))) | ((with_reducible apply heap_alloc_new); (focus (first | omega | (simp; done) | (simp; omega)))) | (with_reducible apply heap_alloc_old') | (with_reducible apply (heap_drew_at _ _).trans) | (with_reducible apply (heap_drewN_at _ _ _).trans))), (by kernel_rfl), ?_, by go_grown⟩
  exact ret_is H.out
theorem next_eq (n m : Nu) (step : Int) (w : World) (hr : nextF n step = m) : Calls Try.prog 21 #[.agg #[.int .u16 n.seq, .int .u32 n.time, .int .u16 n.pic, .int .u8 n.tl0], .int .u32 step] w fun e w' => e = .returned (.agg #[.int .u16 m.seq, .int .u32 m.time, .int .u16 m.pic, .int .u8 m.tl0]) ∧ Below w.heap.size w w' := by
  subst hr
  have H : Hid (Value.agg #[.int .u16 (IntKind.u16.wrap (n.seq + 1)), .int .u32 (IntKind.u32.wrap (n.time + step)), .int .u16 (IntKind.u16.wrap (n.pic + 1)), .int .u8 (IntKind.u8.wrap (n.tl0 + 1))] = .agg #[.int .u16 (nextF n step).seq, .int .u32 (nextF n step).time, .int .u16 (nextF n step).pic, .int .u8 (nextF n step).tl0]) := Lib.hid (by simp only [u16_mod, u32_mod, u8_mod]; rfl)
  go_enter Try.func21, Try.ntmps21
  go_wp2
  (try simp only [Exit.inBlock, Exit.then])
  refine ret_cell rfl rfl Try.underlying25 rfl rfl ⟨_, _, (by repeat (first | (with_reducible assumption) | (with_reducible apply heap_set_same) | ((with_reducible apply heap_set_other'); (focus (first | omega | (simp; done) | (simp; omega)))) | ((with_reducible apply heap_alloc_new); (focus (first | omega | (simp; done) | (simp; omega)))) | (with_reducible apply heap_alloc_old') | (with_reducible apply (heap_drew_at _ _).trans) | (with_reducible apply (heap_drewN_at _ _ _).trans))), (by kernel_rfl), ?_, by go_grown⟩
  exact ret_is H.out
/-- A number, and whether it is behind. -/
theorem late_eq (s : St) (i : Nu) (x : Int) (w : World) (hx : nearF s i = x) (l0 : -1152921504606846976 ≤ s.high) (l1 : s.high ≤ 1152921504606846976) :
    Calls Try.prog 25 #[.agg #[.bool s.on, .int .i64 s.high, .int .i64 s.since, .int .u16 s.off.seq, .int .u32 s.off.time, .int .u16 s.off.pic, .int .u8 s.off.tl0, .int .u16 s.out.seq, .int .u32 s.out.time, .int .u16 s.out.pic, .int .u8 s.out.tl0], .agg #[.int .u16 i.seq, .int .u32 i.time, .int .u16 i.pic, .int .u8 i.tl0]] w fun e w' => e = .returned (.tuple #[.int .i64 x, .bool (decide (x ≤ s.high))]) ∧ Below w.heap.size w w' := by
  have HX : Hid (near16 s.high i.seq = x) := Lib.hid hx
  clear hx
  go_enter Try.func25, Try.ntmps25
  go_wp2_with (go_at_call 31; (with_reducible refine (Near16_any _ _ _ (by omega) (by omega)).mono ?_); rintro e w' ⟨rfl, rfl⟩; rw [HX.out])
  go_region
  all_goals
    go_wp2_with fail
    go_ret2
    exact ⟨rfl, by go_grown⟩
theorem nums_eq (n : Nu) (w : World) (h : n.Ok) : Calls Try.prog 14 #[.agg #[.int .u16 n.seq, .int .u32 n.time, .int .u16 n.pic, .int .u8 n.tl0]] w fun e w' => e = .returned (.agg #[.int .i64 n.seq, .int .i64 n.time, .int .i64 n.pic, .int .i64 n.tl0]) ∧ Below w.heap.size w w' := by
  obtain ⟨h1, h2, h3, h4, h5, h6, h7, h8⟩ := h
  go_enter Try.func14, Try.ntmps14
  go_wp2
  (try simp only [Exit.inBlock, Exit.then])
  refine ret_cell rfl rfl Try.underlying34 rfl rfl ⟨_, _, (by repeat (first | (with_reducible assumption) | (with_reducible apply heap_set_same) | ((with_reducible apply heap_set_other'); (focus (first | omega | (simp; done) | (simp; omega)))) | ((with_reducible apply heap_alloc_new); (focus (first | omega | (simp; done) | (simp; omega)))) | (with_reducible apply heap_alloc_old') | (with_reducible apply (heap_drew_at _ _).trans) | (with_reducible apply (heap_drewN_at _ _ _).trans))), (by kernel_rfl), ?_, by go_grown⟩
  exact rfl
end Go.Proofs.Ytidpkmabcndknaa
