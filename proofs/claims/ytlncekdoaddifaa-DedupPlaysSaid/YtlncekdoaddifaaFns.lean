/- The table's functions, walked. -/
import Derived.Test.YtlncekdoaddifaaTab
namespace Go.Proofs.Ytlncekdoaddifaa
set_option linter.unusedSimpArgs false
set_option linter.unusedVariables false
open Go.RowKit

theorem new_t (m : Int) (room : Nat) (hm : m = room) (w : World) (h0 : 1 ≤ room) (h1 : room ≤ 4096) :
    Calls Try.prog 9 #[.int .i64 m] w fun e w' => ∃ T M, e = .returned (.pointer (some ⟨T, 0, none⟩)) ∧ TabAt w' T M w.heap.size room 0 [] ∧ Below w.heap.size w w' := by
  subst hm
  have hmm := @run_makeMap Try.prog
  go_enter Try.func9, Try.ntmps9
  go_wp2_with fail
  go_ret
  refine ⟨w.heap.size + 1, w.heap.size, (by first | rfl | (simp; done)), ⟨⟨.slice none 0 0, (Eq.trans (b := some (Obj.cells _ _ (0, 0))) (by repeat (first | (with_reducible assumption) | (with_reducible apply heap_set_row2) | (with_reducible apply heap_set_row3) | (with_reducible apply heap_set_same) | ((with_reducible apply heap_set_other'); (focus (first | omega | (simp; done) | (simp; omega)))) | ((with_reducible apply heap_alloc_new); (focus (first | omega | (simp; done) | (simp; omega)))) | (with_reducible apply heap_alloc_old') | (with_reducible apply (heap_drew_at _ _).trans) | (with_reducible apply (heap_drewN_at _ _ _).trans) | (simp only [List.size_toArray, List.length_cons, List.length_nil]; done))) (by exact rfl)), qrow_nil _ _ _⟩, (MapIs.made w Try.prog 29 .u64).alloc _, by omega, by omega, by simp; omega⟩, by go_grown⟩
theorem new_nil (m : Int) (hm : m < 1 ∨ 4096 < m) (w : World) : Calls Try.prog 9 #[.int .i64 m] w fun e w' => e = .returned (.pointer none) ∧ Below w.heap.size w w' := by
  by_cases h : m < 1
  · go_enter Try.func9, Try.ntmps9
    go_wp2_with fail
    go_ret
    exact ⟨rfl, by first | exact Below.refl _ _ | go_grown⟩
  · have h2 : 4096 < m := by omega
    go_enter Try.func9, Try.ntmps9
    go_wp2_with fail
    go_ret
    exact ⟨rfl, by first | exact Below.refl _ _ | go_grown⟩
theorem find_nil (x : Int) (w : World) : Calls Try.prog 14 #[.pointer none, .int .u64 x] w fun e w' => e = .returned (.tuple #[.string ⟨#[]⟩, .bool false, .bool false]) ∧ w = w' := by
  go_enter Try.func14, Try.ntmps14
  go_wp2_with fail
  go_ret3
  exact ⟨rfl, rfl⟩
theorem start_nil (x : Int) (w : World) : Calls Try.prog 13 #[.pointer none, .int .u64 x] w fun e w' => e = .returned (.int .i64 1) ∧ w = w' := by
  go_enter Try.func13, Try.ntmps13
  go_wp2_with fail
  go_ret
  exact ⟨rfl, rfl⟩
theorem end_nil (x : Int) (s : ByteArray) (w : World) : Calls Try.prog 11 #[.pointer none, .int .u64 x, .string s] w fun e w' => e = .returned (.int .i64 1) ∧ w = w' := by
  go_enter Try.func11, Try.ntmps11
  go_wp2_with fail
  go_ret
  exact ⟨rfl, rfl⟩
theorem len_nil (w : World) : Calls Try.prog 16 #[.pointer none] w fun e w' => e = .returned (.int .i64 0) ∧ w = w' := by
  go_enter Try.func16, Try.ntmps16
  go_wp2_with fail
  go_ret
  exact ⟨rfl, rfl⟩
theorem waits_nil (w : World) : Calls Try.prog 17 #[.pointer none] w fun e w' => e = .returned (.int .i64 0) ∧ w = w' := by
  go_enter Try.func17, Try.ntmps17
  go_wp2_with (go_at_call 16; (with_reducible refine (len_nil _).mono ?_); rintro e w' ⟨rfl, rfl⟩)
  go_loop [3, 7] (fun a j => a = .int .i64 0 ∧ j = .int .i64 0) (fun _ _ => 0)
  case atStart => exact ⟨rfl, rfl⟩
  case round =>
    obtain ⟨rfl, rfl⟩ := hrel
    go_wp2_with fail
    go_ret
    exact ⟨rfl, rfl⟩
theorem find_t (w : World) (T M B room n : Nat) (L : List En) (x : Int) (h : TabAt w T M B room n L) (hx0 : 0 ≤ x) (hx1 : x ≤ 18446744073709551615) (a : ByteArray) (d is : Bool) (hf : findV L x = (a, d, is)) :
    Calls Try.prog 14 #[.pointer (some ⟨T, 0, none⟩), .int .u64 x] w fun e w' => e = .returned (.tuple #[.string a, .bool d, .bool is]) ∧ Below w.heap.size w w' := by
  obtain ⟨⟨v, hT, hv⟩, hM, bT, bM, bw⟩ := h
  obtain ⟨cT, fT, zT⟩ := blk_facts hT
  obtain ⟨l1, l2⟩ := look_val hf
  have H1 := Lib.hid l1; clear l1
  have H2 := Lib.hid l2; clear l2 hf
  have hxw := wf_u64 hx0 hx1
  go_enter Try.func14, Try.ntmps14
  go_wp2_with (at_lookup; refine wpList_map_look' _ rfl (.tmp 15) (.tmp 16) 47 rfl 29 55 .u64 Try.underlying29 Try.underlying47 (zero55 _) M n (mapF L) rfl hM x rfl hxw _ _ H1.out H2.out ?_)
  go_quiet (fail)
  go_wp2_with fail
  go_ret3
  exact ⟨rfl, below_drewN (Below.alloc (Below.refl _ _) (Nat.le_refl _) _) _⟩
theorem len_t (w : World) (T M B room n : Nat) (L : List En) (h : TabAt w T M B room n L) :
    Calls Try.prog 16 #[.pointer (some ⟨T, 0, none⟩)] w fun e w' => e = .returned (.int .i64 L.length) ∧ w = w' := by
  obtain ⟨⟨v, hT, hv⟩, hM, bT, bM, bw⟩ := h
  obtain ⟨cT, fT, zT⟩ := blk_facts hT
  obtain ⟨A, cap, rfl⟩ := hv.slice
  have e1 : (idsV L).length = L.length := by simp [idsV]
  rw [e1] at hT hv cT
  clear e1
  go_enter Try.func16, Try.ntmps16
  go_wp2_with fail
  go_ret
  exact ⟨rfl, rfl⟩
end Go.Proofs.Ytlncekdoaddifaa
