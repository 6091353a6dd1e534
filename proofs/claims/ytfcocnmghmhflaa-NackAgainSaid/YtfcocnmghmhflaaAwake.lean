/- The document's example holds. -/
import Derived.Test.YtfcocnmghmhflaaListW
import Derived.Test.YtfcocnmghmhflaaPackW
namespace Go.Proofs.Ytfcocnmghmhflaa
set_option linter.unusedSimpArgs false
set_option linter.unusedVariables false
open Go.RowKit
theorem pack_example : packF [5, 6, 8] = [(5, 5)] := by decide +kernel
theorem list_example : listF [(5, 5)] = [5, 6, 8] := by decide +kernel
set_option maxHeartbeats 1000000 in
theorem awake_any (w : World) : Calls Try.prog 9 #[] w fun e w' => e = .returned (.bool true) ∧ Below w.heap.size w w' := by
  go_enter Try.func9, Try.ntmps9
  go_wp2_with fail
  with_reducible refine (Pack_any _ 3 _ [5, 6, 8] _ (by decide) (by decide) ?_ (by simp)).mono ?_
  · exact ints_new (zs := [5, 6, 8]) (k := .u16) rfl
  rintro e w1 ⟨v, rfl, hown, hb⟩
  have hB : Below w.heap.size w w1 := below_next (w := w) (by go_grown) hb
  have z0 : w.heap.size + 1 ≤ w1.heap.size := by simpa using hb.size
  rw [pack_example] at hown
  obtain ⟨g, cap, rfl, hg, hgl, hc⟩ := own_row (n := 1) hown (by decide)
  have c0 : w1.cell? ⟨g, 0, none⟩ = some (.int .u16 5) := (hc 0 (by decide)).trans rfl
  have c1 : w1.cell? ⟨g, 1, none⟩ = some (.int .u16 5) := (hc 1 (by decide)).trans rfl
  have hp := pairs_own (n := 1) hown
  clear hc hown hb
  go_wp2_with fail
  with_reducible refine (List_any _ 1 _ [(5, 5)] _ (by decide) (by decide) hp (by simp)).mono ?_
  rintro e w2 ⟨v, rfl, hown, hb⟩
  have hB2 : Below w.heap.size w w2 := below_next (w := w) hB hb
  have z1 := hb.size
  replace c0 := (hb.cell (p := ⟨g, 0, none⟩) hgl).trans c0
  replace c1 := (hb.cell (p := ⟨g, 1, none⟩) hgl).trans c1
  rw [list_example] at hown
  obtain ⟨g2, cap2, rfl, hg2, hgl2, hc⟩ := own_row (n := 3) hown (by decide)
  have d1 : w2.cell? ⟨g2, 1, none⟩ = some (.int .u16 6) := (hc 1 (by decide)).trans rfl
  have d2 : w2.cell? ⟨g2, 2, none⟩ = some (.int .u16 8) := (hc 2 (by decide)).trans rfl
  clear hc hown hb hp hB
  go_wp2_with fail
  go_ret
  exact ⟨rfl, hB2⟩
end Go.Proofs.Ytfcocnmghmhflaa
