/- Whatever is done from the beginning on, the numbers are the document's, at every input. No condition. -/
import Derived.Test.YtidpkmabcndknaaOwnLift
import Derived.Test.YtidpkmabcndknaaPlaysW
namespace Go.Proofs.Ytidpkmabcndknaa
set_option linter.unusedSimpArgs false
set_option linter.unusedVariables false
open Go.ChangeShapes Go.WideShapes Go.ChangeAt Go.RowKit
open Go.ChangeMaps (open_string)
set_option linter.unusedVariables false

set_option maxRecDepth 100000
namespace MungePlays

theorem lifted (os : Os) (started : os.Started) (H : Type) (enc : TypeId × Value → H) :
    ReturnsInHanded {} Try.checked os 4 .any (Rows.mungePlaysSpec.pre6 enc Try.prog Try.f4 Rows.mungePlaysRow.domain false) (Rows.mungePlaysSpec.post enc Try.prog Try.f4 false true false false) := by
  refine returnsInHanded_of_change (C := Try.checked) own_knob started (by kernel_rfl) Try.func4
    (ChangeSpec.witness6 (enc := enc) (C := Try.checked) false ⟨#[], #[.slice none 0 0], []⟩ 8 (by kernel_rfl) (by kernel_rfl) (by kernel_rfl) (by kernel_rfl)) ?_
  intro W base args ds gs before hval0 hW _ _
  have hval : ∀ (j : Nat) t v, Try.f4.params[j]? = some t → args[j]? = some v → Value.okWide Try.prog W .any base t v := hval0
  have hW0 := hW
  obtain ⟨p, q, hA0, hV, _, _, _⟩ := hW0
  have hA : DataW.TrodAll enc Try.prog W 0 (fun _ => true) true Try.f4.params.toList args.toList ds p := hA0
  rw [Try.params4] at hA hval
  obtain ⟨v0, vs0, d0, ds0, p0, q0, hargs, hds0, _, h0, r0⟩ := trodAll_cons hA
  obtain ⟨hvn, hdn, _⟩ := trodAll_nil r0
  subst hvn hdn
  subst hds0
  obtain rfl : args = #[v0] := by cases args; simp_all
  obtain ⟨rfl, _⟩ := trodVars_none hV
  obtain ⟨A0, len0, cap0, rfl, l0, c0, x0⟩ := open_cells (m := 7) Try.underlying48 (by kernel_rfl) (by omega) h0 (okWide_slice Try.underlying48 (hval 0 48 v0 rfl rfl))
  unfold maxLen at c0
  obtain ⟨z0, y0⟩ : ∃ z : Nat → StepV, ∀ i, i < len0 → StepAt W A0 i (z i) := by
    refine Go.Deep.choose_lt (p := fun i v => StepAt W A0 i v) (fun i hi => ?_)
    obtain ⟨b, o, cs, hA, hb, _, hc, n, x, hx⟩ := x0 i hi
    obtain ⟨_, L⟩ := leaves 4 29 [3, 22, 23, 22, 5, 23, 4] (by kernel_rfl) n cs x hx
    obtain ⟨a0, e0, w0⟩ := leaf_int (k := .i64) L (i := 0) rfl Try.underlying3
    obtain ⟨a1, e1, w1⟩ := leaf_int (k := .u16) L (i := 1) rfl Try.underlying22
    obtain ⟨a2, e2, w2⟩ := leaf_int (k := .u32) L (i := 2) rfl Try.underlying23
    obtain ⟨a3, e3, w3⟩ := leaf_int (k := .u16) L (i := 3) rfl Try.underlying22
    obtain ⟨a4, e4, w4⟩ := leaf_int (k := .u8) L (i := 4) rfl Try.underlying5
    obtain ⟨a5, e5, w5⟩ := leaf_int (k := .u32) L (i := 5) rfl Try.underlying23
    obtain ⟨a6, e6⟩ := leaf_bool L (i := 6) rfl Try.underlying4
    exact ⟨⟨a0, a1, a2, a3, a4, a5, a6⟩, b, o, hA, hb, hc 0 _ e0, hc 1 _ e1, hc 2 _ e2, hc 3 _ e3, hc 4 _ e4, hc 5 _ e5, hc 6 _ e6, ⟨(Go.bounds_u16 w1).1, (Go.bounds_u16 w1).2, (Go.bounds_u32 w2).1, (Go.bounds_u32 w2).2, (Go.bounds_u16 w3).1, (Go.bounds_u16 w3).2, (Go.bounds_u8 w4).1, (Go.bounds_u8 w4).2⟩, (Go.bounds_u32 w5).1, (Go.bounds_u32 w5).2⟩
  refine (plays_walk A0 len0 cap0 z0 W (by omega) y0).mono fun e W' ⟨he, hw⟩ => ⟨_, he, law_post (tb := 4) (by kernel_rfl) rfl Try.underlying4 rfl hW rfl ?_⟩
  exact hw

theorem over : Rows.mungePlaysRow.holds Try.pinned (OpenSpec.ofChange Rows.mungePlaysSpec) :=
  OpenClaim.holds_of_wide 4 Try.f4 rfl rfl rfl rfl rfl rfl rfl ⟨rfl, rfl, rfl, rfl, rfl⟩ rfl rfl rfl rfl rfl (by kernel_rfl) Try.func4 (by kernel_rfl)
    (of_decide_eq_true (by kernel_rfl)) (by unfold Func.isWrapper; first | (rw [if_pos (by decide +kernel)]; kernel_rfl) | (rw [if_neg (by decide +kernel)]; exact ⟨rfl, rfl⟩))
    (fun os started H enc _ => lifted os started H enc)

theorem proved : Rows.MungePlaysSaid := over
#print axioms proved
end MungePlays
end Go.Proofs.Ytidpkmabcndknaa
