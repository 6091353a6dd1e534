/- The packets of one pair are its first one, and as many as bits, at every input. No condition. -/
import Derived.Test.YtfcocnmghmhflaaOwnLift
import Derived.Test.YtfcocnmghmhflaaWithinW
namespace Go.Proofs.Ytfcocnmghmhflaa
set_option linter.unusedSimpArgs false
set_option linter.unusedVariables false
open Go.ChangeShapes Go.WideShapes Go.ChangeAt Go.RowKit
open Go.ChangeMaps (open_string)
set_option linter.unusedVariables false

set_option maxRecDepth 100000
namespace NackWithin

theorem lifted (os : Os) (started : os.Started) (H : Type) (enc : TypeId × Value → H) :
    ReturnsInHanded {} Try.checked os 7 .any (Rows.nackWithinSpec.pre6 enc Try.prog Try.f7 Rows.nackWithinRow.domain false) (Rows.nackWithinSpec.post enc Try.prog Try.f7 false true false false) := by
  refine returnsInHanded_of_change (C := Try.checked) own_knob started (by kernel_rfl) Try.func7
    (ChangeSpec.witness6 (enc := enc) (C := Try.checked) false ⟨#[], #[.agg #[.int .u16 0, .int .u16 0]], []⟩ 8 (by kernel_rfl) (by kernel_rfl) (by kernel_rfl) (by kernel_rfl)) ?_
  intro W base args ds gs before hval0 hW _ _
  have hval : ∀ (j : Nat) t v, Try.f7.params[j]? = some t → args[j]? = some v → Value.okWide Try.prog W .any base t v := hval0
  have hW0 := hW
  obtain ⟨p, q, hA0, hV, _, _, _⟩ := hW0
  have hA : DataW.TrodAll enc Try.prog W 0 (fun _ => true) true Try.f7.params.toList args.toList ds p := hA0
  rw [Try.params7] at hA hval
  obtain ⟨v0, vs0, d0, ds0, p0, q0, hargs, hds0, _, h0, r0⟩ := trodAll_cons hA
  obtain ⟨hvn, hdn, _⟩ := trodAll_nil r0
  subst hvn hdn
  subst hds0
  obtain rfl : args = #[v0] := by cases args; simp_all
  obtain ⟨rfl, _⟩ := trodVars_none hV
  obtain ⟨cs0, rfl, _⟩ := okWide_struct Try.underlying27 (hval 0 27 v0 rfl rfl)
  obtain ⟨fu0, hf0⟩ := h0
  obtain ⟨ln0, L0⟩ := leaves 3 27 [25, 25] (by kernel_rfl) fu0 cs0.toList _ hf0
  obtain ⟨a0_0, e0_0, w0_0⟩ := leaf_int (k := .u16) L0 (i := 0) rfl Try.underlying25
  obtain ⟨a0_1, e0_1, w0_1⟩ := leaf_int (k := .u16) L0 (i := 1) rfl Try.underlying25
  obtain rfl : cs0 = #[.int .u16 a0_0, .int .u16 a0_1] := by
    apply Array.toList_inj.1; apply List.ext_getElem? ; intro i; match i with
    | 0 => exact e0_0
    | 1 => exact e0_1
    | i + 2 => rw [List.getElem?_eq_none (by rw [ln0]; simp), List.getElem?_eq_none (by simp)]
  refine (within_walk a0_0 a0_1 W (Go.bounds_u16 w0_0).1 (Go.bounds_u16 w0_0).2 (Go.bounds_u16 w0_1).1 (Go.bounds_u16 w0_1).2).mono fun e W' ⟨he, hw⟩ => ⟨_, he, law_post (tb := 4) (by kernel_rfl) rfl Try.underlying4 rfl hW rfl ?_⟩
  exact hw

theorem over : Rows.nackWithinRow.holds Try.pinned (OpenSpec.ofChange Rows.nackWithinSpec) :=
  OpenClaim.holds_of_wide 7 Try.f7 rfl rfl rfl rfl rfl rfl rfl ⟨rfl, rfl, rfl, rfl, rfl⟩ rfl rfl rfl rfl rfl (by kernel_rfl) Try.func7 (by kernel_rfl)
    (of_decide_eq_true (by kernel_rfl)) (by unfold Func.isWrapper; first | (rw [if_pos (by decide +kernel)]; kernel_rfl) | (rw [if_neg (by decide +kernel)]; exact ⟨rfl, rfl⟩))
    (fun os started H enc _ => lifted os started H enc)

theorem proved : Rows.NackWithinSaid := over
#print axioms proved
end NackWithin
end Go.Proofs.Ytfcocnmghmhflaa
