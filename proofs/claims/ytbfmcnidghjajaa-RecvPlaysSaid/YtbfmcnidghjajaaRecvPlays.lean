/- Whatever packets come, what each one is, its number, what was lost, and what misses, are the document's, at every input. No condition. -/
import Derived.Test.YtbfmcnidghjajaaOwnLift
import Derived.Test.YtbfmcnidghjajaaPlaysW
namespace Go.Proofs.Ytbfmcnidghjajaa
set_option linter.unusedSimpArgs false
set_option linter.unusedVariables false
open Go.ChangeShapes Go.WideShapes Go.ChangeAt Go.RowKit
open Go.ChangeMaps (open_string)
set_option linter.unusedVariables false

set_option maxRecDepth 100000
namespace RecvPlays

theorem lifted (os : Os) (started : os.Started) (H : Type) (enc : TypeId × Value → H) :
    ReturnsInHanded {} Try.checked os 3 .any (Rows.recvPlaysSpec.pre6 enc Try.prog Try.f3 Rows.recvPlaysRow.domain false) (Rows.recvPlaysSpec.post enc Try.prog Try.f3 false true false false) := by
  refine returnsInHanded_of_change (C := Try.checked) own_knob started (by kernel_rfl) Try.func3
    (ChangeSpec.witness6 (enc := enc) (C := Try.checked) false ⟨#[], #[.slice none 0 0], []⟩ 8 (by kernel_rfl) (by kernel_rfl) (by kernel_rfl) (by kernel_rfl)) ?_
  intro W base args ds gs before hval0 hW _ _
  have hval : ∀ (j : Nat) t v, Try.f3.params[j]? = some t → args[j]? = some v → Value.okWide Try.prog W .any base t v := hval0
  have hW0 := hW
  obtain ⟨p, q, hA0, hV, _, _, _⟩ := hW0
  have hA : DataW.TrodAll enc Try.prog W 0 (fun _ => true) true Try.f3.params.toList args.toList ds p := hA0
  rw [Try.params3] at hA hval
  obtain ⟨v0, vs0, d0, ds0, p0, q0, hargs, hds0, _, h0, r0⟩ := trodAll_cons hA
  obtain ⟨hvn, hdn, _⟩ := trodAll_nil r0
  subst hvn hdn
  subst hds0
  obtain rfl : args = #[v0] := by cases args; simp_all
  obtain ⟨rfl, _⟩ := trodVars_none hV
  obtain ⟨A0, len0, cap0, rfl, l0, c0, x0⟩ := open_cells (m := 1) Try.underlying22 (by kernel_rfl) (by omega) h0 (okWide_slice Try.underlying22 (hval 0 22 v0 rfl rfl))
  have k0 := none_cap Try.underlying22 h0
  obtain ⟨zs0, n0, y0, r0⟩ := open_list (k := .u16) Try.underlying32 x0
  have b0 := fun z hz => Go.bounds_u16 (r0 z hz)
  unfold maxLen at c0
  refine (plays_walk A0 len0 cap0 zs0 W n0 (by omega) y0 (fun q hq => b0 q hq)).mono fun e W' ⟨he, hw⟩ => ⟨_, he, law_post (tb := 4) (by kernel_rfl) rfl Try.underlying4 rfl hW rfl ?_⟩
  exact hw

theorem over : Rows.recvPlaysRow.holds Try.pinned (OpenSpec.ofChange Rows.recvPlaysSpec) :=
  OpenClaim.holds_of_wide 3 Try.f3 rfl rfl rfl rfl rfl rfl rfl ⟨rfl, rfl, rfl, rfl, rfl⟩ rfl rfl rfl rfl rfl (by kernel_rfl) Try.func3 (by kernel_rfl)
    (of_decide_eq_true (by kernel_rfl)) (by unfold Func.isWrapper; first | (rw [if_pos (by decide +kernel)]; kernel_rfl) | (rw [if_neg (by decide +kernel)]; exact ⟨rfl, rfl⟩))
    (fun os started H enc _ => lifted os started H enc)

theorem proved : Rows.RecvPlaysSaid := over
#print axioms proved
end RecvPlays
end Go.Proofs.Ytbfmcnidghjajaa
