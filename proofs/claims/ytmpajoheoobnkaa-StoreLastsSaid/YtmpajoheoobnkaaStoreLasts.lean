/- Of packets of which no two have one number just the last ones are kept, as they were added, at every input. No condition. -/
import Derived.Test.YtmpajoheoobnkaaOwnLift
import Derived.Test.YtmpajoheoobnkaaLastsW
namespace Go.Proofs.Ytmpajoheoobnkaa
set_option linter.unusedSimpArgs false
set_option linter.unusedVariables false
open Go.ChangeShapes Go.WideShapes Go.ChangeAt Go.RowKit
open Go.ChangeMaps (open_string)
set_option linter.unusedVariables false

set_option maxRecDepth 100000
namespace StoreLasts

theorem lifted (os : Os) (started : os.Started) (H : Type) (enc : TypeId × Value → H) :
    ReturnsInHanded {} Try.checked os 4 .any (Rows.storeLastsSpec.pre6 enc Try.prog Try.f4 Rows.storeLastsRow.domain false) (Rows.storeLastsSpec.post enc Try.prog Try.f4 false true false false) := by
  refine returnsInHanded_of_change (C := Try.checked) own_knob started (by kernel_rfl) Try.func4
    (ChangeSpec.witness6 (enc := enc) (C := Try.checked) false ⟨#[], #[.int .u8 0, .int .u16 0, .slice none 0 0], []⟩ 8 (by kernel_rfl) (by kernel_rfl) (by kernel_rfl) (by kernel_rfl)) ?_
  intro W base args ds gs before hval0 hW _ _
  have hval : ∀ (j : Nat) t v, Try.f4.params[j]? = some t → args[j]? = some v → Value.okWide Try.prog W .any base t v := hval0
  have hW0 := hW
  obtain ⟨p, q, hA0, hV, _, _, _⟩ := hW0
  have hA : DataW.TrodAll enc Try.prog W 0 (fun _ => true) true Try.f4.params.toList args.toList ds p := hA0
  rw [Try.params4] at hA hval
  obtain ⟨v0, vs0, d0, ds0, p0, q0, hargs, hds0, _, h0, r0⟩ := trodAll_cons hA
  obtain ⟨v1, vs1, d1, ds1, p1, q1, hvs1, hds1, _, h1, r1⟩ := trodAll_cons r0
  obtain ⟨v2, vs2, d2, ds2, p2, q2, hvs2, hds2, _, h2, r2⟩ := trodAll_cons r1
  obtain ⟨hvn, hdn, _⟩ := trodAll_nil r2
  subst hvn hdn
  subst hvs2 hds2
  subst hvs1 hds1
  subst hds0
  obtain rfl : args = #[v0, v1, v2] := by cases args; simp_all
  obtain ⟨rfl, _⟩ := trodVars_none hV
  obtain ⟨a0, rfl, rfl, rfl, w0⟩ := open_int Try.underlying5 (hval 0 5 v0 rfl rfl) h0
  have b0 := Go.bounds_u8 w0
  obtain ⟨a1, rfl, rfl, rfl, w1⟩ := open_int Try.underlying29 (hval 1 29 v1 rfl rfl) h1
  have b1 := Go.bounds_u16 w1
  obtain ⟨A2, len2, cap2, rfl, l2, c2, x2⟩ := open_cells (m := 1) Try.underlying40 (by kernel_rfl) (by omega) h2 (okWide_slice Try.underlying40 (hval 2 40 v2 rfl rfl))
  unfold maxLen at c2
  obtain ⟨z2, y2⟩ : ∃ z : Nat → RowV, ∀ i, i < len2 → RowAt W A2 i (z i) := by
    refine Go.Deep.choose_lt (p := fun i v => RowAt W A2 i v) (fun i hi => ?_)
    obtain ⟨b, o, cs, hA, hb, hcl, hc, n, x, hx⟩ := x2 i hi
    obtain ⟨_, L⟩ := leaves 4 30 [30] (by kernel_rfl) n cs x hx
    obtain ⟨B, bn, bc, d5, q5, e5, t5⟩ := leaf_slice L (i := 0) rfl Try.underlying30
    obtain ⟨B', bn', bc', hv, lb, cb, xb⟩ := open_cells (m := 1) Try.underlying30 (by kernel_rfl) (by omega) t5 ⟨_, _, _, rfl⟩
    cases hv
    obtain ⟨gs, ng, yg, _⟩ := open_list (k := .u8) Try.underlying5 xb
    unfold maxLen at cb
    exact ⟨⟨B, bn, bc, gs⟩, b, o, hA, hb, (by simpa using hc 0 _ e5), ng, by dsimp only; omega, yg⟩
  refine (lasts_walk a0 a1 A2 len2 cap2 z2 W b0.1 b0.2 b1.1 b1.2 (by omega) y2).mono fun e W' ⟨he, hw⟩ => ⟨_, he, law_post (tb := 4) (by kernel_rfl) rfl Try.underlying4 rfl hW rfl ?_⟩
  exact hw

theorem over : Rows.storeLastsRow.holds Try.pinned (OpenSpec.ofChange Rows.storeLastsSpec) :=
  OpenClaim.holds_of_wide 4 Try.f4 rfl rfl rfl rfl rfl rfl rfl ⟨rfl, rfl, rfl, rfl, rfl⟩ rfl rfl rfl rfl rfl (by kernel_rfl) Try.func4 (by kernel_rfl)
    (of_decide_eq_true (by kernel_rfl)) (by unfold Func.isWrapper; first | (rw [if_pos (by decide +kernel)]; kernel_rfl) | (rw [if_neg (by decide +kernel)]; exact ⟨rfl, rfl⟩))
    (fun os started H enc _ => lifted os started H enc)

theorem proved : Rows.StoreLastsSaid := over
#print axioms proved
end StoreLasts
end Go.Proofs.Ytmpajoheoobnkaa
