/- Of packets of one number the one that was added last is told, for as long as it is kept, at every input. No condition. -/
import Derived.Test.YtmpajoheoobnkaaOwnLift
import Derived.Test.YtmpajoheoobnkaaTwiceW
namespace Go.Proofs.Ytmpajoheoobnkaa
set_option linter.unusedSimpArgs false
set_option linter.unusedVariables false
open Go.ChangeShapes Go.WideShapes Go.ChangeAt Go.RowKit
open Go.ChangeMaps (open_string)
set_option linter.unusedVariables false

set_option maxRecDepth 100000
namespace StoreTwice

theorem lifted (os : Os) (started : os.Started) (H : Type) (enc : TypeId × Value → H) :
    ReturnsInHanded {} Try.checked os 6 .any (Rows.storeTwiceSpec.pre6 enc Try.prog Try.f6 Rows.storeTwiceRow.domain false) (Rows.storeTwiceSpec.post enc Try.prog Try.f6 false true false false) := by
  refine returnsInHanded_of_change (C := Try.checked) own_knob started (by kernel_rfl) Try.func6
    (ChangeSpec.witness6 (enc := enc) (C := Try.checked) false ⟨#[], #[.int .u8 0, .slice none 0 0, .slice none 0 0, .int .u8 0], []⟩ 8 (by kernel_rfl) (by kernel_rfl) (by kernel_rfl) (by kernel_rfl)) ?_
  intro W base args ds gs before hval0 hW _ _
  have hval : ∀ (j : Nat) t v, Try.f6.params[j]? = some t → args[j]? = some v → Value.okWide Try.prog W .any base t v := hval0
  have hW0 := hW
  obtain ⟨p, q, hA0, hV, _, _, _⟩ := hW0
  have hA : DataW.TrodAll enc Try.prog W 0 (fun _ => true) true Try.f6.params.toList args.toList ds p := hA0
  rw [Try.params6] at hA hval
  obtain ⟨v0, vs0, d0, ds0, p0, q0, hargs, hds0, _, h0, r0⟩ := trodAll_cons hA
  obtain ⟨v1, vs1, d1, ds1, p1, q1, hvs1, hds1, _, h1, r1⟩ := trodAll_cons r0
  obtain ⟨v2, vs2, d2, ds2, p2, q2, hvs2, hds2, _, h2, r2⟩ := trodAll_cons r1
  obtain ⟨v3, vs3, d3, ds3, p3, q3, hvs3, hds3, _, h3, r3⟩ := trodAll_cons r2
  obtain ⟨hvn, hdn, _⟩ := trodAll_nil r3
  subst hvn hdn
  subst hvs3 hds3
  subst hvs2 hds2
  subst hvs1 hds1
  subst hds0
  obtain rfl : args = #[v0, v1, v2, v3] := by cases args; simp_all
  obtain ⟨rfl, _⟩ := trodVars_none hV
  obtain ⟨a0, rfl, rfl, rfl, w0⟩ := open_int Try.underlying5 (hval 0 5 v0 rfl rfl) h0
  have b0 := Go.bounds_u8 w0
  obtain ⟨A1, len1, cap1, rfl, l1, c1, x1⟩ := open_cells (m := 1) Try.underlying30 (by kernel_rfl) (by omega) h1 (okWide_slice Try.underlying30 (hval 1 30 v1 rfl rfl))
  have k1 := none_cap Try.underlying30 h1
  obtain ⟨zs1, n1, y1, r1⟩ := open_list (k := .u8) Try.underlying5 x1
  have b1 := fun z hz => Go.bounds_u8 (r1 z hz)
  unfold maxLen at c1
  obtain ⟨A2, len2, cap2, rfl, l2, c2, x2⟩ := open_cells (m := 1) Try.underlying30 (by kernel_rfl) (by omega) h2 (okWide_slice Try.underlying30 (hval 2 30 v2 rfl rfl))
  have k2 := none_cap Try.underlying30 h2
  obtain ⟨zs2, n2, y2, r2⟩ := open_list (k := .u8) Try.underlying5 x2
  have b2 := fun z hz => Go.bounds_u8 (r2 z hz)
  unfold maxLen at c2
  obtain ⟨a3, rfl, rfl, rfl, w3⟩ := open_int Try.underlying5 (hval 3 5 v3 rfl rfl) h3
  have b3 := Go.bounds_u8 w3
  refine (twice_walk a0 A1 A2 len1 cap1 len2 cap2 zs1 zs2 a3 W b0.1 b0.2 b3.1 b3.2 n1 n2 (by omega) (by omega) y1 y2).mono fun e W' ⟨he, hw⟩ => ⟨_, he, law_post (tb := 4) (by kernel_rfl) rfl Try.underlying4 rfl hW rfl ?_⟩
  exact hw

theorem over : Rows.storeTwiceRow.holds Try.pinned (OpenSpec.ofChange Rows.storeTwiceSpec) :=
  OpenClaim.holds_of_wide 6 Try.f6 rfl rfl rfl rfl rfl rfl rfl ⟨rfl, rfl, rfl, rfl, rfl⟩ rfl rfl rfl rfl rfl (by kernel_rfl) Try.func6 (by kernel_rfl)
    (of_decide_eq_true (by kernel_rfl)) (by unfold Func.isWrapper; first | (rw [if_pos (by decide +kernel)]; kernel_rfl) | (rw [if_neg (by decide +kernel)]; exact ⟨rfl, rfl⟩))
    (fun os started H enc _ => lifted os started H enc)

theorem proved : Rows.StoreTwiceSaid := over
#print axioms proved
end StoreTwice
end Go.Proofs.Ytmpajoheoobnkaa
