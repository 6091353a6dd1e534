/- What was added, and what is told, can be written over: what is kept stays; only rooms that may be are, at every input. No condition. -/
import Derived.Test.YtmpajoheoobnkaaOwnLift
import Derived.Test.YtmpajoheoobnkaaOwnW
namespace Go.Proofs.Ytmpajoheoobnkaa
set_option linter.unusedSimpArgs false
set_option linter.unusedVariables false
open Go.ChangeShapes Go.WideShapes Go.ChangeAt Go.RowKit
open Go.ChangeMaps (open_string)
set_option linter.unusedVariables false

set_option maxRecDepth 100000
namespace StoreOwn

theorem lifted (os : Os) (started : os.Started) (H : Type) (enc : TypeId × Value → H) :
    ReturnsInHanded {} Try.checked os 5 .any (Rows.storeOwnSpec.pre6 enc Try.prog Try.f5 Rows.storeOwnRow.domain false) (Rows.storeOwnSpec.post enc Try.prog Try.f5 false true false false) := by
  refine returnsInHanded_of_change (C := Try.checked) own_knob started (by kernel_rfl) Try.func5
    (ChangeSpec.witness6 (enc := enc) (C := Try.checked) false ⟨#[], #[.int .i64 0, .slice none 0 0], []⟩ 8 (by kernel_rfl) (by kernel_rfl) (by kernel_rfl) (by kernel_rfl)) ?_
  intro W base args ds gs before hval0 hW _ _
  have hval : ∀ (j : Nat) t v, Try.f5.params[j]? = some t → args[j]? = some v → Value.okWide Try.prog W .any base t v := hval0
  have hW0 := hW
  obtain ⟨p, q, hA0, hV, _, _, _⟩ := hW0
  have hA : DataW.TrodAll enc Try.prog W 0 (fun _ => true) true Try.f5.params.toList args.toList ds p := hA0
  rw [Try.params5] at hA hval
  obtain ⟨v0, vs0, d0, ds0, p0, q0, hargs, hds0, _, h0, r0⟩ := trodAll_cons hA
  obtain ⟨v1, vs1, d1, ds1, p1, q1, hvs1, hds1, _, h1, r1⟩ := trodAll_cons r0
  obtain ⟨hvn, hdn, _⟩ := trodAll_nil r1
  subst hvn hdn
  subst hvs1 hds1
  subst hds0
  obtain rfl : args = #[v0, v1] := by cases args; simp_all
  obtain ⟨rfl, _⟩ := trodVars_none hV
  obtain ⟨a0, rfl, rfl, rfl, w0⟩ := open_int Try.underlying3 (hval 0 3 v0 rfl rfl) h0
  have b0 := Go.bounds_i64 w0
  obtain ⟨A1, len1, cap1, rfl, l1, c1, x1⟩ := open_cells (m := 1) Try.underlying30 (by kernel_rfl) (by omega) h1 (okWide_slice Try.underlying30 (hval 1 30 v1 rfl rfl))
  have k1 := none_cap Try.underlying30 h1
  obtain ⟨zs1, n1, y1, r1⟩ := open_list (k := .u8) Try.underlying5 x1
  have b1 := fun z hz => Go.bounds_u8 (r1 z hz)
  unfold maxLen at c1
  refine (own_walk a0 A1 len1 cap1 zs1 W b0.1 b0.2 n1 (by omega) k1 y1).mono fun e W' ⟨he, hw⟩ => ⟨_, he, law_post (tb := 4) (by kernel_rfl) rfl Try.underlying4 rfl hW rfl ?_⟩
  exact hw

theorem over : Rows.storeOwnRow.holds Try.pinned (OpenSpec.ofChange Rows.storeOwnSpec) :=
  OpenClaim.holds_of_wide 5 Try.f5 rfl rfl rfl rfl rfl rfl rfl ⟨rfl, rfl, rfl, rfl, rfl⟩ rfl rfl rfl rfl rfl (by kernel_rfl) Try.func5 (by kernel_rfl)
    (of_decide_eq_true (by kernel_rfl)) (by unfold Func.isWrapper; first | (rw [if_pos (by decide +kernel)]; kernel_rfl) | (rw [if_neg (by decide +kernel)]; exact ⟨rfl, rfl⟩))
    (fun os started H enc _ => lifted os started H enc)

theorem proved : Rows.StoreOwnSaid := over
#print axioms proved
end StoreOwn
end Go.Proofs.Ytmpajoheoobnkaa
