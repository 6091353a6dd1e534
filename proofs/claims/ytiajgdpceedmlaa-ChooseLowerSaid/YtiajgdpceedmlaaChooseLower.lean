/- Where less is wanted, what begins a frame is sent up to that, at every input. No condition. -/
import Derived.Test.YtiajgdpceedmlaaLift
import Derived.Test.YtiajgdpceedmlaaLowerW
namespace Go.Proofs.Ytiajgdpceedmlaa
set_option linter.unusedSimpArgs false
set_option linter.unusedVariables false
open Go.ChangeShapes Go.WideShapes Go.ChangeAt Go.RowKit
open Go.ChangeMaps (open_string)
set_option linter.unusedVariables false

set_option maxRecDepth 100000
namespace ChooseLower

theorem lifted (os : Os) (started : os.Started) (H : Type) (enc : TypeId × Value → H) :
    ReturnsInHanded {} Try.checked os 8 .any (Rows.chooseLowerSpec.pre6 enc Try.prog Try.f8 Rows.chooseLowerRow.domain false) (Rows.chooseLowerSpec.post enc Try.prog Try.f8 false true false false) := by
  refine returnsInHanded_of_change (C := Try.checked) own_knob started (by kernel_rfl) Try.func8
    (ChangeSpec.witness6 (enc := enc) (C := Try.checked) false ⟨#[], #[.agg #[.bool false, .int .i64 0, .int .i64 0, .int .i64 0], .agg #[.int .i64 0, .int .i64 0, .int .i64 0], .agg #[.int .i64 0, .int .i64 0, .bool false, .bool false, .bool false, .int .i64 0, .bool false]], []⟩ 8 (by kernel_rfl) (by kernel_rfl) (by kernel_rfl) (by kernel_rfl)) ?_
  intro W base args ds gs before hval0 hW _ _
  have hval : ∀ (j : Nat) t v, Try.f8.params[j]? = some t → args[j]? = some v → Value.okWide Try.prog W .any base t v := hval0
  have hW0 := hW
  obtain ⟨p, q, hA0, hV, _, _, _⟩ := hW0
  have hA : DataW.TrodAll enc Try.prog W 0 (fun _ => true) true Try.f8.params.toList args.toList ds p := hA0
  rw [Try.params8] at hA hval
  obtain ⟨v0, vs0, d0, ds0, p0, q0, hargs, hds0, _, h0, r0⟩ := trodAll_cons hA
  obtain ⟨v1, vs1, d1, ds1, p1, q1, hvs1, hds1, _, h1, r1⟩ := trodAll_cons r0
  obtain ⟨v2, vs2, d2, ds2, p2, q2, hvs2, hds2, _, h2, r2⟩ := trodAll_cons r1
  obtain ⟨hvn, hdn, _⟩ := trodAll_nil r2
  subst hvn hdn
  subst hvs2 hds2
  subst hvs1 hds1
  subst hds0
  obtain rfl : args = #[v0, v1, v2] := by cases args; simp_all
  obtain ⟨rfl, _⟩ := trodVars_none hV
  obtain ⟨cs0, rfl, _⟩ := okWide_struct Try.underlying23 (hval 0 23 v0 rfl rfl)
  obtain ⟨fu0, hf0⟩ := h0
  obtain ⟨ln0, L0⟩ := leaves 3 23 [4, 3, 3, 3] (by kernel_rfl) fu0 cs0.toList _ hf0
  obtain ⟨a0_0, e0_0⟩ := leaf_bool L0 (i := 0) rfl Try.underlying4
  obtain ⟨a0_1, e0_1, w0_1⟩ := leaf_int (k := .i64) L0 (i := 1) rfl Try.underlying3
  obtain ⟨a0_2, e0_2, w0_2⟩ := leaf_int (k := .i64) L0 (i := 2) rfl Try.underlying3
  obtain ⟨a0_3, e0_3, w0_3⟩ := leaf_int (k := .i64) L0 (i := 3) rfl Try.underlying3
  obtain rfl : cs0 = #[.bool a0_0, .int .i64 a0_1, .int .i64 a0_2, .int .i64 a0_3] := by
    apply Array.toList_inj.1; apply List.ext_getElem? ; intro i; match i with
    | 0 => exact e0_0
    | 1 => exact e0_1
    | 2 => exact e0_2
    | 3 => exact e0_3
    | i + 4 => rw [List.getElem?_eq_none (by rw [ln0]; simp), List.getElem?_eq_none (by simp)]
  obtain ⟨cs1, rfl, _⟩ := okWide_struct Try.underlying27 (hval 1 27 v1 rfl rfl)
  obtain ⟨fu1, hf1⟩ := h1
  obtain ⟨ln1, L1⟩ := leaves 3 27 [3, 3, 3] (by kernel_rfl) fu1 cs1.toList _ hf1
  obtain ⟨a1_0, e1_0, w1_0⟩ := leaf_int (k := .i64) L1 (i := 0) rfl Try.underlying3
  obtain ⟨a1_1, e1_1, w1_1⟩ := leaf_int (k := .i64) L1 (i := 1) rfl Try.underlying3
  obtain ⟨a1_2, e1_2, w1_2⟩ := leaf_int (k := .i64) L1 (i := 2) rfl Try.underlying3
  obtain rfl : cs1 = #[.int .i64 a1_0, .int .i64 a1_1, .int .i64 a1_2] := by
    apply Array.toList_inj.1; apply List.ext_getElem? ; intro i; match i with
    | 0 => exact e1_0
    | 1 => exact e1_1
    | 2 => exact e1_2
    | i + 3 => rw [List.getElem?_eq_none (by rw [ln1]; simp), List.getElem?_eq_none (by simp)]
  obtain ⟨cs2, rfl, _⟩ := okWide_struct Try.underlying25 (hval 2 25 v2 rfl rfl)
  obtain ⟨fu2, hf2⟩ := h2
  obtain ⟨ln2, L2⟩ := leaves 3 25 [3, 3, 4, 4, 4, 3, 4] (by kernel_rfl) fu2 cs2.toList _ hf2
  obtain ⟨a2_0, e2_0, w2_0⟩ := leaf_int (k := .i64) L2 (i := 0) rfl Try.underlying3
  obtain ⟨a2_1, e2_1, w2_1⟩ := leaf_int (k := .i64) L2 (i := 1) rfl Try.underlying3
  obtain ⟨a2_2, e2_2⟩ := leaf_bool L2 (i := 2) rfl Try.underlying4
  obtain ⟨a2_3, e2_3⟩ := leaf_bool L2 (i := 3) rfl Try.underlying4
  obtain ⟨a2_4, e2_4⟩ := leaf_bool L2 (i := 4) rfl Try.underlying4
  obtain ⟨a2_5, e2_5, w2_5⟩ := leaf_int (k := .i64) L2 (i := 5) rfl Try.underlying3
  obtain ⟨a2_6, e2_6⟩ := leaf_bool L2 (i := 6) rfl Try.underlying4
  obtain rfl : cs2 = #[.int .i64 a2_0, .int .i64 a2_1, .bool a2_2, .bool a2_3, .bool a2_4, .int .i64 a2_5, .bool a2_6] := by
    apply Array.toList_inj.1; apply List.ext_getElem? ; intro i; match i with
    | 0 => exact e2_0
    | 1 => exact e2_1
    | 2 => exact e2_2
    | 3 => exact e2_3
    | 4 => exact e2_4
    | 5 => exact e2_5
    | 6 => exact e2_6
    | i + 7 => rw [List.getElem?_eq_none (by rw [ln2]; simp), List.getElem?_eq_none (by simp)]
  refine (lower_walk _ _ _ _ _ _ _ _ _ _ _ _ _ _ W).mono fun e W' ⟨he, hw⟩ => ⟨_, he, law_post (tb := 4) (by kernel_rfl) rfl Try.underlying4 rfl hW rfl ?_⟩
  exact hw

theorem over : Rows.chooseLowerRow.holds Try.pinned (OpenSpec.ofChange Rows.chooseLowerSpec) :=
  OpenClaim.holds_of_wide 8 Try.f8 rfl rfl rfl rfl rfl rfl rfl ⟨rfl, rfl, rfl, rfl, rfl⟩ rfl rfl rfl rfl rfl (by kernel_rfl) Try.func8 (by kernel_rfl)
    (of_decide_eq_true (by kernel_rfl)) (by unfold Func.isWrapper; first | (rw [if_pos (by decide +kernel)]; kernel_rfl) | (rw [if_neg (by decide +kernel)]; exact ⟨rfl, rfl⟩))
    (fun os started H enc _ => lifted os started H enc)

theorem proved : Rows.ChooseLowerSaid := over
#print axioms proved
end ChooseLower
end Go.Proofs.Ytiajgdpceedmlaa
