/- Of any state, whatever is done, the state behind it, and the numbers, are the document's, at every input. No condition. -/
import Derived.Test.YtidpkmabcndknaaOwnLift
import Derived.Test.YtidpkmabcndknaaTellsW
namespace Go.Proofs.Ytidpkmabcndknaa
set_option linter.unusedSimpArgs false
set_option linter.unusedVariables false
open Go.ChangeShapes Go.WideShapes Go.ChangeAt Go.RowKit
open Go.ChangeMaps (open_string)
set_option linter.unusedVariables false

set_option maxRecDepth 100000
namespace MungeTells

theorem lifted (os : Os) (started : os.Started) (H : Type) (enc : TypeId × Value → H) :
    ReturnsInHanded {} Try.checked os 3 .any (Rows.mungeTellsSpec.pre6 enc Try.prog Try.f3 Rows.mungeTellsRow.domain false) (Rows.mungeTellsSpec.post enc Try.prog Try.f3 false true false false) := by
  refine returnsInHanded_of_change (C := Try.checked) own_knob started (by kernel_rfl) Try.func3
    (ChangeSpec.witness6 (enc := enc) (C := Try.checked) false ⟨#[], #[.agg #[.bool false, .int .i64 0, .int .i64 0, .int .u16 0, .int .u32 0, .int .u16 0, .int .u8 0, .int .u16 0, .int .u32 0, .int .u16 0, .int .u8 0], .agg #[.int .i64 0, .int .u16 0, .int .u32 0, .int .u16 0, .int .u8 0, .int .u32 0, .bool false]], []⟩ 8 (by kernel_rfl) (by kernel_rfl) (by kernel_rfl) (by kernel_rfl)) ?_
  intro W base args ds gs before hval0 hW _ _
  have hval : ∀ (j : Nat) t v, Try.f3.params[j]? = some t → args[j]? = some v → Value.okWide Try.prog W .any base t v := hval0
  have hW0 := hW
  obtain ⟨p, q, hA0, hV, _, _, _⟩ := hW0
  have hA : DataW.TrodAll enc Try.prog W 0 (fun _ => true) true Try.f3.params.toList args.toList ds p := hA0
  rw [Try.params3] at hA hval
  obtain ⟨v0, vs0, d0, ds0, p0, q0, hargs, hds0, _, h0, r0⟩ := trodAll_cons hA
  obtain ⟨v1, vs1, d1, ds1, p1, q1, hvs1, hds1, _, h1, r1⟩ := trodAll_cons r0
  obtain ⟨hvn, hdn, _⟩ := trodAll_nil r1
  subst hvn hdn
  subst hvs1 hds1
  subst hds0
  obtain rfl : args = #[v0, v1] := by cases args; simp_all
  obtain ⟨rfl, _⟩ := trodVars_none hV
  obtain ⟨cs0, rfl, _⟩ := okWide_struct Try.underlying27 (hval 0 27 v0 rfl rfl)
  obtain ⟨fu0, hf0⟩ := h0
  obtain ⟨ln0, L0⟩ := leaves 4 27 [4, 2, 2, 22, 23, 22, 5, 22, 23, 22, 5] (by kernel_rfl) fu0 cs0.toList _ hf0
  obtain ⟨a0_0, e0_0⟩ := leaf_bool L0 (i := 0) rfl Try.underlying4
  obtain ⟨a0_1, e0_1, w0_1⟩ := leaf_int (k := .i64) L0 (i := 1) rfl Try.underlying2
  obtain ⟨a0_2, e0_2, w0_2⟩ := leaf_int (k := .i64) L0 (i := 2) rfl Try.underlying2
  obtain ⟨a0_3, e0_3, w0_3⟩ := leaf_int (k := .u16) L0 (i := 3) rfl Try.underlying22
  obtain ⟨a0_4, e0_4, w0_4⟩ := leaf_int (k := .u32) L0 (i := 4) rfl Try.underlying23
  obtain ⟨a0_5, e0_5, w0_5⟩ := leaf_int (k := .u16) L0 (i := 5) rfl Try.underlying22
  obtain ⟨a0_6, e0_6, w0_6⟩ := leaf_int (k := .u8) L0 (i := 6) rfl Try.underlying5
  obtain ⟨a0_7, e0_7, w0_7⟩ := leaf_int (k := .u16) L0 (i := 7) rfl Try.underlying22
  obtain ⟨a0_8, e0_8, w0_8⟩ := leaf_int (k := .u32) L0 (i := 8) rfl Try.underlying23
  obtain ⟨a0_9, e0_9, w0_9⟩ := leaf_int (k := .u16) L0 (i := 9) rfl Try.underlying22
  obtain ⟨a0_10, e0_10, w0_10⟩ := leaf_int (k := .u8) L0 (i := 10) rfl Try.underlying5
  obtain rfl : cs0 = #[.bool a0_0, .int .i64 a0_1, .int .i64 a0_2, .int .u16 a0_3, .int .u32 a0_4, .int .u16 a0_5, .int .u8 a0_6, .int .u16 a0_7, .int .u32 a0_8, .int .u16 a0_9, .int .u8 a0_10] := by
    apply Array.toList_inj.1; apply List.ext_getElem? ; intro i; match i with
    | 0 => exact e0_0
    | 1 => exact e0_1
    | 2 => exact e0_2
    | 3 => exact e0_3
    | 4 => exact e0_4
    | 5 => exact e0_5
    | 6 => exact e0_6
    | 7 => exact e0_7
    | 8 => exact e0_8
    | 9 => exact e0_9
    | 10 => exact e0_10
    | i + 11 => rw [List.getElem?_eq_none (by rw [ln0]; simp), List.getElem?_eq_none (by simp)]
  obtain ⟨cs1, rfl, _⟩ := okWide_struct Try.underlying29 (hval 1 29 v1 rfl rfl)
  obtain ⟨fu1, hf1⟩ := h1
  obtain ⟨ln1, L1⟩ := leaves 4 29 [3, 22, 23, 22, 5, 23, 4] (by kernel_rfl) fu1 cs1.toList _ hf1
  obtain ⟨a1_0, e1_0, w1_0⟩ := leaf_int (k := .i64) L1 (i := 0) rfl Try.underlying3
  obtain ⟨a1_1, e1_1, w1_1⟩ := leaf_int (k := .u16) L1 (i := 1) rfl Try.underlying22
  obtain ⟨a1_2, e1_2, w1_2⟩ := leaf_int (k := .u32) L1 (i := 2) rfl Try.underlying23
  obtain ⟨a1_3, e1_3, w1_3⟩ := leaf_int (k := .u16) L1 (i := 3) rfl Try.underlying22
  obtain ⟨a1_4, e1_4, w1_4⟩ := leaf_int (k := .u8) L1 (i := 4) rfl Try.underlying5
  obtain ⟨a1_5, e1_5, w1_5⟩ := leaf_int (k := .u32) L1 (i := 5) rfl Try.underlying23
  obtain ⟨a1_6, e1_6⟩ := leaf_bool L1 (i := 6) rfl Try.underlying4
  obtain rfl : cs1 = #[.int .i64 a1_0, .int .u16 a1_1, .int .u32 a1_2, .int .u16 a1_3, .int .u8 a1_4, .int .u32 a1_5, .bool a1_6] := by
    apply Array.toList_inj.1; apply List.ext_getElem? ; intro i; match i with
    | 0 => exact e1_0
    | 1 => exact e1_1
    | 2 => exact e1_2
    | 3 => exact e1_3
    | 4 => exact e1_4
    | 5 => exact e1_5
    | 6 => exact e1_6
    | i + 7 => rw [List.getElem?_eq_none (by rw [ln1]; simp), List.getElem?_eq_none (by simp)]
  refine (tells_walk ⟨a0_0, a0_1, a0_2, ⟨a0_3, a0_4, a0_5, a0_6⟩, ⟨a0_7, a0_8, a0_9, a0_10⟩⟩ ⟨a1_1, a1_2, a1_3, a1_4⟩ a1_5 a1_0 a1_6 W ⟨(Go.bounds_u16 w0_3).1, (Go.bounds_u16 w0_3).2, (Go.bounds_u32 w0_4).1, (Go.bounds_u32 w0_4).2, (Go.bounds_u16 w0_5).1, (Go.bounds_u16 w0_5).2, (Go.bounds_u8 w0_6).1, (Go.bounds_u8 w0_6).2⟩ ⟨(Go.bounds_u16 w0_7).1, (Go.bounds_u16 w0_7).2, (Go.bounds_u32 w0_8).1, (Go.bounds_u32 w0_8).2, (Go.bounds_u16 w0_9).1, (Go.bounds_u16 w0_9).2, (Go.bounds_u8 w0_10).1, (Go.bounds_u8 w0_10).2⟩ ⟨(Go.bounds_u16 w1_1).1, (Go.bounds_u16 w1_1).2, (Go.bounds_u32 w1_2).1, (Go.bounds_u32 w1_2).2, (Go.bounds_u16 w1_3).1, (Go.bounds_u16 w1_3).2, (Go.bounds_u8 w1_4).1, (Go.bounds_u8 w1_4).2⟩ (Go.bounds_u32 w1_5).1 (Go.bounds_u32 w1_5).2).mono fun e W' ⟨he, hw⟩ => ⟨_, he, law_post (tb := 4) (by kernel_rfl) rfl Try.underlying4 rfl hW rfl ?_⟩
  exact hw

theorem over : Rows.mungeTellsRow.holds Try.pinned (OpenSpec.ofChange Rows.mungeTellsSpec) :=
  OpenClaim.holds_of_wide 3 Try.f3 rfl rfl rfl rfl rfl rfl rfl ⟨rfl, rfl, rfl, rfl, rfl⟩ rfl rfl rfl rfl rfl (by kernel_rfl) Try.func3 (by kernel_rfl)
    (of_decide_eq_true (by kernel_rfl)) (by unfold Func.isWrapper; first | (rw [if_pos (by decide +kernel)]; kernel_rfl) | (rw [if_neg (by decide +kernel)]; exact ⟨rfl, rfl⟩))
    (fun os started H enc _ => lifted os started H enc)

theorem proved : Rows.MungeTellsSaid := over
#print axioms proved
end MungeTells
end Go.Proofs.Ytidpkmabcndknaa
