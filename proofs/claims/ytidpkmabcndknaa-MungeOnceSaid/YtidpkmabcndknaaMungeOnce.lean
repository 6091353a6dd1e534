/- Of packets that come once each, no two that are told have one Seq, at every input. No condition. -/
import Derived.Test.YtidpkmabcndknaaOwnLift
import Derived.Test.YtidpkmabcndknaaOnceW
namespace Go.Proofs.Ytidpkmabcndknaa
set_option linter.unusedSimpArgs false
set_option linter.unusedVariables false
open Go.ChangeShapes Go.WideShapes Go.ChangeAt Go.RowKit
open Go.ChangeMaps (open_string)
set_option linter.unusedVariables false

set_option maxRecDepth 100000
namespace MungeOnce

theorem lifted (os : Os) (started : os.Started) (H : Type) (enc : TypeId × Value → H) :
    ReturnsInHanded {} Try.checked os 6 .any (Rows.mungeOnceSpec.pre6 enc Try.prog Try.f6 Rows.mungeOnceRow.domain false) (Rows.mungeOnceSpec.post enc Try.prog Try.f6 false true false false) := by
  refine returnsInHanded_of_change (C := Try.checked) own_knob started (by kernel_rfl) Try.func6
    (ChangeSpec.witness6 (enc := enc) (C := Try.checked) false ⟨#[], #[.agg #[.int .u16 0, .int .u32 0, .int .u16 0, .int .u8 0], .slice none 0 0, .slice none 0 0], []⟩ 8 (by kernel_rfl) (by kernel_rfl) (by kernel_rfl) (by kernel_rfl)) ?_
  intro W base args ds gs before hval0 hW _ _
  have hval : ∀ (j : Nat) t v, Try.f6.params[j]? = some t → args[j]? = some v → Value.okWide Try.prog W .any base t v := hval0
  have hW0 := hW
  obtain ⟨p, q, hA0, hV, _, _, _⟩ := hW0
  have hA : DataW.TrodAll enc Try.prog W 0 (fun _ => true) true Try.f6.params.toList args.toList ds p := hA0
  rw [Try.params6] at hA hval
  obtain ⟨v0, vs0, d0, ds0, p0, q0, hargs, hds0, _, h0, r0⟩ := trodAll_cons hA
  obtain ⟨v1, vs1, d1, ds1, p1, q1, hvs1, hds1, _, h1, r1⟩ := trodAll_cons r0
  obtain ⟨v2, vs2, d2, ds2, p2, q2, hvs2, hds2, _, h2, r2⟩ := trodAll_cons r1
  obtain ⟨hvn, hdn, _⟩ := trodAll_nil r2
  subst hvn hdn
  subst hvs2 hds2
  subst hvs1 hds1
  subst hds0
  obtain rfl : args = #[v0, v1, v2] := by cases args; simp_all
  obtain ⟨rfl, _⟩ := trodVars_none hV
  obtain ⟨cs0, rfl, _⟩ := okWide_struct Try.underlying25 (hval 0 25 v0 rfl rfl)
  obtain ⟨fu0, hf0⟩ := h0
  obtain ⟨ln0, L0⟩ := leaves 3 25 [22, 23, 22, 5] (by kernel_rfl) fu0 cs0.toList _ hf0
  obtain ⟨a0_0, e0_0, w0_0⟩ := leaf_int (k := .u16) L0 (i := 0) rfl Try.underlying22
  obtain ⟨a0_1, e0_1, w0_1⟩ := leaf_int (k := .u32) L0 (i := 1) rfl Try.underlying23
  obtain ⟨a0_2, e0_2, w0_2⟩ := leaf_int (k := .u16) L0 (i := 2) rfl Try.underlying22
  obtain ⟨a0_3, e0_3, w0_3⟩ := leaf_int (k := .u8) L0 (i := 3) rfl Try.underlying5
  obtain rfl : cs0 = #[.int .u16 a0_0, .int .u32 a0_1, .int .u16 a0_2, .int .u8 a0_3] := by
    apply Array.toList_inj.1; apply List.ext_getElem? ; intro i; match i with
    | 0 => exact e0_0
    | 1 => exact e0_1
    | 2 => exact e0_2
    | 3 => exact e0_3
    | i + 4 => rw [List.getElem?_eq_none (by rw [ln0]; simp), List.getElem?_eq_none (by simp)]
  obtain ⟨A1, len1, cap1, rfl, l1, c1, x1⟩ := open_cells (m := 1) Try.underlying55 (by kernel_rfl) (by omega) h1 (okWide_slice Try.underlying55 (hval 1 55 v1 rfl rfl))
  have k1 := none_cap Try.underlying55 h1
  obtain ⟨zs1, n1, y1, r1⟩ := open_list (k := .i8) Try.underlying57 x1
  have b1 := fun z hz => Go.bounds_i8 (r1 z hz)
  unfold maxLen at c1
  obtain ⟨A2, len2, cap2, rfl, l2, c2, x2⟩ := open_cells (m := 1) Try.underlying51 (by kernel_rfl) (by omega) h2 (okWide_slice Try.underlying51 (hval 2 51 v2 rfl rfl))
  obtain ⟨bs2, n2, y2⟩ := open_bools Try.underlying4 x2
  unfold maxLen at c2
  refine (once_walk ⟨a0_0, a0_1, a0_2, a0_3⟩ A1 len1 cap1 zs1 A2 len2 cap2 bs2 W ⟨(Go.bounds_u16 w0_0).1, (Go.bounds_u16 w0_0).2, (Go.bounds_u32 w0_1).1, (Go.bounds_u32 w0_1).2, (Go.bounds_u16 w0_2).1, (Go.bounds_u16 w0_2).2, (Go.bounds_u8 w0_3).1, (Go.bounds_u8 w0_3).2⟩ n1 (by omega) y1 (fun q hq => b1 q hq) n2 (by omega) y2).mono fun e W' ⟨he, hw⟩ => ⟨_, he, law_post (tb := 4) (by kernel_rfl) rfl Try.underlying4 rfl hW rfl ?_⟩
  exact hw

theorem over : Rows.mungeOnceRow.holds Try.pinned (OpenSpec.ofChange Rows.mungeOnceSpec) :=
  OpenClaim.holds_of_wide 6 Try.f6 rfl rfl rfl rfl rfl rfl rfl ⟨rfl, rfl, rfl, rfl, rfl⟩ rfl rfl rfl rfl rfl (by kernel_rfl) Try.func6 (by kernel_rfl)
    (of_decide_eq_true (by kernel_rfl)) (by unfold Func.isWrapper; first | (rw [if_pos (by decide +kernel)]; kernel_rfl) | (rw [if_neg (by decide +kernel)]; exact ⟨rfl, rfl⟩))
    (fun os started H enc _ => lifted os started H enc)

theorem proved : Rows.MungeOnceSaid := over
#print axioms proved
end MungeOnce
end Go.Proofs.Ytidpkmabcndknaa
