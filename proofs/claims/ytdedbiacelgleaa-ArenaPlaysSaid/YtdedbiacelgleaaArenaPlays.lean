/- Whatever is taken, freed and got, what is told, and which are used, are the document's, at every input. No condition. -/
import Derived.Test.YtdedbiacelgleaaOwnLift
import Derived.Test.YtdedbiacelgleaaPlaysW
namespace Go.Proofs.Ytdedbiacelgleaa
set_option linter.unusedSimpArgs false
set_option linter.unusedVariables false
open Go.ChangeShapes Go.WideShapes Go.ChangeAt Go.RowKit
open Go.ChangeMaps (open_string)
set_option linter.unusedVariables false

set_option maxRecDepth 100000
namespace ArenaPlays

theorem lifted (os : Os) (started : os.Started) (H : Type) (enc : TypeId × Value → H) :
    ReturnsInHanded {} Try.checked os 5 .any (Rows.arenaPlaysSpec.pre6 enc Try.prog Try.f5 Rows.arenaPlaysRow.domain false) (Rows.arenaPlaysSpec.post enc Try.prog Try.f5 false true false false) := by
  refine returnsInHanded_of_change (C := Try.checked) own_knob started (by kernel_rfl) Try.func5
    (ChangeSpec.witness6 (enc := enc) (C := Try.checked) false ⟨#[], #[.int .u8 0, .slice none 0 0], []⟩ 8 (by kernel_rfl) (by kernel_rfl) (by kernel_rfl) (by kernel_rfl)) ?_
  intro W base args ds gs before hval0 hW _ _
  have hval : ∀ (j : Nat) t v, Try.f5.params[j]? = some t → args[j]? = some v → Value.okWide Try.prog W .any base t v := hval0
  have hW0 := hW
  obtain ⟨p, q, hA0, hV, _, _, _⟩ := hW0
  have hA : DataW.TrodAll enc Try.prog W 0 (fun _ => true) true Try.f5.params.toList args.toList ds p := hA0
  rw [Try.params5] at hA hval
  obtain ⟨v0, vs0, d0, ds0, p0, q0, hargs, hds0, _, h0, r0⟩ := trodAll_cons hA
  obtain ⟨v1, vs1, d1, ds1, p1, q1, hvs1, hds1, _, h1, r1⟩ := trodAll_cons r0
  obtain ⟨hvn, hdn, _⟩ := trodAll_nil r1
  subst hvn hdn
  subst hvs1 hds1
  subst hds0
  obtain rfl : args = #[v0, v1] := by cases args; simp_all
  obtain ⟨rfl, _⟩ := trodVars_none hV
  obtain ⟨a0, rfl, rfl, rfl, w0⟩ := open_int Try.underlying5 (hval 0 5 v0 rfl rfl) h0
  have b0 := Go.bounds_u8 w0
  obtain ⟨A1, len1, cap1, rfl, l1, c1, x1⟩ := open_cells (m := 5) Try.underlying22 (by kernel_rfl) (by omega) h1 (okWide_slice Try.underlying22 (hval 1 22 v1 rfl rfl))
  unfold maxLen at c1
  obtain ⟨z1, y1⟩ : ∃ z : Nat → ActV, ∀ i, i < len1 → ActAt W A1 i (z i) := by
    refine Go.Deep.choose_lt (p := fun i v => ActAt W A1 i v) (fun i hi => ?_)
    obtain ⟨b, o, cs, hA, hb, _, hc, n, x, hx⟩ := x1 i hi
    obtain ⟨_, L⟩ := leaves 4 33 [3, 3, 3, 3, 29] (by kernel_rfl) n cs x hx
    obtain ⟨a0, e0, w0⟩ := leaf_int (k := .i64) L (i := 0) rfl Try.underlying3
    obtain ⟨a1, e1, w1⟩ := leaf_int (k := .i64) L (i := 1) rfl Try.underlying3
    obtain ⟨a2, e2, w2⟩ := leaf_int (k := .i64) L (i := 2) rfl Try.underlying3
    obtain ⟨a3, e3, w3⟩ := leaf_int (k := .i64) L (i := 3) rfl Try.underlying3
    obtain ⟨a4, e4, w4⟩ := leaf_int (k := .u32) L (i := 4) rfl Try.underlying29
    exact ⟨⟨a0, a1, a2, a3, a4⟩, b, o, hA, hb, hc 0 _ e0, hc 1 _ e1, hc 2 _ e2, hc 3 _ e3, hc 4 _ e4, (Go.bounds_i64 w2).1, (Go.bounds_i64 w2).2⟩
  refine (plays_walk a0 A1 len1 cap1 z1 W b0.1 b0.2 (by omega) y1).mono fun e W' ⟨he, hw⟩ => ⟨_, he, law_post (tb := 4) (by kernel_rfl) rfl Try.underlying4 rfl hW rfl ?_⟩
  exact hw

theorem over : Rows.arenaPlaysRow.holds Try.pinned (OpenSpec.ofChange Rows.arenaPlaysSpec) :=
  OpenClaim.holds_of_wide 5 Try.f5 rfl rfl rfl rfl rfl rfl rfl ⟨rfl, rfl, rfl, rfl, rfl⟩ rfl rfl rfl rfl rfl (by kernel_rfl) Try.func5 (by kernel_rfl)
    (of_decide_eq_true (by kernel_rfl)) (by unfold Func.isWrapper; first | (rw [if_pos (by decide +kernel)]; kernel_rfl) | (rw [if_neg (by decide +kernel)]; exact ⟨rfl, rfl⟩))
    (fun os started H enc _ => lifted os started H enc)

theorem proved : Rows.ArenaPlaysSaid := over
#print axioms proved
end ArenaPlays
end Go.Proofs.Ytdedbiacelgleaa
