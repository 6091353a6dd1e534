/- What the laws over steps share: what a slice of steps holds; what Take comes to, case by case. -/
import Derived.Test.YtiajgdpceedmlaaAwake
namespace Go.Proofs.Ytiajgdpceedmlaa
set_option linter.unusedSimpArgs false
set_option linter.unusedVariables false
open Go.RowKit
/-- Of a step the packet's cells and what is wanted. -/
structure StepV where
  xf : Int
  xl : Int
  bg : Bool
  wh : Bool
  ht : Bool
  xt : Int
  sy : Bool
  wf : Int
  wl : Int
  wt : Int
instance : Inhabited StepV := ⟨⟨0, 0, false, false, false, 0, false, 0, 0, 0⟩⟩
/-- What a step holds in a world. -/
def StepAt (w : World) (A : Option Addr) (i : Nat) (v : StepV) : Prop :=
  ∃ b o, A = some ⟨b, o, none⟩ ∧ b < w.heap.size ∧ w.cell? ⟨b, o + i * 10, none⟩ = some (.int .i64 v.xf) ∧ w.cell? ⟨b, o + i * 10 + 1, none⟩ = some (.int .i64 v.xl) ∧ w.cell? ⟨b, o + i * 10 + 2, none⟩ = some (.bool v.bg) ∧
    w.cell? ⟨b, o + i * 10 + 3, none⟩ = some (.bool v.wh) ∧ w.cell? ⟨b, o + i * 10 + 4, none⟩ = some (.bool v.ht) ∧ w.cell? ⟨b, o + i * 10 + 5, none⟩ = some (.int .i64 v.xt) ∧ w.cell? ⟨b, o + i * 10 + 6, none⟩ = some (.bool v.sy) ∧
    w.cell? ⟨b, o + i * 10 + 7, none⟩ = some (.int .i64 v.wf) ∧ w.cell? ⟨b, o + i * 10 + 7 + 1, none⟩ = some (.int .i64 v.wl) ∧ w.cell? ⟨b, o + i * 10 + 7 + 2, none⟩ = some (.int .i64 v.wt)
/-- What a slice of steps holds in a world. -/
def StepsAt (w : World) (A : Option Addr) (len : Nat) (z : Nat → StepV) : Prop := ∀ i, i < len → StepAt w A i (z i)
/-- A packet's cells. -/
structure InV where
  xf : Int
  xl : Int
  bg : Bool
  wh : Bool
  ht : Bool
  xt : Int
  sy : Bool
instance : Inhabited InV := ⟨⟨0, 0, false, false, false, 0, false⟩⟩
def InAt (w : World) (A : Option Addr) (i : Nat) (v : InV) : Prop :=
  ∃ b o, A = some ⟨b, o, none⟩ ∧ b < w.heap.size ∧ w.cell? ⟨b, o + i * 7, none⟩ = some (.int .i64 v.xf) ∧ w.cell? ⟨b, o + i * 7 + 1, none⟩ = some (.int .i64 v.xl) ∧ w.cell? ⟨b, o + i * 7 + 2, none⟩ = some (.bool v.bg) ∧
    w.cell? ⟨b, o + i * 7 + 3, none⟩ = some (.bool v.wh) ∧ w.cell? ⟨b, o + i * 7 + 4, none⟩ = some (.bool v.ht) ∧ w.cell? ⟨b, o + i * 7 + 5, none⟩ = some (.int .i64 v.xt) ∧ w.cell? ⟨b, o + i * 7 + 6, none⟩ = some (.bool v.sy)
def InsAt (w : World) (A : Option Addr) (len : Nat) (z : Nat → InV) : Prop := ∀ i, i < len → InAt w A i (z i)
/-- What is wanted. -/
structure WantV where
  wf : Int
  wl : Int
  wt : Int
instance : Inhabited WantV := ⟨⟨0, 0, 0⟩⟩
def WantAt (w : World) (A : Option Addr) (i : Nat) (v : WantV) : Prop :=
  ∃ b o, A = some ⟨b, o, none⟩ ∧ b < w.heap.size ∧ w.cell? ⟨b, o + i * 3, none⟩ = some (.int .i64 v.wf) ∧ w.cell? ⟨b, o + i * 3 + 1, none⟩ = some (.int .i64 v.wl) ∧ w.cell? ⟨b, o + i * 3 + 2, none⟩ = some (.int .i64 v.wt)
def WantsAt (w : World) (A : Option Addr) (len : Nat) (z : Nat → WantV) : Prop := ∀ i, i < len → WantAt w A i (z i)
/-- The temporal layer is the one ahead, or one that is wanted at a frame's begin. -/
theorem tid_three {t' t xt wt : Int} {bg wh ht sy : Bool} (h : t' = tidF t bg wh ht xt sy wt) : (bg = false ∧ t' = t) ∨ (bg = true ∧ t' = t ∧ ¬ wt < t) ∨ (bg = true ∧ (t' != t) = true ∧ ¬ wt < t') := by
  subst h
  unfold tidF
  cases bg with
  | false => exact .inl ⟨rfl, by simp⟩
  | true =>
    refine .inr ?_
    rw [if_neg (by decide)]
    by_cases h1 : wh = true ∨ wt < t
    · rw [if_pos h1]
      by_cases e : wt = t
      · subst e; exact .inl ⟨rfl, rfl, by omega⟩
      · exact .inr ⟨rfl, by simpa using e, by omega⟩
    · rw [if_neg h1]
      by_cases h2 : ht = true ∧ sy = true ∧ t < xt ∧ xt ≤ wt
      · rw [if_pos h2]
        exact .inr ⟨rfl, by simp; omega, by omega⟩
      · rw [if_neg h2]
        exact .inl ⟨rfl, rfl, fun h => h1 (.inr h)⟩
/-- No temporal layer above, case by case. -/
theorem no_above {ht : Bool} {t' xt : Int} (h : ¬ (ht = true ∧ t' < xt)) : ht = false ∨ (ht = true ∧ ¬ t' < xt) := by
  cases ht with
  | false => exact .inl rfl
  | true => exact .inr ⟨rfl, fun e => h ⟨rfl, e⟩⟩
theorem take_as {on : Bool} {f l t xf xl : Int} {bg wh ht : Bool} {xt : Int} {sy : Bool} {wf wl wt : Int} {r : Bool × Int × Int × Int × Int} (h : takeF on f l t xf xl bg wh ht xt sy wf wl wt = r) (w : World) :
    Calls Try.prog 10 #[.agg #[.bool on, .int .i64 f, .int .i64 l, .int .i64 t], .agg #[.int .i64 xf, .int .i64 xl, .bool bg, .bool wh, .bool ht, .int .i64 xt, .bool sy], .agg #[.int .i64 wf, .int .i64 wl, .int .i64 wt]] w
      fun e w' => e = .returned (.tuple #[.agg #[.bool r.1, .int .i64 r.2.1, .int .i64 r.2.2.1, .int .i64 r.2.2.2.1], .int .i64 r.2.2.2.2]) ∧ Below w.heap.size w w' :=
  (take_any on f l t xf xl bg wh ht xt sy wf wl wt w).mono fun _ _ ⟨he, hb⟩ => ⟨by unfold TookB at he; rw [h] at he; exact he, hb⟩
/-- What Take comes to. -/
theorem take_cases (on : Bool) (f l t xf xl : Int) (bg wh ht : Bool) (xt : Int) (sy : Bool) (wf wl wt : Int) :
    (on = true ∧ xf = f ∧ xl = l ∧ ∃ t', takeF on f l t xf xl bg wh ht xt sy wf wl wt = (on, f, l, t', 1) ∧ t' = tidF t bg wh ht xt sy wt ∧ ¬ (ht = true ∧ t' < xt)) ∨
    (on = true ∧ xf = f ∧ xl = l ∧ ∃ t', takeF on f l t xf xl bg wh ht xt sy wf wl wt = (on, f, l, t', 2) ∧ t' = tidF t bg wh ht xt sy wt ∧ ht = true ∧ t' < xt) ∨
    (takeF on f l t xf xl bg wh ht xt sy wf wl wt = (on, f, l, t, 0) ∧ (on = false ∨ (xf == f) = false ∨ (xl == l) = false)) ∨
    (takeF on f l t xf xl bg wh ht xt sy wf wl wt = (true, xf, xl, wt, 3) ∧ bg = true ∧ wh = true ∧ xf = wf ∧ xl = wl ∧ (on = false ∨ (on = true ∧ (xf == f) = false) ∨ (on = true ∧ xf = f ∧ (xl == l) = false))) := by
  unfold takeF
  by_cases ho : ofB on f l xf xl = true
  · rw [if_pos ho]
    simp only [ofB, Bool.and_eq_true, beq_iff_eq] at ho
    by_cases hd : ht = true ∧ tidF t bg wh ht xt sy wt < xt
    · exact .inr (.inl ⟨ho.1, ho.2.1, ho.2.2, _, by simp only [if_pos hd], rfl, hd.1, hd.2⟩)
    · exact .inl ⟨ho.1, ho.2.1, ho.2.2, _, by simp only [if_neg hd], rfl, hd⟩
  · rw [if_neg ho]
    have hn : on = false ∨ (on = true ∧ (xf == f) = false) ∨ (on = true ∧ xf = f ∧ (xl == l) = false) := by
      simp only [ofB, Bool.and_eq_true, beq_iff_eq] at ho
      cases on with
      | false => exact .inl rfl
      | true =>
        by_cases e : xf = f
        · exact .inr (.inr ⟨rfl, e, beq_eq_false_iff_ne.2 (fun e2 => ho ⟨rfl, e, e2⟩)⟩)
        · exact .inr (.inl ⟨rfl, beq_eq_false_iff_ne.2 e⟩)
    split
    · rename_i h
      obtain ⟨rfl, rfl, h3, h4⟩ := h
      exact .inr (.inr (.inr ⟨rfl, h3, h4, rfl, rfl, hn⟩))
    · refine .inr (.inr (.inl ⟨rfl, ?_⟩))
      rcases hn with h | ⟨_, h⟩ | ⟨_, _, h⟩
      · exact .inl h
      · exact .inr (.inl h)
      · exact .inr (.inr h)
end Go.Proofs.Ytiajgdpceedmlaa
