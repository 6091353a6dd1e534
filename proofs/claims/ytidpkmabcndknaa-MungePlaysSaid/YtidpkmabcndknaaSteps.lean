/- What a slice of steps holds. -/
import Derived.Test.YtidpkmabcndknaaAwake
import Derived.Test.YtidpkmabcndknaaOwn
namespace Go.Proofs.Ytidpkmabcndknaa
set_option linter.unusedSimpArgs false
set_option linter.unusedVariables false
open Go.RowKit

structure StepV where
  kd : Int
  q : Int
  t : Int
  p : Int
  l : Int
  tm : Int
  bg : Bool
instance : Inhabited StepV := ⟨⟨0, 0, 0, 0, 0, 0, false⟩⟩
def StepAt (w : World) (A : Option Addr) (i : Nat) (v : StepV) : Prop :=
  ∃ b o, A = some ⟨b, o, none⟩ ∧ b < w.heap.size ∧ w.cell? ⟨b, o + i * 7, none⟩ = some (.int .i64 v.kd) ∧ w.cell? ⟨b, o + i * 7 + 1, none⟩ = some (.int .u16 v.q) ∧ w.cell? ⟨b, o + i * 7 + 2, none⟩ = some (.int .u32 v.t) ∧
    w.cell? ⟨b, o + i * 7 + 3, none⟩ = some (.int .u16 v.p) ∧ w.cell? ⟨b, o + i * 7 + 4, none⟩ = some (.int .u8 v.l) ∧ w.cell? ⟨b, o + i * 7 + 5, none⟩ = some (.int .u32 v.tm) ∧ w.cell? ⟨b, o + i * 7 + 6, none⟩ = some (.bool v.bg) ∧
    (⟨v.q, v.t, v.p, v.l⟩ : Nu).Ok ∧ 0 ≤ v.tm ∧ v.tm ≤ 4294967295
theorem ok_more {s : St} {B D : Int} (h : s.Ok B) (hb : B ≤ D) : s.Ok D := ⟨by have := h.h0; omega, by have := h.h1; omega, h.off, h.out⟩
end Go.Proofs.Ytidpkmabcndknaa
