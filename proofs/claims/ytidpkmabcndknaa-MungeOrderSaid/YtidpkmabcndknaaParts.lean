/- What a slice of parts holds. -/
import Derived.Test.YtidpkmabcndknaaAwake
import Derived.Test.YtidpkmabcndknaaOwn
namespace Go.Proofs.Ytidpkmabcndknaa
set_option linter.unusedSimpArgs false
set_option linter.unusedVariables false
open Go.RowKit

structure PartV where
  q : Int
  t : Int
  p : Int
  l : Int
  st : Int
  B : Option Addr
  n : Nat
  c : Nat
  gs : List Bool
instance : Inhabited PartV := ⟨⟨0, 0, 0, 0, 0, none, 0, 0, []⟩⟩
def BoolsAt (w : World) (A : Option Addr) (gs : List Bool) : Prop := ∀ i, i < gs.length → ∃ b o, A = some ⟨b, o, none⟩ ∧ b < w.heap.size ∧ w.cell? ⟨b, o + i, none⟩ = some (.bool (gs.getD i false))
def PartAt (w : World) (A : Option Addr) (i : Nat) (v : PartV) : Prop :=
  ∃ b o, A = some ⟨b, o, none⟩ ∧ b < w.heap.size ∧ w.cell? ⟨b, o + i * 6, none⟩ = some (.int .u16 v.q) ∧ w.cell? ⟨b, o + i * 6 + 1, none⟩ = some (.int .u32 v.t) ∧ w.cell? ⟨b, o + i * 6 + 2, none⟩ = some (.int .u16 v.p) ∧
    w.cell? ⟨b, o + i * 6 + 3, none⟩ = some (.int .u8 v.l) ∧ w.cell? ⟨b, o + i * 6 + 4, none⟩ = some (.int .u32 v.st) ∧ w.cell? ⟨b, o + i * 6 + 5, none⟩ = some (.slice v.B v.n v.c) ∧
    (⟨v.q, v.t, v.p, v.l⟩ : Nu).Ok ∧ v.gs.length = v.n ∧ v.n ≤ 9223372036854775807 ∧ BoolsAt w v.B v.gs
end Go.Proofs.Ytidpkmabcndknaa
