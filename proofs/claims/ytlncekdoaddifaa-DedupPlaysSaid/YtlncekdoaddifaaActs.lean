/- What a slice of acts holds. -/
import Derived.Test.YtlncekdoaddifaaVals
import Derived.StillTailTactics
namespace Go.Proofs.Ytlncekdoaddifaa
set_option linter.unusedSimpArgs false
set_option linter.unusedVariables false
open Go.RowKit
structure ActV where
  e : Bool
  id : Int
  s : ByteArray
instance : Inhabited ActV := ⟨⟨false, 0, ⟨#[]⟩⟩⟩
def ActAt (w : World) (A : Option Addr) (i : Nat) (v : ActV) : Prop :=
  ∃ b o, A = some ⟨b, o, none⟩ ∧ b < w.heap.size ∧ w.cell? ⟨b, o + i * 3, none⟩ = some (.bool v.e) ∧ w.cell? ⟨b, o + i * 3 + 1, none⟩ = some (.int .u64 v.id) ∧ w.cell? ⟨b, o + i * 3 + 2, none⟩ = some (.string v.s) ∧ 0 ≤ v.id ∧ v.id ≤ 18446744073709551615
theorem tab_drew {w : World} {T M B room n : Nat} {L : List En} (h : TabAt w T M B room n L) : TabAt w.drew T M B room n L := h.below ⟨rfl, rfl, rfl, Nat.le_refl _, fun _ _ => rfl⟩
theorem below_drew {B : Nat} {a w : World} (h : Below B a w) : Below B a w.drew := ⟨h.os, h.tape, h.output, h.size, h.block⟩
end Go.Proofs.Ytlncekdoaddifaa
