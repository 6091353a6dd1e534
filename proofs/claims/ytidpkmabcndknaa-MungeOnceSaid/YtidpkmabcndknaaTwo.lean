/- Two slices of the call's own: each keeps while the other grows. No program in sight. -/
import Derived.Test.YtidpkmabcndknaaOwn
import Derived.Maps.AppendAt
namespace Go.Proofs.Ytidpkmabcndknaa
set_option linter.unusedSimpArgs false
set_option linter.unusedVariables false
open Go.RowKit
def Apart (v u : Value) : Prop := ∀ k, v.ownBlock = some k → u.ownBlock ≠ some k
theorem apart_none (v : Value) : Apart v (.slice none 0 0) := fun k _ h => by simp [Value.ownBlock] at h
theorem Apart.symm {v u : Value} (h : Apart v u) : Apart u v := fun k h1 h2 => h k h2 h1
theorem apart_new {w : World} {B : Nat} {e : TypeId} {s n m : Nat} {v u u' : Value} {xs : List Value} (h : w.ownsRow B e s v n xs) (ha : Apart v u) (hat : u'.ownBlock = u.ownBlock ∨ u'.ownBlock = some m) (hn : w.heap.size ≤ m) : Apart v u' := by
  intro k hk
  rcases hat with e | e <;> rw [e]
  · exact ha k hk
  · have := (h.lt k hk).2
    intro q
    cases q
    omega
theorem own_apart {w w' : World} {B : Nat} {e : TypeId} {s n : Nat} {v u : Value} {xs : List Value} (h : w.ownsRow B e s v n xs) (ha : Apart v u) (hg : w.grownBy w' u.ownBlock) : w'.ownsRow B e s v n xs :=
  h.kept hg (by
    cases hv : v.ownBlock with
    | none => exact .inl rfl
    | some k => exact .inr (fun q => ha k hv q.symm))
end Go.Proofs.Ytidpkmabcndknaa
