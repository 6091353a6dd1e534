/- The table's sizes, by their values. -/
import Derived.Test.YtlncekdoaddifaaWaits
import Derived.Test.YtlncekdoaddifaaLaws
import Derived.WalkLawsBesides
namespace Go.Proofs.Ytlncekdoaddifaa
set_option linter.unusedSimpArgs false
set_option linter.unusedVariables false
open Go.RowKit
theorem len_v (w : World) (T M B room n : Nat) (L : List En) (m : Nat) (h : TabAt w T M B room n L) (hm : L.length = m) :
    Calls Try.prog 16 #[.pointer (some ⟨T, 0, none⟩)] w fun e w' => e = .returned (.int .i64 m) ∧ w = w' := by
  subst hm
  exact len_t w T M B room n L h
theorem waits_v (w : World) (T M B room n : Nat) (L : List En) (a : Nat) (h : TabAt w T M B room n L) (hok : Ok L room) (hl : L.length ≤ 5000) (ha : waitsF L = a) :
    Calls Try.prog 17 #[.pointer (some ⟨T, 0, none⟩)] w fun e w' => e = .returned (.int .i64 a) ∧ Below w.heap.size w w' := by
  subst ha
  exact waits_t w T M B room n L h hok hl
end Go.Proofs.Ytlncekdoaddifaa
