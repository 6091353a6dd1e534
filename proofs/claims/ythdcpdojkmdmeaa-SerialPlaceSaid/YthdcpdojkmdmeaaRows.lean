/-
  No cell of these rows narrows 'for every input' (looked for: loops, veiled, ifaces, maps, wideKeys, modest, calm, conditions, laid).
  DERIVED. THE GIVEN ROWS OF THIS SEAT. 8 by the template 'for every input the law returns true; each argument reads behind the call as it read before'; 0 by the template 'total and deterministic' (their statements: YthdcpdojkmdmeaaTotals.lean).
  GIVEN WITH THE SEED: the statements are not yours to turn. If you find one false, say at which input.
  Laid BY PROGRAM, IN A SANDBOX (cutbox-rows.mjs): the forced cells as the released guide's own fill.sh prints them over the translation 42926ca3111d8747… (all of the seat's roots in one cut). By AI agents, Wed Nov 11 2026. No macro, syntax, notation, axiom, sorry.
-/
import Derived.Test.YthdcpdojkmdmeaaChecked
import GoSem.Claim
import GoSem.ClaimJoined
import GoSem.ClaimMapViews
import Derived.JoinedTies
import Derived.KernelRfl
namespace Go.Proofs.Ythdcpdojkmdmeaa
/- THE CELL 'sum', in the pinned program and in every row, IS THE sha256 OF THE DUMP (.gsa) THAT YthdcpdojkmdmeaaProg.lean LOADS. Nothing in Lean hashes anything: it is a label: what it is worth is what the hold of that sum in a sandbox is worth. -/
noncomputable def Try.pinned : Pinned := { name := "ythdcpdojkmdmeaa", sum := "42926ca3111d87476317c963c91ea4395e613caff58d97f821674aa1429c0144", checked := Try.checked }
namespace Rows
def none {H : Type} : Left H := { results := [], args := [] }

/-- 'louverlaw02.SerialTells': WHATEVER THE INPUT: true; the input reads as it did. -/
def serialTellsSpec : ChangeSpec := { name := "serialTells", fn := fun _ => fun
  | [d1, d2, d3, d4] => { results := [.lit (.bool true)], args := [d1, d2, d3, d4] }
  | _ => none }
def serialTellsRow : OpenClaim := { program := "ythdcpdojkmdmeaa", sum := "42926ca3111d87476317c963c91ea4395e613caff58d97f821674aa1429c0144", func := "louver/louverlaw02.SerialTells", spec := "serialTells", unfollowed := true, recurses := true, apart := false }
def SerialTellsSaid : Prop := serialTellsRow.holds Try.pinned (OpenSpec.ofChange serialTellsSpec)

/-- ITS FALSE NEIGHBOUR: 'it returns false'. Refute it at one input. -/
def serialTellsWrong : ChangeSpec := { name := "serialTells", fn := fun _ => fun
  | [d1, d2, d3, d4] => { results := [.lit (.bool false)], args := [d1, d2, d3, d4] }
  | _ => none }
def SerialTellsWrongFalsely : Prop := serialTellsRow.holds Try.pinned (OpenSpec.ofChange serialTellsWrong)

/-- 'louverlaw02.SerialNear': WHATEVER THE INPUT: true; the input reads as it did. -/
def serialNearSpec : ChangeSpec := { name := "serialNear", fn := fun _ => fun
  | [d1, d2, d3] => { results := [.lit (.bool true)], args := [d1, d2, d3] }
  | _ => none }
def serialNearRow : OpenClaim := { program := "ythdcpdojkmdmeaa", sum := "42926ca3111d87476317c963c91ea4395e613caff58d97f821674aa1429c0144", func := "louver/louverlaw02.SerialNear", spec := "serialNear", unfollowed := true, recurses := true, apart := false }
def SerialNearSaid : Prop := serialNearRow.holds Try.pinned (OpenSpec.ofChange serialNearSpec)

/-- ITS FALSE NEIGHBOUR: 'it returns false'. Refute it at one input. -/
def serialNearWrong : ChangeSpec := { name := "serialNear", fn := fun _ => fun
  | [d1, d2, d3] => { results := [.lit (.bool false)], args := [d1, d2, d3] }
  | _ => none }
def SerialNearWrongFalsely : Prop := serialNearRow.holds Try.pinned (OpenSpec.ofChange serialNearWrong)

/-- 'louverlaw02.SerialOne': WHATEVER THE INPUT: true; the input reads as it did. -/
def serialOneSpec : ChangeSpec := { name := "serialOne", fn := fun _ => fun
  | [d1, d2, d3, d4] => { results := [.lit (.bool true)], args := [d1, d2, d3, d4] }
  | _ => none }
def serialOneRow : OpenClaim := { program := "ythdcpdojkmdmeaa", sum := "42926ca3111d87476317c963c91ea4395e613caff58d97f821674aa1429c0144", func := "louver/louverlaw02.SerialOne", spec := "serialOne", unfollowed := true, recurses := true, apart := false }
def SerialOneSaid : Prop := serialOneRow.holds Try.pinned (OpenSpec.ofChange serialOneSpec)

/-- ITS FALSE NEIGHBOUR: 'it returns false'. Refute it at one input. -/
def serialOneWrong : ChangeSpec := { name := "serialOne", fn := fun _ => fun
  | [d1, d2, d3, d4] => { results := [.lit (.bool false)], args := [d1, d2, d3, d4] }
  | _ => none }
def SerialOneWrongFalsely : Prop := serialOneRow.holds Try.pinned (OpenSpec.ofChange serialOneWrong)

/-- 'louverlaw02.SerialBack': WHATEVER THE INPUT: true; the input reads as it did. -/
def serialBackSpec : ChangeSpec := { name := "serialBack", fn := fun _ => fun
  | [d1, d2, d3, d4] => { results := [.lit (.bool true)], args := [d1, d2, d3, d4] }
  | _ => none }
def serialBackRow : OpenClaim := { program := "ythdcpdojkmdmeaa", sum := "42926ca3111d87476317c963c91ea4395e613caff58d97f821674aa1429c0144", func := "louver/louverlaw02.SerialBack", spec := "serialBack", unfollowed := true, recurses := true, apart := false }
def SerialBackSaid : Prop := serialBackRow.holds Try.pinned (OpenSpec.ofChange serialBackSpec)

/-- ITS FALSE NEIGHBOUR: 'it returns false'. Refute it at one input. -/
def serialBackWrong : ChangeSpec := { name := "serialBack", fn := fun _ => fun
  | [d1, d2, d3, d4] => { results := [.lit (.bool false)], args := [d1, d2, d3, d4] }
  | _ => none }
def SerialBackWrongFalsely : Prop := serialBackRow.holds Try.pinned (OpenSpec.ofChange serialBackWrong)

/-- 'louverlaw02.SerialFollows': WHATEVER THE INPUT: true; the input reads as it did. -/
def serialFollowsSpec : ChangeSpec := { name := "serialFollows", fn := fun _ => fun
  | [d1, d2] => { results := [.lit (.bool true)], args := [d1, d2] }
  | _ => none }
def serialFollowsRow : OpenClaim := { program := "ythdcpdojkmdmeaa", sum := "42926ca3111d87476317c963c91ea4395e613caff58d97f821674aa1429c0144", func := "louver/louverlaw02.SerialFollows", spec := "serialFollows", unfollowed := true, recurses := true, apart := false }
def SerialFollowsSaid : Prop := serialFollowsRow.holds Try.pinned (OpenSpec.ofChange serialFollowsSpec)

/-- ITS FALSE NEIGHBOUR: 'it returns false'. Refute it at one input. -/
def serialFollowsWrong : ChangeSpec := { name := "serialFollows", fn := fun _ => fun
  | [d1, d2] => { results := [.lit (.bool false)], args := [d1, d2] }
  | _ => none }
def SerialFollowsWrongFalsely : Prop := serialFollowsRow.holds Try.pinned (OpenSpec.ofChange serialFollowsWrong)

/-- 'louverlaw02.SerialMoves': WHATEVER THE INPUT: true; the input reads as it did. -/
def serialMovesSpec : ChangeSpec := { name := "serialMoves", fn := fun _ => fun
  | [d1, d2, d3, d4, d5, d6] => { results := [.lit (.bool true)], args := [d1, d2, d3, d4, d5, d6] }
  | _ => none }
def serialMovesRow : OpenClaim := { program := "ythdcpdojkmdmeaa", sum := "42926ca3111d87476317c963c91ea4395e613caff58d97f821674aa1429c0144", func := "louver/louverlaw02.SerialMoves", spec := "serialMoves", unfollowed := true, recurses := true, apart := false }
def SerialMovesSaid : Prop := serialMovesRow.holds Try.pinned (OpenSpec.ofChange serialMovesSpec)

/-- ITS FALSE NEIGHBOUR: 'it returns false'. Refute it at one input. -/
def serialMovesWrong : ChangeSpec := { name := "serialMoves", fn := fun _ => fun
  | [d1, d2, d3, d4, d5, d6] => { results := [.lit (.bool false)], args := [d1, d2, d3, d4, d5, d6] }
  | _ => none }
def SerialMovesWrongFalsely : Prop := serialMovesRow.holds Try.pinned (OpenSpec.ofChange serialMovesWrong)

/-- 'louverlaw02.SerialBoth': WHATEVER THE INPUT: true; the input reads as it did. -/
def serialBothSpec : ChangeSpec := { name := "serialBoth", fn := fun _ => fun
  | [d1, d2] => { results := [.lit (.bool true)], args := [d1, d2] }
  | _ => none }
def serialBothRow : OpenClaim := { program := "ythdcpdojkmdmeaa", sum := "42926ca3111d87476317c963c91ea4395e613caff58d97f821674aa1429c0144", func := "louver/louverlaw02.SerialBoth", spec := "serialBoth", unfollowed := true, recurses := true, apart := false }
def SerialBothSaid : Prop := serialBothRow.holds Try.pinned (OpenSpec.ofChange serialBothSpec)

/-- ITS FALSE NEIGHBOUR: 'it returns false'. Refute it at one input. -/
def serialBothWrong : ChangeSpec := { name := "serialBoth", fn := fun _ => fun
  | [d1, d2] => { results := [.lit (.bool false)], args := [d1, d2] }
  | _ => none }
def SerialBothWrongFalsely : Prop := serialBothRow.holds Try.pinned (OpenSpec.ofChange serialBothWrong)

/-- 'louverlaw02.SerialPlace': WHATEVER THE INPUT: true; the input reads as it did. -/
def serialPlaceSpec : ChangeSpec := { name := "serialPlace", fn := fun _ => fun
  | [d1, d2, d3] => { results := [.lit (.bool true)], args := [d1, d2, d3] }
  | _ => none }
def serialPlaceRow : OpenClaim := { program := "ythdcpdojkmdmeaa", sum := "42926ca3111d87476317c963c91ea4395e613caff58d97f821674aa1429c0144", func := "louver/louverlaw02.SerialPlace", spec := "serialPlace", unfollowed := true, recurses := true, apart := false }
def SerialPlaceSaid : Prop := serialPlaceRow.holds Try.pinned (OpenSpec.ofChange serialPlaceSpec)

/-- ITS FALSE NEIGHBOUR: 'it returns false'. Refute it at one input. -/
def serialPlaceWrong : ChangeSpec := { name := "serialPlace", fn := fun _ => fun
  | [d1, d2, d3] => { results := [.lit (.bool false)], args := [d1, d2, d3] }
  | _ => none }
def SerialPlaceWrongFalsely : Prop := serialPlaceRow.holds Try.pinned (OpenSpec.ofChange serialPlaceWrong)

/- THE SECOND FORM. 'bulk': how many values and letters a reading holds, each counted each time it is reached (what is shared counts as often as it is met; a slice's spare places count too). A statement '..UptoSaid' is the law's where the arguments, and the package variables that the reading takes, are together of bulk at most 1048576: NARROWER than '..Said'. Prove '..Said' where nothing that the law and all that it calls make is longer than what came in: it says more and counts as full. Else prove '..UptoSaid'. A law counts once. -/
mutual
def uptoBulk {H : Type} : DataW H → Nat
  | .lit (.string bytes) => bytes.length + 1
  | .lit _ => 1
  | .nil => 1
  | .ptr d => uptoBulk d + 1
  | .slice elems spare => uptoBulkAll elems + uptoBulkAll spare + 1
  | .agg parts => uptoBulkAll parts + 1
  | .iface _ d => uptoBulk d + 1
  | .map entries => uptoBulkEntries entries + 1
  | .held _ => 1
def uptoBulkAll {H : Type} : List (DataW H) → Nat
  | [] => 0
  | d :: r => uptoBulk d + uptoBulkAll r
def uptoBulkEntries {H : Type} : List (Lit × DataW H) → Nat
  | [] => 0
  | x :: r => uptoBulkEntry x + uptoBulkEntries r
def uptoBulkEntry {H : Type} : Lit × DataW H → Nat
  | (.string bytes, d) => bytes.length + uptoBulk d + 1
  | (_, d) => uptoBulk d + 1
 end
def uptoSmall : (H : Type) → List (DataW H) → Bool := fun _ ds => decide (uptoBulkAll ds ≤ 1048576)
def OpenSpec.upto (s : _root_.Go.ChangeSpec) : _root_.Go.OpenSpec := { _root_.Go.OpenSpec.ofChange s with cond := some uptoSmall }

/-- 'louverlaw02.SerialTells', WHERE WHAT IT READS IS OF BULK AT MOST 1048576: true; the input reads as it did. -/
def serialTellsUptoRow : OpenClaim := { program := "ythdcpdojkmdmeaa", sum := "42926ca3111d87476317c963c91ea4395e613caff58d97f821674aa1429c0144", func := "louver/louverlaw02.SerialTells", spec := "serialTells", unfollowed := true, recurses := true, apart := false, narrowed := true }
def SerialTellsUptoSaid : Prop := serialTellsUptoRow.holds Try.pinned (OpenSpec.upto serialTellsSpec)

/-- 'louverlaw02.SerialNear', WHERE WHAT IT READS IS OF BULK AT MOST 1048576: true; the input reads as it did. -/
def serialNearUptoRow : OpenClaim := { program := "ythdcpdojkmdmeaa", sum := "42926ca3111d87476317c963c91ea4395e613caff58d97f821674aa1429c0144", func := "louver/louverlaw02.SerialNear", spec := "serialNear", unfollowed := true, recurses := true, apart := false, narrowed := true }
def SerialNearUptoSaid : Prop := serialNearUptoRow.holds Try.pinned (OpenSpec.upto serialNearSpec)

/-- 'louverlaw02.SerialOne', WHERE WHAT IT READS IS OF BULK AT MOST 1048576: true; the input reads as it did. -/
def serialOneUptoRow : OpenClaim := { program := "ythdcpdojkmdmeaa", sum := "42926ca3111d87476317c963c91ea4395e613caff58d97f821674aa1429c0144", func := "louver/louverlaw02.SerialOne", spec := "serialOne", unfollowed := true, recurses := true, apart := false, narrowed := true }
def SerialOneUptoSaid : Prop := serialOneUptoRow.holds Try.pinned (OpenSpec.upto serialOneSpec)

/-- 'louverlaw02.SerialBack', WHERE WHAT IT READS IS OF BULK AT MOST 1048576: true; the input reads as it did. -/
def serialBackUptoRow : OpenClaim := { program := "ythdcpdojkmdmeaa", sum := "42926ca3111d87476317c963c91ea4395e613caff58d97f821674aa1429c0144", func := "louver/louverlaw02.SerialBack", spec := "serialBack", unfollowed := true, recurses := true, apart := false, narrowed := true }
def SerialBackUptoSaid : Prop := serialBackUptoRow.holds Try.pinned (OpenSpec.upto serialBackSpec)

/-- 'louverlaw02.SerialFollows', WHERE WHAT IT READS IS OF BULK AT MOST 1048576: true; the input reads as it did. -/
def serialFollowsUptoRow : OpenClaim := { program := "ythdcpdojkmdmeaa", sum := "42926ca3111d87476317c963c91ea4395e613caff58d97f821674aa1429c0144", func := "louver/louverlaw02.SerialFollows", spec := "serialFollows", unfollowed := true, recurses := true, apart := false, narrowed := true }
def SerialFollowsUptoSaid : Prop := serialFollowsUptoRow.holds Try.pinned (OpenSpec.upto serialFollowsSpec)

/-- 'louverlaw02.SerialMoves', WHERE WHAT IT READS IS OF BULK AT MOST 1048576: true; the input reads as it did. -/
def serialMovesUptoRow : OpenClaim := { program := "ythdcpdojkmdmeaa", sum := "42926ca3111d87476317c963c91ea4395e613caff58d97f821674aa1429c0144", func := "louver/louverlaw02.SerialMoves", spec := "serialMoves", unfollowed := true, recurses := true, apart := false, narrowed := true }
def SerialMovesUptoSaid : Prop := serialMovesUptoRow.holds Try.pinned (OpenSpec.upto serialMovesSpec)

/-- 'louverlaw02.SerialBoth', WHERE WHAT IT READS IS OF BULK AT MOST 1048576: true; the input reads as it did. -/
def serialBothUptoRow : OpenClaim := { program := "ythdcpdojkmdmeaa", sum := "42926ca3111d87476317c963c91ea4395e613caff58d97f821674aa1429c0144", func := "louver/louverlaw02.SerialBoth", spec := "serialBoth", unfollowed := true, recurses := true, apart := false, narrowed := true }
def SerialBothUptoSaid : Prop := serialBothUptoRow.holds Try.pinned (OpenSpec.upto serialBothSpec)

/-- 'louverlaw02.SerialPlace', WHERE WHAT IT READS IS OF BULK AT MOST 1048576: true; the input reads as it did. -/
def serialPlaceUptoRow : OpenClaim := { program := "ythdcpdojkmdmeaa", sum := "42926ca3111d87476317c963c91ea4395e613caff58d97f821674aa1429c0144", func := "louver/louverlaw02.SerialPlace", spec := "serialPlace", unfollowed := true, recurses := true, apart := false, narrowed := true }
def SerialPlaceUptoSaid : Prop := serialPlaceUptoRow.holds Try.pinned (OpenSpec.upto serialPlaceSpec)

end Rows
end Go.Proofs.Ythdcpdojkmdmeaa
