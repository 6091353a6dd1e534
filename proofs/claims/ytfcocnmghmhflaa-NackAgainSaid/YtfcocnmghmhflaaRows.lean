/-
  No cell of these rows narrows 'for every input' (looked for: loops, veiled, ifaces, maps, wideKeys, modest, calm, conditions, laid).
  DERIVED. THE GIVEN ROWS OF THIS SEAT. 6 by the template 'for every input the law returns true; each argument reads behind the call as it read before'; 0 by the template 'total and deterministic' (their statements: YtfcocnmghmhflaaTotals.lean).
  GIVEN WITH THE SEED: the statements are not yours to turn. If you find one false, say at which input.
  Laid BY PROGRAM, IN A SANDBOX (cutbox-rows.mjs): the forced cells as the released guide's own fill.sh prints them over the translation fe84b668405600d4… (all of the seat's roots in one cut). By AI agents, Wed Nov 11 2026. No macro, syntax, notation, axiom, sorry.
-/
import Derived.Test.YtfcocnmghmhflaaChecked
import GoSem.Claim
import GoSem.ClaimJoined
import GoSem.ClaimMapViews
import Derived.JoinedTies
import Derived.KernelRfl
namespace Go.Proofs.Ytfcocnmghmhflaa
/- THE CELL 'sum', in the pinned program and in every row, IS THE sha256 OF THE DUMP (.gsa) THAT YtfcocnmghmhflaaProg.lean LOADS. Nothing in Lean hashes anything: it is a label: what it is worth is what the hold of that sum in a sandbox is worth. -/
noncomputable def Try.pinned : Pinned := { name := "ytfcocnmghmhflaa", sum := "fe84b668405600d487c862a2559265dec15d706b91fe6bb60787f53441df16d1", checked := Try.checked }
namespace Rows
def none {H : Type} : Left H := { results := [], args := [] }

/-- 'louverlaw08.NackLists': WHATEVER THE INPUT: true; the input reads as it did. -/
def nackListsSpec : ChangeSpec := { name := "nackLists", fn := fun _ => fun
  | [d] => { results := [.lit (.bool true)], args := [d] }
  | _ => none }
def nackListsRow : OpenClaim := { program := "ytfcocnmghmhflaa", sum := "fe84b668405600d487c862a2559265dec15d706b91fe6bb60787f53441df16d1", func := "louver/louverlaw08.NackLists", spec := "nackLists", unfollowed := true, recurses := true, apart := false }
def NackListsSaid : Prop := nackListsRow.holds Try.pinned (OpenSpec.ofChange nackListsSpec)

/-- ITS FALSE NEIGHBOUR: 'it returns false'. Refute it at one input. -/
def nackListsWrong : ChangeSpec := { name := "nackLists", fn := fun _ => fun
  | [d] => { results := [.lit (.bool false)], args := [d] }
  | _ => none }
def NackListsWrongFalsely : Prop := nackListsRow.holds Try.pinned (OpenSpec.ofChange nackListsWrong)

/-- 'louverlaw08.NackPacks': WHATEVER THE INPUT: true; the input reads as it did. -/
def nackPacksSpec : ChangeSpec := { name := "nackPacks", fn := fun _ => fun
  | [d] => { results := [.lit (.bool true)], args := [d] }
  | _ => none }
def nackPacksRow : OpenClaim := { program := "ytfcocnmghmhflaa", sum := "fe84b668405600d487c862a2559265dec15d706b91fe6bb60787f53441df16d1", func := "louver/louverlaw08.NackPacks", spec := "nackPacks", unfollowed := true, recurses := true, apart := false }
def NackPacksSaid : Prop := nackPacksRow.holds Try.pinned (OpenSpec.ofChange nackPacksSpec)

/-- ITS FALSE NEIGHBOUR: 'it returns false'. Refute it at one input. -/
def nackPacksWrong : ChangeSpec := { name := "nackPacks", fn := fun _ => fun
  | [d] => { results := [.lit (.bool false)], args := [d] }
  | _ => none }
def NackPacksWrongFalsely : Prop := nackPacksRow.holds Try.pinned (OpenSpec.ofChange nackPacksWrong)

/-- 'louverlaw08.NackBack': WHATEVER THE INPUT: true; the input reads as it did. -/
def nackBackSpec : ChangeSpec := { name := "nackBack", fn := fun _ => fun
  | [d1, d2] => { results := [.lit (.bool true)], args := [d1, d2] }
  | _ => none }
def nackBackRow : OpenClaim := { program := "ytfcocnmghmhflaa", sum := "fe84b668405600d487c862a2559265dec15d706b91fe6bb60787f53441df16d1", func := "louver/louverlaw08.NackBack", spec := "nackBack", unfollowed := true, recurses := true, apart := false }
def NackBackSaid : Prop := nackBackRow.holds Try.pinned (OpenSpec.ofChange nackBackSpec)

/-- ITS FALSE NEIGHBOUR: 'it returns false'. Refute it at one input. -/
def nackBackWrong : ChangeSpec := { name := "nackBack", fn := fun _ => fun
  | [d1, d2] => { results := [.lit (.bool false)], args := [d1, d2] }
  | _ => none }
def NackBackWrongFalsely : Prop := nackBackRow.holds Try.pinned (OpenSpec.ofChange nackBackWrong)

/-- 'louverlaw08.NackAgain': WHATEVER THE INPUT: true; the input reads as it did. -/
def nackAgainSpec : ChangeSpec := { name := "nackAgain", fn := fun _ => fun
  | [d] => { results := [.lit (.bool true)], args := [d] }
  | _ => none }
def nackAgainRow : OpenClaim := { program := "ytfcocnmghmhflaa", sum := "fe84b668405600d487c862a2559265dec15d706b91fe6bb60787f53441df16d1", func := "louver/louverlaw08.NackAgain", spec := "nackAgain", unfollowed := true, recurses := true, apart := false }
def NackAgainSaid : Prop := nackAgainRow.holds Try.pinned (OpenSpec.ofChange nackAgainSpec)

/-- ITS FALSE NEIGHBOUR: 'it returns false'. Refute it at one input. -/
def nackAgainWrong : ChangeSpec := { name := "nackAgain", fn := fun _ => fun
  | [d] => { results := [.lit (.bool false)], args := [d] }
  | _ => none }
def NackAgainWrongFalsely : Prop := nackAgainRow.holds Try.pinned (OpenSpec.ofChange nackAgainWrong)

/-- 'louverlaw08.NackWithin': WHATEVER THE INPUT: true; the input reads as it did. -/
def nackWithinSpec : ChangeSpec := { name := "nackWithin", fn := fun _ => fun
  | [d] => { results := [.lit (.bool true)], args := [d] }
  | _ => none }
def nackWithinRow : OpenClaim := { program := "ytfcocnmghmhflaa", sum := "fe84b668405600d487c862a2559265dec15d706b91fe6bb60787f53441df16d1", func := "louver/louverlaw08.NackWithin", spec := "nackWithin", unfollowed := true, recurses := true, apart := false }
def NackWithinSaid : Prop := nackWithinRow.holds Try.pinned (OpenSpec.ofChange nackWithinSpec)

/-- ITS FALSE NEIGHBOUR: 'it returns false'. Refute it at one input. -/
def nackWithinWrong : ChangeSpec := { name := "nackWithin", fn := fun _ => fun
  | [d] => { results := [.lit (.bool false)], args := [d] }
  | _ => none }
def NackWithinWrongFalsely : Prop := nackWithinRow.holds Try.pinned (OpenSpec.ofChange nackWithinWrong)

/-- 'louverlaw08.NackJoins': WHATEVER THE INPUT: true; the input reads as it did. -/
def nackJoinsSpec : ChangeSpec := { name := "nackJoins", fn := fun _ => fun
  | [d1, d2] => { results := [.lit (.bool true)], args := [d1, d2] }
  | _ => none }
def nackJoinsRow : OpenClaim := { program := "ytfcocnmghmhflaa", sum := "fe84b668405600d487c862a2559265dec15d706b91fe6bb60787f53441df16d1", func := "louver/louverlaw08.NackJoins", spec := "nackJoins", unfollowed := true, recurses := true, apart := false }
def NackJoinsSaid : Prop := nackJoinsRow.holds Try.pinned (OpenSpec.ofChange nackJoinsSpec)

/-- ITS FALSE NEIGHBOUR: 'it returns false'. Refute it at one input. -/
def nackJoinsWrong : ChangeSpec := { name := "nackJoins", fn := fun _ => fun
  | [d1, d2] => { results := [.lit (.bool false)], args := [d1, d2] }
  | _ => none }
def NackJoinsWrongFalsely : Prop := nackJoinsRow.holds Try.pinned (OpenSpec.ofChange nackJoinsWrong)

/- THE SECOND FORM. 'bulk': how many values and letters a reading holds, each counted each time it is reached (what is shared counts as often as it is met; a slice's spare places count too). A statement '..UptoSaid' is the law's where the arguments, and the package variables that the reading takes, are together of bulk at most 1048576: NARROWER than '..Said'. Prove '..Said' where nothing that the law and all that it calls make is longer than what came in: it says more and counts as full. Else prove '..UptoSaid'. A law counts once. -/
mutual
def uptoBulk {H : Type} : DataW H → Nat
  | .lit (.string bytes) => bytes.length + 1
  | .lit _ => 1
  | .nil => 1
  | .ptr d => uptoBulk d + 1
  | .slice elems spare => uptoBulkAll elems + uptoBulkAll spare + 1
  | .agg parts => uptoBulkAll parts + 1
  | .iface _ d => uptoBulk d + 1
  | .map entries => uptoBulkEntries entries + 1
  | .held _ => 1
def uptoBulkAll {H : Type} : List (DataW H) → Nat
  | [] => 0
  | d :: r => uptoBulk d + uptoBulkAll r
def uptoBulkEntries {H : Type} : List (Lit × DataW H) → Nat
  | [] => 0
  | x :: r => uptoBulkEntry x + uptoBulkEntries r
def uptoBulkEntry {H : Type} : Lit × DataW H → Nat
  | (.string bytes, d) => bytes.length + uptoBulk d + 1
  | (_, d) => uptoBulk d + 1
 end
def uptoSmall : (H : Type) → List (DataW H) → Bool := fun _ ds => decide (uptoBulkAll ds ≤ 1048576)
def OpenSpec.upto (s : _root_.Go.ChangeSpec) : _root_.Go.OpenSpec := { _root_.Go.OpenSpec.ofChange s with cond := some uptoSmall }

/-- 'louverlaw08.NackLists', WHERE WHAT IT READS IS OF BULK AT MOST 1048576: true; the input reads as it did. -/
def nackListsUptoRow : OpenClaim := { program := "ytfcocnmghmhflaa", sum := "fe84b668405600d487c862a2559265dec15d706b91fe6bb60787f53441df16d1", func := "louver/louverlaw08.NackLists", spec := "nackLists", unfollowed := true, recurses := true, apart := false, narrowed := true }
def NackListsUptoSaid : Prop := nackListsUptoRow.holds Try.pinned (OpenSpec.upto nackListsSpec)

/-- 'louverlaw08.NackPacks', WHERE WHAT IT READS IS OF BULK AT MOST 1048576: true; the input reads as it did. -/
def nackPacksUptoRow : OpenClaim := { program := "ytfcocnmghmhflaa", sum := "fe84b668405600d487c862a2559265dec15d706b91fe6bb60787f53441df16d1", func := "louver/louverlaw08.NackPacks", spec := "nackPacks", unfollowed := true, recurses := true, apart := false, narrowed := true }
def NackPacksUptoSaid : Prop := nackPacksUptoRow.holds Try.pinned (OpenSpec.upto nackPacksSpec)

/-- 'louverlaw08.NackBack', WHERE WHAT IT READS IS OF BULK AT MOST 1048576: true; the input reads as it did. -/
def nackBackUptoRow : OpenClaim := { program := "ytfcocnmghmhflaa", sum := "fe84b668405600d487c862a2559265dec15d706b91fe6bb60787f53441df16d1", func := "louver/louverlaw08.NackBack", spec := "nackBack", unfollowed := true, recurses := true, apart := false, narrowed := true }
def NackBackUptoSaid : Prop := nackBackUptoRow.holds Try.pinned (OpenSpec.upto nackBackSpec)

/-- 'louverlaw08.NackAgain', WHERE WHAT IT READS IS OF BULK AT MOST 1048576: true; the input reads as it did. -/
def nackAgainUptoRow : OpenClaim := { program := "ytfcocnmghmhflaa", sum := "fe84b668405600d487c862a2559265dec15d706b91fe6bb60787f53441df16d1", func := "louver/louverlaw08.NackAgain", spec := "nackAgain", unfollowed := true, recurses := true, apart := false, narrowed := true }
def NackAgainUptoSaid : Prop := nackAgainUptoRow.holds Try.pinned (OpenSpec.upto nackAgainSpec)

/-- 'louverlaw08.NackWithin', WHERE WHAT IT READS IS OF BULK AT MOST 1048576: true; the input reads as it did. -/
def nackWithinUptoRow : OpenClaim := { program := "ytfcocnmghmhflaa", sum := "fe84b668405600d487c862a2559265dec15d706b91fe6bb60787f53441df16d1", func := "louver/louverlaw08.NackWithin", spec := "nackWithin", unfollowed := true, recurses := true, apart := false, narrowed := true }
def NackWithinUptoSaid : Prop := nackWithinUptoRow.holds Try.pinned (OpenSpec.upto nackWithinSpec)

/-- 'louverlaw08.NackJoins', WHERE WHAT IT READS IS OF BULK AT MOST 1048576: true; the input reads as it did. -/
def nackJoinsUptoRow : OpenClaim := { program := "ytfcocnmghmhflaa", sum := "fe84b668405600d487c862a2559265dec15d706b91fe6bb60787f53441df16d1", func := "louver/louverlaw08.NackJoins", spec := "nackJoins", unfollowed := true, recurses := true, apart := false, narrowed := true }
def NackJoinsUptoSaid : Prop := nackJoinsUptoRow.holds Try.pinned (OpenSpec.upto nackJoinsSpec)

end Rows
end Go.Proofs.Ytfcocnmghmhflaa
