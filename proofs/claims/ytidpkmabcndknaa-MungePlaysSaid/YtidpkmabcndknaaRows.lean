/-
  No cell of these rows narrows 'for every input' (looked for: loops, veiled, ifaces, maps, wideKeys, modest, calm, conditions, laid).
  DERIVED. THE GIVEN ROWS OF THIS SEAT. 7 by the template 'for every input the law returns true; each argument reads behind the call as it read before'; 0 by the template 'total and deterministic' (their statements: YtidpkmabcndknaaTotals.lean).
  GIVEN WITH THE SEED: the statements are not yours to turn. If you find one false, say at which input.
  Laid BY PROGRAM, IN A SANDBOX (cutbox-rows.mjs): the forced cells as the released guide's own fill.sh prints them over the translation 7aaca2a29fb221b3… (all of the seat's roots in one cut). By AI agents, Wed Nov 11 2026. No macro, syntax, notation, axiom, sorry.
-/
import Derived.Test.YtidpkmabcndknaaChecked
import GoSem.Claim
import GoSem.ClaimJoined
import GoSem.ClaimMapViews
import Derived.JoinedTies
import Derived.KernelRfl
namespace Go.Proofs.Ytidpkmabcndknaa
/- THE CELL 'sum', in the pinned program and in every row, IS THE sha256 OF THE DUMP (.gsa) THAT YtidpkmabcndknaaProg.lean LOADS. Nothing in Lean hashes anything: it is a label: what it is worth is what the hold of that sum in a sandbox is worth. -/
noncomputable def Try.pinned : Pinned := { name := "ytidpkmabcndknaa", sum := "7aaca2a29fb221b37bf67427ef072f1265c960479c785667dd26d70518a95e7b", checked := Try.checked }
namespace Rows
def none {H : Type} : Left H := { results := [], args := [] }

/-- 'louverlaw13.MungeTells': WHATEVER THE INPUT: true; the input reads as it did. -/
def mungeTellsSpec : ChangeSpec := { name := "mungeTells", fn := fun _ => fun
  | [d1, d2] => { results := [.lit (.bool true)], args := [d1, d2] }
  | _ => none }
def mungeTellsRow : OpenClaim := { program := "ytidpkmabcndknaa", sum := "7aaca2a29fb221b37bf67427ef072f1265c960479c785667dd26d70518a95e7b", func := "louver/louverlaw13.MungeTells", spec := "mungeTells", unfollowed := true, recurses := true, apart := false }
def MungeTellsSaid : Prop := mungeTellsRow.holds Try.pinned (OpenSpec.ofChange mungeTellsSpec)

/-- ITS FALSE NEIGHBOUR: 'it returns false'. Refute it at one input. -/
def mungeTellsWrong : ChangeSpec := { name := "mungeTells", fn := fun _ => fun
  | [d1, d2] => { results := [.lit (.bool false)], args := [d1, d2] }
  | _ => none }
def MungeTellsWrongFalsely : Prop := mungeTellsRow.holds Try.pinned (OpenSpec.ofChange mungeTellsWrong)

/-- 'louverlaw13.MungePlays': WHATEVER THE INPUT: true; the input reads as it did. -/
def mungePlaysSpec : ChangeSpec := { name := "mungePlays", fn := fun _ => fun
  | [d] => { results := [.lit (.bool true)], args := [d] }
  | _ => none }
def mungePlaysRow : OpenClaim := { program := "ytidpkmabcndknaa", sum := "7aaca2a29fb221b37bf67427ef072f1265c960479c785667dd26d70518a95e7b", func := "louver/louverlaw13.MungePlays", spec := "mungePlays", unfollowed := true, recurses := true, apart := false }
def MungePlaysSaid : Prop := mungePlaysRow.holds Try.pinned (OpenSpec.ofChange mungePlaysSpec)

/-- ITS FALSE NEIGHBOUR: 'it returns false'. Refute it at one input. -/
def mungePlaysWrong : ChangeSpec := { name := "mungePlays", fn := fun _ => fun
  | [d] => { results := [.lit (.bool false)], args := [d] }
  | _ => none }
def MungePlaysWrongFalsely : Prop := mungePlaysRow.holds Try.pinned (OpenSpec.ofChange mungePlaysWrong)

/-- 'louverlaw13.MungeOrder': WHATEVER THE INPUT: true; the input reads as it did. -/
def mungeOrderSpec : ChangeSpec := { name := "mungeOrder", fn := fun _ => fun
  | [d] => { results := [.lit (.bool true)], args := [d] }
  | _ => none }
def mungeOrderRow : OpenClaim := { program := "ytidpkmabcndknaa", sum := "7aaca2a29fb221b37bf67427ef072f1265c960479c785667dd26d70518a95e7b", func := "louver/louverlaw13.MungeOrder", spec := "mungeOrder", unfollowed := true, recurses := true, apart := false }
def MungeOrderSaid : Prop := mungeOrderRow.holds Try.pinned (OpenSpec.ofChange mungeOrderSpec)

/-- ITS FALSE NEIGHBOUR: 'it returns false'. Refute it at one input. -/
def mungeOrderWrong : ChangeSpec := { name := "mungeOrder", fn := fun _ => fun
  | [d] => { results := [.lit (.bool false)], args := [d] }
  | _ => none }
def MungeOrderWrongFalsely : Prop := mungeOrderRow.holds Try.pinned (OpenSpec.ofChange mungeOrderWrong)

/-- 'louverlaw13.MungeOnce': WHATEVER THE INPUT: true; the input reads as it did. -/
def mungeOnceSpec : ChangeSpec := { name := "mungeOnce", fn := fun _ => fun
  | [d1, d2, d3] => { results := [.lit (.bool true)], args := [d1, d2, d3] }
  | _ => none }
def mungeOnceRow : OpenClaim := { program := "ytidpkmabcndknaa", sum := "7aaca2a29fb221b37bf67427ef072f1265c960479c785667dd26d70518a95e7b", func := "louver/louverlaw13.MungeOnce", spec := "mungeOnce", unfollowed := true, recurses := true, apart := false }
def MungeOnceSaid : Prop := mungeOnceRow.holds Try.pinned (OpenSpec.ofChange mungeOnceSpec)

/-- ITS FALSE NEIGHBOUR: 'it returns false'. Refute it at one input. -/
def mungeOnceWrong : ChangeSpec := { name := "mungeOnce", fn := fun _ => fun
  | [d1, d2, d3] => { results := [.lit (.bool false)], args := [d1, d2, d3] }
  | _ => none }
def MungeOnceWrongFalsely : Prop := mungeOnceRow.holds Try.pinned (OpenSpec.ofChange mungeOnceWrong)

/-- 'louverlaw13.MungeTimes': WHATEVER THE INPUT: true; the input reads as it did. -/
def mungeTimesSpec : ChangeSpec := { name := "mungeTimes", fn := fun _ => fun
  | [d] => { results := [.lit (.bool true)], args := [d] }
  | _ => none }
def mungeTimesRow : OpenClaim := { program := "ytidpkmabcndknaa", sum := "7aaca2a29fb221b37bf67427ef072f1265c960479c785667dd26d70518a95e7b", func := "louver/louverlaw13.MungeTimes", spec := "mungeTimes", unfollowed := true, recurses := true, apart := false }
def MungeTimesSaid : Prop := mungeTimesRow.holds Try.pinned (OpenSpec.ofChange mungeTimesSpec)

/-- ITS FALSE NEIGHBOUR: 'it returns false'. Refute it at one input. -/
def mungeTimesWrong : ChangeSpec := { name := "mungeTimes", fn := fun _ => fun
  | [d] => { results := [.lit (.bool false)], args := [d] }
  | _ => none }
def MungeTimesWrongFalsely : Prop := mungeTimesRow.holds Try.pinned (OpenSpec.ofChange mungeTimesWrong)

/-- 'louverlaw13.MungeBack': WHATEVER THE INPUT: true; the input reads as it did. -/
def mungeBackSpec : ChangeSpec := { name := "mungeBack", fn := fun _ => fun
  | [d1, d2] => { results := [.lit (.bool true)], args := [d1, d2] }
  | _ => none }
def mungeBackRow : OpenClaim := { program := "ytidpkmabcndknaa", sum := "7aaca2a29fb221b37bf67427ef072f1265c960479c785667dd26d70518a95e7b", func := "louver/louverlaw13.MungeBack", spec := "mungeBack", unfollowed := true, recurses := true, apart := false }
def MungeBackSaid : Prop := mungeBackRow.holds Try.pinned (OpenSpec.ofChange mungeBackSpec)

/-- ITS FALSE NEIGHBOUR: 'it returns false'. Refute it at one input. -/
def mungeBackWrong : ChangeSpec := { name := "mungeBack", fn := fun _ => fun
  | [d1, d2] => { results := [.lit (.bool false)], args := [d1, d2] }
  | _ => none }
def MungeBackWrongFalsely : Prop := mungeBackRow.holds Try.pinned (OpenSpec.ofChange mungeBackWrong)

/-- 'louverlaw13.MungeGaps': WHATEVER THE INPUT: true; the input reads as it did. -/
def mungeGapsSpec : ChangeSpec := { name := "mungeGaps", fn := fun _ => fun
  | [d1, d2] => { results := [.lit (.bool true)], args := [d1, d2] }
  | _ => none }
def mungeGapsRow : OpenClaim := { program := "ytidpkmabcndknaa", sum := "7aaca2a29fb221b37bf67427ef072f1265c960479c785667dd26d70518a95e7b", func := "louver/louverlaw13.MungeGaps", spec := "mungeGaps", unfollowed := true, recurses := true, apart := false }
def MungeGapsSaid : Prop := mungeGapsRow.holds Try.pinned (OpenSpec.ofChange mungeGapsSpec)

/-- ITS FALSE NEIGHBOUR: 'it returns false'. Refute it at one input. -/
def mungeGapsWrong : ChangeSpec := { name := "mungeGaps", fn := fun _ => fun
  | [d1, d2] => { results := [.lit (.bool false)], args := [d1, d2] }
  | _ => none }
def MungeGapsWrongFalsely : Prop := mungeGapsRow.holds Try.pinned (OpenSpec.ofChange mungeGapsWrong)

/- THE SECOND FORM. 'bulk': how many values and letters a reading holds, each counted each time it is reached (what is shared counts as often as it is met; a slice's spare places count too). A statement '..UptoSaid' is the law's where the arguments, and the package variables that the reading takes, are together of bulk at most 1048576: NARROWER than '..Said'. Prove '..Said' where nothing that the law and all that it calls make is longer than what came in: it says more and counts as full. Else prove '..UptoSaid'. A law counts once. -/
mutual
def uptoBulk {H : Type} : DataW H → Nat
  | .lit (.string bytes) => bytes.length + 1
  | .lit _ => 1
  | .nil => 1
  | .ptr d => uptoBulk d + 1
  | .slice elems spare => uptoBulkAll elems + uptoBulkAll spare + 1
  | .agg parts => uptoBulkAll parts + 1
  | .iface _ d => uptoBulk d + 1
  | .map entries => uptoBulkEntries entries + 1
  | .held _ => 1
def uptoBulkAll {H : Type} : List (DataW H) → Nat
  | [] => 0
  | d :: r => uptoBulk d + uptoBulkAll r
def uptoBulkEntries {H : Type} : List (Lit × DataW H) → Nat
  | [] => 0
  | x :: r => uptoBulkEntry x + uptoBulkEntries r
def uptoBulkEntry {H : Type} : Lit × DataW H → Nat
  | (.string bytes, d) => bytes.length + uptoBulk d + 1
  | (_, d) => uptoBulk d + 1
 end
def uptoSmall : (H : Type) → List (DataW H) → Bool := fun _ ds => decide (uptoBulkAll ds ≤ 1048576)
def OpenSpec.upto (s : _root_.Go.ChangeSpec) : _root_.Go.OpenSpec := { _root_.Go.OpenSpec.ofChange s with cond := some uptoSmall }

/-- 'louverlaw13.MungeTells', WHERE WHAT IT READS IS OF BULK AT MOST 1048576: true; the input reads as it did. -/
def mungeTellsUptoRow : OpenClaim := { program := "ytidpkmabcndknaa", sum := "7aaca2a29fb221b37bf67427ef072f1265c960479c785667dd26d70518a95e7b", func := "louver/louverlaw13.MungeTells", spec := "mungeTells", unfollowed := true, recurses := true, apart := false, narrowed := true }
def MungeTellsUptoSaid : Prop := mungeTellsUptoRow.holds Try.pinned (OpenSpec.upto mungeTellsSpec)

/-- 'louverlaw13.MungePlays', WHERE WHAT IT READS IS OF BULK AT MOST 1048576: true; the input reads as it did. -/
def mungePlaysUptoRow : OpenClaim := { program := "ytidpkmabcndknaa", sum := "7aaca2a29fb221b37bf67427ef072f1265c960479c785667dd26d70518a95e7b", func := "louver/louverlaw13.MungePlays", spec := "mungePlays", unfollowed := true, recurses := true, apart := false, narrowed := true }
def MungePlaysUptoSaid : Prop := mungePlaysUptoRow.holds Try.pinned (OpenSpec.upto mungePlaysSpec)

/-- 'louverlaw13.MungeOrder', WHERE WHAT IT READS IS OF BULK AT MOST 1048576: true; the input reads as it did. -/
def mungeOrderUptoRow : OpenClaim := { program := "ytidpkmabcndknaa", sum := "7aaca2a29fb221b37bf67427ef072f1265c960479c785667dd26d70518a95e7b", func := "louver/louverlaw13.MungeOrder", spec := "mungeOrder", unfollowed := true, recurses := true, apart := false, narrowed := true }
def MungeOrderUptoSaid : Prop := mungeOrderUptoRow.holds Try.pinned (OpenSpec.upto mungeOrderSpec)

/-- 'louverlaw13.MungeOnce', WHERE WHAT IT READS IS OF BULK AT MOST 1048576: true; the input reads as it did. -/
def mungeOnceUptoRow : OpenClaim := { program := "ytidpkmabcndknaa", sum := "7aaca2a29fb221b37bf67427ef072f1265c960479c785667dd26d70518a95e7b", func := "louver/louverlaw13.MungeOnce", spec := "mungeOnce", unfollowed := true, recurses := true, apart := false, narrowed := true }
def MungeOnceUptoSaid : Prop := mungeOnceUptoRow.holds Try.pinned (OpenSpec.upto mungeOnceSpec)

/-- 'louverlaw13.MungeTimes', WHERE WHAT IT READS IS OF BULK AT MOST 1048576: true; the input reads as it did. -/
def mungeTimesUptoRow : OpenClaim := { program := "ytidpkmabcndknaa", sum := "7aaca2a29fb221b37bf67427ef072f1265c960479c785667dd26d70518a95e7b", func := "louver/louverlaw13.MungeTimes", spec := "mungeTimes", unfollowed := true, recurses := true, apart := false, narrowed := true }
def MungeTimesUptoSaid : Prop := mungeTimesUptoRow.holds Try.pinned (OpenSpec.upto mungeTimesSpec)

/-- 'louverlaw13.MungeBack', WHERE WHAT IT READS IS OF BULK AT MOST 1048576: true; the input reads as it did. -/
def mungeBackUptoRow : OpenClaim := { program := "ytidpkmabcndknaa", sum := "7aaca2a29fb221b37bf67427ef072f1265c960479c785667dd26d70518a95e7b", func := "louver/louverlaw13.MungeBack", spec := "mungeBack", unfollowed := true, recurses := true, apart := false, narrowed := true }
def MungeBackUptoSaid : Prop := mungeBackUptoRow.holds Try.pinned (OpenSpec.upto mungeBackSpec)

/-- 'louverlaw13.MungeGaps', WHERE WHAT IT READS IS OF BULK AT MOST 1048576: true; the input reads as it did. -/
def mungeGapsUptoRow : OpenClaim := { program := "ytidpkmabcndknaa", sum := "7aaca2a29fb221b37bf67427ef072f1265c960479c785667dd26d70518a95e7b", func := "louver/louverlaw13.MungeGaps", spec := "mungeGaps", unfollowed := true, recurses := true, apart := false, narrowed := true }
def MungeGapsUptoSaid : Prop := mungeGapsUptoRow.holds Try.pinned (OpenSpec.upto mungeGapsSpec)

end Rows
end Go.Proofs.Ytidpkmabcndknaa
