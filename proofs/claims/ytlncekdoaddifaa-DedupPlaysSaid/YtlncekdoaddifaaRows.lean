/-
  No cell of these rows narrows 'for every input' (looked for: loops, veiled, ifaces, maps, wideKeys, modest, calm, conditions, laid).
  DERIVED. THE GIVEN ROWS OF THIS SEAT. 5 by the template 'for every input the law returns true; each argument reads behind the call as it read before'; 0 by the template 'total and deterministic' (their statements: YtlncekdoaddifaaTotals.lean).
  GIVEN WITH THE SEED: the statements are not yours to turn. If you find one false, say at which input.
  Laid BY PROGRAM, IN A SANDBOX (cutbox-rows.mjs): the forced cells as the released guide's own fill.sh prints them over the translation 4a02b4d205c80135… (all of the seat's roots in one cut). By AI agents, Wed Nov 11 2026. No macro, syntax, notation, axiom, sorry.
-/
import Derived.Test.YtlncekdoaddifaaChecked
import GoSem.Claim
import GoSem.ClaimJoined
import GoSem.ClaimMapViews
import Derived.JoinedTies
import Derived.KernelRfl
namespace Go.Proofs.Ytlncekdoaddifaa
/- THE CELL 'sum', in the pinned program and in every row, IS THE sha256 OF THE DUMP (.gsa) THAT YtlncekdoaddifaaProg.lean LOADS. Nothing in Lean hashes anything: it is a label: what it is worth is what the hold of that sum in a sandbox is worth. -/
noncomputable def Try.pinned : Pinned := { name := "ytlncekdoaddifaa", sum := "4a02b4d205c8013596cd4920d27c29af5fd9e2e927a97ff759ba5e7d9928c488", checked := Try.checked }
namespace Rows
def none {H : Type} : Left H := { results := [], args := [] }

/-- 'louverlaw04.DedupPlays': WHATEVER THE INPUT: true; the input reads as it did. -/
def dedupPlaysSpec : ChangeSpec := { name := "dedupPlays", fn := fun _ => fun
  | [d1, d2] => { results := [.lit (.bool true)], args := [d1, d2] }
  | _ => none }
def dedupPlaysRow : OpenClaim := { program := "ytlncekdoaddifaa", sum := "4a02b4d205c8013596cd4920d27c29af5fd9e2e927a97ff759ba5e7d9928c488", func := "louver/louverlaw04.DedupPlays", spec := "dedupPlays", apart := false }
def DedupPlaysSaid : Prop := dedupPlaysRow.holds Try.pinned (OpenSpec.ofChange dedupPlaysSpec)

/-- ITS FALSE NEIGHBOUR: 'it returns false'. Refute it at one input. -/
def dedupPlaysWrong : ChangeSpec := { name := "dedupPlays", fn := fun _ => fun
  | [d1, d2] => { results := [.lit (.bool false)], args := [d1, d2] }
  | _ => none }
def DedupPlaysWrongFalsely : Prop := dedupPlaysRow.holds Try.pinned (OpenSpec.ofChange dedupPlaysWrong)

/-- 'louverlaw04.DedupKeeps': WHATEVER THE INPUT: true; the input reads as it did. -/
def dedupKeepsSpec : ChangeSpec := { name := "dedupKeeps", fn := fun _ => fun
  | [d1, d2, d3] => { results := [.lit (.bool true)], args := [d1, d2, d3] }
  | _ => none }
def dedupKeepsRow : OpenClaim := { program := "ytlncekdoaddifaa", sum := "4a02b4d205c8013596cd4920d27c29af5fd9e2e927a97ff759ba5e7d9928c488", func := "louver/louverlaw04.DedupKeeps", spec := "dedupKeeps", apart := false }
def DedupKeepsSaid : Prop := dedupKeepsRow.holds Try.pinned (OpenSpec.ofChange dedupKeepsSpec)

/-- ITS FALSE NEIGHBOUR: 'it returns false'. Refute it at one input. -/
def dedupKeepsWrong : ChangeSpec := { name := "dedupKeeps", fn := fun _ => fun
  | [d1, d2, d3] => { results := [.lit (.bool false)], args := [d1, d2, d3] }
  | _ => none }
def DedupKeepsWrongFalsely : Prop := dedupKeepsRow.holds Try.pinned (OpenSpec.ofChange dedupKeepsWrong)

/-- 'louverlaw04.DedupFull': WHATEVER THE INPUT: true; the input reads as it did. -/
def dedupFullSpec : ChangeSpec := { name := "dedupFull", fn := fun _ => fun
  | [d1, d2] => { results := [.lit (.bool true)], args := [d1, d2] }
  | _ => none }
def dedupFullRow : OpenClaim := { program := "ytlncekdoaddifaa", sum := "4a02b4d205c8013596cd4920d27c29af5fd9e2e927a97ff759ba5e7d9928c488", func := "louver/louverlaw04.DedupFull", spec := "dedupFull", apart := false }
def DedupFullSaid : Prop := dedupFullRow.holds Try.pinned (OpenSpec.ofChange dedupFullSpec)

/-- ITS FALSE NEIGHBOUR: 'it returns false'. Refute it at one input. -/
def dedupFullWrong : ChangeSpec := { name := "dedupFull", fn := fun _ => fun
  | [d1, d2] => { results := [.lit (.bool false)], args := [d1, d2] }
  | _ => none }
def DedupFullWrongFalsely : Prop := dedupFullRow.holds Try.pinned (OpenSpec.ofChange dedupFullWrong)

/-- 'louverlaw04.DedupBound': WHATEVER THE INPUT: true; the input reads as it did. -/
def dedupBoundSpec : ChangeSpec := { name := "dedupBound", fn := fun _ => fun
  | [d1, d2] => { results := [.lit (.bool true)], args := [d1, d2] }
  | _ => none }
def dedupBoundRow : OpenClaim := { program := "ytlncekdoaddifaa", sum := "4a02b4d205c8013596cd4920d27c29af5fd9e2e927a97ff759ba5e7d9928c488", func := "louver/louverlaw04.DedupBound", spec := "dedupBound", apart := false }
def DedupBoundSaid : Prop := dedupBoundRow.holds Try.pinned (OpenSpec.ofChange dedupBoundSpec)

/-- ITS FALSE NEIGHBOUR: 'it returns false'. Refute it at one input. -/
def dedupBoundWrong : ChangeSpec := { name := "dedupBound", fn := fun _ => fun
  | [d1, d2] => { results := [.lit (.bool false)], args := [d1, d2] }
  | _ => none }
def DedupBoundWrongFalsely : Prop := dedupBoundRow.holds Try.pinned (OpenSpec.ofChange dedupBoundWrong)

/-- 'louverlaw04.DedupFirst': WHATEVER THE INPUT: true; the input reads as it did. -/
def dedupFirstSpec : ChangeSpec := { name := "dedupFirst", fn := fun _ => fun
  | [d1, d2, d3, d4] => { results := [.lit (.bool true)], args := [d1, d2, d3, d4] }
  | _ => none }
def dedupFirstRow : OpenClaim := { program := "ytlncekdoaddifaa", sum := "4a02b4d205c8013596cd4920d27c29af5fd9e2e927a97ff759ba5e7d9928c488", func := "louver/louverlaw04.DedupFirst", spec := "dedupFirst", apart := false }
def DedupFirstSaid : Prop := dedupFirstRow.holds Try.pinned (OpenSpec.ofChange dedupFirstSpec)

/-- ITS FALSE NEIGHBOUR: 'it returns false'. Refute it at one input. -/
def dedupFirstWrong : ChangeSpec := { name := "dedupFirst", fn := fun _ => fun
  | [d1, d2, d3, d4] => { results := [.lit (.bool false)], args := [d1, d2, d3, d4] }
  | _ => none }
def DedupFirstWrongFalsely : Prop := dedupFirstRow.holds Try.pinned (OpenSpec.ofChange dedupFirstWrong)

/- THE SECOND FORM. 'bulk': how many values and letters a reading holds, each counted each time it is reached (what is shared counts as often as it is met; a slice's spare places count too). A statement '..UptoSaid' is the law's where the arguments, and the package variables that the reading takes, are together of bulk at most 1048576: NARROWER than '..Said'. Prove '..Said' where nothing that the law and all that it calls make is longer than what came in: it says more and counts as full. Else prove '..UptoSaid'. A law counts once. -/
mutual
def uptoBulk {H : Type} : DataW H → Nat
  | .lit (.string bytes) => bytes.length + 1
  | .lit _ => 1
  | .nil => 1
  | .ptr d => uptoBulk d + 1
  | .slice elems spare => uptoBulkAll elems + uptoBulkAll spare + 1
  | .agg parts => uptoBulkAll parts + 1
  | .iface _ d => uptoBulk d + 1
  | .map entries => uptoBulkEntries entries + 1
  | .held _ => 1
def uptoBulkAll {H : Type} : List (DataW H) → Nat
  | [] => 0
  | d :: r => uptoBulk d + uptoBulkAll r
def uptoBulkEntries {H : Type} : List (Lit × DataW H) → Nat
  | [] => 0
  | x :: r => uptoBulkEntry x + uptoBulkEntries r
def uptoBulkEntry {H : Type} : Lit × DataW H → Nat
  | (.string bytes, d) => bytes.length + uptoBulk d + 1
  | (_, d) => uptoBulk d + 1
 end
def uptoSmall : (H : Type) → List (DataW H) → Bool := fun _ ds => decide (uptoBulkAll ds ≤ 1048576)
def OpenSpec.upto (s : _root_.Go.ChangeSpec) : _root_.Go.OpenSpec := { _root_.Go.OpenSpec.ofChange s with cond := some uptoSmall }

/-- 'louverlaw04.DedupPlays', WHERE WHAT IT READS IS OF BULK AT MOST 1048576: true; the input reads as it did. -/
def dedupPlaysUptoRow : OpenClaim := { program := "ytlncekdoaddifaa", sum := "4a02b4d205c8013596cd4920d27c29af5fd9e2e927a97ff759ba5e7d9928c488", func := "louver/louverlaw04.DedupPlays", spec := "dedupPlays", apart := false, narrowed := true }
def DedupPlaysUptoSaid : Prop := dedupPlaysUptoRow.holds Try.pinned (OpenSpec.upto dedupPlaysSpec)

/-- 'louverlaw04.DedupKeeps', WHERE WHAT IT READS IS OF BULK AT MOST 1048576: true; the input reads as it did. -/
def dedupKeepsUptoRow : OpenClaim := { program := "ytlncekdoaddifaa", sum := "4a02b4d205c8013596cd4920d27c29af5fd9e2e927a97ff759ba5e7d9928c488", func := "louver/louverlaw04.DedupKeeps", spec := "dedupKeeps", apart := false, narrowed := true }
def DedupKeepsUptoSaid : Prop := dedupKeepsUptoRow.holds Try.pinned (OpenSpec.upto dedupKeepsSpec)

/-- 'louverlaw04.DedupFull', WHERE WHAT IT READS IS OF BULK AT MOST 1048576: true; the input reads as it did. -/
def dedupFullUptoRow : OpenClaim := { program := "ytlncekdoaddifaa", sum := "4a02b4d205c8013596cd4920d27c29af5fd9e2e927a97ff759ba5e7d9928c488", func := "louver/louverlaw04.DedupFull", spec := "dedupFull", apart := false, narrowed := true }
def DedupFullUptoSaid : Prop := dedupFullUptoRow.holds Try.pinned (OpenSpec.upto dedupFullSpec)

/-- 'louverlaw04.DedupBound', WHERE WHAT IT READS IS OF BULK AT MOST 1048576: true; the input reads as it did. -/
def dedupBoundUptoRow : OpenClaim := { program := "ytlncekdoaddifaa", sum := "4a02b4d205c8013596cd4920d27c29af5fd9e2e927a97ff759ba5e7d9928c488", func := "louver/louverlaw04.DedupBound", spec := "dedupBound", apart := false, narrowed := true }
def DedupBoundUptoSaid : Prop := dedupBoundUptoRow.holds Try.pinned (OpenSpec.upto dedupBoundSpec)

/-- 'louverlaw04.DedupFirst', WHERE WHAT IT READS IS OF BULK AT MOST 1048576: true; the input reads as it did. -/
def dedupFirstUptoRow : OpenClaim := { program := "ytlncekdoaddifaa", sum := "4a02b4d205c8013596cd4920d27c29af5fd9e2e927a97ff759ba5e7d9928c488", func := "louver/louverlaw04.DedupFirst", spec := "dedupFirst", apart := false, narrowed := true }
def DedupFirstUptoSaid : Prop := dedupFirstUptoRow.holds Try.pinned (OpenSpec.upto dedupFirstSpec)

end Rows
end Go.Proofs.Ytlncekdoaddifaa
