/-
  No cell of these rows narrows 'for every input' (looked for: loops, veiled, ifaces, maps, wideKeys, modest, calm, conditions, laid).
  DERIVED. THE GIVEN ROWS OF THIS SEAT. 4 by the template 'for every input the law returns true; each argument reads behind the call as it read before'; 0 by the template 'total and deterministic' (their statements: YtdedbiacelgleaaTotals.lean).
  GIVEN WITH THE SEED: the statements are not yours to turn. If you find one false, say at which input.
  Laid BY PROGRAM, IN A SANDBOX (cutbox-rows.mjs): the forced cells as the released guide's own fill.sh prints them over the translation 1b687e31ec976a36… (all of the seat's roots in one cut). By AI agents, Wed Nov 11 2026. No macro, syntax, notation, axiom, sorry.
-/
import Derived.Test.YtdedbiacelgleaaChecked
import GoSem.Claim
import GoSem.ClaimJoined
import GoSem.ClaimMapViews
import Derived.JoinedTies
import Derived.KernelRfl
namespace Go.Proofs.Ytdedbiacelgleaa
/- THE CELL 'sum', in the pinned program and in every row, IS THE sha256 OF THE DUMP (.gsa) THAT YtdedbiacelgleaaProg.lean LOADS. Nothing in Lean hashes anything: it is a label: what it is worth is what the hold of that sum in a sandbox is worth. -/
noncomputable def Try.pinned : Pinned := { name := "ytdedbiacelgleaa", sum := "1b687e31ec976a36c551206c969a61efa2038bcd5dfd29b9e551d5ed79989df1", checked := Try.checked }
namespace Rows
def none {H : Type} : Left H := { results := [], args := [] }

/-- 'louverlaw15.ArenaOnce': WHATEVER THE INPUT: true; the input reads as it did. -/
def arenaOnceSpec : ChangeSpec := { name := "arenaOnce", fn := fun _ => fun
  | [d1, d2] => { results := [.lit (.bool true)], args := [d1, d2] }
  | _ => none }
def arenaOnceRow : OpenClaim := { program := "ytdedbiacelgleaa", sum := "1b687e31ec976a36c551206c969a61efa2038bcd5dfd29b9e551d5ed79989df1", func := "louver/louverlaw15.ArenaOnce", spec := "arenaOnce", apart := false }
def ArenaOnceSaid : Prop := arenaOnceRow.holds Try.pinned (OpenSpec.ofChange arenaOnceSpec)

/-- ITS FALSE NEIGHBOUR: 'it returns false'. Refute it at one input. -/
def arenaOnceWrong : ChangeSpec := { name := "arenaOnce", fn := fun _ => fun
  | [d1, d2] => { results := [.lit (.bool false)], args := [d1, d2] }
  | _ => none }
def ArenaOnceWrongFalsely : Prop := arenaOnceRow.holds Try.pinned (OpenSpec.ofChange arenaOnceWrong)

/-- 'louverlaw15.ArenaLow': WHATEVER THE INPUT: true; the input reads as it did. -/
def arenaLowSpec : ChangeSpec := { name := "arenaLow", fn := fun _ => fun
  | [d1, d2] => { results := [.lit (.bool true)], args := [d1, d2] }
  | _ => none }
def arenaLowRow : OpenClaim := { program := "ytdedbiacelgleaa", sum := "1b687e31ec976a36c551206c969a61efa2038bcd5dfd29b9e551d5ed79989df1", func := "louver/louverlaw15.ArenaLow", spec := "arenaLow", apart := false }
def ArenaLowSaid : Prop := arenaLowRow.holds Try.pinned (OpenSpec.ofChange arenaLowSpec)

/-- ITS FALSE NEIGHBOUR: 'it returns false'. Refute it at one input. -/
def arenaLowWrong : ChangeSpec := { name := "arenaLow", fn := fun _ => fun
  | [d1, d2] => { results := [.lit (.bool false)], args := [d1, d2] }
  | _ => none }
def ArenaLowWrongFalsely : Prop := arenaLowRow.holds Try.pinned (OpenSpec.ofChange arenaLowWrong)

/-- 'louverlaw15.ArenaPlays': WHATEVER THE INPUT: true; the input reads as it did. -/
def arenaPlaysSpec : ChangeSpec := { name := "arenaPlays", fn := fun _ => fun
  | [d1, d2] => { results := [.lit (.bool true)], args := [d1, d2] }
  | _ => none }
def arenaPlaysRow : OpenClaim := { program := "ytdedbiacelgleaa", sum := "1b687e31ec976a36c551206c969a61efa2038bcd5dfd29b9e551d5ed79989df1", func := "louver/louverlaw15.ArenaPlays", spec := "arenaPlays", apart := false }
def ArenaPlaysSaid : Prop := arenaPlaysRow.holds Try.pinned (OpenSpec.ofChange arenaPlaysSpec)

/-- ITS FALSE NEIGHBOUR: 'it returns false'. Refute it at one input. -/
def arenaPlaysWrong : ChangeSpec := { name := "arenaPlays", fn := fun _ => fun
  | [d1, d2] => { results := [.lit (.bool false)], args := [d1, d2] }
  | _ => none }
def ArenaPlaysWrongFalsely : Prop := arenaPlaysRow.holds Try.pinned (OpenSpec.ofChange arenaPlaysWrong)

/-- 'louverlaw15.ArenaBounds': WHATEVER THE INPUT: true; the input reads as it did. -/
def arenaBoundsSpec : ChangeSpec := { name := "arenaBounds", fn := fun _ => fun
  | [d] => { results := [.lit (.bool true)], args := [d] }
  | _ => none }
def arenaBoundsRow : OpenClaim := { program := "ytdedbiacelgleaa", sum := "1b687e31ec976a36c551206c969a61efa2038bcd5dfd29b9e551d5ed79989df1", func := "louver/louverlaw15.ArenaBounds", spec := "arenaBounds", apart := false }
def ArenaBoundsSaid : Prop := arenaBoundsRow.holds Try.pinned (OpenSpec.ofChange arenaBoundsSpec)

/-- ITS FALSE NEIGHBOUR: 'it returns false'. Refute it at one input. -/
def arenaBoundsWrong : ChangeSpec := { name := "arenaBounds", fn := fun _ => fun
  | [d] => { results := [.lit (.bool false)], args := [d] }
  | _ => none }
def ArenaBoundsWrongFalsely : Prop := arenaBoundsRow.holds Try.pinned (OpenSpec.ofChange arenaBoundsWrong)

/- THE SECOND FORM. 'bulk': how many values and letters a reading holds, each counted each time it is reached (what is shared counts as often as it is met; a slice's spare places count too). A statement '..UptoSaid' is the law's where the arguments, and the package variables that the reading takes, are together of bulk at most 1048576: NARROWER than '..Said'. Prove '..Said' where nothing that the law and all that it calls make is longer than what came in: it says more and counts as full. Else prove '..UptoSaid'. A law counts once. -/
mutual
def uptoBulk {H : Type} : DataW H → Nat
  | .lit (.string bytes) => bytes.length + 1
  | .lit _ => 1
  | .nil => 1
  | .ptr d => uptoBulk d + 1
  | .slice elems spare => uptoBulkAll elems + uptoBulkAll spare + 1
  | .agg parts => uptoBulkAll parts + 1
  | .iface _ d => uptoBulk d + 1
  | .map entries => uptoBulkEntries entries + 1
  | .held _ => 1
def uptoBulkAll {H : Type} : List (DataW H) → Nat
  | [] => 0
  | d :: r => uptoBulk d + uptoBulkAll r
def uptoBulkEntries {H : Type} : List (Lit × DataW H) → Nat
  | [] => 0
  | x :: r => uptoBulkEntry x + uptoBulkEntries r
def uptoBulkEntry {H : Type} : Lit × DataW H → Nat
  | (.string bytes, d) => bytes.length + uptoBulk d + 1
  | (_, d) => uptoBulk d + 1
 end
def uptoSmall : (H : Type) → List (DataW H) → Bool := fun _ ds => decide (uptoBulkAll ds ≤ 1048576)
def OpenSpec.upto (s : _root_.Go.ChangeSpec) : _root_.Go.OpenSpec := { _root_.Go.OpenSpec.ofChange s with cond := some uptoSmall }

/-- 'louverlaw15.ArenaOnce', WHERE WHAT IT READS IS OF BULK AT MOST 1048576: true; the input reads as it did. -/
def arenaOnceUptoRow : OpenClaim := { program := "ytdedbiacelgleaa", sum := "1b687e31ec976a36c551206c969a61efa2038bcd5dfd29b9e551d5ed79989df1", func := "louver/louverlaw15.ArenaOnce", spec := "arenaOnce", apart := false, narrowed := true }
def ArenaOnceUptoSaid : Prop := arenaOnceUptoRow.holds Try.pinned (OpenSpec.upto arenaOnceSpec)

/-- 'louverlaw15.ArenaLow', WHERE WHAT IT READS IS OF BULK AT MOST 1048576: true; the input reads as it did. -/
def arenaLowUptoRow : OpenClaim := { program := "ytdedbiacelgleaa", sum := "1b687e31ec976a36c551206c969a61efa2038bcd5dfd29b9e551d5ed79989df1", func := "louver/louverlaw15.ArenaLow", spec := "arenaLow", apart := false, narrowed := true }
def ArenaLowUptoSaid : Prop := arenaLowUptoRow.holds Try.pinned (OpenSpec.upto arenaLowSpec)

/-- 'louverlaw15.ArenaPlays', WHERE WHAT IT READS IS OF BULK AT MOST 1048576: true; the input reads as it did. -/
def arenaPlaysUptoRow : OpenClaim := { program := "ytdedbiacelgleaa", sum := "1b687e31ec976a36c551206c969a61efa2038bcd5dfd29b9e551d5ed79989df1", func := "louver/louverlaw15.ArenaPlays", spec := "arenaPlays", apart := false, narrowed := true }
def ArenaPlaysUptoSaid : Prop := arenaPlaysUptoRow.holds Try.pinned (OpenSpec.upto arenaPlaysSpec)

/-- 'louverlaw15.ArenaBounds', WHERE WHAT IT READS IS OF BULK AT MOST 1048576: true; the input reads as it did. -/
def arenaBoundsUptoRow : OpenClaim := { program := "ytdedbiacelgleaa", sum := "1b687e31ec976a36c551206c969a61efa2038bcd5dfd29b9e551d5ed79989df1", func := "louver/louverlaw15.ArenaBounds", spec := "arenaBounds", apart := false, narrowed := true }
def ArenaBoundsUptoSaid : Prop := arenaBoundsUptoRow.holds Try.pinned (OpenSpec.upto arenaBoundsSpec)

end Rows
end Go.Proofs.Ytdedbiacelgleaa
