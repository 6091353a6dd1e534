/-
  No cell of these rows narrows 'for every input' (looked for: loops, veiled, ifaces, maps, wideKeys, modest, calm, conditions, laid).
  DERIVED. THE GIVEN ROWS OF THIS SEAT. 6 by the template 'for every input the law returns true; each argument reads behind the call as it read before'; 0 by the template 'total and deterministic' (their statements: YtiajgdpceedmlaaTotals.lean).
  GIVEN WITH THE SEED: the statements are not yours to turn. If you find one false, say at which input.
  Laid BY PROGRAM, IN A SANDBOX (cutbox-rows.mjs): the forced cells as the released guide's own fill.sh prints them over the translation ff567d2e16d3b44d… (all of the seat's roots in one cut). By AI agents, Wed Nov 11 2026. No macro, syntax, notation, axiom, sorry.
-/
import Derived.Test.YtiajgdpceedmlaaChecked
import GoSem.Claim
import GoSem.ClaimJoined
import GoSem.ClaimMapViews
import Derived.JoinedTies
import Derived.KernelRfl
namespace Go.Proofs.Ytiajgdpceedmlaa
/- THE CELL 'sum', in the pinned program and in every row, IS THE sha256 OF THE DUMP (.gsa) THAT YtiajgdpceedmlaaProg.lean LOADS. Nothing in Lean hashes anything: it is a label: what it is worth is what the hold of that sum in a sandbox is worth. -/
noncomputable def Try.pinned : Pinned := { name := "ytiajgdpceedmlaa", sum := "ff567d2e16d3b44d7f9725b9b0b782bd81edc89b92d182059b3596f8433c6906", checked := Try.checked }
namespace Rows
def none {H : Type} : Left H := { results := [], args := [] }

/-- 'louverlaw12.ChooseTakes': WHATEVER THE INPUT: true; the input reads as it did. -/
def chooseTakesSpec : ChangeSpec := { name := "chooseTakes", fn := fun _ => fun
  | [d1, d2, d3] => { results := [.lit (.bool true)], args := [d1, d2, d3] }
  | _ => none }
def chooseTakesRow : OpenClaim := { program := "ytiajgdpceedmlaa", sum := "ff567d2e16d3b44d7f9725b9b0b782bd81edc89b92d182059b3596f8433c6906", func := "louver/louverlaw12.ChooseTakes", spec := "chooseTakes", apart := false }
def ChooseTakesSaid : Prop := chooseTakesRow.holds Try.pinned (OpenSpec.ofChange chooseTakesSpec)

/-- ITS FALSE NEIGHBOUR: 'it returns false'. Refute it at one input. -/
def chooseTakesWrong : ChangeSpec := { name := "chooseTakes", fn := fun _ => fun
  | [d1, d2, d3] => { results := [.lit (.bool false)], args := [d1, d2, d3] }
  | _ => none }
def ChooseTakesWrongFalsely : Prop := chooseTakesRow.holds Try.pinned (OpenSpec.ofChange chooseTakesWrong)

/-- 'louverlaw12.ChooseSwitches': WHATEVER THE INPUT: true; the input reads as it did. -/
def chooseSwitchesSpec : ChangeSpec := { name := "chooseSwitches", fn := fun _ => fun
  | [d] => { results := [.lit (.bool true)], args := [d] }
  | _ => none }
def chooseSwitchesRow : OpenClaim := { program := "ytiajgdpceedmlaa", sum := "ff567d2e16d3b44d7f9725b9b0b782bd81edc89b92d182059b3596f8433c6906", func := "louver/louverlaw12.ChooseSwitches", spec := "chooseSwitches", apart := false }
def ChooseSwitchesSaid : Prop := chooseSwitchesRow.holds Try.pinned (OpenSpec.ofChange chooseSwitchesSpec)

/-- ITS FALSE NEIGHBOUR: 'it returns false'. Refute it at one input. -/
def chooseSwitchesWrong : ChangeSpec := { name := "chooseSwitches", fn := fun _ => fun
  | [d] => { results := [.lit (.bool false)], args := [d] }
  | _ => none }
def ChooseSwitchesWrongFalsely : Prop := chooseSwitchesRow.holds Try.pinned (OpenSpec.ofChange chooseSwitchesWrong)

/-- 'louverlaw12.ChooseTids': WHATEVER THE INPUT: true; the input reads as it did. -/
def chooseTidsSpec : ChangeSpec := { name := "chooseTids", fn := fun _ => fun
  | [d] => { results := [.lit (.bool true)], args := [d] }
  | _ => none }
def chooseTidsRow : OpenClaim := { program := "ytiajgdpceedmlaa", sum := "ff567d2e16d3b44d7f9725b9b0b782bd81edc89b92d182059b3596f8433c6906", func := "louver/louverlaw12.ChooseTids", spec := "chooseTids", apart := false }
def ChooseTidsSaid : Prop := chooseTidsRow.holds Try.pinned (OpenSpec.ofChange chooseTidsSpec)

/-- ITS FALSE NEIGHBOUR: 'it returns false'. Refute it at one input. -/
def chooseTidsWrong : ChangeSpec := { name := "chooseTids", fn := fun _ => fun
  | [d] => { results := [.lit (.bool false)], args := [d] }
  | _ => none }
def ChooseTidsWrongFalsely : Prop := chooseTidsRow.holds Try.pinned (OpenSpec.ofChange chooseTidsWrong)

/-- 'louverlaw12.ChooseFrames': WHATEVER THE INPUT: true; the input reads as it did. -/
def chooseFramesSpec : ChangeSpec := { name := "chooseFrames", fn := fun _ => fun
  | [d1, d2, d3] => { results := [.lit (.bool true)], args := [d1, d2, d3] }
  | _ => none }
def chooseFramesRow : OpenClaim := { program := "ytiajgdpceedmlaa", sum := "ff567d2e16d3b44d7f9725b9b0b782bd81edc89b92d182059b3596f8433c6906", func := "louver/louverlaw12.ChooseFrames", spec := "chooseFrames", apart := false }
def ChooseFramesSaid : Prop := chooseFramesRow.holds Try.pinned (OpenSpec.ofChange chooseFramesSpec)

/-- ITS FALSE NEIGHBOUR: 'it returns false'. Refute it at one input. -/
def chooseFramesWrong : ChangeSpec := { name := "chooseFrames", fn := fun _ => fun
  | [d1, d2, d3] => { results := [.lit (.bool false)], args := [d1, d2, d3] }
  | _ => none }
def ChooseFramesWrongFalsely : Prop := chooseFramesRow.holds Try.pinned (OpenSpec.ofChange chooseFramesWrong)

/-- 'louverlaw12.ChooseLeaves': WHATEVER THE INPUT: true; the input reads as it did. -/
def chooseLeavesSpec : ChangeSpec := { name := "chooseLeaves", fn := fun _ => fun
  | [d1, d2, d3] => { results := [.lit (.bool true)], args := [d1, d2, d3] }
  | _ => none }
def chooseLeavesRow : OpenClaim := { program := "ytiajgdpceedmlaa", sum := "ff567d2e16d3b44d7f9725b9b0b782bd81edc89b92d182059b3596f8433c6906", func := "louver/louverlaw12.ChooseLeaves", spec := "chooseLeaves", apart := false }
def ChooseLeavesSaid : Prop := chooseLeavesRow.holds Try.pinned (OpenSpec.ofChange chooseLeavesSpec)

/-- ITS FALSE NEIGHBOUR: 'it returns false'. Refute it at one input. -/
def chooseLeavesWrong : ChangeSpec := { name := "chooseLeaves", fn := fun _ => fun
  | [d1, d2, d3] => { results := [.lit (.bool false)], args := [d1, d2, d3] }
  | _ => none }
def ChooseLeavesWrongFalsely : Prop := chooseLeavesRow.holds Try.pinned (OpenSpec.ofChange chooseLeavesWrong)

/-- 'louverlaw12.ChooseLower': WHATEVER THE INPUT: true; the input reads as it did. -/
def chooseLowerSpec : ChangeSpec := { name := "chooseLower", fn := fun _ => fun
  | [d1, d2, d3] => { results := [.lit (.bool true)], args := [d1, d2, d3] }
  | _ => none }
def chooseLowerRow : OpenClaim := { program := "ytiajgdpceedmlaa", sum := "ff567d2e16d3b44d7f9725b9b0b782bd81edc89b92d182059b3596f8433c6906", func := "louver/louverlaw12.ChooseLower", spec := "chooseLower", apart := false }
def ChooseLowerSaid : Prop := chooseLowerRow.holds Try.pinned (OpenSpec.ofChange chooseLowerSpec)

/-- ITS FALSE NEIGHBOUR: 'it returns false'. Refute it at one input. -/
def chooseLowerWrong : ChangeSpec := { name := "chooseLower", fn := fun _ => fun
  | [d1, d2, d3] => { results := [.lit (.bool false)], args := [d1, d2, d3] }
  | _ => none }
def ChooseLowerWrongFalsely : Prop := chooseLowerRow.holds Try.pinned (OpenSpec.ofChange chooseLowerWrong)

/- THE SECOND FORM. 'bulk': how many values and letters a reading holds, each counted each time it is reached (what is shared counts as often as it is met; a slice's spare places count too). A statement '..UptoSaid' is the law's where the arguments, and the package variables that the reading takes, are together of bulk at most 1048576: NARROWER than '..Said'. Prove '..Said' where nothing that the law and all that it calls make is longer than what came in: it says more and counts as full. Else prove '..UptoSaid'. A law counts once. -/
mutual
def uptoBulk {H : Type} : DataW H → Nat
  | .lit (.string bytes) => bytes.length + 1
  | .lit _ => 1
  | .nil => 1
  | .ptr d => uptoBulk d + 1
  | .slice elems spare => uptoBulkAll elems + uptoBulkAll spare + 1
  | .agg parts => uptoBulkAll parts + 1
  | .iface _ d => uptoBulk d + 1
  | .map entries => uptoBulkEntries entries + 1
  | .held _ => 1
def uptoBulkAll {H : Type} : List (DataW H) → Nat
  | [] => 0
  | d :: r => uptoBulk d + uptoBulkAll r
def uptoBulkEntries {H : Type} : List (Lit × DataW H) → Nat
  | [] => 0
  | x :: r => uptoBulkEntry x + uptoBulkEntries r
def uptoBulkEntry {H : Type} : Lit × DataW H → Nat
  | (.string bytes, d) => bytes.length + uptoBulk d + 1
  | (_, d) => uptoBulk d + 1
 end
def uptoSmall : (H : Type) → List (DataW H) → Bool := fun _ ds => decide (uptoBulkAll ds ≤ 1048576)
def OpenSpec.upto (s : _root_.Go.ChangeSpec) : _root_.Go.OpenSpec := { _root_.Go.OpenSpec.ofChange s with cond := some uptoSmall }

/-- 'louverlaw12.ChooseTakes', WHERE WHAT IT READS IS OF BULK AT MOST 1048576: true; the input reads as it did. -/
def chooseTakesUptoRow : OpenClaim := { program := "ytiajgdpceedmlaa", sum := "ff567d2e16d3b44d7f9725b9b0b782bd81edc89b92d182059b3596f8433c6906", func := "louver/louverlaw12.ChooseTakes", spec := "chooseTakes", apart := false, narrowed := true }
def ChooseTakesUptoSaid : Prop := chooseTakesUptoRow.holds Try.pinned (OpenSpec.upto chooseTakesSpec)

/-- 'louverlaw12.ChooseSwitches', WHERE WHAT IT READS IS OF BULK AT MOST 1048576: true; the input reads as it did. -/
def chooseSwitchesUptoRow : OpenClaim := { program := "ytiajgdpceedmlaa", sum := "ff567d2e16d3b44d7f9725b9b0b782bd81edc89b92d182059b3596f8433c6906", func := "louver/louverlaw12.ChooseSwitches", spec := "chooseSwitches", apart := false, narrowed := true }
def ChooseSwitchesUptoSaid : Prop := chooseSwitchesUptoRow.holds Try.pinned (OpenSpec.upto chooseSwitchesSpec)

/-- 'louverlaw12.ChooseTids', WHERE WHAT IT READS IS OF BULK AT MOST 1048576: true; the input reads as it did. -/
def chooseTidsUptoRow : OpenClaim := { program := "ytiajgdpceedmlaa", sum := "ff567d2e16d3b44d7f9725b9b0b782bd81edc89b92d182059b3596f8433c6906", func := "louver/louverlaw12.ChooseTids", spec := "chooseTids", apart := false, narrowed := true }
def ChooseTidsUptoSaid : Prop := chooseTidsUptoRow.holds Try.pinned (OpenSpec.upto chooseTidsSpec)

/-- 'louverlaw12.ChooseFrames', WHERE WHAT IT READS IS OF BULK AT MOST 1048576: true; the input reads as it did. -/
def chooseFramesUptoRow : OpenClaim := { program := "ytiajgdpceedmlaa", sum := "ff567d2e16d3b44d7f9725b9b0b782bd81edc89b92d182059b3596f8433c6906", func := "louver/louverlaw12.ChooseFrames", spec := "chooseFrames", apart := false, narrowed := true }
def ChooseFramesUptoSaid : Prop := chooseFramesUptoRow.holds Try.pinned (OpenSpec.upto chooseFramesSpec)

/-- 'louverlaw12.ChooseLeaves', WHERE WHAT IT READS IS OF BULK AT MOST 1048576: true; the input reads as it did. -/
def chooseLeavesUptoRow : OpenClaim := { program := "ytiajgdpceedmlaa", sum := "ff567d2e16d3b44d7f9725b9b0b782bd81edc89b92d182059b3596f8433c6906", func := "louver/louverlaw12.ChooseLeaves", spec := "chooseLeaves", apart := false, narrowed := true }
def ChooseLeavesUptoSaid : Prop := chooseLeavesUptoRow.holds Try.pinned (OpenSpec.upto chooseLeavesSpec)

/-- 'louverlaw12.ChooseLower', WHERE WHAT IT READS IS OF BULK AT MOST 1048576: true; the input reads as it did. -/
def chooseLowerUptoRow : OpenClaim := { program := "ytiajgdpceedmlaa", sum := "ff567d2e16d3b44d7f9725b9b0b782bd81edc89b92d182059b3596f8433c6906", func := "louver/louverlaw12.ChooseLower", spec := "chooseLower", apart := false, narrowed := true }
def ChooseLowerUptoSaid : Prop := chooseLowerUptoRow.holds Try.pinned (OpenSpec.upto chooseLowerSpec)

end Rows
end Go.Proofs.Ytiajgdpceedmlaa
