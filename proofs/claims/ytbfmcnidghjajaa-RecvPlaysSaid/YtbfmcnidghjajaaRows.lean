/-
  No cell of these rows narrows 'for every input' (looked for: loops, veiled, ifaces, maps, wideKeys, modest, calm, conditions, laid).
  DERIVED. THE GIVEN ROWS OF THIS SEAT. 6 by the template 'for every input the law returns true; each argument reads behind the call as it read before'; 0 by the template 'total and deterministic' (their statements: YtbfmcnidghjajaaTotals.lean).
  GIVEN WITH THE SEED: the statements are not yours to turn. If you find one false, say at which input.
  Laid BY PROGRAM, IN A SANDBOX (cutbox-rows.mjs): the forced cells as the released guide's own fill.sh prints them over the translation f42c802e17632a19… (all of the seat's roots in one cut). By AI agents, Wed Nov 11 2026. No macro, syntax, notation, axiom, sorry.
-/
import Derived.Test.YtbfmcnidghjajaaChecked
import GoSem.Claim
import GoSem.ClaimJoined
import GoSem.ClaimMapViews
import Derived.JoinedTies
import Derived.KernelRfl
namespace Go.Proofs.Ytbfmcnidghjajaa
/- THE CELL 'sum', in the pinned program and in every row, IS THE sha256 OF THE DUMP (.gsa) THAT YtbfmcnidghjajaaProg.lean LOADS. Nothing in Lean hashes anything: it is a label: what it is worth is what the hold of that sum in a sandbox is worth. -/
noncomputable def Try.pinned : Pinned := { name := "ytbfmcnidghjajaa", sum := "f42c802e17632a1934df4c7c2009f9b0ba0c32b0dd40f4e804a360fc6e590163", checked := Try.checked }
namespace Rows
def none {H : Type} : Left H := { results := [], args := [] }

/-- 'louverlaw11.RecvPlays': WHATEVER THE INPUT: true; the input reads as it did. -/
def recvPlaysSpec : ChangeSpec := { name := "recvPlays", fn := fun _ => fun
  | [d] => { results := [.lit (.bool true)], args := [d] }
  | _ => none }
def recvPlaysRow : OpenClaim := { program := "ytbfmcnidghjajaa", sum := "f42c802e17632a1934df4c7c2009f9b0ba0c32b0dd40f4e804a360fc6e590163", func := "louver/louverlaw11.RecvPlays", spec := "recvPlays", unfollowed := true, recurses := true, apart := false }
def RecvPlaysSaid : Prop := recvPlaysRow.holds Try.pinned (OpenSpec.ofChange recvPlaysSpec)

/-- ITS FALSE NEIGHBOUR: 'it returns false'. Refute it at one input. -/
def recvPlaysWrong : ChangeSpec := { name := "recvPlays", fn := fun _ => fun
  | [d] => { results := [.lit (.bool false)], args := [d] }
  | _ => none }
def RecvPlaysWrongFalsely : Prop := recvPlaysRow.holds Try.pinned (OpenSpec.ofChange recvPlaysWrong)

/-- 'louverlaw11.RecvOnce': WHATEVER THE INPUT: true; the input reads as it did. -/
def recvOnceSpec : ChangeSpec := { name := "recvOnce", fn := fun _ => fun
  | [d] => { results := [.lit (.bool true)], args := [d] }
  | _ => none }
def recvOnceRow : OpenClaim := { program := "ytbfmcnidghjajaa", sum := "f42c802e17632a1934df4c7c2009f9b0ba0c32b0dd40f4e804a360fc6e590163", func := "louver/louverlaw11.RecvOnce", spec := "recvOnce", unfollowed := true, recurses := true, apart := false }
def RecvOnceSaid : Prop := recvOnceRow.holds Try.pinned (OpenSpec.ofChange recvOnceSpec)

/-- ITS FALSE NEIGHBOUR: 'it returns false'. Refute it at one input. -/
def recvOnceWrong : ChangeSpec := { name := "recvOnce", fn := fun _ => fun
  | [d] => { results := [.lit (.bool false)], args := [d] }
  | _ => none }
def RecvOnceWrongFalsely : Prop := recvOnceRow.holds Try.pinned (OpenSpec.ofChange recvOnceWrong)

/-- 'louverlaw11.RecvOrder': WHATEVER THE INPUT: true; the input reads as it did. -/
def recvOrderSpec : ChangeSpec := { name := "recvOrder", fn := fun _ => fun
  | [d1, d2] => { results := [.lit (.bool true)], args := [d1, d2] }
  | _ => none }
def recvOrderRow : OpenClaim := { program := "ytbfmcnidghjajaa", sum := "f42c802e17632a1934df4c7c2009f9b0ba0c32b0dd40f4e804a360fc6e590163", func := "louver/louverlaw11.RecvOrder", spec := "recvOrder", unfollowed := true, recurses := true, apart := false }
def RecvOrderSaid : Prop := recvOrderRow.holds Try.pinned (OpenSpec.ofChange recvOrderSpec)

/-- ITS FALSE NEIGHBOUR: 'it returns false'. Refute it at one input. -/
def recvOrderWrong : ChangeSpec := { name := "recvOrder", fn := fun _ => fun
  | [d1, d2] => { results := [.lit (.bool false)], args := [d1, d2] }
  | _ => none }
def RecvOrderWrongFalsely : Prop := recvOrderRow.holds Try.pinned (OpenSpec.ofChange recvOrderWrong)

/-- 'louverlaw11.RecvMisses': WHATEVER THE INPUT: true; the input reads as it did. -/
def recvMissesSpec : ChangeSpec := { name := "recvMisses", fn := fun _ => fun
  | [d1, d2] => { results := [.lit (.bool true)], args := [d1, d2] }
  | _ => none }
def recvMissesRow : OpenClaim := { program := "ytbfmcnidghjajaa", sum := "f42c802e17632a1934df4c7c2009f9b0ba0c32b0dd40f4e804a360fc6e590163", func := "louver/louverlaw11.RecvMisses", spec := "recvMisses", unfollowed := true, recurses := true, apart := false }
def RecvMissesSaid : Prop := recvMissesRow.holds Try.pinned (OpenSpec.ofChange recvMissesSpec)

/-- ITS FALSE NEIGHBOUR: 'it returns false'. Refute it at one input. -/
def recvMissesWrong : ChangeSpec := { name := "recvMisses", fn := fun _ => fun
  | [d1, d2] => { results := [.lit (.bool false)], args := [d1, d2] }
  | _ => none }
def RecvMissesWrongFalsely : Prop := recvMissesRow.holds Try.pinned (OpenSpec.ofChange recvMissesWrong)

/-- 'louverlaw11.RecvSums': WHATEVER THE INPUT: true; the input reads as it did. -/
def recvSumsSpec : ChangeSpec := { name := "recvSums", fn := fun _ => fun
  | [d] => { results := [.lit (.bool true)], args := [d] }
  | _ => none }
def recvSumsRow : OpenClaim := { program := "ytbfmcnidghjajaa", sum := "f42c802e17632a1934df4c7c2009f9b0ba0c32b0dd40f4e804a360fc6e590163", func := "louver/louverlaw11.RecvSums", spec := "recvSums", unfollowed := true, recurses := true, apart := false }
def RecvSumsSaid : Prop := recvSumsRow.holds Try.pinned (OpenSpec.ofChange recvSumsSpec)

/-- ITS FALSE NEIGHBOUR: 'it returns false'. Refute it at one input. -/
def recvSumsWrong : ChangeSpec := { name := "recvSums", fn := fun _ => fun
  | [d] => { results := [.lit (.bool false)], args := [d] }
  | _ => none }
def RecvSumsWrongFalsely : Prop := recvSumsRow.holds Try.pinned (OpenSpec.ofChange recvSumsWrong)

/-- 'louverlaw11.RecvFar': WHATEVER THE INPUT: true; the input reads as it did. -/
def recvFarSpec : ChangeSpec := { name := "recvFar", fn := fun _ => fun
  | [d1, d2] => { results := [.lit (.bool true)], args := [d1, d2] }
  | _ => none }
def recvFarRow : OpenClaim := { program := "ytbfmcnidghjajaa", sum := "f42c802e17632a1934df4c7c2009f9b0ba0c32b0dd40f4e804a360fc6e590163", func := "louver/louverlaw11.RecvFar", spec := "recvFar", unfollowed := true, recurses := true, apart := false }
def RecvFarSaid : Prop := recvFarRow.holds Try.pinned (OpenSpec.ofChange recvFarSpec)

/-- ITS FALSE NEIGHBOUR: 'it returns false'. Refute it at one input. -/
def recvFarWrong : ChangeSpec := { name := "recvFar", fn := fun _ => fun
  | [d1, d2] => { results := [.lit (.bool false)], args := [d1, d2] }
  | _ => none }
def RecvFarWrongFalsely : Prop := recvFarRow.holds Try.pinned (OpenSpec.ofChange recvFarWrong)

/- THE SECOND FORM. 'bulk': how many values and letters a reading holds, each counted each time it is reached (what is shared counts as often as it is met; a slice's spare places count too). A statement '..UptoSaid' is the law's where the arguments, and the package variables that the reading takes, are together of bulk at most 1048576: NARROWER than '..Said'. Prove '..Said' where nothing that the law and all that it calls make is longer than what came in: it says more and counts as full. Else prove '..UptoSaid'. A law counts once. -/
mutual
def uptoBulk {H : Type} : DataW H → Nat
  | .lit (.string bytes) => bytes.length + 1
  | .lit _ => 1
  | .nil => 1
  | .ptr d => uptoBulk d + 1
  | .slice elems spare => uptoBulkAll elems + uptoBulkAll spare + 1
  | .agg parts => uptoBulkAll parts + 1
  | .iface _ d => uptoBulk d + 1
  | .map entries => uptoBulkEntries entries + 1
  | .held _ => 1
def uptoBulkAll {H : Type} : List (DataW H) → Nat
  | [] => 0
  | d :: r => uptoBulk d + uptoBulkAll r
def uptoBulkEntries {H : Type} : List (Lit × DataW H) → Nat
  | [] => 0
  | x :: r => uptoBulkEntry x + uptoBulkEntries r
def uptoBulkEntry {H : Type} : Lit × DataW H → Nat
  | (.string bytes, d) => bytes.length + uptoBulk d + 1
  | (_, d) => uptoBulk d + 1
 end
def uptoSmall : (H : Type) → List (DataW H) → Bool := fun _ ds => decide (uptoBulkAll ds ≤ 1048576)
def OpenSpec.upto (s : _root_.Go.ChangeSpec) : _root_.Go.OpenSpec := { _root_.Go.OpenSpec.ofChange s with cond := some uptoSmall }

/-- 'louverlaw11.RecvPlays', WHERE WHAT IT READS IS OF BULK AT MOST 1048576: true; the input reads as it did. -/
def recvPlaysUptoRow : OpenClaim := { program := "ytbfmcnidghjajaa", sum := "f42c802e17632a1934df4c7c2009f9b0ba0c32b0dd40f4e804a360fc6e590163", func := "louver/louverlaw11.RecvPlays", spec := "recvPlays", unfollowed := true, recurses := true, apart := false, narrowed := true }
def RecvPlaysUptoSaid : Prop := recvPlaysUptoRow.holds Try.pinned (OpenSpec.upto recvPlaysSpec)

/-- 'louverlaw11.RecvOnce', WHERE WHAT IT READS IS OF BULK AT MOST 1048576: true; the input reads as it did. -/
def recvOnceUptoRow : OpenClaim := { program := "ytbfmcnidghjajaa", sum := "f42c802e17632a1934df4c7c2009f9b0ba0c32b0dd40f4e804a360fc6e590163", func := "louver/louverlaw11.RecvOnce", spec := "recvOnce", unfollowed := true, recurses := true, apart := false, narrowed := true }
def RecvOnceUptoSaid : Prop := recvOnceUptoRow.holds Try.pinned (OpenSpec.upto recvOnceSpec)

/-- 'louverlaw11.RecvOrder', WHERE WHAT IT READS IS OF BULK AT MOST 1048576: true; the input reads as it did. -/
def recvOrderUptoRow : OpenClaim := { program := "ytbfmcnidghjajaa", sum := "f42c802e17632a1934df4c7c2009f9b0ba0c32b0dd40f4e804a360fc6e590163", func := "louver/louverlaw11.RecvOrder", spec := "recvOrder", unfollowed := true, recurses := true, apart := false, narrowed := true }
def RecvOrderUptoSaid : Prop := recvOrderUptoRow.holds Try.pinned (OpenSpec.upto recvOrderSpec)

/-- 'louverlaw11.RecvMisses', WHERE WHAT IT READS IS OF BULK AT MOST 1048576: true; the input reads as it did. -/
def recvMissesUptoRow : OpenClaim := { program := "ytbfmcnidghjajaa", sum := "f42c802e17632a1934df4c7c2009f9b0ba0c32b0dd40f4e804a360fc6e590163", func := "louver/louverlaw11.RecvMisses", spec := "recvMisses", unfollowed := true, recurses := true, apart := false, narrowed := true }
def RecvMissesUptoSaid : Prop := recvMissesUptoRow.holds Try.pinned (OpenSpec.upto recvMissesSpec)

/-- 'louverlaw11.RecvSums', WHERE WHAT IT READS IS OF BULK AT MOST 1048576: true; the input reads as it did. -/
def recvSumsUptoRow : OpenClaim := { program := "ytbfmcnidghjajaa", sum := "f42c802e17632a1934df4c7c2009f9b0ba0c32b0dd40f4e804a360fc6e590163", func := "louver/louverlaw11.RecvSums", spec := "recvSums", unfollowed := true, recurses := true, apart := false, narrowed := true }
def RecvSumsUptoSaid : Prop := recvSumsUptoRow.holds Try.pinned (OpenSpec.upto recvSumsSpec)

/-- 'louverlaw11.RecvFar', WHERE WHAT IT READS IS OF BULK AT MOST 1048576: true; the input reads as it did. -/
def recvFarUptoRow : OpenClaim := { program := "ytbfmcnidghjajaa", sum := "f42c802e17632a1934df4c7c2009f9b0ba0c32b0dd40f4e804a360fc6e590163", func := "louver/louverlaw11.RecvFar", spec := "recvFar", unfollowed := true, recurses := true, apart := false, narrowed := true }
def RecvFarUptoSaid : Prop := recvFarUptoRow.holds Try.pinned (OpenSpec.upto recvFarSpec)

end Rows
end Go.Proofs.Ytbfmcnidghjajaa
