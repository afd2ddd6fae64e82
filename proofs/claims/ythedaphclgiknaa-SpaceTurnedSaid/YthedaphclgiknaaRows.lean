/-
  No cell of these rows narrows 'for every input' (looked for: loops, veiled, ifaces, maps, wideKeys, modest, calm, conditions, laid).
  DERIVED. THE GIVEN ROWS OF THIS SEAT. 3 by the template 'for every input the law returns true; each argument reads behind the call as it read before'; 0 by the template 'total and deterministic' (their statements: YthedaphclgiknaaTotals.lean).
  GIVEN WITH THE SEED: the statements are not yours to turn. If you find one false, say at which input.
  Laid BY PROGRAM, IN A SANDBOX (cutbox-rows.mjs): the forced cells as the released guide's own fill.sh prints them over the translation 1f1b2c29f092ddfc… (all of the seat's roots in one cut). By AI agents, Wed Nov 11 2026. No macro, syntax, notation, axiom, sorry.
-/
import Derived.Test.YthedaphclgiknaaChecked
import GoSem.Claim
import GoSem.ClaimJoined
import GoSem.ClaimMapViews
import Derived.JoinedTies
import Derived.KernelRfl
namespace Go.Proofs.Ythedaphclgiknaa
/- THE CELL 'sum', in the pinned program and in every row, IS THE sha256 OF THE DUMP (.gsa) THAT YthedaphclgiknaaProg.lean LOADS. Nothing in Lean hashes anything: it is a label: what it is worth is what the hold of that sum in a sandbox is worth. -/
noncomputable def Try.pinned : Pinned := { name := "ythedaphclgiknaa", sum := "1f1b2c29f092ddfc698a94f8fdc4b6a4659ba7648fed094d0e51aab570c016cb", checked := Try.checked }
namespace Rows
def none {H : Type} : Left H := { results := [], args := [] }

/-- 'headgatelaw16.SpaceRead': WHATEVER THE INPUT: true; the input reads as it did. -/
def spaceReadSpec : ChangeSpec := { name := "spaceRead", fn := fun _ => fun
  | [d1, d2] => { results := [.lit (.bool true)], args := [d1, d2] }
  | _ => none }
def spaceReadRow : OpenClaim := { program := "ythedaphclgiknaa", sum := "1f1b2c29f092ddfc698a94f8fdc4b6a4659ba7648fed094d0e51aab570c016cb", func := "headgate/headgatelaw16.SpaceRead", spec := "spaceRead", inPlace := ["internal/bytealg.IndexByteString", "internal/bytealg.IndexString", "internal/abi.NoEscape"], named := ["internal/bytealg.MaxLen"], apart := false }
def SpaceReadSaid : Prop := spaceReadRow.holds Try.pinned (OpenSpec.ofChange spaceReadSpec)

/-- ITS FALSE NEIGHBOUR: 'it returns false'. Refute it at one input. -/
def spaceReadWrong : ChangeSpec := { name := "spaceRead", fn := fun _ => fun
  | [d1, d2] => { results := [.lit (.bool false)], args := [d1, d2] }
  | _ => none }
def SpaceReadWrongFalsely : Prop := spaceReadRow.holds Try.pinned (OpenSpec.ofChange spaceReadWrong)

/-- 'headgatelaw16.SpaceChanges': WHATEVER THE INPUT: true; the input reads as it did. -/
def spaceChangesSpec : ChangeSpec := { name := "spaceChanges", fn := fun _ => fun
  | [d1, d2, d3] => { results := [.lit (.bool true)], args := [d1, d2, d3] }
  | _ => none }
def spaceChangesRow : OpenClaim := { program := "ythedaphclgiknaa", sum := "1f1b2c29f092ddfc698a94f8fdc4b6a4659ba7648fed094d0e51aab570c016cb", func := "headgate/headgatelaw16.SpaceChanges", spec := "spaceChanges", inPlace := ["internal/bytealg.IndexByteString", "internal/bytealg.IndexString", "internal/abi.NoEscape"], named := ["internal/bytealg.MaxLen"], apart := false }
def SpaceChangesSaid : Prop := spaceChangesRow.holds Try.pinned (OpenSpec.ofChange spaceChangesSpec)

/-- ITS FALSE NEIGHBOUR: 'it returns false'. Refute it at one input. -/
def spaceChangesWrong : ChangeSpec := { name := "spaceChanges", fn := fun _ => fun
  | [d1, d2, d3] => { results := [.lit (.bool false)], args := [d1, d2, d3] }
  | _ => none }
def SpaceChangesWrongFalsely : Prop := spaceChangesRow.holds Try.pinned (OpenSpec.ofChange spaceChangesWrong)

/-- 'headgatelaw16.SpaceTurned': WHATEVER THE INPUT: true; the input reads as it did. -/
def spaceTurnedSpec : ChangeSpec := { name := "spaceTurned", fn := fun _ => fun
  | [d1, d2] => { results := [.lit (.bool true)], args := [d1, d2] }
  | _ => none }
def spaceTurnedRow : OpenClaim := { program := "ythedaphclgiknaa", sum := "1f1b2c29f092ddfc698a94f8fdc4b6a4659ba7648fed094d0e51aab570c016cb", func := "headgate/headgatelaw16.SpaceTurned", spec := "spaceTurned", inPlace := ["internal/bytealg.IndexByteString", "internal/bytealg.IndexString", "internal/abi.NoEscape"], named := ["internal/bytealg.MaxLen"], apart := false }
def SpaceTurnedSaid : Prop := spaceTurnedRow.holds Try.pinned (OpenSpec.ofChange spaceTurnedSpec)

/-- ITS FALSE NEIGHBOUR: 'it returns false'. Refute it at one input. -/
def spaceTurnedWrong : ChangeSpec := { name := "spaceTurned", fn := fun _ => fun
  | [d1, d2] => { results := [.lit (.bool false)], args := [d1, d2] }
  | _ => none }
def SpaceTurnedWrongFalsely : Prop := spaceTurnedRow.holds Try.pinned (OpenSpec.ofChange spaceTurnedWrong)

/- THE SECOND FORM. 'bulk': how many values and letters a reading holds, each counted each time it is reached (what is shared counts as often as it is met; a slice's spare places count too). A statement '..UptoSaid' is the law's where the arguments, and the package variables that the reading takes, are together of bulk at most 1048576: NARROWER than '..Said'. Prove '..Said' where nothing that the law and all that it calls make is longer than what came in: it says more and counts as full. Else prove '..UptoSaid'. A law counts once. -/
mutual
def uptoBulk {H : Type} : DataW H → Nat
  | .lit (.string bytes) => bytes.length + 1
  | .lit _ => 1
  | .nil => 1
  | .ptr d => uptoBulk d + 1
  | .slice elems spare => uptoBulkAll elems + uptoBulkAll spare + 1
  | .agg parts => uptoBulkAll parts + 1
  | .iface _ d => uptoBulk d + 1
  | .map entries => uptoBulkEntries entries + 1
  | .held _ => 1
def uptoBulkAll {H : Type} : List (DataW H) → Nat
  | [] => 0
  | d :: r => uptoBulk d + uptoBulkAll r
def uptoBulkEntries {H : Type} : List (Lit × DataW H) → Nat
  | [] => 0
  | x :: r => uptoBulkEntry x + uptoBulkEntries r
def uptoBulkEntry {H : Type} : Lit × DataW H → Nat
  | (.string bytes, d) => bytes.length + uptoBulk d + 1
  | (_, d) => uptoBulk d + 1
 end
def uptoSmall : (H : Type) → List (DataW H) → Bool := fun _ ds => decide (uptoBulkAll ds ≤ 1048576)
def OpenSpec.upto (s : _root_.Go.ChangeSpec) : _root_.Go.OpenSpec := { _root_.Go.OpenSpec.ofChange s with cond := some uptoSmall }

/-- 'headgatelaw16.SpaceRead', WHERE WHAT IT READS IS OF BULK AT MOST 1048576: true; the input reads as it did. -/
def spaceReadUptoRow : OpenClaim := { program := "ythedaphclgiknaa", sum := "1f1b2c29f092ddfc698a94f8fdc4b6a4659ba7648fed094d0e51aab570c016cb", func := "headgate/headgatelaw16.SpaceRead", spec := "spaceRead", inPlace := ["internal/bytealg.IndexByteString", "internal/bytealg.IndexString", "internal/abi.NoEscape"], named := ["internal/bytealg.MaxLen"], apart := false, narrowed := true }
def SpaceReadUptoSaid : Prop := spaceReadUptoRow.holds Try.pinned (OpenSpec.upto spaceReadSpec)

/-- 'headgatelaw16.SpaceChanges', WHERE WHAT IT READS IS OF BULK AT MOST 1048576: true; the input reads as it did. -/
def spaceChangesUptoRow : OpenClaim := { program := "ythedaphclgiknaa", sum := "1f1b2c29f092ddfc698a94f8fdc4b6a4659ba7648fed094d0e51aab570c016cb", func := "headgate/headgatelaw16.SpaceChanges", spec := "spaceChanges", inPlace := ["internal/bytealg.IndexByteString", "internal/bytealg.IndexString", "internal/abi.NoEscape"], named := ["internal/bytealg.MaxLen"], apart := false, narrowed := true }
def SpaceChangesUptoSaid : Prop := spaceChangesUptoRow.holds Try.pinned (OpenSpec.upto spaceChangesSpec)

/-- 'headgatelaw16.SpaceTurned', WHERE WHAT IT READS IS OF BULK AT MOST 1048576: true; the input reads as it did. -/
def spaceTurnedUptoRow : OpenClaim := { program := "ythedaphclgiknaa", sum := "1f1b2c29f092ddfc698a94f8fdc4b6a4659ba7648fed094d0e51aab570c016cb", func := "headgate/headgatelaw16.SpaceTurned", spec := "spaceTurned", inPlace := ["internal/bytealg.IndexByteString", "internal/bytealg.IndexString", "internal/abi.NoEscape"], named := ["internal/bytealg.MaxLen"], apart := false, narrowed := true }
def SpaceTurnedUptoSaid : Prop := spaceTurnedUptoRow.holds Try.pinned (OpenSpec.upto spaceTurnedSpec)

end Rows
end Go.Proofs.Ythedaphclgiknaa
