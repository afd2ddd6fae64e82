/-
  No cell of these rows narrows 'for every input' (looked for: loops, veiled, ifaces, maps, wideKeys, modest, calm, conditions, laid).
  DERIVED. THE GIVEN ROWS OF THIS SEAT. 6 by the template 'for every input the law returns true; each argument reads behind the call as it read before'; 0 by the template 'total and deterministic' (their statements: YtglhhcgoppmipaaTotals.lean).
  GIVEN WITH THE SEED: the statements are not yours to turn. If you find one false, say at which input.
  Laid BY PROGRAM, IN A SANDBOX (cutbox-rows.mjs): the forced cells as the released guide's own fill.sh prints them over the translation 3f3f780b117a08e4… (all of the seat's roots in one cut). By AI agents, Wed Nov 11 2026. No macro, syntax, notation, axiom, sorry.
-/
import Derived.Test.YtglhhcgoppmipaaChecked
import GoSem.Claim
import GoSem.ClaimJoined
import GoSem.ClaimMapViews
import Derived.JoinedTies
import Derived.KernelRfl
namespace Go.Proofs.Ytglhhcgoppmipaa
/- THE CELL 'sum', in the pinned program and in every row, IS THE sha256 OF THE DUMP (.gsa) THAT YtglhhcgoppmipaaProg.lean LOADS. Nothing in Lean hashes anything: it is a label: what it is worth is what the hold of that sum in a sandbox is worth. -/
noncomputable def Try.pinned : Pinned := { name := "ytglhhcgoppmipaa", sum := "3f3f780b117a08e4a4d92042f1079e8ab9c08cc9c251b21cb01c32749fe18d85", checked := Try.checked }
namespace Rows
def none {H : Type} : Left H := { results := [], args := [] }

/-- 'headgatelaw08.ClassSets': WHATEVER THE INPUT: true; the input reads as it did. -/
def classSetsSpec : ChangeSpec := { name := "classSets", fn := fun _ => fun
  | [d1, d2, d3] => { results := [.lit (.bool true)], args := [d1, d2, d3] }
  | _ => none }
def classSetsRow : OpenClaim := { program := "ytglhhcgoppmipaa", sum := "3f3f780b117a08e4a4d92042f1079e8ab9c08cc9c251b21cb01c32749fe18d85", func := "headgate/headgatelaw08.ClassSets", spec := "classSets", inPlace := ["internal/bytealg.IndexByteString", "internal/bytealg.IndexString"], named := ["internal/bytealg.MaxLen"], apart := false }
def ClassSetsSaid : Prop := classSetsRow.holds Try.pinned (OpenSpec.ofChange classSetsSpec)

/-- ITS FALSE NEIGHBOUR: 'it returns false'. Refute it at one input. -/
def classSetsWrong : ChangeSpec := { name := "classSets", fn := fun _ => fun
  | [d1, d2, d3] => { results := [.lit (.bool false)], args := [d1, d2, d3] }
  | _ => none }
def ClassSetsWrongFalsely : Prop := classSetsRow.holds Try.pinned (OpenSpec.ofChange classSetsWrong)

/-- 'headgatelaw08.ClassNames': WHATEVER THE INPUT: true; the input reads as it did. -/
def classNamesSpec : ChangeSpec := { name := "classNames", fn := fun _ => fun
  | [d] => { results := [.lit (.bool true)], args := [d] }
  | _ => none }
def classNamesRow : OpenClaim := { program := "ytglhhcgoppmipaa", sum := "3f3f780b117a08e4a4d92042f1079e8ab9c08cc9c251b21cb01c32749fe18d85", func := "headgate/headgatelaw08.ClassNames", spec := "classNames", inPlace := ["internal/bytealg.IndexByteString", "internal/bytealg.IndexString"], named := ["internal/bytealg.MaxLen"], apart := false }
def ClassNamesSaid : Prop := classNamesRow.holds Try.pinned (OpenSpec.ofChange classNamesSpec)

/-- ITS FALSE NEIGHBOUR: 'it returns false'. Refute it at one input. -/
def classNamesWrong : ChangeSpec := { name := "classNames", fn := fun _ => fun
  | [d] => { results := [.lit (.bool false)], args := [d] }
  | _ => none }
def ClassNamesWrongFalsely : Prop := classNamesRow.holds Try.pinned (OpenSpec.ofChange classNamesWrong)

/-- 'headgatelaw08.ClassTurned': WHATEVER THE INPUT: true; the input reads as it did. -/
def classTurnedSpec : ChangeSpec := { name := "classTurned", fn := fun _ => fun
  | [d1, d2] => { results := [.lit (.bool true)], args := [d1, d2] }
  | _ => none }
def classTurnedRow : OpenClaim := { program := "ytglhhcgoppmipaa", sum := "3f3f780b117a08e4a4d92042f1079e8ab9c08cc9c251b21cb01c32749fe18d85", func := "headgate/headgatelaw08.ClassTurned", spec := "classTurned", inPlace := ["internal/bytealg.IndexByteString", "internal/bytealg.IndexString"], named := ["internal/bytealg.MaxLen"], apart := false }
def ClassTurnedSaid : Prop := classTurnedRow.holds Try.pinned (OpenSpec.ofChange classTurnedSpec)

/-- ITS FALSE NEIGHBOUR: 'it returns false'. Refute it at one input. -/
def classTurnedWrong : ChangeSpec := { name := "classTurned", fn := fun _ => fun
  | [d1, d2] => { results := [.lit (.bool false)], args := [d1, d2] }
  | _ => none }
def ClassTurnedWrongFalsely : Prop := classTurnedRow.holds Try.pinned (OpenSpec.ofChange classTurnedWrong)

/-- 'headgatelaw08.ClassWith': WHATEVER THE INPUT: true; the input reads as it did. -/
def classWithSpec : ChangeSpec := { name := "classWith", fn := fun _ => fun
  | [d1, d2, d3] => { results := [.lit (.bool true)], args := [d1, d2, d3] }
  | _ => none }
def classWithRow : OpenClaim := { program := "ytglhhcgoppmipaa", sum := "3f3f780b117a08e4a4d92042f1079e8ab9c08cc9c251b21cb01c32749fe18d85", func := "headgate/headgatelaw08.ClassWith", spec := "classWith", inPlace := ["internal/bytealg.IndexByteString", "internal/bytealg.IndexString"], named := ["internal/bytealg.MaxLen"], apart := false }
def ClassWithSaid : Prop := classWithRow.holds Try.pinned (OpenSpec.ofChange classWithSpec)

/-- ITS FALSE NEIGHBOUR: 'it returns false'. Refute it at one input. -/
def classWithWrong : ChangeSpec := { name := "classWith", fn := fun _ => fun
  | [d1, d2, d3] => { results := [.lit (.bool false)], args := [d1, d2, d3] }
  | _ => none }
def ClassWithWrongFalsely : Prop := classWithRow.holds Try.pinned (OpenSpec.ofChange classWithWrong)

/-- 'headgatelaw08.ClassRanges': WHATEVER THE INPUT: true; the input reads as it did. -/
def classRangesSpec : ChangeSpec := { name := "classRanges", fn := fun _ => fun
  | [d1, d2, d3] => { results := [.lit (.bool true)], args := [d1, d2, d3] }
  | _ => none }
def classRangesRow : OpenClaim := { program := "ytglhhcgoppmipaa", sum := "3f3f780b117a08e4a4d92042f1079e8ab9c08cc9c251b21cb01c32749fe18d85", func := "headgate/headgatelaw08.ClassRanges", spec := "classRanges", inPlace := ["internal/bytealg.IndexByteString", "internal/bytealg.IndexString"], named := ["internal/bytealg.MaxLen"], apart := false }
def ClassRangesSaid : Prop := classRangesRow.holds Try.pinned (OpenSpec.ofChange classRangesSpec)

/-- ITS FALSE NEIGHBOUR: 'it returns false'. Refute it at one input. -/
def classRangesWrong : ChangeSpec := { name := "classRanges", fn := fun _ => fun
  | [d1, d2, d3] => { results := [.lit (.bool false)], args := [d1, d2, d3] }
  | _ => none }
def ClassRangesWrongFalsely : Prop := classRangesRow.holds Try.pinned (OpenSpec.ofChange classRangesWrong)

/-- 'headgatelaw08.ClassInside': WHATEVER THE INPUT: true; the input reads as it did. -/
def classInsideSpec : ChangeSpec := { name := "classInside", fn := fun _ => fun
  | [d1, d2, d3] => { results := [.lit (.bool true)], args := [d1, d2, d3] }
  | _ => none }
def classInsideRow : OpenClaim := { program := "ytglhhcgoppmipaa", sum := "3f3f780b117a08e4a4d92042f1079e8ab9c08cc9c251b21cb01c32749fe18d85", func := "headgate/headgatelaw08.ClassInside", spec := "classInside", inPlace := ["internal/bytealg.IndexByteString", "internal/bytealg.IndexString"], named := ["internal/bytealg.MaxLen"], apart := false }
def ClassInsideSaid : Prop := classInsideRow.holds Try.pinned (OpenSpec.ofChange classInsideSpec)

/-- ITS FALSE NEIGHBOUR: 'it returns false'. Refute it at one input. -/
def classInsideWrong : ChangeSpec := { name := "classInside", fn := fun _ => fun
  | [d1, d2, d3] => { results := [.lit (.bool false)], args := [d1, d2, d3] }
  | _ => none }
def ClassInsideWrongFalsely : Prop := classInsideRow.holds Try.pinned (OpenSpec.ofChange classInsideWrong)

/- THE SECOND FORM. 'bulk': how many values and letters a reading holds, each counted each time it is reached (what is shared counts as often as it is met; a slice's spare places count too). A statement '..UptoSaid' is the law's where the arguments, and the package variables that the reading takes, are together of bulk at most 1048576: NARROWER than '..Said'. Prove '..Said' where nothing that the law and all that it calls make is longer than what came in: it says more and counts as full. Else prove '..UptoSaid'. A law counts once. -/
mutual
def uptoBulk {H : Type} : DataW H → Nat
  | .lit (.string bytes) => bytes.length + 1
  | .lit _ => 1
  | .nil => 1
  | .ptr d => uptoBulk d + 1
  | .slice elems spare => uptoBulkAll elems + uptoBulkAll spare + 1
  | .agg parts => uptoBulkAll parts + 1
  | .iface _ d => uptoBulk d + 1
  | .map entries => uptoBulkEntries entries + 1
  | .held _ => 1
def uptoBulkAll {H : Type} : List (DataW H) → Nat
  | [] => 0
  | d :: r => uptoBulk d + uptoBulkAll r
def uptoBulkEntries {H : Type} : List (Lit × DataW H) → Nat
  | [] => 0
  | x :: r => uptoBulkEntry x + uptoBulkEntries r
def uptoBulkEntry {H : Type} : Lit × DataW H → Nat
  | (.string bytes, d) => bytes.length + uptoBulk d + 1
  | (_, d) => uptoBulk d + 1
 end
def uptoSmall : (H : Type) → List (DataW H) → Bool := fun _ ds => decide (uptoBulkAll ds ≤ 1048576)
def OpenSpec.upto (s : _root_.Go.ChangeSpec) : _root_.Go.OpenSpec := { _root_.Go.OpenSpec.ofChange s with cond := some uptoSmall }

/-- 'headgatelaw08.ClassSets', WHERE WHAT IT READS IS OF BULK AT MOST 1048576: true; the input reads as it did. -/
def classSetsUptoRow : OpenClaim := { program := "ytglhhcgoppmipaa", sum := "3f3f780b117a08e4a4d92042f1079e8ab9c08cc9c251b21cb01c32749fe18d85", func := "headgate/headgatelaw08.ClassSets", spec := "classSets", inPlace := ["internal/bytealg.IndexByteString", "internal/bytealg.IndexString"], named := ["internal/bytealg.MaxLen"], apart := false, narrowed := true }
def ClassSetsUptoSaid : Prop := classSetsUptoRow.holds Try.pinned (OpenSpec.upto classSetsSpec)

/-- 'headgatelaw08.ClassNames', WHERE WHAT IT READS IS OF BULK AT MOST 1048576: true; the input reads as it did. -/
def classNamesUptoRow : OpenClaim := { program := "ytglhhcgoppmipaa", sum := "3f3f780b117a08e4a4d92042f1079e8ab9c08cc9c251b21cb01c32749fe18d85", func := "headgate/headgatelaw08.ClassNames", spec := "classNames", inPlace := ["internal/bytealg.IndexByteString", "internal/bytealg.IndexString"], named := ["internal/bytealg.MaxLen"], apart := false, narrowed := true }
def ClassNamesUptoSaid : Prop := classNamesUptoRow.holds Try.pinned (OpenSpec.upto classNamesSpec)

/-- 'headgatelaw08.ClassTurned', WHERE WHAT IT READS IS OF BULK AT MOST 1048576: true; the input reads as it did. -/
def classTurnedUptoRow : OpenClaim := { program := "ytglhhcgoppmipaa", sum := "3f3f780b117a08e4a4d92042f1079e8ab9c08cc9c251b21cb01c32749fe18d85", func := "headgate/headgatelaw08.ClassTurned", spec := "classTurned", inPlace := ["internal/bytealg.IndexByteString", "internal/bytealg.IndexString"], named := ["internal/bytealg.MaxLen"], apart := false, narrowed := true }
def ClassTurnedUptoSaid : Prop := classTurnedUptoRow.holds Try.pinned (OpenSpec.upto classTurnedSpec)

/-- 'headgatelaw08.ClassWith', WHERE WHAT IT READS IS OF BULK AT MOST 1048576: true; the input reads as it did. -/
def classWithUptoRow : OpenClaim := { program := "ytglhhcgoppmipaa", sum := "3f3f780b117a08e4a4d92042f1079e8ab9c08cc9c251b21cb01c32749fe18d85", func := "headgate/headgatelaw08.ClassWith", spec := "classWith", inPlace := ["internal/bytealg.IndexByteString", "internal/bytealg.IndexString"], named := ["internal/bytealg.MaxLen"], apart := false, narrowed := true }
def ClassWithUptoSaid : Prop := classWithUptoRow.holds Try.pinned (OpenSpec.upto classWithSpec)

/-- 'headgatelaw08.ClassRanges', WHERE WHAT IT READS IS OF BULK AT MOST 1048576: true; the input reads as it did. -/
def classRangesUptoRow : OpenClaim := { program := "ytglhhcgoppmipaa", sum := "3f3f780b117a08e4a4d92042f1079e8ab9c08cc9c251b21cb01c32749fe18d85", func := "headgate/headgatelaw08.ClassRanges", spec := "classRanges", inPlace := ["internal/bytealg.IndexByteString", "internal/bytealg.IndexString"], named := ["internal/bytealg.MaxLen"], apart := false, narrowed := true }
def ClassRangesUptoSaid : Prop := classRangesUptoRow.holds Try.pinned (OpenSpec.upto classRangesSpec)

/-- 'headgatelaw08.ClassInside', WHERE WHAT IT READS IS OF BULK AT MOST 1048576: true; the input reads as it did. -/
def classInsideUptoRow : OpenClaim := { program := "ytglhhcgoppmipaa", sum := "3f3f780b117a08e4a4d92042f1079e8ab9c08cc9c251b21cb01c32749fe18d85", func := "headgate/headgatelaw08.ClassInside", spec := "classInside", inPlace := ["internal/bytealg.IndexByteString", "internal/bytealg.IndexString"], named := ["internal/bytealg.MaxLen"], apart := false, narrowed := true }
def ClassInsideUptoSaid : Prop := classInsideUptoRow.holds Try.pinned (OpenSpec.upto classInsideSpec)

end Rows
end Go.Proofs.Ytglhhcgoppmipaa
