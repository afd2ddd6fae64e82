/-
  No cell of these rows narrows 'for every input' (looked for: loops, veiled, ifaces, maps, wideKeys, modest, calm, conditions, laid).
  DERIVED. THE GIVEN ROWS OF THIS SEAT. 10 by the template 'for every input the law returns true; each argument reads behind the call as it read before'; 0 by the template 'total and deterministic' (their statements: YtmchfjieafffbaaTotals.lean).
  GIVEN WITH THE SEED: the statements are not yours to turn. If you find one false, say at which input.
  Laid BY PROGRAM, IN A SANDBOX (cutbox-rows.mjs): the forced cells as the released guide's own fill.sh prints them over the translation bc329b2ada12ab4f… (all of the seat's roots in one cut). By AI agents, Wed Nov 11 2026. No macro, syntax, notation, axiom, sorry.
-/
import Derived.Test.YtmchfjieafffbaaChecked
import GoSem.Claim
import GoSem.ClaimJoined
import GoSem.ClaimMapViews
import Derived.JoinedTies
import Derived.KernelRfl
namespace Go.Proofs.Ytmchfjieafffbaa
/- THE CELL 'sum', in the pinned program and in every row, IS THE sha256 OF THE DUMP (.gsa) THAT YtmchfjieafffbaaProg.lean LOADS. Nothing in Lean hashes anything: it is a label: what it is worth is what the hold of that sum in a sandbox is worth. -/
noncomputable def Try.pinned : Pinned := { name := "ytmchfjieafffbaa", sum := "bc329b2ada12ab4fc4856f6c00f5ef2e21324f10c2def565f005f051a108a4d2", checked := Try.checked }
namespace Rows
def none {H : Type} : Left H := { results := [], args := [] }

/-- 'headgatelaw03.FletcherSums': WHATEVER THE INPUT: true; the input reads as it did. -/
def fletcherSumsSpec : ChangeSpec := { name := "fletcherSums", fn := fun _ => fun
  | [d1, d2] => { results := [.lit (.bool true)], args := [d1, d2] }
  | _ => none }
def fletcherSumsRow : OpenClaim := { program := "ytmchfjieafffbaa", sum := "bc329b2ada12ab4fc4856f6c00f5ef2e21324f10c2def565f005f051a108a4d2", func := "headgate/headgatelaw03.FletcherSums", spec := "fletcherSums", apart := false }
def FletcherSumsSaid : Prop := fletcherSumsRow.holds Try.pinned (OpenSpec.ofChange fletcherSumsSpec)

/-- ITS FALSE NEIGHBOUR: 'it returns false'. Refute it at one input. -/
def fletcherSumsWrong : ChangeSpec := { name := "fletcherSums", fn := fun _ => fun
  | [d1, d2] => { results := [.lit (.bool false)], args := [d1, d2] }
  | _ => none }
def FletcherSumsWrongFalsely : Prop := fletcherSumsRow.holds Try.pinned (OpenSpec.ofChange fletcherSumsWrong)

/-- 'headgatelaw03.FletcherPieces': WHATEVER THE INPUT: true; the input reads as it did. -/
def fletcherPiecesSpec : ChangeSpec := { name := "fletcherPieces", fn := fun _ => fun
  | [d1, d2, d3] => { results := [.lit (.bool true)], args := [d1, d2, d3] }
  | _ => none }
def fletcherPiecesRow : OpenClaim := { program := "ytmchfjieafffbaa", sum := "bc329b2ada12ab4fc4856f6c00f5ef2e21324f10c2def565f005f051a108a4d2", func := "headgate/headgatelaw03.FletcherPieces", spec := "fletcherPieces", apart := false }
def FletcherPiecesSaid : Prop := fletcherPiecesRow.holds Try.pinned (OpenSpec.ofChange fletcherPiecesSpec)

/-- ITS FALSE NEIGHBOUR: 'it returns false'. Refute it at one input. -/
def fletcherPiecesWrong : ChangeSpec := { name := "fletcherPieces", fn := fun _ => fun
  | [d1, d2, d3] => { results := [.lit (.bool false)], args := [d1, d2, d3] }
  | _ => none }
def FletcherPiecesWrongFalsely : Prop := fletcherPiecesRow.holds Try.pinned (OpenSpec.ofChange fletcherPiecesWrong)

/-- 'headgatelaw03.FletcherOne': WHATEVER THE INPUT: true; the input reads as it did. -/
def fletcherOneSpec : ChangeSpec := { name := "fletcherOne", fn := fun _ => fun
  | [d1, d2, d3] => { results := [.lit (.bool true)], args := [d1, d2, d3] }
  | _ => none }
def fletcherOneRow : OpenClaim := { program := "ytmchfjieafffbaa", sum := "bc329b2ada12ab4fc4856f6c00f5ef2e21324f10c2def565f005f051a108a4d2", func := "headgate/headgatelaw03.FletcherOne", spec := "fletcherOne", apart := false }
def FletcherOneSaid : Prop := fletcherOneRow.holds Try.pinned (OpenSpec.ofChange fletcherOneSpec)

/-- ITS FALSE NEIGHBOUR: 'it returns false'. Refute it at one input. -/
def fletcherOneWrong : ChangeSpec := { name := "fletcherOne", fn := fun _ => fun
  | [d1, d2, d3] => { results := [.lit (.bool false)], args := [d1, d2, d3] }
  | _ => none }
def FletcherOneWrongFalsely : Prop := fletcherOneRow.holds Try.pinned (OpenSpec.ofChange fletcherOneWrong)

/-- 'headgatelaw03.FletcherRuns': WHATEVER THE INPUT: true; the input reads as it did. -/
def fletcherRunsSpec : ChangeSpec := { name := "fletcherRuns", fn := fun _ => fun
  | [d1, d2] => { results := [.lit (.bool true)], args := [d1, d2] }
  | _ => none }
def fletcherRunsRow : OpenClaim := { program := "ytmchfjieafffbaa", sum := "bc329b2ada12ab4fc4856f6c00f5ef2e21324f10c2def565f005f051a108a4d2", func := "headgate/headgatelaw03.FletcherRuns", spec := "fletcherRuns", apart := false }
def FletcherRunsSaid : Prop := fletcherRunsRow.holds Try.pinned (OpenSpec.ofChange fletcherRunsSpec)

/-- ITS FALSE NEIGHBOUR: 'it returns false'. Refute it at one input. -/
def fletcherRunsWrong : ChangeSpec := { name := "fletcherRuns", fn := fun _ => fun
  | [d1, d2] => { results := [.lit (.bool false)], args := [d1, d2] }
  | _ => none }
def FletcherRunsWrongFalsely : Prop := fletcherRunsRow.holds Try.pinned (OpenSpec.ofChange fletcherRunsWrong)

/-- 'headgatelaw04.RecordWraps': WHATEVER THE INPUT: true; the input reads as it did. -/
def recordWrapsSpec : ChangeSpec := { name := "recordWraps", fn := fun _ => fun
  | [d] => { results := [.lit (.bool true)], args := [d] }
  | _ => none }
def recordWrapsRow : OpenClaim := { program := "ytmchfjieafffbaa", sum := "bc329b2ada12ab4fc4856f6c00f5ef2e21324f10c2def565f005f051a108a4d2", func := "headgate/headgatelaw04.RecordWraps", spec := "recordWraps", apart := false }
def RecordWrapsSaid : Prop := recordWrapsRow.holds Try.pinned (OpenSpec.ofChange recordWrapsSpec)

/-- ITS FALSE NEIGHBOUR: 'it returns false'. Refute it at one input. -/
def recordWrapsWrong : ChangeSpec := { name := "recordWraps", fn := fun _ => fun
  | [d] => { results := [.lit (.bool false)], args := [d] }
  | _ => none }
def RecordWrapsWrongFalsely : Prop := recordWrapsRow.holds Try.pinned (OpenSpec.ofChange recordWrapsWrong)

/-- 'headgatelaw04.RecordBack': WHATEVER THE INPUT: true; the input reads as it did. -/
def recordBackSpec : ChangeSpec := { name := "recordBack", fn := fun _ => fun
  | [d1, d2] => { results := [.lit (.bool true)], args := [d1, d2] }
  | _ => none }
def recordBackRow : OpenClaim := { program := "ytmchfjieafffbaa", sum := "bc329b2ada12ab4fc4856f6c00f5ef2e21324f10c2def565f005f051a108a4d2", func := "headgate/headgatelaw04.RecordBack", spec := "recordBack", apart := false }
def RecordBackSaid : Prop := recordBackRow.holds Try.pinned (OpenSpec.ofChange recordBackSpec)

/-- ITS FALSE NEIGHBOUR: 'it returns false'. Refute it at one input. -/
def recordBackWrong : ChangeSpec := { name := "recordBack", fn := fun _ => fun
  | [d1, d2] => { results := [.lit (.bool false)], args := [d1, d2] }
  | _ => none }
def RecordBackWrongFalsely : Prop := recordBackRow.holds Try.pinned (OpenSpec.ofChange recordBackWrong)

/-- 'headgatelaw04.RecordByte': WHATEVER THE INPUT: true; the input reads as it did. -/
def recordByteSpec : ChangeSpec := { name := "recordByte", fn := fun _ => fun
  | [d1, d2, d3] => { results := [.lit (.bool true)], args := [d1, d2, d3] }
  | _ => none }
def recordByteRow : OpenClaim := { program := "ytmchfjieafffbaa", sum := "bc329b2ada12ab4fc4856f6c00f5ef2e21324f10c2def565f005f051a108a4d2", func := "headgate/headgatelaw04.RecordByte", spec := "recordByte", apart := false }
def RecordByteSaid : Prop := recordByteRow.holds Try.pinned (OpenSpec.ofChange recordByteSpec)

/-- ITS FALSE NEIGHBOUR: 'it returns false'. Refute it at one input. -/
def recordByteWrong : ChangeSpec := { name := "recordByte", fn := fun _ => fun
  | [d1, d2, d3] => { results := [.lit (.bool false)], args := [d1, d2, d3] }
  | _ => none }
def RecordByteWrongFalsely : Prop := recordByteRow.holds Try.pinned (OpenSpec.ofChange recordByteWrong)

/-- 'headgatelaw04.RecordTakes': WHATEVER THE INPUT: true; the input reads as it did. -/
def recordTakesSpec : ChangeSpec := { name := "recordTakes", fn := fun _ => fun
  | [d] => { results := [.lit (.bool true)], args := [d] }
  | _ => none }
def recordTakesRow : OpenClaim := { program := "ytmchfjieafffbaa", sum := "bc329b2ada12ab4fc4856f6c00f5ef2e21324f10c2def565f005f051a108a4d2", func := "headgate/headgatelaw04.RecordTakes", spec := "recordTakes", apart := false }
def RecordTakesSaid : Prop := recordTakesRow.holds Try.pinned (OpenSpec.ofChange recordTakesSpec)

/-- ITS FALSE NEIGHBOUR: 'it returns false'. Refute it at one input. -/
def recordTakesWrong : ChangeSpec := { name := "recordTakes", fn := fun _ => fun
  | [d] => { results := [.lit (.bool false)], args := [d] }
  | _ => none }
def RecordTakesWrongFalsely : Prop := recordTakesRow.holds Try.pinned (OpenSpec.ofChange recordTakesWrong)

/-- 'headgatelaw04.RecordOnly': WHATEVER THE INPUT: true; the input reads as it did. -/
def recordOnlySpec : ChangeSpec := { name := "recordOnly", fn := fun _ => fun
  | [d] => { results := [.lit (.bool true)], args := [d] }
  | _ => none }
def recordOnlyRow : OpenClaim := { program := "ytmchfjieafffbaa", sum := "bc329b2ada12ab4fc4856f6c00f5ef2e21324f10c2def565f005f051a108a4d2", func := "headgate/headgatelaw04.RecordOnly", spec := "recordOnly", apart := false }
def RecordOnlySaid : Prop := recordOnlyRow.holds Try.pinned (OpenSpec.ofChange recordOnlySpec)

/-- ITS FALSE NEIGHBOUR: 'it returns false'. Refute it at one input. -/
def recordOnlyWrong : ChangeSpec := { name := "recordOnly", fn := fun _ => fun
  | [d] => { results := [.lit (.bool false)], args := [d] }
  | _ => none }
def RecordOnlyWrongFalsely : Prop := recordOnlyRow.holds Try.pinned (OpenSpec.ofChange recordOnlyWrong)

/-- 'headgatelaw04.RecordRow': WHATEVER THE INPUT: true; the input reads as it did. -/
def recordRowSpec : ChangeSpec := { name := "recordRow", fn := fun _ => fun
  | [d1, d2] => { results := [.lit (.bool true)], args := [d1, d2] }
  | _ => none }
def recordRowRow : OpenClaim := { program := "ytmchfjieafffbaa", sum := "bc329b2ada12ab4fc4856f6c00f5ef2e21324f10c2def565f005f051a108a4d2", func := "headgate/headgatelaw04.RecordRow", spec := "recordRow", apart := false }
def RecordRowSaid : Prop := recordRowRow.holds Try.pinned (OpenSpec.ofChange recordRowSpec)

/-- ITS FALSE NEIGHBOUR: 'it returns false'. Refute it at one input. -/
def recordRowWrong : ChangeSpec := { name := "recordRow", fn := fun _ => fun
  | [d1, d2] => { results := [.lit (.bool false)], args := [d1, d2] }
  | _ => none }
def RecordRowWrongFalsely : Prop := recordRowRow.holds Try.pinned (OpenSpec.ofChange recordRowWrong)

/- THE SECOND FORM. 'bulk': how many values and letters a reading holds, each counted each time it is reached (what is shared counts as often as it is met; a slice's spare places count too). A statement '..UptoSaid' is the law's where the arguments, and the package variables that the reading takes, are together of bulk at most 1048576: NARROWER than '..Said'. Prove '..Said' where nothing that the law and all that it calls make is longer than what came in: it says more and counts as full. Else prove '..UptoSaid'. A law counts once. -/
mutual
def uptoBulk {H : Type} : DataW H → Nat
  | .lit (.string bytes) => bytes.length + 1
  | .lit _ => 1
  | .nil => 1
  | .ptr d => uptoBulk d + 1
  | .slice elems spare => uptoBulkAll elems + uptoBulkAll spare + 1
  | .agg parts => uptoBulkAll parts + 1
  | .iface _ d => uptoBulk d + 1
  | .map entries => uptoBulkEntries entries + 1
  | .held _ => 1
def uptoBulkAll {H : Type} : List (DataW H) → Nat
  | [] => 0
  | d :: r => uptoBulk d + uptoBulkAll r
def uptoBulkEntries {H : Type} : List (Lit × DataW H) → Nat
  | [] => 0
  | x :: r => uptoBulkEntry x + uptoBulkEntries r
def uptoBulkEntry {H : Type} : Lit × DataW H → Nat
  | (.string bytes, d) => bytes.length + uptoBulk d + 1
  | (_, d) => uptoBulk d + 1
 end
def uptoSmall : (H : Type) → List (DataW H) → Bool := fun _ ds => decide (uptoBulkAll ds ≤ 1048576)
def OpenSpec.upto (s : _root_.Go.ChangeSpec) : _root_.Go.OpenSpec := { _root_.Go.OpenSpec.ofChange s with cond := some uptoSmall }

/-- 'headgatelaw03.FletcherSums', WHERE WHAT IT READS IS OF BULK AT MOST 1048576: true; the input reads as it did. -/
def fletcherSumsUptoRow : OpenClaim := { program := "ytmchfjieafffbaa", sum := "bc329b2ada12ab4fc4856f6c00f5ef2e21324f10c2def565f005f051a108a4d2", func := "headgate/headgatelaw03.FletcherSums", spec := "fletcherSums", apart := false, narrowed := true }
def FletcherSumsUptoSaid : Prop := fletcherSumsUptoRow.holds Try.pinned (OpenSpec.upto fletcherSumsSpec)

/-- 'headgatelaw03.FletcherPieces', WHERE WHAT IT READS IS OF BULK AT MOST 1048576: true; the input reads as it did. -/
def fletcherPiecesUptoRow : OpenClaim := { program := "ytmchfjieafffbaa", sum := "bc329b2ada12ab4fc4856f6c00f5ef2e21324f10c2def565f005f051a108a4d2", func := "headgate/headgatelaw03.FletcherPieces", spec := "fletcherPieces", apart := false, narrowed := true }
def FletcherPiecesUptoSaid : Prop := fletcherPiecesUptoRow.holds Try.pinned (OpenSpec.upto fletcherPiecesSpec)

/-- 'headgatelaw03.FletcherOne', WHERE WHAT IT READS IS OF BULK AT MOST 1048576: true; the input reads as it did. -/
def fletcherOneUptoRow : OpenClaim := { program := "ytmchfjieafffbaa", sum := "bc329b2ada12ab4fc4856f6c00f5ef2e21324f10c2def565f005f051a108a4d2", func := "headgate/headgatelaw03.FletcherOne", spec := "fletcherOne", apart := false, narrowed := true }
def FletcherOneUptoSaid : Prop := fletcherOneUptoRow.holds Try.pinned (OpenSpec.upto fletcherOneSpec)

/-- 'headgatelaw03.FletcherRuns', WHERE WHAT IT READS IS OF BULK AT MOST 1048576: true; the input reads as it did. -/
def fletcherRunsUptoRow : OpenClaim := { program := "ytmchfjieafffbaa", sum := "bc329b2ada12ab4fc4856f6c00f5ef2e21324f10c2def565f005f051a108a4d2", func := "headgate/headgatelaw03.FletcherRuns", spec := "fletcherRuns", apart := false, narrowed := true }
def FletcherRunsUptoSaid : Prop := fletcherRunsUptoRow.holds Try.pinned (OpenSpec.upto fletcherRunsSpec)

/-- 'headgatelaw04.RecordWraps', WHERE WHAT IT READS IS OF BULK AT MOST 1048576: true; the input reads as it did. -/
def recordWrapsUptoRow : OpenClaim := { program := "ytmchfjieafffbaa", sum := "bc329b2ada12ab4fc4856f6c00f5ef2e21324f10c2def565f005f051a108a4d2", func := "headgate/headgatelaw04.RecordWraps", spec := "recordWraps", apart := false, narrowed := true }
def RecordWrapsUptoSaid : Prop := recordWrapsUptoRow.holds Try.pinned (OpenSpec.upto recordWrapsSpec)

/-- 'headgatelaw04.RecordBack', WHERE WHAT IT READS IS OF BULK AT MOST 1048576: true; the input reads as it did. -/
def recordBackUptoRow : OpenClaim := { program := "ytmchfjieafffbaa", sum := "bc329b2ada12ab4fc4856f6c00f5ef2e21324f10c2def565f005f051a108a4d2", func := "headgate/headgatelaw04.RecordBack", spec := "recordBack", apart := false, narrowed := true }
def RecordBackUptoSaid : Prop := recordBackUptoRow.holds Try.pinned (OpenSpec.upto recordBackSpec)

/-- 'headgatelaw04.RecordByte', WHERE WHAT IT READS IS OF BULK AT MOST 1048576: true; the input reads as it did. -/
def recordByteUptoRow : OpenClaim := { program := "ytmchfjieafffbaa", sum := "bc329b2ada12ab4fc4856f6c00f5ef2e21324f10c2def565f005f051a108a4d2", func := "headgate/headgatelaw04.RecordByte", spec := "recordByte", apart := false, narrowed := true }
def RecordByteUptoSaid : Prop := recordByteUptoRow.holds Try.pinned (OpenSpec.upto recordByteSpec)

/-- 'headgatelaw04.RecordTakes', WHERE WHAT IT READS IS OF BULK AT MOST 1048576: true; the input reads as it did. -/
def recordTakesUptoRow : OpenClaim := { program := "ytmchfjieafffbaa", sum := "bc329b2ada12ab4fc4856f6c00f5ef2e21324f10c2def565f005f051a108a4d2", func := "headgate/headgatelaw04.RecordTakes", spec := "recordTakes", apart := false, narrowed := true }
def RecordTakesUptoSaid : Prop := recordTakesUptoRow.holds Try.pinned (OpenSpec.upto recordTakesSpec)

/-- 'headgatelaw04.RecordOnly', WHERE WHAT IT READS IS OF BULK AT MOST 1048576: true; the input reads as it did. -/
def recordOnlyUptoRow : OpenClaim := { program := "ytmchfjieafffbaa", sum := "bc329b2ada12ab4fc4856f6c00f5ef2e21324f10c2def565f005f051a108a4d2", func := "headgate/headgatelaw04.RecordOnly", spec := "recordOnly", apart := false, narrowed := true }
def RecordOnlyUptoSaid : Prop := recordOnlyUptoRow.holds Try.pinned (OpenSpec.upto recordOnlySpec)

/-- 'headgatelaw04.RecordRow', WHERE WHAT IT READS IS OF BULK AT MOST 1048576: true; the input reads as it did. -/
def recordRowUptoRow : OpenClaim := { program := "ytmchfjieafffbaa", sum := "bc329b2ada12ab4fc4856f6c00f5ef2e21324f10c2def565f005f051a108a4d2", func := "headgate/headgatelaw04.RecordRow", spec := "recordRow", apart := false, narrowed := true }
def RecordRowUptoSaid : Prop := recordRowUptoRow.holds Try.pinned (OpenSpec.upto recordRowSpec)

end Rows
end Go.Proofs.Ytmchfjieafffbaa
