/-
  No cell of these rows narrows 'for every input' (looked for: loops, veiled, ifaces, maps, wideKeys, modest, calm, conditions, laid).
  DERIVED. THE GIVEN ROWS OF THIS SEAT. 7 by the template 'for every input the law returns true; each argument reads behind the call as it read before'; 0 by the template 'total and deterministic' (their statements: YtgnepppncmjagaaTotals.lean).
  GIVEN WITH THE SEED: the statements are not yours to turn. If you find one false, say at which input.
  Laid BY PROGRAM, IN A SANDBOX (cutbox-rows.mjs): the forced cells as the released guide's own fill.sh prints them over the translation 981ea6df89ee944c… (all of the seat's roots in one cut). By AI agents, Wed Nov 11 2026. No macro, syntax, notation, axiom, sorry.
-/
import Derived.Test.YtgnepppncmjagaaChecked
import GoSem.Claim
import GoSem.ClaimJoined
import GoSem.ClaimMapViews
import Derived.JoinedTies
import Derived.KernelRfl
namespace Go.Proofs.Ytgnepppncmjagaa
/- THE CELL 'sum', in the pinned program and in every row, IS THE sha256 OF THE DUMP (.gsa) THAT YtgnepppncmjagaaProg.lean LOADS. Nothing in Lean hashes anything: it is a label: what it is worth is what the hold of that sum in a sandbox is worth. -/
noncomputable def Try.pinned : Pinned := { name := "ytgnepppncmjagaa", sum := "981ea6df89ee944cc716196d79aa1e5e3cdf0e4e790854cf3edc6eaedc3ed158", checked := Try.checked }
namespace Rows
def none {H : Type} : Left H := { results := [], args := [] }

/-- 'headgatelaw23.FrameEncodes': WHATEVER THE INPUT: true; the input reads as it did. -/
def frameEncodesSpec : ChangeSpec := { name := "frameEncodes", fn := fun _ => fun
  | [d1, d2, d3] => { results := [.lit (.bool true)], args := [d1, d2, d3] }
  | _ => none }
def frameEncodesRow : OpenClaim := { program := "ytgnepppncmjagaa", sum := "981ea6df89ee944cc716196d79aa1e5e3cdf0e4e790854cf3edc6eaedc3ed158", func := "headgate/headgatelaw23.FrameEncodes", spec := "frameEncodes", apart := false }
def FrameEncodesSaid : Prop := frameEncodesRow.holds Try.pinned (OpenSpec.ofChange frameEncodesSpec)

/-- ITS FALSE NEIGHBOUR: 'it returns false'. Refute it at one input. -/
def frameEncodesWrong : ChangeSpec := { name := "frameEncodes", fn := fun _ => fun
  | [d1, d2, d3] => { results := [.lit (.bool false)], args := [d1, d2, d3] }
  | _ => none }
def FrameEncodesWrongFalsely : Prop := frameEncodesRow.holds Try.pinned (OpenSpec.ofChange frameEncodesWrong)

/-- 'headgatelaw23.FrameAsks': WHATEVER THE INPUT: true; the input reads as it did. -/
def frameAsksSpec : ChangeSpec := { name := "frameAsks", fn := fun _ => fun
  | [d1, d2] => { results := [.lit (.bool true)], args := [d1, d2] }
  | _ => none }
def frameAsksRow : OpenClaim := { program := "ytgnepppncmjagaa", sum := "981ea6df89ee944cc716196d79aa1e5e3cdf0e4e790854cf3edc6eaedc3ed158", func := "headgate/headgatelaw23.FrameAsks", spec := "frameAsks", unfollowed := true, recurses := true, apart := false }
def FrameAsksSaid : Prop := frameAsksRow.holds Try.pinned (OpenSpec.ofChange frameAsksSpec)

/-- ITS FALSE NEIGHBOUR: 'it returns false'. Refute it at one input. -/
def frameAsksWrong : ChangeSpec := { name := "frameAsks", fn := fun _ => fun
  | [d1, d2] => { results := [.lit (.bool false)], args := [d1, d2] }
  | _ => none }
def FrameAsksWrongFalsely : Prop := frameAsksRow.holds Try.pinned (OpenSpec.ofChange frameAsksWrong)

/-- 'headgatelaw23.FrameChunks': WHATEVER THE INPUT: true; the input reads as it did. -/
def frameChunksSpec : ChangeSpec := { name := "frameChunks", fn := fun _ => fun
  | [d1, d2] => { results := [.lit (.bool true)], args := [d1, d2] }
  | _ => none }
def frameChunksRow : OpenClaim := { program := "ytgnepppncmjagaa", sum := "981ea6df89ee944cc716196d79aa1e5e3cdf0e4e790854cf3edc6eaedc3ed158", func := "headgate/headgatelaw23.FrameChunks", spec := "frameChunks", unfollowed := true, recurses := true, apart := false }
def FrameChunksSaid : Prop := frameChunksRow.holds Try.pinned (OpenSpec.ofChange frameChunksSpec)

/-- ITS FALSE NEIGHBOUR: 'it returns false'. Refute it at one input. -/
def frameChunksWrong : ChangeSpec := { name := "frameChunks", fn := fun _ => fun
  | [d1, d2] => { results := [.lit (.bool false)], args := [d1, d2] }
  | _ => none }
def FrameChunksWrongFalsely : Prop := frameChunksRow.holds Try.pinned (OpenSpec.ofChange frameChunksWrong)

/-- 'headgatelaw23.FrameNil': WHATEVER THE INPUT: true; the input reads as it did. -/
def frameNilSpec : ChangeSpec := { name := "frameNil", fn := fun _ => fun
  | [d] => { results := [.lit (.bool true)], args := [d] }
  | _ => none }
def frameNilRow : OpenClaim := { program := "ytgnepppncmjagaa", sum := "981ea6df89ee944cc716196d79aa1e5e3cdf0e4e790854cf3edc6eaedc3ed158", func := "headgate/headgatelaw23.FrameNil", spec := "frameNil", apart := false }
def FrameNilSaid : Prop := frameNilRow.holds Try.pinned (OpenSpec.ofChange frameNilSpec)

/-- ITS FALSE NEIGHBOUR: 'it returns false'. Refute it at one input. -/
def frameNilWrong : ChangeSpec := { name := "frameNil", fn := fun _ => fun
  | [d] => { results := [.lit (.bool false)], args := [d] }
  | _ => none }
def FrameNilWrongFalsely : Prop := frameNilRow.holds Try.pinned (OpenSpec.ofChange frameNilWrong)

/-- 'headgatelaw23.FrameGathers': WHATEVER THE INPUT: true; the input reads as it did. -/
def frameGathersSpec : ChangeSpec := { name := "frameGathers", fn := fun _ => fun
  | [d] => { results := [.lit (.bool true)], args := [d] }
  | _ => none }
def frameGathersRow : OpenClaim := { program := "ytgnepppncmjagaa", sum := "981ea6df89ee944cc716196d79aa1e5e3cdf0e4e790854cf3edc6eaedc3ed158", func := "headgate/headgatelaw23.FrameGathers", spec := "frameGathers", inPlace := ["internal/abi.NoEscape"], unfollowed := true, recurses := true, apart := false }
def FrameGathersSaid : Prop := frameGathersRow.holds Try.pinned (OpenSpec.ofChange frameGathersSpec)

/-- ITS FALSE NEIGHBOUR: 'it returns false'. Refute it at one input. -/
def frameGathersWrong : ChangeSpec := { name := "frameGathers", fn := fun _ => fun
  | [d] => { results := [.lit (.bool false)], args := [d] }
  | _ => none }
def FrameGathersWrongFalsely : Prop := frameGathersRow.holds Try.pinned (OpenSpec.ofChange frameGathersWrong)

/-- 'headgatelaw23.FrameBack': WHATEVER THE INPUT: true; the input reads as it did. -/
def frameBackSpec : ChangeSpec := { name := "frameBack", fn := fun _ => fun
  | [d] => { results := [.lit (.bool true)], args := [d] }
  | _ => none }
def frameBackRow : OpenClaim := { program := "ytgnepppncmjagaa", sum := "981ea6df89ee944cc716196d79aa1e5e3cdf0e4e790854cf3edc6eaedc3ed158", func := "headgate/headgatelaw23.FrameBack", spec := "frameBack", unfollowed := true, recurses := true, apart := false }
def FrameBackSaid : Prop := frameBackRow.holds Try.pinned (OpenSpec.ofChange frameBackSpec)

/-- ITS FALSE NEIGHBOUR: 'it returns false'. Refute it at one input. -/
def frameBackWrong : ChangeSpec := { name := "frameBack", fn := fun _ => fun
  | [d] => { results := [.lit (.bool false)], args := [d] }
  | _ => none }
def FrameBackWrongFalsely : Prop := frameBackRow.holds Try.pinned (OpenSpec.ofChange frameBackWrong)

/-- 'headgatelaw23.FrameReplies': WHATEVER THE INPUT: true; the input reads as it did. -/
def frameRepliesSpec : ChangeSpec := { name := "frameReplies", fn := fun _ => fun
  | [d1, d2, d3] => { results := [.lit (.bool true)], args := [d1, d2, d3] }
  | _ => none }
def frameRepliesRow : OpenClaim := { program := "ytgnepppncmjagaa", sum := "981ea6df89ee944cc716196d79aa1e5e3cdf0e4e790854cf3edc6eaedc3ed158", func := "headgate/headgatelaw23.FrameReplies", spec := "frameReplies", inPlace := ["internal/abi.NoEscape"], unfollowed := true, recurses := true, apart := false }
def FrameRepliesSaid : Prop := frameRepliesRow.holds Try.pinned (OpenSpec.ofChange frameRepliesSpec)

/-- ITS FALSE NEIGHBOUR: 'it returns false'. Refute it at one input. -/
def frameRepliesWrong : ChangeSpec := { name := "frameReplies", fn := fun _ => fun
  | [d1, d2, d3] => { results := [.lit (.bool false)], args := [d1, d2, d3] }
  | _ => none }
def FrameRepliesWrongFalsely : Prop := frameRepliesRow.holds Try.pinned (OpenSpec.ofChange frameRepliesWrong)

/- THE SECOND FORM. 'bulk': how many values and letters a reading holds, each counted each time it is reached (what is shared counts as often as it is met; a slice's spare places count too). A statement '..UptoSaid' is the law's where the arguments, and the package variables that the reading takes, are together of bulk at most 1048576: NARROWER than '..Said'. Prove '..Said' where nothing that the law and all that it calls make is longer than what came in: it says more and counts as full. Else prove '..UptoSaid'. A law counts once. -/
mutual
def uptoBulk {H : Type} : DataW H → Nat
  | .lit (.string bytes) => bytes.length + 1
  | .lit _ => 1
  | .nil => 1
  | .ptr d => uptoBulk d + 1
  | .slice elems spare => uptoBulkAll elems + uptoBulkAll spare + 1
  | .agg parts => uptoBulkAll parts + 1
  | .iface _ d => uptoBulk d + 1
  | .map entries => uptoBulkEntries entries + 1
  | .held _ => 1
def uptoBulkAll {H : Type} : List (DataW H) → Nat
  | [] => 0
  | d :: r => uptoBulk d + uptoBulkAll r
def uptoBulkEntries {H : Type} : List (Lit × DataW H) → Nat
  | [] => 0
  | x :: r => uptoBulkEntry x + uptoBulkEntries r
def uptoBulkEntry {H : Type} : Lit × DataW H → Nat
  | (.string bytes, d) => bytes.length + uptoBulk d + 1
  | (_, d) => uptoBulk d + 1
 end
def uptoSmall : (H : Type) → List (DataW H) → Bool := fun _ ds => decide (uptoBulkAll ds ≤ 1048576)
def OpenSpec.upto (s : _root_.Go.ChangeSpec) : _root_.Go.OpenSpec := { _root_.Go.OpenSpec.ofChange s with cond := some uptoSmall }

/-- 'headgatelaw23.FrameEncodes', WHERE WHAT IT READS IS OF BULK AT MOST 1048576: true; the input reads as it did. -/
def frameEncodesUptoRow : OpenClaim := { program := "ytgnepppncmjagaa", sum := "981ea6df89ee944cc716196d79aa1e5e3cdf0e4e790854cf3edc6eaedc3ed158", func := "headgate/headgatelaw23.FrameEncodes", spec := "frameEncodes", apart := false, narrowed := true }
def FrameEncodesUptoSaid : Prop := frameEncodesUptoRow.holds Try.pinned (OpenSpec.upto frameEncodesSpec)

/-- 'headgatelaw23.FrameAsks', WHERE WHAT IT READS IS OF BULK AT MOST 1048576: true; the input reads as it did. -/
def frameAsksUptoRow : OpenClaim := { program := "ytgnepppncmjagaa", sum := "981ea6df89ee944cc716196d79aa1e5e3cdf0e4e790854cf3edc6eaedc3ed158", func := "headgate/headgatelaw23.FrameAsks", spec := "frameAsks", unfollowed := true, recurses := true, apart := false, narrowed := true }
def FrameAsksUptoSaid : Prop := frameAsksUptoRow.holds Try.pinned (OpenSpec.upto frameAsksSpec)

/-- 'headgatelaw23.FrameChunks', WHERE WHAT IT READS IS OF BULK AT MOST 1048576: true; the input reads as it did. -/
def frameChunksUptoRow : OpenClaim := { program := "ytgnepppncmjagaa", sum := "981ea6df89ee944cc716196d79aa1e5e3cdf0e4e790854cf3edc6eaedc3ed158", func := "headgate/headgatelaw23.FrameChunks", spec := "frameChunks", unfollowed := true, recurses := true, apart := false, narrowed := true }
def FrameChunksUptoSaid : Prop := frameChunksUptoRow.holds Try.pinned (OpenSpec.upto frameChunksSpec)

/-- 'headgatelaw23.FrameNil', WHERE WHAT IT READS IS OF BULK AT MOST 1048576: true; the input reads as it did. -/
def frameNilUptoRow : OpenClaim := { program := "ytgnepppncmjagaa", sum := "981ea6df89ee944cc716196d79aa1e5e3cdf0e4e790854cf3edc6eaedc3ed158", func := "headgate/headgatelaw23.FrameNil", spec := "frameNil", apart := false, narrowed := true }
def FrameNilUptoSaid : Prop := frameNilUptoRow.holds Try.pinned (OpenSpec.upto frameNilSpec)

/-- 'headgatelaw23.FrameGathers', WHERE WHAT IT READS IS OF BULK AT MOST 1048576: true; the input reads as it did. -/
def frameGathersUptoRow : OpenClaim := { program := "ytgnepppncmjagaa", sum := "981ea6df89ee944cc716196d79aa1e5e3cdf0e4e790854cf3edc6eaedc3ed158", func := "headgate/headgatelaw23.FrameGathers", spec := "frameGathers", inPlace := ["internal/abi.NoEscape"], unfollowed := true, recurses := true, apart := false, narrowed := true }
def FrameGathersUptoSaid : Prop := frameGathersUptoRow.holds Try.pinned (OpenSpec.upto frameGathersSpec)

/-- 'headgatelaw23.FrameBack', WHERE WHAT IT READS IS OF BULK AT MOST 1048576: true; the input reads as it did. -/
def frameBackUptoRow : OpenClaim := { program := "ytgnepppncmjagaa", sum := "981ea6df89ee944cc716196d79aa1e5e3cdf0e4e790854cf3edc6eaedc3ed158", func := "headgate/headgatelaw23.FrameBack", spec := "frameBack", unfollowed := true, recurses := true, apart := false, narrowed := true }
def FrameBackUptoSaid : Prop := frameBackUptoRow.holds Try.pinned (OpenSpec.upto frameBackSpec)

/-- 'headgatelaw23.FrameReplies', WHERE WHAT IT READS IS OF BULK AT MOST 1048576: true; the input reads as it did. -/
def frameRepliesUptoRow : OpenClaim := { program := "ytgnepppncmjagaa", sum := "981ea6df89ee944cc716196d79aa1e5e3cdf0e4e790854cf3edc6eaedc3ed158", func := "headgate/headgatelaw23.FrameReplies", spec := "frameReplies", inPlace := ["internal/abi.NoEscape"], unfollowed := true, recurses := true, apart := false, narrowed := true }
def FrameRepliesUptoSaid : Prop := frameRepliesUptoRow.holds Try.pinned (OpenSpec.upto frameRepliesSpec)

end Rows
end Go.Proofs.Ytgnepppncmjagaa
