-- written by hgprint.py (this work's own call of the kit's printer, with texts of its own for some functions)
import Derived.Test.YtmchfjieafffbaaProg
import Derived.Below
import Derived.Deep.Draws
import Derived.Deep.AppendLies
import Derived.Maps.AppendAt
import Derived.OwnWalk
import Derived.Laws.BytesArg
import Derived.Laws.MakeOwn
import Derived.Laws.OwnMore
import Derived.Deep.OwnRows
import Derived.Tactics
import Derived.Lib.ConvBytes
import Derived.Laws.Slices
import Derived.WalkKit
import Derived.KernelRfl
import Derived.RowKit3
import Derived.Deep.LoopGhost
import Derived.Deep.QuietTactic
import Derived.BigQuiet
import Derived.WideLaws
import Derived.Deep.DeepCutAuto
import Derived.Deep.CutBlock
import Derived.Deep.RegionHeld3
import Derived.Laws.Rows
import Derived.Lib.AppendStr
import Derived.ArgAppend
import Derived.Laws.IdiomCopy
import Derived.OrdersHeld
import Derived.Laws.BitsLemmas
import Derived.RowKit
import Derived.Test.YtmchfjieafffbaaGoto
import Derived.Test.YtmchfjieafffbaaPlain1
import Derived.Test.YtmchfjieafffbaaMem
import Derived.Test.YtmchfjieafffbaaWWords
import Derived.Test.YtmchfjieafffbaaWLast
import Derived.Test.YtmchfjieafffbaaWTab
import Derived.Test.YtmchfjieafffbaaWFour
import Derived.Test.YtmchfjieafffbaaWQPut
import Derived.Test.YtmchfjieafffbaaWApart
import Derived.Test.YtmchfjieafffbaaWArr
import Derived.Test.YtmchfjieafffbaaWZeros
import Derived.Test.YtmchfjieafffbaaWFoot
import Derived.Test.YtmchfjieafffbaaWKept
import Derived.Test.YtmchfjieafffbaaWShare
import Derived.Test.YtmchfjieafffbaaWN
import Derived.Test.YtmchfjieafffbaaWFootNe
import Derived.Test.YtmchfjieafffbaaWAt
import Derived.Test.YtmchfjieafffbaaWEqStruct
import Derived.Test.YtmchfjieafffbaaWRepsOne
import Derived.Test.YtmchfjieafffbaaWInv
import Derived.Test.YtmchfjieafffbaaWInvWords
import Derived.Test.YtmchfjieafffbaaWGuard
import Derived.Test.YtmchfjieafffbaaWNEv
import Derived.Test.YtmchfjieafffbaaWMore
namespace Go.Proofs.Ytmchfjieafffbaa.Print
open Go.RowKit Go.Proofs.YtmchfjieafffbaaW.PrintWords Go.Proofs.YtmchfjieafffbaaW.PrintLast Go.Proofs.YtmchfjieafffbaaW.PrintMore
attribute [local go_sem] max2_int min2_int max_two min_two max_three min_three max_four min_four   -- for this text's walks alone
open Go.Proofs.YtmchfjieafffbaaW.PrintWords Go.Proofs.Ytmchfjieafffbaa
set_option linter.unusedVariables false
set_option linter.unusedSimpArgs false



def errW : Option Int → Value
  | none => .nilIface
  | some c => .iface 0 (.int .i64 c)
theorem errW_none : errW none = .nilIface := rfl
theorem errW_some (c : Int) : errW (some c) = .iface 0 (.int .i64 c) := rfl

theorem info5 : (Try.prog.info? 5).map (fun i => (i.zero, i.size, i.bytes)) = some (some (.int .u8 0), 1, 1) := by kernel_rfl
-- the values' own types

end Go.Proofs.Ytmchfjieafffbaa.Print
