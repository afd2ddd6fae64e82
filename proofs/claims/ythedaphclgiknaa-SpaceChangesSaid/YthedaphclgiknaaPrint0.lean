-- written by hgprint.py (this work's own call of the kit's printer, with texts of its own for some functions)
import Derived.Test.YthedaphclgiknaaProg
import Derived.Below
import Derived.Deep.Draws
import Derived.Deep.AppendLies
import Derived.Maps.AppendAt
import Derived.OwnWalk
import Derived.Laws.BytesArg
import Derived.Laws.MakeOwn
import Derived.Laws.OwnMore
import Derived.Deep.OwnRows
import Derived.Tactics
import Derived.Lib.ConvBytes
import Derived.Laws.Slices
import Derived.WalkKit
import Derived.KernelRfl
import Derived.RowKit3
import Derived.Deep.LoopGhost
import Derived.Deep.QuietTactic
import Derived.BigQuiet
import Derived.WideLaws
import Derived.Deep.DeepCutAuto
import Derived.Deep.CutBlock
import Derived.Deep.RegionHeld3
import Derived.Laws.Rows
import Derived.Lib.AppendStr
import Derived.ArgAppend
import Derived.Laws.IdiomCopy
import Derived.OrdersHeld
import Derived.Laws.BitsLemmas
import Derived.RowKit
import Derived.Test.YthedaphclgiknaaGoto
import Derived.Test.YthedaphclgiknaaBuild
import Derived.Test.YthedaphclgiknaaCut
import Derived.Test.YthedaphclgiknaaChange
import Derived.Test.YthedaphclgiknaaWWords
import Derived.Test.YthedaphclgiknaaWLast
import Derived.Test.YthedaphclgiknaaWTab
import Derived.Test.YthedaphclgiknaaWFour
import Derived.Test.YthedaphclgiknaaWQPut
import Derived.Test.YthedaphclgiknaaWApart
import Derived.Test.YthedaphclgiknaaWArr
import Derived.Test.YthedaphclgiknaaWZeros
import Derived.Test.YthedaphclgiknaaWFoot
import Derived.Test.YthedaphclgiknaaWKept
import Derived.Test.YthedaphclgiknaaWShare
import Derived.Test.YthedaphclgiknaaWN
import Derived.Test.YthedaphclgiknaaWFootNe
import Derived.Test.YthedaphclgiknaaWAt
import Derived.Test.YthedaphclgiknaaWEqStruct
import Derived.Test.YthedaphclgiknaaWRepsOne
import Derived.Test.YthedaphclgiknaaWInv
import Derived.Test.YthedaphclgiknaaWInvWords
import Derived.Test.YthedaphclgiknaaWGuard
import Derived.Test.YthedaphclgiknaaWNEv
import Derived.Test.YthedaphclgiknaaWMore
namespace Go.Proofs.Ythedaphclgiknaa.Print
open Go.RowKit Go.Proofs.YthedaphclgiknaaW.PrintWords Go.Proofs.YthedaphclgiknaaW.PrintLast Go.Proofs.YthedaphclgiknaaW.PrintMore
attribute [local go_sem] Go.Proofs.Ythedaphclgiknaa.Goto.Jumps_ret Go.Proofs.Ythedaphclgiknaa.Goto.Jumps_normal Go.Proofs.Ythedaphclgiknaa.Goto.Jumps_exit Go.Proofs.Ythedaphclgiknaa.Goto.Jumps_panic Go.Proofs.Ythedaphclgiknaa.Goto.Jumps_outgrown max2_int min2_int max_two min_two max_three min_three max_four min_four   -- for this text's walks alone
open Go.Proofs.YthedaphclgiknaaW.PrintWords Go.Proofs.Ythedaphclgiknaa
set_option linter.unusedVariables false
set_option linter.unusedSimpArgs false



def errW : Option Int → Value
  | none => .nilIface
  | some c => .iface 0 (.int .i64 c)
theorem errW_none : errW none = .nilIface := rfl
theorem errW_some (c : Int) : errW (some c) = .iface 0 (.int .i64 c) := rfl

theorem info5 : (Try.prog.info? 5).map (fun i => (i.zero, i.size, i.bytes)) = some (some (.int .u8 0), 1, 1) := by kernel_rfl
-- the values' own types

end Go.Proofs.Ythedaphclgiknaa.Print
