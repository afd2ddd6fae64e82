-- written by hgprint.py (this work's own call of the kit's printer, with texts of its own for some functions)
import Derived.Test.YthedaphclgiknaaDoorProg
import Derived.Below
import Derived.Deep.Draws
import Derived.Deep.AppendLies
import Derived.Maps.AppendAt
import Derived.OwnWalk
import Derived.Laws.BytesArg
import Derived.Laws.MakeOwn
import Derived.Laws.OwnMore
import Derived.Deep.OwnRows
import Derived.Tactics
import Derived.Lib.ConvBytes
import Derived.Laws.Slices
import Derived.WalkKit
import Derived.KernelRfl
import Derived.RowKit3
import Derived.Deep.LoopGhost
import Derived.Deep.QuietTactic
import Derived.BigQuiet
import Derived.WideLaws
import Derived.Deep.DeepCutAuto
import Derived.Deep.CutBlock
import Derived.Deep.RegionHeld3
import Derived.Laws.Rows
import Derived.Lib.AppendStr
import Derived.ArgAppend
import Derived.Laws.IdiomCopy
import Derived.OrdersHeld
import Derived.Laws.BitsLemmas
import Derived.RowKit
import Derived.Test.YthedaphclgiknaaDoorGoto
import Derived.Test.YthedaphclgiknaaDoorBuild
import Derived.Test.YthedaphclgiknaaDoorCut
import Derived.Test.YthedaphclgiknaaDoorConv
import Derived.Test.YthedaphclgiknaaDoorSplit
import Derived.Test.YthedaphclgiknaaDoorWWords
import Derived.Test.YthedaphclgiknaaDoorWLast
import Derived.Test.YthedaphclgiknaaDoorWTab
import Derived.Test.YthedaphclgiknaaDoorWFour
import Derived.Test.YthedaphclgiknaaDoorWQPut
import Derived.Test.YthedaphclgiknaaDoorWApart
import Derived.Test.YthedaphclgiknaaDoorWArr
import Derived.Test.YthedaphclgiknaaDoorWZeros
import Derived.Test.YthedaphclgiknaaDoorWFoot
import Derived.Test.YthedaphclgiknaaDoorWKept
import Derived.Test.YthedaphclgiknaaDoorWShare
import Derived.Test.YthedaphclgiknaaDoorWN
import Derived.Test.YthedaphclgiknaaDoorWFootNe
import Derived.Test.YthedaphclgiknaaDoorWAt
import Derived.Test.YthedaphclgiknaaDoorWEqStruct
import Derived.Test.YthedaphclgiknaaDoorWRepsOne
import Derived.Test.YthedaphclgiknaaDoorWInv
import Derived.Test.YthedaphclgiknaaDoorWInvWords
import Derived.Test.YthedaphclgiknaaDoorWGuard
import Derived.Test.YthedaphclgiknaaDoorWNEv
import Derived.Test.YthedaphclgiknaaDoorWMore
namespace Go.Proofs.YthedaphclgiknaaDoor.Print
open Go.RowKit Go.Proofs.YthedaphclgiknaaDoorW.PrintWords Go.Proofs.YthedaphclgiknaaDoorW.PrintLast Go.Proofs.YthedaphclgiknaaDoorW.PrintMore
attribute [local go_sem] Go.Proofs.YthedaphclgiknaaDoor.Goto.Jumps_ret Go.Proofs.YthedaphclgiknaaDoor.Goto.Jumps_normal Go.Proofs.YthedaphclgiknaaDoor.Goto.Jumps_exit Go.Proofs.YthedaphclgiknaaDoor.Goto.Jumps_panic Go.Proofs.YthedaphclgiknaaDoor.Goto.Jumps_outgrown max2_int min2_int max_two min_two max_three min_three max_four min_four   -- for this text's walks alone
open Go.Proofs.YthedaphclgiknaaDoorW.PrintWords Go.Proofs.YthedaphclgiknaaDoor
set_option linter.unusedVariables false
set_option linter.unusedSimpArgs false



def errW : Option Int → Value
  | none => .nilIface
  | some c => .iface 0 (.int .i64 c)
theorem errW_none : errW none = .nilIface := rfl
theorem errW_some (c : Int) : errW (some c) = .iface 0 (.int .i64 c) := rfl

theorem info5 : (Tryd.prog.info? 5).map (fun i => (i.zero, i.size, i.bytes)) = some (some (.int .u8 0), 1, 1) := by kernel_rfl
theorem info9 : (Tryd.prog.info? 9).map (fun i => (i.zero, i.size, i.bytes)) = some (some (.string ⟨#[]⟩), 1, 16) := by kernel_rfl
-- the values' own types

end Go.Proofs.YthedaphclgiknaaDoor.Print
