-- written by hgprint.py (this work's own call of the kit's printer, with texts of its own for some functions)
import Derived.Test.YthedaphclgiknaaPrint0
namespace Go.Proofs.Ythedaphclgiknaa.Print
open Go.RowKit Go.Proofs.YthedaphclgiknaaW.PrintWords Go.Proofs.YthedaphclgiknaaW.PrintLast Go.Proofs.YthedaphclgiknaaW.PrintMore
attribute [local go_sem] Go.Proofs.Ythedaphclgiknaa.Goto.Jumps_ret Go.Proofs.Ythedaphclgiknaa.Goto.Jumps_normal Go.Proofs.Ythedaphclgiknaa.Goto.Jumps_exit Go.Proofs.Ythedaphclgiknaa.Goto.Jumps_panic Go.Proofs.Ythedaphclgiknaa.Goto.Jumps_outgrown max2_int min2_int max_two min_two max_three min_three max_four min_four   -- for this text's walks alone
open Go.Proofs.YthedaphclgiknaaW.PrintWords Go.Proofs.Ythedaphclgiknaa
set_option linter.unusedVariables false
set_option linter.unusedSimpArgs false

/-! ### space_Change: function 8 -/
def space_Change.f (a0 : ByteArray) (a1 : ByteArray) (a2 : ByteArray) : Option ByteArray := if a0.size ≤ 1000000000 then some (Cu.change a0 a1 a2) else none
theorem space_Change.calls (a0 : ByteArray) (a1 : ByteArray) (a2 : ByteArray) (r : ByteArray) (w : World) (h : space_Change.f a0 a1 a2 = some r) :
    Calls Try.prog 8 #[.string a0, .string a1, .string a2] w fun e w' => e = .returned (.string r) ∧ Below w.heap.size w w' := by
  unfold space_Change.f at h
  split at h
  · rename_i h1
    obtain rfl := Option.some.inj h
    exact Cu.change_calls a0 a1 a2 w h1
  · cases h

end Go.Proofs.Ythedaphclgiknaa.Print
