-- written by hgprint.py (this work's own call of the kit's printer, with texts of its own for some functions)
import Derived.Test.YtnemnhfdjofckaaPrint0
namespace Go.Proofs.Ytnemnhfdjofckaa.Print
open Go.RowKit Go.Proofs.YtnemnhfdjofckaaW.PrintWords Go.Proofs.YtnemnhfdjofckaaW.PrintLast Go.Proofs.YtnemnhfdjofckaaW.PrintMore
attribute [local go_sem] Go.Proofs.Ytnemnhfdjofckaa.Goto.Jumps_ret Go.Proofs.Ytnemnhfdjofckaa.Goto.Jumps_normal Go.Proofs.Ytnemnhfdjofckaa.Goto.Jumps_exit Go.Proofs.Ytnemnhfdjofckaa.Goto.Jumps_panic Go.Proofs.Ytnemnhfdjofckaa.Goto.Jumps_outgrown max2_int min2_int max_two min_two max_three min_three max_four min_four   -- for this text's walks alone
open Go.Proofs.YtnemnhfdjofckaaW.PrintWords Go.Proofs.Ytnemnhfdjofckaa
set_option linter.unusedVariables false
set_option linter.unusedSimpArgs false
/-! ### tree_Right: function 34 -/
def tree_Right.f (a0 : ByteArray) : Option (Bool) := if a0.size ≤ 1000000000 then some (Go.Proofs.Ytnemnhfdjofckaa.Rt.rgt a0) else none
theorem tree_Right.calls (a0 : ByteArray) (r : Bool) (w : World) (h : tree_Right.f a0 = some r) :
    Calls Try.prog 34 #[.string a0] w fun e w' => e = .returned (.bool r) ∧ Below w.heap.size w w' := by
  unfold tree_Right.f at h
  by_cases c : a0.size ≤ 1000000000
  · rw [if_pos c] at h
    obtain rfl := Option.some.inj h
    exact Go.Proofs.Ytnemnhfdjofckaa.Rt.right_ok a0 w c
  · rw [if_neg c] at h
    exact absurd h (by simp)
end Go.Proofs.Ytnemnhfdjofckaa.Print
