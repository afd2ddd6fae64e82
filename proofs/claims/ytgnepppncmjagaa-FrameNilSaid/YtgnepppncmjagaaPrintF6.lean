-- written by hgprint.py (this work's own call of the kit's printer, with texts of its own for some functions)
import Derived.Test.YtgnepppncmjagaaPrint0
import Derived.Test.YtgnepppncmjagaaPrintF10
import Derived.Test.YtgnepppncmjagaaNil
namespace Go.Proofs.Ytgnepppncmjagaa.Print
open Go.RowKit Go.Proofs.YtgnepppncmjagaaW.PrintWords Go.Proofs.YtgnepppncmjagaaW.PrintLast Go.Proofs.YtgnepppncmjagaaW.PrintMore
attribute [local go_sem] Go.Proofs.Ytgnepppncmjagaa.Goto.Jumps_ret Go.Proofs.Ytgnepppncmjagaa.Goto.Jumps_normal Go.Proofs.Ytgnepppncmjagaa.Goto.Jumps_exit Go.Proofs.Ytgnepppncmjagaa.Goto.Jumps_panic Go.Proofs.Ytgnepppncmjagaa.Goto.Jumps_outgrown max2_int min2_int max_two min_two max_three min_three max_four min_four   -- for this text's walks alone
open Go.Proofs.YtgnepppncmjagaaW.PrintWords Go.Proofs.Ytgnepppncmjagaa
set_option linter.unusedVariables false
set_option linter.unusedSimpArgs false

/-! ### headgatelaw23_FrameNil: function 6 -/
-- IMPORT YtgnepppncmjagaaNil
def headgatelaw23_FrameNil.Pure : Prop := True
set_option maxRecDepth 100000 in
theorem headgatelaw23_FrameNil.walk (P : headgatelaw23_FrameNil.Pure) (a0 : Option Addr) (len0 cap0 : Nat) (z0 : List Int) (w : World) (w0 : (a0 = none ∧ len0 = 0 ∧ cap0 = 0 ∧ z0 = []) ∨ ∃ x, a0 = some x ∧ len0 ≤ cap0 ∧ cap0 ≤ maxLen ∧ z0.length = cap0 ∧ (∀ i, i < z0.length → w.cell? (x.add i) = some (.int .u8 (z0.getD i 0))) ∧ ∀ n ∈ z0, (Lit.int .u8 n).wf = true) (y0 : len0 * 1 ≤ 140737488351232) :
    Calls Try.prog 6 #[.slice a0 len0 cap0] w fun e w' => e = .returned (.bool true) ∧ Below w.heap.size w w' := by
  have KA := Aside0.mk (headgatelaw23_alive.calls 8 true w Ev.alive_f)
  clear w0 y0
  go_enter Try.func6, Try.ntmps6
  go_wp2_with (fail)
  refine KA.out.mono ?_
  rintro e w1 ⟨rfl, hb⟩
  go_wp2_with (fail)
  refine (Nil.feed_nil _ _).mono ?_
  rintro e w1 ⟨rfl, rfl⟩
  go_wp2_with (fail)
  refine (Nil.broken_nil _).mono ?_
  rintro e w1 ⟨rfl, rfl⟩
  go_wp2
  go_ret
  exact ⟨rfl, hb⟩

end Go.Proofs.Ytgnepppncmjagaa.Print
