/- No decoder. -/
import Derived.Test.YtgnepppncmjagaaAlive
import Derived.Test.YtgnepppncmjagaaGoto
namespace Go.Proofs.Ytgnepppncmjagaa.Nil
open Go Go.RowKit Go.Proofs.Ytgnepppncmjagaa.Print Go.Proofs.YtgnepppncmjagaaW.PrintWords Go.Proofs.Ytgnepppncmjagaa
attribute [local go_sem] Go.Proofs.Ytgnepppncmjagaa.Goto.Jumps_ret Go.Proofs.Ytgnepppncmjagaa.Goto.Jumps_normal
theorem broken_nil (w : World) : Calls Try.prog 23 #[.pointer none] w fun e w' => e = .returned (.bool true) ∧ w' = w := by
  go_enter Try.func23, Try.ntmps23
  go_wp2
  go_ret
  exact ⟨rfl, rfl⟩
theorem feed_nil (s : Value) (w : World) : Calls Try.prog 22 #[.pointer none, s] w fun e w' => e = .returned (.slice none 0 0) ∧ w' = w := by
  go_enter Try.func22, Try.ntmps22
  go_wp2
  apply Goto.wp_scope_goto
  go_wp2_with (fail)
  refine (broken_nil _).mono ?_
  rintro e w1 ⟨rfl, rfl⟩
  go_wp2
  rw [Goto.Jumps_ret]
  go_ret
  exact ⟨rfl, rfl⟩
end Go.Proofs.Ytgnepppncmjagaa.Nil
