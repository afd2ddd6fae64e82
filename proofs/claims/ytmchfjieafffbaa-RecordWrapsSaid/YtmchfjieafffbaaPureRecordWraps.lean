/- What is wrapped is what the document's answer wraps. -/
import Derived.Test.YtmchfjieafffbaaPrintF7
import Derived.Test.YtmchfjieafffbaaEval4
namespace Go.Proofs.Ytmchfjieafffbaa.Pure
open Go.RowKit Go.Proofs.Ytmchfjieafffbaa.Print Go.Proofs.YtmchfjieafffbaaW.PrintWords Go.Proofs.YtmchfjieafffbaaW.PrintLast Go.Proofs.Ytmchfjieafffbaa Go.Proofs.Ytmchfjieafffbaa.Ev1

theorem RecordWraps : headgatelaw04_RecordWraps.Pure := by
  intro l _ hlen hl
  refine ⟨l.length + 20, ?_⟩
  unfold headgatelaw04_RecordWraps.f
  by_cases h1 : (l.length : Int) > 9000
  · rw [if_pos h1, Ev4.alive_f]; rfl
  · rw [if_neg h1]
    simp only [Option.bind_some, List.nil_append, List.length_nil]
    rw [if_pos (by omega), Ev4.wrap_f (bytes_wf hl) (by omega) (by omega), Ev4.refwrap_f (bytes_wf hl) (by omega)]
    simp only [Option.bind_some]
    rw [Ev4.same2_f, Ev4.same2_f, Ev4.alive_f]
    simp
end Go.Proofs.Ytmchfjieafffbaa.Pure
