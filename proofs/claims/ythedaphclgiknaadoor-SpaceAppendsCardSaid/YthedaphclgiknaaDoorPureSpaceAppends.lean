/- Texts are joined, and lines are told, as the document's answer says. -/
import Derived.Test.YthedaphclgiknaaDoorPrintF3
import Derived.Test.YthedaphclgiknaaDoorEvalD
namespace Go.Proofs.YthedaphclgiknaaDoor.Pure
open Go.RowKit Go.Proofs.YthedaphclgiknaaDoor.Print Go.Proofs.YthedaphclgiknaaDoorW.PrintWords Go.Proofs.YthedaphclgiknaaDoorW.PrintLast Go.Proofs.YthedaphclgiknaaDoor

theorem SpaceAppends : headgatelaw16_SpaceAppends.Pure := by
  intro a0 a1 _ _
  have T : ∀ k, headgatelaw16_SpaceAppends.j0 (k + 1) a0 a1 true = some true := fun k => by
    rw [headgatelaw16_SpaceAppends.j0, if_pos rfl, EvD.alive_f, Option.bind_some]
  by_cases h0 : (a0.size : Int) > 1100
  · exact ⟨1, by unfold headgatelaw16_SpaceAppends.f; rw [if_pos h0]; exact T 0⟩
  by_cases h1 : (a1.size : Int) > 1100
  · exact ⟨1, by unfold headgatelaw16_SpaceAppends.f; rw [if_neg h0, decide_eq_true h1]; exact T 0⟩
  have hl := EvD.lns_len a0.data.toList []
  rw [EvD.size_len] at hl
  refine ⟨a0.size + 10, ?_⟩
  unfold headgatelaw16_SpaceAppends.f
  rw [if_neg h0, decide_eq_false h1, headgatelaw16_SpaceAppends.j0, if_neg (by decide), EvD.append_f, Option.bind_some, EvD.refappend_f _ _ (by omega) (by omega), Option.bind_some, EvD.first_f _ (by omega), Option.bind_some, EvD.reffirst_f _ (by omega) _ (by omega), Option.bind_some]
  rw [EvD.lines_f _ (by omega), Option.bind_some, EvD.reflines_f _ (by omega) _ (by omega), Option.bind_some, EvD.same_f _ (by rw [List.length_map]; omega) _ (by rw [List.length_map]; omega), Option.bind_some, EvD.alive_f, Option.bind_some]
  rw [if_pos rfl, if_pos rfl, if_pos rfl, if_pos rfl, if_pos rfl, if_pos (by simp)]
end Go.Proofs.YthedaphclgiknaaDoor.Pure
