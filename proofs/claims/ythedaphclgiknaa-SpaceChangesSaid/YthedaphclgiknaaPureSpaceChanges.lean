/- What is changed and what is shown is what the document's answer says. -/
import Derived.Test.YthedaphclgiknaaPrintF4
import Derived.Test.YthedaphclgiknaaEvalS
namespace Go.Proofs.Ythedaphclgiknaa.Pure
open Go.RowKit Go.Proofs.Ythedaphclgiknaa.Print Go.Proofs.YthedaphclgiknaaW.PrintWords Go.Proofs.YthedaphclgiknaaW.PrintLast Go.Proofs.Ythedaphclgiknaa

theorem SpaceChanges : headgatelaw16_SpaceChanges.Pure := by
  intro a0 a1 a2 _ _ _
  have T : ∀ k, headgatelaw16_SpaceChanges.j0 (k + 1) a0 a1 a2 true = some true := fun k => by
    rw [headgatelaw16_SpaceChanges.j0, if_pos rfl, EvS.alive_f, Option.bind_some]
  by_cases h0 : (a0.size : Int) > 1100
  · exact ⟨1, by unfold headgatelaw16_SpaceChanges.f; rw [if_pos h0]; exact T 0⟩
  by_cases h1 : (a1.size : Int) > 1100
  · exact ⟨1, by unfold headgatelaw16_SpaceChanges.f; rw [if_neg h0, if_pos h1]; exact T 0⟩
  by_cases h2 : (a2.size : Int) > 1100
  · exact ⟨1, by unfold headgatelaw16_SpaceChanges.f; rw [if_neg h0, if_neg h1, decide_eq_true h2]; exact T 0⟩
  obtain ⟨k, hk⟩ := EvS.refchange_f a0 a1 a2 (by omega) (by omega)
  obtain ⟨x, hx, ex⟩ := EvS.list_f a0 (by omega)
  obtain ⟨y, hy, ey⟩ := EvS.reflist_f a0 (by omega)
  have hxy : x.toList = y.toList := by
    rw [Go.Lib.toList_data, Go.Lib.toList_data]
    exact EvS.nat_inj (ex.trans ey.symm)
  refine ⟨k + 1, ?_⟩
  unfold headgatelaw16_SpaceChanges.f
  rw [if_neg h0, if_neg h1, decide_eq_false h2, headgatelaw16_SpaceChanges.j0, if_neg (by decide), EvS.change_f a0 a1 a2 (by omega), Option.bind_some, EvS.alive_f, Option.bind_some, if_pos rfl, hk k (Nat.le_refl _), Option.bind_some, if_pos rfl, EvS.change_size, if_pos rfl, hx, Option.bind_some, hy, Option.bind_some, hxy]
  simp
end Go.Proofs.Ythedaphclgiknaa.Pure
