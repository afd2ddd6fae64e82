/- A frame's bytes are the document's. -/
import Derived.Test.YtgnepppncmjagaaPrintF3
import Derived.Test.YtgnepppncmjagaaAlive
namespace Go.Proofs.Ytgnepppncmjagaa.Pure
open Go.RowKit Go.Proofs.Ytgnepppncmjagaa.Print Go.Proofs.YtgnepppncmjagaaW.PrintWords Go.Proofs.Ytgnepppncmjagaa Go.Proofs.Ytgnepppncmjagaa.Ev

theorem FrameEncodes : headgatelaw23_FrameEncodes.Pure := by
  intro a b l _ _ _ _ _
  refine ⟨8, ?_⟩
  unfold headgatelaw23_FrameEncodes.f
  by_cases h1 : (l.length : Int) > 20000
  · rw [if_pos h1, alive_f]; rfl
  · rw [if_neg h1, alive_f]
    by_cases h2 : l.length ≤ 4096
    · rw [encode_f _ _ _ h2]
      obtain ⟨t, ht, h3⟩ := right_some a b l
      rw [ht]
      simp only [Option.bind_some]
      by_cases h4 : t = true
      · obtain ⟨k0, k1, k2, k3, k4⟩ := h3.1 h4
        rw [if_pos h4, Option.bind_some, if_pos h4, bytes_f _ _ _ h2 k0 k1]
        simp only [Option.bind_some]
        rw [same_f, Option.bind_some, if_pos trivial, if_pos trivial]
      · rw [if_neg h4, Option.bind_some, if_neg h4]
        rfl
    · obtain ⟨e1, e2⟩ := encode_none a b l h2
      rw [e1, e2]
      simp only [Option.bind_some]
      rfl
end Go.Proofs.Ytgnepppncmjagaa.Pure
