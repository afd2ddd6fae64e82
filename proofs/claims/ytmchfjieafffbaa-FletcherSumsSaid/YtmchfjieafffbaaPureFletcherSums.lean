/- Any bytes' Fletcher sum, and any sum's with more bytes, is as the document says; no condition. -/
import Derived.Test.YtmchfjieafffbaaPrint6
import Derived.Test.YtmchfjieafffbaaEval1
namespace Go.Proofs.Ytmchfjieafffbaa.Pure
open Go.RowKit Go.Proofs.Ytmchfjieafffbaa.Print Go.Proofs.YtmchfjieafffbaaW.PrintWords Go.Proofs.YtmchfjieafffbaaW.PrintLast Go.Proofs.Ytmchfjieafffbaa Go.Proofs.Ytmchfjieafffbaa.Ev1

theorem FletcherSums : headgatelaw03_FletcherSums.Pure := by
  intro l a _ hlen hl ha
  obtain ⟨a0, a1⟩ := u32_wf ha
  have hb := bytes_wf hl
  refine ⟨l.length + 1, ?_⟩
  unfold headgatelaw03_FletcherSums.f
  by_cases h5 : (l.length : Int) > 5000
  · rw [if_pos h5, alive_f]; rfl
  · rw [if_neg h5]
    simp only [Option.bind_some, List.nil_append, List.length_nil, List.length_append, List.length_singleton]
    rw [if_pos (by omega), if_pos (by omega), if_pos (by omega), if_pos (by omega), alive_f]
    simp only [Option.bind_some, if_true]
    have e : (l ++ [77]).take ((l.length : Int)).toNat = l := by rw [Int.toNat_natCast, List.take_left]
    rw [e, sum_f hb]
    simp only [Option.bind_some]
    rw [refsum_f hb (by omega) (by omega)]
    simp only [Option.bind_some, if_true]
    rw [more_f a0 a1 hb]
    simp only [Option.bind_some]
    rw [refmore_f a0 a1 hb (by omega) (by omega)]
    simp
end Go.Proofs.Ytmchfjieafffbaa.Pure
