/- What any bytes begin with is what the document's answer says. -/
import Derived.Test.YtmchfjieafffbaaPrintF10
import Derived.Test.YtmchfjieafffbaaEval4
namespace Go.Proofs.Ytmchfjieafffbaa.Pure
open Go.RowKit Go.Proofs.Ytmchfjieafffbaa.Print Go.Proofs.YtmchfjieafffbaaW.PrintWords Go.Proofs.YtmchfjieafffbaaW.PrintLast Go.Proofs.Ytmchfjieafffbaa Go.Proofs.Ytmchfjieafffbaa.Ev1

theorem RecordTakes : headgatelaw04_RecordTakes.Pure := by
  intro l _ hlen hl
  have hlb := bytes_wf hl
  obtain ⟨xs, r, hs⟩ := Pl.scans_all l hlb
  obtain ⟨he, hx, hr⟩ := Pl.scans_back hlb hs
  have hle := Pl.scans_le hs
  have hcount : xs.length ≤ l.length := Ev4.flat_le he
  refine ⟨xs.length + l.length + 60, ?_⟩
  generalize hk : xs.length + l.length + 60 = k
  unfold headgatelaw04_RecordTakes.f
  by_cases h1 : (l.length : Int) > 9000
  · rw [if_pos h1, Ev4.alive_f]; rfl
  · rw [if_neg h1]
    have et : (l ++ [77]).take (((l.length : Int)).toNat) = l := by rw [Int.toNat_natCast]; simp
    have w1 : wrap64 ((l.length : Int) + 1) = ((l.length + 1 : Nat) : Int) := by rw [wrap64_small _ (by omega) (by omega)]; omega
    have e77 : (l ++ [77]).take (((l.length + 1 : Nat) : Int)).toNat = l ++ [77] := by rw [Int.toNat_natCast]; exact List.take_of_length_le (by simp)
    have r77 : rd (l ++ [77]) (l.length : Int) = 77 := by unfold rd; rw [Int.toNat_natCast]; simp
    rw [Option.bind_some, if_pos (show ([] : List Int).length + l.length < 140737488355328 by rw [List.length_nil]; omega), Option.bind_some, List.nil_append]
    rw [if_pos (show l.length < 140737488355328 by omega), Option.bind_some, if_pos (Int.natCast_nonneg _), if_pos (by rw [List.length_append]; omega), Option.bind_some, et]
    rw [Ev4.take_f hlb (by omega) (by omega), Option.bind_some, Ev4.reftake_f hlb (by omega) (by omega), Option.bind_some, Ev4.scan_f hlb (by omega) hs (by omega) (by omega), Option.bind_some, Ev4.refscan_f hlb (by omega) hs (by omega), Option.bind_some]
    rw [Ev4.same2_f, Ev4.sameL_f xs (by omega) (by omega), Ev4.same2_f, Ev4.alive_f, w1]
    simp only [Option.bind_some, if_true, e77, r77]
    rw [if_pos (Int.natCast_nonneg _), if_pos (by rw [List.length_append]; exact Int.le_refl _), if_pos (by rw [List.length_append, List.length_singleton]; omega)]
    rfl
end Go.Proofs.Ytmchfjieafffbaa.Pure
