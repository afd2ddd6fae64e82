/- A Fletcher sum of bytes, with more behind, is that of all, wherever they are cut; no condition. -/
import Derived.Test.YtmchfjieafffbaaPrint7
import Derived.Test.YtmchfjieafffbaaEval1
namespace Go.Proofs.Ytmchfjieafffbaa.Pure
open Go.RowKit Go.Proofs.Ytmchfjieafffbaa.Print Go.Proofs.YtmchfjieafffbaaW.PrintWords Go.Proofs.YtmchfjieafffbaaW.PrintLast Go.Proofs.Ytmchfjieafffbaa Go.Proofs.Ytmchfjieafffbaa.Ev1

theorem bytes_append {l m : List Int} (hl : Pl.bytes l) (hm : Pl.bytes m) : Pl.bytes (l ++ m) := fun x hx => by
  rcases List.mem_append.1 hx with h | h
  · exact hl x h
  · exact hm x h
theorem pieces_j0 (k : Nat) (a b c : List Int) (t : Bool) (ha : a.length * 1 ≤ 140737488351232) (hb : b.length * 1 ≤ 140737488351232) (hc : c.length * 1 ≤ 140737488351232) (ba : Pl.bytes a) (bb : Pl.bytes b) (bc : Pl.bytes c)
    (ht : t = false → a.length ≤ 5000 ∧ b.length ≤ 5000 ∧ c.length ≤ 5000) : headgatelaw03_FletcherPieces.j0 (k + 1) a b c t = some true := by
  simp only [headgatelaw03_FletcherPieces.j0]
  cases t with
  | true => rw [if_pos rfl, alive_f]; rfl
  | false =>
    obtain ⟨h1, h2, h3⟩ := ht rfl
    rw [if_neg (by decide)]
    simp only [Option.bind_some, List.nil_append, List.length_nil, List.length_append]
    rw [if_pos (by omega), if_pos (by omega), if_pos (by omega), sum_f ba]
    simp only [Option.bind_some]
    have r1 := Pl.more_range 1 a
    rw [more_f r1.1 r1.2 bb, Pl.more_more]
    simp only [Option.bind_some]
    have r2 := Pl.more_range 1 (a ++ b)
    rw [more_f r2.1 r2.2 bc, Pl.more_more]
    simp only [Option.bind_some]
    rw [alive_f]
    simp only [Option.bind_some, if_true]
    rw [sum_f (bytes_append (bytes_append ba bb) bc)]
    simp only [Option.bind_some, if_true]
    have r3 := Pl.more_range 1 (a ++ b ++ c)
    rw [more_f r3.1 r3.2 (fun x hx => by simp at hx), Pl.more_more, List.append_nil]
    simp only [Option.bind_some, if_true]
    have ok := Pl.mrun_ok (Pl.mfrom 1) (a ++ b ++ c) (Pl.mfrom_ok 1)
    have e : Pl.more 1 (a ++ b ++ c) = Pl.mto (Pl.mrun (Pl.mfrom 1) (a ++ b ++ c)) := rfl
    rw [e]
    generalize Pl.mrun (Pl.mfrom 1) (a ++ b ++ c) = p at ok
    unfold Pl.Ok at ok
    unfold Pl.mto
    rw [if_pos (by omega), tmod_pos _ _ (by omega)]
    simp only [Option.some.injEq, decide_eq_true_eq]
    omega
theorem FletcherPieces : headgatelaw03_FletcherPieces.Pure := by
  intro a b c _ ha hwa _ hb hwb _ hc hwc
  refine ⟨1, ?_⟩
  unfold headgatelaw03_FletcherPieces.f
  have J := fun t ht => pieces_j0 0 a b c t ha hb hc (bytes_wf hwa) (bytes_wf hwb) (bytes_wf hwc) ht
  by_cases h1 : (a.length : Int) > 5000
  · rw [if_pos h1]; exact J true (fun h => by cases h)
  · rw [if_neg h1]
    by_cases h2 : (b.length : Int) > 5000
    · rw [if_pos h2]; exact J true (fun h => by cases h)
    · rw [if_neg h2]
      refine J _ (fun h => ?_)
      have h3 : ¬ (c.length : Int) > 5000 := by simpa using h
      omega
end Go.Proofs.Ytmchfjieafffbaa.Pure
