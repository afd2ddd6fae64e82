/- What is wrapped is taken again, and no piece of it is. -/
import Derived.Test.YtmchfjieafffbaaPrintF8
import Derived.Test.YtmchfjieafffbaaEval4
namespace Go.Proofs.Ytmchfjieafffbaa.Pure
open Go.RowKit Go.Proofs.Ytmchfjieafffbaa.Print Go.Proofs.YtmchfjieafffbaaW.PrintWords Go.Proofs.YtmchfjieafffbaaW.PrintLast Go.Proofs.Ytmchfjieafffbaa Go.Proofs.Ytmchfjieafffbaa.Ev1

theorem back_loop (b : List Int) (hb : Pl.bytes b) (hf : Pl.fits b) (d : Nat) : ∀ (k i : Nat), i ≤ (Pl.frame b).length → (Pl.frame b).length - i = d → 2 * d + 8 < k →
    headgatelaw04_RecordBack.l0 k (Pl.frame b) (i : Int) = some true := by
  have hfl := Pl.frame_length b
  unfold Pl.fits at hf
  induction d with
  | zero =>
    intro k i hi hd hk
    obtain ⟨k, rfl⟩ : ∃ m, k = m + 1 := ⟨k - 1, by omega⟩
    rw [headgatelaw04_RecordBack.l0, if_neg (by omega), Ev4.alive_f]
    rfl
  | succ d ih =>
    intro k i hi hd hk
    obtain ⟨k, rfl⟩ : ∃ m, k = m + 2 := ⟨k - 2, by omega⟩
    have nx : headgatelaw04_RecordBack.l0 k (Pl.frame b) (wrap64 ((i : Int) + 1)) = some true := by
      rw [wrap64_small _ (by omega) (by omega), show (i : Int) + 1 = ((i + 1 : Nat) : Int) from by omega]
      exact ih k (i + 1) (by omega) (by omega) (by omega)
    have J : ∀ t, headgatelaw04_RecordBack.j3 (k + 1) (Pl.frame b) (i : Int) t = some true := fun t => by
      rw [headgatelaw04_RecordBack.j3]
      cases t with
      | true => rw [if_pos rfl, nx]
      | false =>
        rw [if_neg (by decide), if_pos (by omega), if_pos (by omega), Int.toNat_natCast, Ev4.take_f (Pl.bytes_take (Pl.bytes_frame hb hf) _) (by rw [List.length_take]; omega) (by omega), Pl.take_piece b hf i (by omega)]
        simp only [Option.bind_some]
        rw [if_pos trivial, nx]
    rw [headgatelaw04_RecordBack.l0, if_pos (by omega)]
    by_cases h : (i : Int) > 12
    · rw [if_pos h]; exact J _
    · rw [if_neg h]; exact J _
theorem RecordBack : headgatelaw04_RecordBack.Pure := by
  intro l m _ hlen hl _ hlen2 hm
  refine ⟨2 * l.length + 60, ?_⟩
  unfold headgatelaw04_RecordBack.f
  have hlb := bytes_wf hl
  have hmb := bytes_wf hm
  rw [Ev4.wrap_f hlb (by omega) (by omega)]
  simp only [Option.bind_some]
  have W1 : ∀ (m : List Int), headgatelaw04_RecordBack.j0 (2 * l.length + 60) l m [] 1 true = some true := fun m => by
    rw [headgatelaw04_RecordBack.j0, if_pos rfl, Ev4.alive_f]
    rfl
  unfold Pl.wrap
  by_cases h0 : (l.length : Int) = 0
  · rw [if_pos h0, if_neg (by decide)]; exact W1 m
  rw [if_neg h0]
  by_cases h1 : (l.length : Int) > 4096
  · rw [if_pos h1, if_neg (by decide)]; exact W1 m
  rw [if_neg h1]
  have hf := Ev4.fits_of h0 h1
  have hfl := Pl.frame_length l
  simp only
  rw [if_pos trivial, headgatelaw04_RecordBack.j0]
  by_cases h2 : (m.length : Int) > 100
  · rw [decide_eq_true h2, if_pos rfl, Ev4.alive_f]
    simp
  · rw [decide_eq_false h2, if_neg (by decide)]
    simp only [Option.bind_some, List.nil_append, List.length_nil]
    rw [if_pos (by omega), if_pos (by omega), Ev4.take_f (Pl.bytes_app (Pl.bytes_frame hlb hf) hmb) (by rw [List.length_append]; omega) (by omega), Pl.take_frame l m hf]
    simp only [Option.bind_some]
    rw [Ev4.same2_f]
    simp only [Option.bind_some]
    rw [if_pos trivial, if_pos (by omega), headgatelaw04_RecordBack.j1, if_neg (by decide)]
    exact back_loop l hlb hf _ _ 0 (by omega) rfl (by omega)
end Go.Proofs.Ytmchfjieafffbaa.Pure
