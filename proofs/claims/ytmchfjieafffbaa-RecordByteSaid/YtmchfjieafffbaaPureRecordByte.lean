/- One byte of a frame is another one: it is not taken, or it is shorter. -/
import Derived.Test.YtmchfjieafffbaaPrintF9
import Derived.Test.YtmchfjieafffbaaEval4
import Derived.Test.YtmchfjieafffbaaPureFletcherOne
namespace Go.Proofs.Ytmchfjieafffbaa.Pure
open Go.RowKit Go.Proofs.Ytmchfjieafffbaa.Print Go.Proofs.YtmchfjieafffbaaW.PrintWords Go.Proofs.YtmchfjieafffbaaW.PrintLast Go.Proofs.Ytmchfjieafffbaa Go.Proofs.Ytmchfjieafffbaa.Ev1

theorem byte_j1 (k : Nat) (l : List Int) (a b : Int) (hl : Pl.bytes l) (hf : Pl.fits l) (ha0 : 0 ≤ a) (hb : 0 ≤ b ∧ b < 256) (hne : b ≠ 0) :
    headgatelaw04_RecordByte.j1 (k + 9) l a b (Pl.frame l) = some true := by
  have hfl := Pl.frame_length l
  have hfb := Pl.bytes_frame hl hf
  rw [headgatelaw04_RecordByte.j1, if_neg (by omega), tmod_pos a _ ha0]
  have p0 := Int.emod_nonneg a (show ((Pl.frame l).length : Int) ≠ 0 by omega)
  have p1 := Int.emod_lt_of_pos a (show 0 < ((Pl.frame l).length : Int) by omega)
  rw [if_pos p0, if_pos p1]
  obtain ⟨i, hi⟩ : ∃ i : Nat, a % ((Pl.frame l).length : Int) = (i : Int) := ⟨_, (Int.toNat_of_nonneg p0).symm⟩
  rw [hi, Int.toNat_natCast]
  rw [hi] at p1
  have hr : rd (Pl.frame l) (i : Int) = (Pl.frame l).getD i 0 := by unfold rd; rw [Int.toNat_natCast]
  have hbyte : 0 ≤ (Pl.frame l).getD i 0 ∧ (Pl.frame l).getD i 0 < 256 := by
    rw [List.getD_eq_getElem?_getD, List.getElem?_eq_getElem (by omega)]
    exact hfb _ (List.getElem_mem _)
  rw [hr]
  obtain ⟨hx1, hx2⟩ := xor_byte hbyte hb hne
  obtain ⟨x, n, e, ht⟩ : ∃ x n e, Pl.take ((Pl.frame l).set i (Go.bits .xor .u8 ((Pl.frame l).getD i 0) b)) = (x, n, e) := ⟨_, _, _, rfl⟩
  obtain ⟨t1, t2⟩ := Pl.take_off l hl hf i (by omega) _ hx1 hx2 x n e ht
  unfold Pl.fits at hf
  rw [Ev4.take_f (bytes_set hfb i hx1) (by rw [List.length_set]; omega) (by omega), ht]
  simp only [Option.bind_some]
  rw [Ev4.alive_f]
  simp only [Option.bind_some, if_true]
  by_cases he : e = 0
  · obtain ⟨q1, q2, q3⟩ := t1 he
    have q4 : (x.length : Int) < (l.length : Int) := by omega
    rw [if_pos he]
    rcases q1 with rfl | rfl
    · rw [if_pos (by omega), if_pos q2, decide_eq_true q4]
    · rw [if_neg (by omega), if_pos (by omega), if_pos q2, decide_eq_true q4]
  · obtain ⟨q1, q2, q3⟩ := t2 he
    rw [if_neg he, q1, if_pos (by simp), if_pos q2]
    by_cases h41 : e = 41
    · rw [if_pos h41]
    · rw [if_neg h41]
      rcases q3 with h | h | h
      · exact absurd h h41
      · subst h; rw [if_pos (by omega)]
      · subst h; rw [if_neg (by omega)]; rfl
theorem RecordByte : headgatelaw04_RecordByte.Pure := by
  intro l a b _ hlen hl ha hb
  refine ⟨20, ?_⟩
  unfold headgatelaw04_RecordByte.f
  have hlb := bytes_wf hl
  have ha := i64_wf ha
  have T : ∀ (m : List Int), headgatelaw04_RecordByte.j0 20 l a b m true = some true := fun m => by
    rw [headgatelaw04_RecordByte.j0, if_pos rfl, Ev4.alive_f]
    rfl
  rw [Ev4.wrap_f hlb (by omega) (by omega)]
  simp only [Option.bind_some]
  unfold Pl.wrap
  by_cases h0 : (l.length : Int) = 0
  · rw [if_pos h0, if_neg (by decide)]; exact T _
  rw [if_neg h0]
  by_cases h1 : (l.length : Int) > 4096
  · rw [if_pos h1, if_neg (by decide)]; exact T _
  rw [if_neg h1]
  have hf := Ev4.fits_of h0 h1
  have hfl := Pl.frame_length l
  simp only
  rw [if_pos trivial]
  by_cases hb0 : b = 0
  · rw [hb0] at T ⊢
    exact T _
  · rw [show (b == 0) = false from by simpa using hb0, headgatelaw04_RecordByte.j0, if_neg (by decide), if_neg (by omega)]
    by_cases hneg : a < 0
    · rw [if_pos hneg]
      rw [wrap64_small (a + 1) (by omega) (by omega), wrap64_small (-(a + 1)) (by omega) (by omega)]
      exact byte_j1 10 l _ b hlb hf (by omega) (u8_wf hb) hb0
    · rw [if_neg hneg]
      exact byte_j1 10 l _ b hlb hf (by omega) (u8_wf hb) hb0
end Go.Proofs.Ytmchfjieafffbaa.Pure
