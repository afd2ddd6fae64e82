/- What is taken is what is wrapped, and behind it nothing is taken. -/
import Derived.Test.YtmchfjieafffbaaPrintF11
import Derived.Test.YtmchfjieafffbaaEval4
namespace Go.Proofs.Ytmchfjieafffbaa.Pure
open Go.RowKit Go.Proofs.Ytmchfjieafffbaa.Print Go.Proofs.YtmchfjieafffbaaW.PrintWords Go.Proofs.YtmchfjieafffbaaW.PrintLast Go.Proofs.Ytmchfjieafffbaa Go.Proofs.Ytmchfjieafffbaa.Ev1

theorem rd_L1_nat (xs : List (List Int)) (i : Nat) (h : i < xs.length) : rd_L1 xs (i : Int) = xs[i] := by
  unfold rd_L1
  rw [Int.toNat_natCast, List.getD_eq_getElem?_getD, List.getElem?_eq_getElem h]
  rfl
theorem flat_len (xs : List (List Int)) : xs.length ≤ ((xs.map Pl.frame).flatten).length := by
  induction xs with
  | nil => exact Nat.le_refl _
  | cons x xs ih =>
    simp only [List.map_cons, List.flatten_cons, List.length_append, List.length_cons]
    rw [Pl.frame_length]
    omega
theorem only_loop (l : List Int) (xs : List (List Int)) (r : List Int) (hlen : l.length ≤ 9000) (hl : Pl.bytes l) (he : l = (xs.map Pl.frame).flatten ++ r) (hx : ∀ x ∈ xs, Pl.fits x ∧ Pl.bytes x) (hr : (Pl.take r).2.2 ≠ 0) (d : Nat) :
    ∀ (k i : Nat), i ≤ xs.length → xs.length - i = d → d + 20 < k →
    headgatelaw04_RecordOnly.l0 k l xs ((l.length : Int) - (r.length : Int)) ((xs.take i).map Pl.frame).flatten (i : Int) = some true := by
  have hsum : l.length = ((xs.map Pl.frame).flatten).length + r.length := by rw [he, List.length_append]
  have hcount := flat_len xs
  induction d with
  | zero =>
    intro k i hi hd hk
    obtain ⟨k, rfl⟩ : ∃ m, k = m + 1 := ⟨k - 1, by omega⟩
    have ei : xs.take i = xs := List.take_of_length_le (by omega)
    have et : ((l.length : Int) - (r.length : Int)).toNat = ((xs.map Pl.frame).flatten).length := by omega
    have e1 : l.take ((l.length : Int) - (r.length : Int)).toNat = (xs.map Pl.frame).flatten := by rw [et, he]; simp
    have e2 : l.drop ((l.length : Int) - (r.length : Int)).toNat = r := by rw [et, he]; simp
    have hrb : Pl.bytes r := by rw [← e2]; exact Pl.bytes_drop hl _
    rw [headgatelaw04_RecordOnly.l0, if_neg (by omega), if_pos (by omega), if_pos (by omega), e1, e2, ei, Ev4.same2_f]
    simp only [Option.bind_some]
    rw [Ev4.take_f hrb (by omega) (by omega), Ev4.alive_f]
    simpa using hr
  | succ d ih =>
    intro k i hi hd hk
    obtain ⟨k, rfl⟩ : ∃ m, k = m + 1 := ⟨k - 1, by omega⟩
    have hlt : i < xs.length := by omega
    obtain ⟨hf, hb⟩ := hx xs[i] (List.getElem_mem hlt)
    have hw : Pl.wrap xs[i] = (Pl.frame xs[i], 0) := by
      unfold Pl.fits at hf
      unfold Pl.wrap
      rw [if_neg (by omega), if_neg (by omega)]
    have e1 : ((xs.take (i + 1)).map Pl.frame).flatten = ((xs.take i).map Pl.frame).flatten ++ Pl.frame xs[i] := by
      rw [List.take_succ_eq_append_getElem hlt, List.map_append, List.flatten_append]
      simp only [List.map_cons, List.map_nil, List.flatten_cons, List.flatten_nil, List.append_nil]
    have e2 : (xs.map Pl.frame).flatten = ((xs.take (i + 1)).map Pl.frame).flatten ++ ((xs.drop (i + 1)).map Pl.frame).flatten := by
      rw [← List.flatten_append, ← List.map_append, List.take_append_drop]
    have hle : ((xs.take i).map Pl.frame).flatten.length + (Pl.frame xs[i]).length ≤ l.length := by
      rw [hsum, e2, e1]
      simp only [List.length_append]
      omega
    have hfl := Pl.frame_length xs[i]
    rw [headgatelaw04_RecordOnly.l0, if_pos (by omega), if_pos (by omega), rd_L1_nat xs i hlt, Ev4.wrap_f hb (by omega) (by omega), hw]
    simp only [Option.bind_some]
    rw [if_pos trivial, if_pos (by omega), wrap64_small _ (by omega) (by omega), ← e1, show (i : Int) + 1 = ((i + 1 : Nat) : Int) from by omega]
    exact ih k (i + 1) (by omega) (by omega) (by omega)
theorem RecordOnly : headgatelaw04_RecordOnly.Pure := by
  intro l _ hlen hl
  have hlb := bytes_wf hl
  obtain ⟨xs, r, hs⟩ := Pl.scans_all l hlb
  obtain ⟨he, hx, hr⟩ := Pl.scans_back hlb hs
  have hle := Pl.scans_le hs
  refine ⟨xs.length + 60, ?_⟩
  unfold headgatelaw04_RecordOnly.f
  by_cases h1 : (l.length : Int) > 9000
  · rw [if_pos h1, Ev4.alive_f]; rfl
  · rw [if_neg h1, Ev4.scan_f hlb (by omega) hs (by omega)]
    simp only [Option.bind_some]
    rw [if_neg (by omega), decide_eq_false (by omega), headgatelaw04_RecordOnly.j0, if_neg (by decide)]
    exact only_loop l xs r (by omega) hlb he hx hr xs.length _ 0 (by omega) (by omega) (by omega)
end Go.Proofs.Ytmchfjieafffbaa.Pure
