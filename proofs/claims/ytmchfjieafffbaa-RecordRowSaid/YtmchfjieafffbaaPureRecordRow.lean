/- Records, one behind the other, are scanned as they were, whatever stands behind that is no frame. -/
import Derived.Test.YtmchfjieafffbaaPrintF12
import Derived.Test.YtmchfjieafffbaaEval4
namespace Go.Proofs.Ytmchfjieafffbaa.Pure
open Go.RowKit Go.Proofs.Ytmchfjieafffbaa.Print Go.Proofs.YtmchfjieafffbaaW.PrintWords Go.Proofs.YtmchfjieafffbaaW.PrintLast Go.Proofs.Ytmchfjieafffbaa Go.Proofs.Ytmchfjieafffbaa.Ev1

theorem row_rd (xs : List (List Int)) (i : Nat) (h : i < xs.length) : rd_L1 xs (i : Int) = xs[i] := by
  unfold rd_L1
  rw [Int.toNat_natCast, List.getD_eq_getElem?_getD, List.getElem?_eq_getElem h]
  rfl
theorem row_flat_len (xs : List (List Int)) (m : Nat) (h : ∀ x ∈ xs, x.length ≤ m) : ((xs.map Pl.frame).flatten).length ≤ xs.length * (7 + m) := by
  induction xs with
  | nil => simp
  | cons x xs ih =>
    simp only [List.map_cons, List.flatten_cons, List.length_append, List.length_cons]
    rw [Pl.frame_length, Nat.add_mul]
    have h1 := h x (by simp)
    have h2 := ih (fun y hy => h y (by simp [hy]))
    omega
theorem row_bytes (xs : List (List Int)) (h : ∀ x ∈ xs, Pl.fits x ∧ Pl.bytes x) : Pl.bytes ((xs.map Pl.frame).flatten) := by
  induction xs with
  | nil => exact fun x hx => by simp at hx
  | cons x xs ih =>
    simp only [List.map_cons, List.flatten_cons]
    exact Pl.bytes_app (Pl.bytes_frame (h x (by simp)).2 (h x (by simp)).1) (ih (fun y hy => h y (by simp [hy])))
theorem row_end (xs : List (List Int)) (l1 : List Int) (hb1 : Pl.bytes l1) (hlen1 : l1.length * 1 ≤ 140737488351232) (hx : ∀ x ∈ xs, (Pl.fits x ∧ x.length ≤ 200) ∧ Pl.bytes x) (hn : xs.length ≤ 20) (hs : xs ≠ [] → l1.length ≤ 100) (k : Nat) (hk : 60 < k) (i : Nat) (hi : xs.length ≤ i) :
    headgatelaw04_RecordRow.l0 k xs l1 ((xs.map Pl.frame).flatten) (i : Int) = some true := by
  obtain ⟨k, rfl⟩ : ∃ m, k = m + 1 := ⟨k - 1, by omega⟩
  have hf : ∀ x ∈ xs, Pl.fits x := fun x h => (hx x h).1.1
  have hA := row_bytes xs (fun x h => ⟨(hx x h).1.1, (hx x h).2⟩)
  have hL := row_flat_len xs 200 (fun x h => (hx x h).1.2)
  have hB : (((xs.map Pl.frame).flatten).length : Int) + l1.length < 140737488354000 := by
    cases xs with
    | nil => simp only [List.map_nil, List.flatten_nil, List.length_nil]; omega
    | cons y ys =>
      have := hs (by simp)
      omega
  have hs0 := Pl.scans_row xs [] hf (by unfold Pl.take; rw [if_pos (by rfl)]; decide)
  have hs1 := Pl.scans_row xs (0 :: l1) hf (by
    unfold Pl.take
    rw [if_neg (by rw [List.length_cons]; omega), if_pos (by show ((0 : Int)) ≠ 167; decide)]
    decide)
  rw [List.append_nil] at hs0
  generalize hall : (xs.map Pl.frame).flatten = all at *
  rw [headgatelaw04_RecordRow.l0, if_neg (by omega), Ev4.scan_f hA (by omega) hs0 (by omega) (by omega), Option.bind_some, Ev4.sameL_f xs (by omega) (by omega), Option.bind_some, Option.bind_some]
  rw [if_pos (show ([0] : List Int).length + l1.length < 140737488355328 by rw [List.length_singleton]; omega), Option.bind_some, Option.bind_some]
  rw [if_pos (show ([] : List Int).length + all.length < 140737488355328 by rw [List.length_nil]; omega), Option.bind_some, List.nil_append]
  rw [if_pos (by rw [List.length_append, List.length_singleton]; omega)]
  have h0 : Pl.bytes ([0] ++ l1) := Pl.bytes_app (fun x hx => by rw [List.mem_singleton.1 hx]; decide) hb1
  rw [Ev4.scan_f (l := all ++ ([0] ++ l1)) (Pl.bytes_app hA h0) (by rw [List.length_append, List.length_append, List.length_singleton]; omega) hs1 (by omega) (by omega), Option.bind_some, Ev4.sameL_f xs (by omega) (by omega), Option.bind_some, Ev4.alive_f, Option.bind_some]
  rw [if_pos rfl, if_pos rfl, if_pos rfl]
  simp only [List.length_append, List.length_cons, List.length_nil]
  rw [if_pos (by omega), show ((all.length : Int) - ((0 : Nat) : Int) == (all.length : Int)) = true from by simp]
theorem row_loop (l : List (List Int)) (l1 : List Int) (hb : ∀ x ∈ l, Pl.bytes x) (hb1 : Pl.bytes l1) (hlen1 : l1.length * 1 ≤ 140737488351232) (d : Nat) :
    ∀ (k i : Nat), i ≤ l.length → i ≤ 20 → l.length - i = d → (∀ x ∈ l.take i, Pl.fits x ∧ x.length ≤ 200) → (i ≠ 0 → l1.length ≤ 100) → 70 + 2 * (20 - i) < k →
    headgatelaw04_RecordRow.l0 k l l1 (((l.take i).map Pl.frame).flatten) (i : Int) = some true := by
  induction d with
  | zero =>
    intro k i hi h20 hd hx hs hk
    have e : l.take i = l := List.take_of_length_le (by omega)
    rw [e] at hx ⊢
    exact row_end l l1 hb1 hlen1 (fun x h => ⟨hx x h, hb x h⟩) (by omega) (fun h => hs (by
      intro h0
      apply h
      exact List.eq_nil_of_length_eq_zero (by omega))) k (by omega) i (by omega)
  | succ d ih =>
    intro k i hi h20 hd hx hs hk
    obtain ⟨k, rfl⟩ : ∃ m, k = m + 2 := ⟨k - 2, by omega⟩
    have hlt : i < l.length := by omega
    have T : ∀ x5, headgatelaw04_RecordRow.j1 (k + 1) l l1 x5 (i : Int) true = some true := fun x5 => by
      rw [headgatelaw04_RecordRow.j1, if_pos rfl, Ev4.alive_f, Option.bind_some]
    rw [headgatelaw04_RecordRow.l0, if_pos (by omega), row_rd l i hlt]
    by_cases h1 : (i : Int) = 20
    · rw [if_pos h1]; exact T _
    rw [if_neg h1, if_pos (by omega)]
    by_cases h2 : (l[i].length : Int) > 200
    · rw [if_pos h2]; exact T _
    rw [if_neg h2]
    by_cases h3 : (l1.length : Int) > 100
    · rw [decide_eq_true h3]; exact T _
    rw [decide_eq_false h3, headgatelaw04_RecordRow.j1, if_neg (by decide), if_pos (by omega), if_pos (by omega), row_rd l i hlt]
    have hbi := hb l[i] (List.getElem_mem hlt)
    rw [Ev4.wrap_f hbi (by omega) (by omega), Option.bind_some]
    by_cases h4 : (l[i].length : Int) = 0
    · have hw : Pl.wrap l[i] = ([], 1) := by unfold Pl.wrap; rw [if_pos h4]
      rw [hw, if_neg (by decide), Ev4.alive_f, Option.bind_some, if_pos rfl, if_pos h4]
      rfl
    · have hw : Pl.wrap l[i] = (Pl.frame l[i], 0) := by unfold Pl.wrap; rw [if_neg h4, if_neg (by omega)]
      rw [hw, if_pos rfl]
      have hf : Pl.fits l[i] := by unfold Pl.fits; omega
      have hx' : ∀ x ∈ l.take (i + 1), Pl.fits x ∧ x.length ≤ 200 := fun x hmem => by
        rw [List.take_succ_eq_append_getElem hlt] at hmem
        rcases List.mem_append.1 hmem with h | h
        · exact hx x h
        · rw [List.mem_singleton.1 h]
          exact ⟨hf, by omega⟩
      have e1 : ((l.take (i + 1)).map Pl.frame).flatten = ((l.take i).map Pl.frame).flatten ++ Pl.frame l[i] := by
        rw [List.take_succ_eq_append_getElem hlt, List.map_append, List.flatten_append]
        simp only [List.map_cons, List.map_nil, List.flatten_cons, List.flatten_nil, List.append_nil]
      have hL := row_flat_len (l.take i) 200 (fun x h => (hx x h).2)
      have hti : (l.take i).length = i := by rw [List.length_take]; omega
      rw [hti] at hL
      have hfl := Pl.frame_length l[i]
      rw [if_pos (show (((l.take i).map Pl.frame).flatten).length + (Pl.frame l[i]).length < 140737488355328 by omega), wrap64_small _ (by omega) (by omega), ← e1, show (i : Int) + 1 = ((i + 1 : Nat) : Int) from by omega]
      exact ih k (i + 1) (by omega) (by omega) (by omega) hx' (fun _ => by omega) (by omega)
theorem RecordRow (l : List (List Int)) (l1 : List Int) (hb : ∀ x ∈ l, x.length ≤ maxLen ∧ ∀ n ∈ x, (Lit.int .u8 n).wf = true) (hlen1 : l1.length * 1 ≤ 140737488351232) (hb1 : ∀ x ∈ l1, (Lit.int .u8 x).wf = true) : ∃ k, headgatelaw04_RecordRow.f k l l1 = some true := by
  refine ⟨200, ?_⟩
  unfold headgatelaw04_RecordRow.f
  exact row_loop l l1 (fun x h => bytes_wf (hb x h).2) (bytes_wf hb1) hlen1 l.length 200 0 (by omega) (by omega) (by omega) (fun x h => by simp at h) (fun h => absurd rfl h) (by omega)
end Go.Proofs.Ytmchfjieafffbaa.Pure
