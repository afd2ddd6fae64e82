/- A text can be read back from its listing, whose rows are short and can be seen. -/
import Derived.Test.YthedaphclgiknaaPrintF3
import Derived.Test.YthedaphclgiknaaEvalS
namespace Go.Proofs.Ythedaphclgiknaa.Pure
open Go.RowKit Go.Proofs.Ythedaphclgiknaa.Print Go.Proofs.YthedaphclgiknaaW.PrintWords Go.Proofs.YthedaphclgiknaaW.PrintLast Go.Proofs.Ythedaphclgiknaa

theorem wrap64_small' (a : Int) (h : -9223372036854775808 ≤ a) (h1 : a ≤ 9223372036854775807) : wrap64 a = a := by unfold wrap64; omega
theorem read_loop (x : ByteArray) (hx : x.size ≤ 1000000) (d : Nat) : ∀ (k i r : Nat), i ≤ x.size → x.size - i = d → d < k → r ≤ 70 → Pl.chk ((EvS.nat x.data.toList).drop i) r = true →
    headgatelaw16_SpaceRead.l0 k x (r : Int) (i : Int) = some true := by
  have hlen := EvS.len_nat x
  induction d with
  | zero =>
    intro k i r hi hd hk _ _
    obtain ⟨k, rfl⟩ : ∃ m, k = m + 1 := ⟨k - 1, by omega⟩
    rw [headgatelaw16_SpaceRead.l0, if_neg (by omega), EvS.alive_f, Option.bind_some]
  | succ d ih =>
    intro k i r hi hd hk hr hc
    obtain ⟨k, rfl⟩ : ∃ m, k = m + 1 := ⟨k - 1, by omega⟩
    have hlt : i < x.size := by omega
    have hb : bt x (i : Int) = (((EvS.nat x.data.toList)[i]'(by omega) : Nat) : Int) := by
      rw [EvS.bt_nat x i hlt, Cu.getD_at x i hlt]
      simp [EvS.nat]
    rw [List.drop_eq_getElem_cons (by omega), Pl.chk] at hc
    rw [headgatelaw16_SpaceRead.l0, if_pos (by omega), if_pos (by omega), hb, wrap64_small' (i + 1) (by omega) (by omega)]
    generalize (EvS.nat x.data.toList)[i]'(by omega) = b at hc
    by_cases h1 : b = 10
    · rw [if_pos h1] at hc
      rw [if_pos (by omega)]
      exact ih k (i + 1) 0 (by omega) (by omega) (by omega) (by omega) hc
    · rw [if_neg h1] at hc
      rw [if_neg (by omega), wrap64_small' (r + 1) (by omega) (by omega)]
      split at hc
      · cases hc
      · split at hc
        · cases hc
        · split at hc
          · cases hc
          · rw [if_neg (by omega), if_neg (by omega), if_neg (by omega)]
            exact ih k (i + 1) (r + 1) (by omega) (by omega) (by omega) (by omega) hc
theorem SpaceRead : headgatelaw16_SpaceRead.Pure := by
  intro a0 a1 _ _
  have T : ∀ k, headgatelaw16_SpaceRead.j0 (k + 1) a0 a1 true = some true := fun k => by
    rw [headgatelaw16_SpaceRead.j0, if_pos rfl, EvS.alive_f, Option.bind_some]
  by_cases h0 : (a0.size : Int) > 1100
  · exact ⟨1, by unfold headgatelaw16_SpaceRead.f; rw [if_pos h0]; exact T 0⟩
  by_cases h1 : (a1.size : Int) > 1100
  · exact ⟨1, by unfold headgatelaw16_SpaceRead.f; rw [if_neg h0, decide_eq_true h1]; exact T 0⟩
  obtain ⟨x, hx, ex⟩ := EvS.list_f a0 (by omega)
  obtain ⟨y, hy, ey⟩ := EvS.list_f a1 (by omega)
  obtain ⟨p, hp⟩ := Pl.ls_end (EvS.nat a0.data.toList) 0
  have hlen := EvS.len_nat x
  have hpl : x.size = p.length + 2 := by rw [← hlen, ex, hp, List.length_append]; rfl
  have hsz : x.size ≤ 1000000 := by
    have hb : ∀ (l : List Nat), (∀ c ∈ l, c < 256) → ∀ row, (Pl.ls l row).length ≤ 6 * l.length + 2 := fun l => by
      induction l with
      | nil => exact fun _ row => by simp [Pl.ls]
      | cons c t ih =>
        intro hl row
        have h4 := Pl.sh_len c (hl c (by simp))
        have ht := ih (fun c hc => hl c (by simp [hc]))
        rw [Pl.ls]
        split
        · simp only [List.length_cons, List.length_append]; have := ht (Pl.sh c).length; omega
        · simp only [List.length_cons, List.length_append]; have := ht (row + (Pl.sh c).length); omega
    have := hb _ (EvS.nat_lt a0.data.toList) 0
    rw [← ex, hlen, EvS.len_nat] at this
    omega
  have hiff : (x.toList == y.toList) = (a0.toList == a1.toList) := by
    rw [Go.Lib.toList_data, Go.Lib.toList_data, Go.Lib.toList_data, Go.Lib.toList_data, Bool.eq_iff_iff, beq_iff_eq, beq_iff_eq]
    constructor
    · intro h
      apply EvS.nat_inj
      apply Pl.ls_inj _ _ 0 (EvS.nat_lt _) (EvS.nat_lt _)
      rw [← ex, ← ey, h]
    · intro h
      apply EvS.nat_inj
      rw [ex, ey, h]
  have at_ : ∀ i (h : i < x.size), bt x (i : Int) = (((EvS.nat x.data.toList)[i]'(by omega) : Nat) : Int) := fun i h => by
    rw [EvS.bt_nat x i h, Cu.getD_at x i h]
    simp [EvS.nat]
  have l1 : bt x ((x.size : Int) - 1) = 10 := by
    rw [show (x.size : Int) - 1 = ((p.length + 1 : Nat) : Int) from by omega, at_ _ (by omega)]
    simp only [ex, hp]
    rw [List.getElem_append_right (by omega)]
    simp
  have l2 : bt x ((x.size : Int) - 2) = 36 := by
    rw [show (x.size : Int) - 2 = ((p.length : Nat) : Int) from by omega, at_ _ (by omega)]
    simp only [ex, hp]
    rw [List.getElem_append_right (by omega)]
    simp
  refine ⟨x.size + 10, ?_⟩
  unfold headgatelaw16_SpaceRead.f
  rw [if_neg h0, decide_eq_false h1, headgatelaw16_SpaceRead.j0, if_neg (by decide), hx, Option.bind_some, hy, Option.bind_some, hiff, if_neg (by simp), if_neg (by omega), wrap64_small' ((x.size : Int) - 1) (by omega) (by omega), wrap64_small' ((x.size : Int) - 2) (by omega) (by omega), l1, l2, if_pos (by omega), if_pos (by omega), if_pos rfl, if_pos (by omega), if_pos (by omega), headgatelaw16_SpaceRead.j1, if_neg (by decide)]
  exact read_loop x hsz x.size _ 0 0 (by omega) (by omega) (by omega) (by omega) (by rw [List.drop_zero, ex]; exact Pl.chk_ls _ 0 (by omega) (EvS.nat_lt _))
end Go.Proofs.Ythedaphclgiknaa.Pure
