/- The document's request of a frame is the program's: plain. -/
import Derived.Test.YtgnepppncmjagaaFr2
namespace Go.Proofs.Ytgnepppncmjagaa.Fr
open Go
/-- The document's loop. -/
def rl : Nat → List Int → List (List Int) → Option (List (List Int))
  | 0, l, fs => if l.length > 0 then none else some fs
  | _ + 1, [], _ => none
  | k + 1, x :: l, fs => if l.length < x.toNat then none else rl k (l.drop x.toNat) (fs ++ [l.take x.toNat])
theorem fl_false (k : Nat) (l : List Int) (fs : List (List Int)) : (fl k false l fs).1 = false := by cases k <;> simp [fl]
theorem tkf_false (l : List Int) (n : Nat) : tkf false l n = (false, [0, 0], l) := by simp [tkf]
theorem fl_rl (k : Nat) : ∀ (l : List Int) (fs : List (List Int)), bytes l → (if (fl k true l fs).1 = false ∨ (fl k true l fs).2.1.length > 0 then none else some (fl k true l fs).2.2) = rl k l fs := by
  induction k with
  | zero => intro l fs _; simp [fl, rl]
  | succ k ih =>
    intro l fs hb
    cases l with
    | nil =>
      unfold fl rl
      have e : tkf true ([] : List Int) 1 = (false, [0, 0], []) := by simp [tkf]
      rw [if_pos rfl, e, tkf_false, if_pos (Or.inl (fl_false _ _ _))]
    | cons x l =>
      unfold fl rl
      have e : tkf true (x :: l) 1 = (true, [x], l) := by simp [tkf]
      rw [if_pos rfl, e]
      show (if (fl k (tkf true l x.toNat).1 (tkf true l x.toNat).2.2 (fs ++ [(tkf true l x.toNat).2.1])).1 = false ∨ (fl k (tkf true l x.toNat).1 (tkf true l x.toNat).2.2 (fs ++ [(tkf true l x.toNat).2.1])).2.1.length > 0 then none else some (fl k (tkf true l x.toNat).1 (tkf true l x.toNat).2.2 (fs ++ [(tkf true l x.toNat).2.1])).2.2) = _
      by_cases hn : x.toNat ≤ l.length
      · rw [show tkf true l x.toNat = (true, l.take x.toNat, l.drop x.toNat) by simp [tkf, hn], if_neg (show ¬ l.length < x.toNat by omega)]
        exact ih _ _ (fun y hy => hb y (List.mem_cons_of_mem _ (List.mem_of_mem_drop hy)))
      · rw [show tkf true l x.toNat = (false, [0, 0], l) by simp [tkf, hn], if_pos (show l.length < x.toNat by omega), if_pos (Or.inl (fl_false _ _ _))]
/-- The document's answer. -/
def refd (id kind : Int) (l : List Int) : Option (List Int × Int × List (List Int)) :=
  match l with
  | b0 :: b1 :: b2 :: b3 :: r =>
    if kind ≠ 1 ∨ b0 > 7 ∨ id < 0 ∨ id > 65535 ∨ r.length + 4 > 4096 then none
    else if r.length < (256 * b1 + b2).toNat then none
    else match (b3 :: r).drop (256 * b1 + b2).toNat with
      | [] => none
      | c :: s => (rl c.toNat s []).map fun fs => ((b3 :: r).take (256 * b1 + b2).toNat, b0, fs)
  | _ => none
theorem askd2_false (l : List Int) : askd2 false l = none := by
  unfold askd2
  simp only [tkf_false, fl_false]
  simp
theorem askd_refd {l : List Int} (hb : bytes l) (id kind : Int) : askd id kind l = refd id kind l := by
  unfold askd
  by_cases h : 0 ≤ id ∧ id ≤ 65535 ∧ l.length ≤ 4096 ∧ kind = 1
  · rw [decide_eq_true h]
    obtain ⟨h1, h2, h3, rfl⟩ := h
    match l, hb with
    | [], _ => rfl
    | [b0], _ =>
      have e1 : tkf true [b0] 1 = (true, [b0], []) := by simp [tkf]
      have e2 : tkf true ([] : List Int) 2 = (false, [0, 0], []) := by simp [tkf]
      simp [askd2, e1, e2, tkf_false, fl_false, refd]
    | [b0, b1], _ =>
      have e1 : tkf true [b0, b1] 1 = (true, [b0], [b1]) := by simp [tkf]
      have e2 : tkf true [b1] 2 = (false, [0, 0], [b1]) := by simp [tkf]
      simp [askd2, e1, e2, tkf_false, fl_false, refd]
    | b0 :: b1 :: b2 :: r, hb =>
      have hb1 := hb b1 (by simp)
      have hb2 := hb b2 (by simp)
      have e1 : tkf true (b0 :: b1 :: b2 :: r) 1 = (true, [b0], b1 :: b2 :: r) := by simp [tkf]
      have e2 : tkf true (b1 :: b2 :: r) 2 = (true, [b1, b2], r) := by simp [tkf]
      have en : num2 [b1, b2] = 256 * b1 + b2 := rfl
      obtain ⟨n, hn⟩ := Int.eq_ofNat_of_zero_le (show 0 ≤ 256 * b1 + b2 by omega)
      by_cases hl : n < r.length
      · have e3 : tkf true r n = (true, r.take n, r.drop n) := by simp [tkf]; omega
        obtain ⟨c, s, hcs⟩ : ∃ c s, r.drop n = c :: s := by
          cases hd : r.drop n with
          | nil => rw [List.drop_eq_nil_iff] at hd; omega
          | cons c s => exact ⟨c, s, rfl⟩
        have e4 : tkf true (c :: s) 1 = (true, [c], s) := by simp [tkf]
        have hbs : bytes s := fun y hy => hb y (by
          have : y ∈ r.drop n := by rw [hcs]; exact List.mem_cons_of_mem _ hy
          have := List.mem_of_mem_drop this
          simp [this])
        have hrl := fl_rl c.toNat s [] hbs
        cases r with
        | nil => simp at hl
        | cons b3 r =>
          unfold refd
          simp only [askd2, e1, e2, en, hn, Int.toNat_natCast, e3, hcs, e4]
          simp only [List.getD_cons_zero]
          rw [← hrl]
          by_cases hb0 : b0 > 7
          · rw [if_pos (.inr (.inr hb0)), if_pos (.inr (.inl hb0))]
          · rw [if_neg (show ¬ ((1 : Int) ≠ 1 ∨ b0 > 7 ∨ id < 0 ∨ id > 65535 ∨ r.length + 4 > 4096) by simp at h3; omega), if_neg (show ¬ r.length < n by simp at hl; omega)]
            by_cases hq : (fl c.toNat true s []).1 = false ∨ (fl c.toNat true s []).2.1.length > 0
            · rw [if_pos hq, if_pos (hq.elim .inl (fun h => .inr (.inl h)))]; rfl
            · rw [if_neg hq, if_neg (fun h => hq (h.elim .inl (fun h => h.elim .inr (fun h => absurd h hb0))))]; rfl
      · have hne : refd id 1 (b0 :: b1 :: b2 :: r) = none := by
          cases r with
          | nil => rfl
          | cons b3 r =>
            unfold refd
            simp only [hn, Int.toNat_natCast]
            simp only [List.length_cons] at hl
            rw [if_pos (show r.length < n by omega), ite_self]
        rw [hne]
        by_cases hle : n = r.length
        · have e3 : tkf true r n = (true, r, []) := by simp [tkf, hle]
          have e4 : tkf true ([] : List Int) 1 = (false, [0, 0], []) := by simp [tkf]
          simp only [askd2, e1, e2, en, hn, Int.toNat_natCast, e3, e4, fl_false]
          simp
        · have e3 : tkf true r n = (false, [0, 0], r) := by simp [tkf]; omega
          simp only [askd2, e1, e2, en, hn, Int.toNat_natCast, e3, tkf_false, fl_false]
          simp
  · rw [decide_eq_false h, askd2_false]
    unfold refd
    split
    · rw [if_pos]
      simp only [List.length_cons] at h
      omega
    · rfl
end Go.Proofs.Ytgnepppncmjagaa.Fr
