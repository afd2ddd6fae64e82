/- Records as plain Lean: pieces of frames, one byte off, what is scanned. -/
import Derived.Test.YtmchfjieafffbaaPlain4
namespace Go.Proofs.Ytmchfjieafffbaa.Pl

def Bad (t : List Int × Int × Int) : Prop := t.2.2 ≠ 0 → t.1 = [] ∧ t.2.1 = 0 ∧ (t.2.2 = 41 ∨ t.2.2 = 42)
theorem bad_ite {c : Prop} [Decidable c] {s t : List Int × Int × Int} (h1 : Bad s) (h2 : Bad t) : Bad (if c then s else t) := by split <;> assumption
theorem take_bad (b : List Int) (h : (take b).2.2 ≠ 0) : (take b).1 = [] ∧ (take b).2.1 = 0 ∧ ((take b).2.2 = 41 ∨ (take b).2.2 = 42) := by
  have k : Bad (take b) := by
    unfold take
    refine bad_ite (fun _ => ⟨rfl, rfl, .inr rfl⟩) (bad_ite (fun _ => ⟨rfl, rfl, .inl rfl⟩) (bad_ite (fun _ => ⟨rfl, rfl, .inr rfl⟩) (bad_ite (fun _ => ⟨rfl, rfl, .inl rfl⟩) (bad_ite (fun _ => ⟨rfl, rfl, .inr rfl⟩) (bad_ite (fun h => absurd rfl h) (fun _ => ⟨rfl, rfl, .inl rfl⟩))))))
  exact k h
theorem rdi_nat (b : List Int) (i : Nat) : rdi b (i : Int) = b.getD i 0 := by unfold rdi; rw [Int.toNat_natCast]
theorem rdi_take (b : List Int) (n i : Nat) (h : i < n) : rdi (b.take n) (i : Int) = rdi b (i : Int) := by
  rw [rdi_nat, rdi_nat, List.getD_eq_getElem?_getD, List.getD_eq_getElem?_getD, List.getElem?_take_of_lt h]
theorem frame_head (b : List Int) (_ : fits b) : rdi (frame b) 0 = 167 ∧ recN (frame b) = (b.length : Int) := by
  have e : frame b = 167 :: (((b.length : Int) - 1) % 256) :: (((b.length : Int) - 1) / 256) :: (fsum b % 256) :: (fsum b / 256 % 256) :: (fsum b / 65536 % 256) :: (fsum b / 16777216 % 256) :: b := by
    simp [frame, hd3, sum4s]
  rw [e]
  refine ⟨rfl, ?_⟩
  show ((b.length : Int) - 1) % 256 + ((b.length : Int) - 1) / 256 * 256 + 1 = _
  omega
/-- A piece of a frame is too short. -/
theorem take_piece (b : List Int) (hf : fits b) (i : Nat) (hi : i < (frame b).length) : take ((frame b).take i) = ([], 0, 42) := by
  obtain ⟨h0, hn⟩ := frame_head b hf
  rw [frame_length] at hi
  have hl : ((frame b).take i).length = i := by rw [List.length_take, frame_length]; omega
  unfold fits at hf
  unfold take
  by_cases h1 : i = 0
  · rw [if_pos (by omega)]
  · have e0 : rdi ((frame b).take i) 0 = 167 := by rw [← h0]; exact rdi_take _ i 0 (by omega)
    rw [if_neg (by omega), if_neg (by rw [e0]; simp)]
    by_cases h3 : i < 3
    · rw [if_pos (by omega)]
    · have e1 : recN ((frame b).take i) = (b.length : Int) := by
        rw [← hn]
        unfold recN
        have r1 := rdi_take (frame b) i 1 (by omega)
        have r2 := rdi_take (frame b) i 2 (by omega)
        rw [show ((1 : Nat) : Int) = 1 from rfl] at r1
        rw [show ((2 : Nat) : Int) = 2 from rfl] at r2
        rw [r1, r2]
      rw [if_neg (by omega), e1, if_neg (by omega), if_pos (by omega)]

theorem frame_cons (b : List Int) : frame b = 167 :: (((b.length : Int) - 1) % 256) :: (((b.length : Int) - 1) / 256) :: (fsum b % 256) :: (fsum b / 256 % 256) :: (fsum b / 65536 % 256) :: (fsum b / 16777216 % 256) :: b := by
  simp [frame, hd3, sum4s]
/-- Of a frame of which one byte is another one. -/
theorem take_off (b : List Int) (hb : bytes b) (hf : fits b) (i : Nat) (hi : i < (frame b).length) (y : Int) (hy : byte y) (hne : y ≠ (frame b).getD i 0) (x : List Int) (n e : Int) (h : take ((frame b).set i y) = (x, n, e)) :
    (e = 0 → (i = 1 ∨ i = 2) ∧ n < ((frame b).length : Int) ∧ x.length < b.length) ∧ (e ≠ 0 → x = [] ∧ n = 0 ∧ (e = 41 ∨ i = 1 ∨ i = 2)) := by
  have hbf := bytes_frame hb hf
  have hbs : bytes ((frame b).set i y) := fun z hz => by
    rcases List.mem_or_eq_of_mem_set hz with h | h
    · exact hbf z h
    · rw [h]; exact hy
  have hfl := frame_length b
  have hsl : ((frame b).set i y).length = 7 + b.length := by rw [List.length_set, hfl]
  have hN : i ≠ 1 → i ≠ 2 → recN ((frame b).set i y) = (b.length : Int) := fun h1 h2 => by
    rw [← (frame_head b hf).2]
    unfold recN
    have r1 : rdi ((frame b).set i y) 1 = rdi (frame b) 1 := by
      have := rdi_nat ((frame b).set i y) 1
      have := rdi_nat (frame b) 1
      simp only [rdi, List.getD_eq_getElem?_getD]
      rw [List.getElem?_set_ne (by omega)]
    have r2 : rdi ((frame b).set i y) 2 = rdi (frame b) 2 := by
      simp only [rdi, List.getD_eq_getElem?_getD]
      rw [List.getElem?_set_ne (by omega)]
    rw [r1, r2]
  constructor
  · rintro rfl
    obtain ⟨r, hr, hx, hn⟩ := take_ok hbs h
    have hlen : 7 + b.length = 7 + x.length + r.length := by rw [← hsl, hr, List.length_append, frame_length]
    have hrec : recN ((frame b).set i y) = (x.length : Int) := by
      rw [hr]
      have h7 := frame_head x hx
      rw [← h7.2]
      unfold recN
      rw [frame_cons x]
      rfl
    have key : i = 1 ∨ i = 2 := by
      rcases Nat.lt_or_ge 0 0 with h | _
      · omega
      by_cases h1 : i = 1
      · exact .inl h1
      by_cases h2 : i = 2
      · exact .inr h2
      exfalso
      have hlx : x.length = b.length := by have := hN h1 h2; omega
      have hr0 : r = [] := List.eq_nil_of_length_eq_zero (by omega)
      rw [hr0, List.append_nil] at hr
      -- the frame of x differs from the frame of b at i alone
      have hg : ∀ j, j ≠ i → (frame b)[j]? = (frame x)[j]? := fun j hj => by rw [← hr, List.getElem?_set_ne (Ne.symm hj)]
      have hgi : (frame x)[i]? = some y := by rw [← hr, List.getElem?_set_self hi]
      have hge : ∀ j (t : List Int), (frame t)[j + 7]? = t[j]? := fun j t => by rw [frame_cons t]; simp
      by_cases h7 : i < 7
      · have hxb : x = b := List.ext_getElem? fun j => by rw [← hge j x, ← hge j b, hg (j + 7) (by omega)]
        rw [hxb] at hgi
        apply hne
        rw [List.getD_eq_getElem?_getD, hgi]
        rfl
      · obtain ⟨k, rfl⟩ : ∃ k, i = k + 7 := ⟨i - 7, by omega⟩
        have hk : k < b.length := by omega
        have hs : fsum b = fsum x := by
          have q3 := hg 3 (by omega)
          have q4 := hg 4 (by omega)
          have q5 := hg 5 (by omega)
          have q6 := hg 6 (by omega)
          rw [frame_cons b, frame_cons x] at q3 q4 q5 q6
          simp only [List.getElem?_cons_succ, List.getElem?_cons_zero, Option.some.injEq] at q3 q4 q5 q6
          have g1 := fsum_range b
          have g2 := fsum_range x
          omega
        rw [hge] at hgi
        have hxk : x = b.take k ++ y :: b.drop (k + 1) := by
          apply List.ext_getElem?
          intro j
          by_cases hj : j = k
          · subst hj
            rw [hgi, List.getElem?_append_right (by simp; omega)]
            simp [List.length_take, Nat.min_eq_left (Nat.le_of_lt hk)]
          · rw [← hge j x, ← hg (j + 7) (by omega), hge]
            rcases Nat.lt_or_ge j k with hlt | hge'
            · rw [List.getElem?_append_left (by simp; omega), List.getElem?_take_of_lt hlt]
            · rw [List.getElem?_append_right (by simp; omega)]
              have e1 : j - (b.take k).length = (j - k - 1) + 1 := by simp; omega
              rw [e1, List.getElem?_cons_succ, List.getElem?_drop]
              congr 1
              omega
        have hbk : b = b.take k ++ b[k] :: b.drop (k + 1) := by rw [← List.drop_eq_getElem_cons hk, List.take_append_drop]
        have hby : y ≠ b[k] := fun h => hne (by
          rw [List.getD_eq_getElem?_getD, hge, List.getElem?_eq_getElem hk, h]
          rfl)
        unfold fsum at hs
        rw [hlx] at hs
        have e2 : more 1 (hd3 ((b.length : Int) - 1) ++ x) = more 1 ((hd3 ((b.length : Int) - 1) ++ b.take k) ++ y :: b.drop (k + 1)) := by rw [List.append_assoc, ← hxk]
        have e3 : more 1 (hd3 ((b.length : Int) - 1) ++ b) = more 1 ((hd3 ((b.length : Int) - 1) ++ b.take k) ++ b[k] :: b.drop (k + 1)) := by rw [List.append_assoc, ← hbk]
        rw [e2, e3] at hs
        exact more_one 1 _ _ _ _ (hb _ (List.getElem_mem hk)) hy (fun h => hby h.symm) hs
    have hlt : x.length ≠ b.length := by
      intro hl
      have hr0 : r = [] := List.eq_nil_of_length_eq_zero (by omega)
      rw [hr0, List.append_nil] at hr
      -- same length: the bytes of the length are the same
      have e1 : (frame x)[i]? = some y := by rw [← hr, List.getElem?_set_self hi]
      apply hne
      rw [List.getD_eq_getElem?_getD]
      rcases key with rfl | rfl
      · rw [frame_cons x] at e1
        rw [frame_cons b, ← hl]
        simp only [List.getElem?_cons_succ, List.getElem?_cons_zero, Option.some.injEq, Option.getD_some] at e1 ⊢
        exact e1.symm
      · rw [frame_cons x] at e1
        rw [frame_cons b, ← hl]
        simp only [List.getElem?_cons_succ, List.getElem?_cons_zero, Option.some.injEq, Option.getD_some] at e1 ⊢
        exact e1.symm
    exact ⟨key, by omega, by omega⟩
  · intro he
    have hb' := take_bad ((frame b).set i y) (by rw [h]; exact he)
    rw [h] at hb'
    refine ⟨hb'.1, hb'.2.1, ?_⟩
    rcases hb'.2.2 with h41 | h42
    · exact .inl h41
    · by_cases h1 : i = 1
      · exact .inr (.inl h1)
      by_cases h2 : i = 2
      · exact .inr (.inr h2)
      exfalso
      simp only at h42
      subst h42
      have hn := hN h1 h2
      unfold fits at hf
      unfold take at h
      rw [if_neg (by omega)] at h
      split at h
      · simp at h
      rw [if_neg (by omega)] at h
      split at h
      · simp at h
      rw [if_neg (by omega)] at h
      split at h <;> simp at h

/-- What is scanned: the records, and what is left. -/
inductive Scans : List Int → List (List Int) → List Int → Prop
  | done {b} : (take b).2.2 ≠ 0 → Scans b [] b
  | more {b x n xs r} : take b = (x, n, 0) → Scans (b.drop n.toNat) xs r → Scans b (x :: xs) r
theorem scans_all (b : List Int) (hb : bytes b) : ∃ xs r, Scans b xs r := by
  generalize hn : b.length = n
  induction n using Nat.strongRecOn generalizing b with
  | _ n ih =>
    obtain ⟨x, m, e, h⟩ : ∃ x m e, take b = (x, m, e) := ⟨_, _, _, rfl⟩
    by_cases he : e = 0
    · subst he
      obtain ⟨r, hr, hx, hm⟩ := take_ok hb h
      have hl : b.length = 7 + x.length + r.length := by rw [hr, List.length_append, frame_length]
      obtain ⟨xs, r', hs⟩ := ih (b.drop m.toNat).length (by rw [List.length_drop]; omega) (b.drop m.toNat) (bytes_drop hb _) rfl
      exact ⟨_, _, .more h hs⟩
    · exact ⟨_, _, .done (by rw [h]; exact he)⟩
theorem scans_back {b : List Int} {xs : List (List Int)} {r : List Int} (hb : bytes b) (h : Scans b xs r) : b = (xs.map frame).flatten ++ r ∧ (∀ x ∈ xs, fits x ∧ bytes x) ∧ (take r).2.2 ≠ 0 := by
  induction h with
  | done h => exact ⟨by simp, by simp, h⟩
  | @more b x n xs r h hs ih =>
    obtain ⟨r', hr, hx, hm⟩ := take_ok hb h
    have hbx : bytes x := by
      have : bytes (frame x ++ r') := hr ▸ hb
      have h2 := bytes_left this
      rw [frame_cons x] at h2
      exact fun z hz => h2 z (by simp [hz])
    have hd : b.drop n.toNat = r' := by
      rw [hr, show n.toNat = (frame x).length from by rw [frame_length]; omega, List.drop_left]
    obtain ⟨h1, h2, h3⟩ := ih (bytes_drop hb _)
    rw [hd] at h1
    refine ⟨by rw [hr, h1]; simp, ?_, h3⟩
    intro z hz
    rcases List.mem_cons.1 hz with rfl | hz
    · exact ⟨hx, hbx⟩
    · exact h2 z hz
theorem scans_row (xs : List (List Int)) (r : List Int) (hx : ∀ x ∈ xs, fits x) (hr : (take r).2.2 ≠ 0) : Scans ((xs.map frame).flatten ++ r) xs r := by
  induction xs with
  | nil => exact .done hr
  | cons x xs ih =>
    have e : (((x :: xs).map frame).flatten ++ r) = frame x ++ ((xs.map frame).flatten ++ r) := by simp
    rw [e]
    refine .more (take_frame x _ (hx x List.mem_cons_self)) ?_
    rw [show (7 + (x.length : Int)).toNat = (frame x).length from by rw [frame_length]; omega, List.drop_left]
    exact ih fun z hz => hx z (List.mem_cons_of_mem _ hz)
theorem scans_le {b : List Int} {xs : List (List Int)} {r : List Int} (h : Scans b xs r) : r.length ≤ b.length := by
  induction h with
  | done h => exact Nat.le_refl _
  | more h hs ih => rw [List.length_drop] at ih; omega
end Go.Proofs.Ytmchfjieafffbaa.Pl
