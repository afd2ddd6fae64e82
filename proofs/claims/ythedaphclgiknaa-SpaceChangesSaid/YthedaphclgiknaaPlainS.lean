/- The listing of a text as plain Lean: it can be read back. -/
import Derived.WalkKit
namespace Go.Proofs.Ythedaphclgiknaa.Pl

def by3 (n : Nat) : List Nat := [92, 48 + n / 64, 48 + n / 8 % 8, 48 + n % 8]
def nam (n : Nat) : Nat := [97, 98, 116, 110, 118, 102, 114].getD (n - 7) 0
def sh (n : Nat) : List Nat := if n = 92 then [92, 92] else if 7 ≤ n ∧ n ≤ 13 then [92, nam n] else if n < 32 ∨ n > 126 then by3 n else [n]
def ls : List Nat → Nat → List Nat
  | [], _ => [36, 10]
  | c :: t, row => if row + (sh c).length > 69 then 92 :: 10 :: (sh c ++ ls t (sh c).length) else sh c ++ ls t (row + (sh c).length)
def dec2 (a b c : Nat) : Option Nat :=
  if a = 10 then none else if a = 92 then some 92 else if a = 97 then some 7 else if a = 98 then some 8 else if a = 116 then some 9 else if a = 110 then some 10 else
  if a = 118 then some 11 else if a = 102 then some 12 else if a = 114 then some 13 else some ((a - 48) * 64 + (b - 48) * 8 + (c - 48))
def dec (l : List Nat) : Option Nat := if l.getD 0 0 = 92 then dec2 (l.getD 1 0) (l.getD 2 0) (l.getD 3 0) else some (l.getD 0 0)
theorem sh_lt : ∀ n : Fin 256, (∀ x ∈ sh n.val, x < 127 ∧ 32 ≤ x) ∧ 1 ≤ (sh n.val).length ∧ (sh n.val).length ≤ 4 := by decide +kernel
theorem sh_len (n : Nat) (h : n < 256) : 1 ≤ (sh n).length ∧ (sh n).length ≤ 4 := (sh_lt ⟨n, h⟩).2
theorem sh_mem (n : Nat) (h : n < 256) (x : Nat) (hx : x ∈ sh n) : 32 ≤ x ∧ x ≤ 126 := by
  have := (sh_lt ⟨n, h⟩).1 x hx
  omega
theorem dec2_nam (n b c : Nat) (h : 7 ≤ n ∧ n ≤ 13) : dec2 (nam n) b c = some n := by
  obtain ⟨m, hm, rfl⟩ : ∃ m, m ≤ 6 ∧ n = m + 7 := ⟨n - 7, by omega, by omega⟩
  match m, hm with
  | 0, _ | 1, _ | 2, _ | 3, _ | 4, _ | 5, _ | 6, _ => rfl
theorem dec_app (n : Nat) (hn : n < 256) (A : List Nat) : dec (sh n ++ A) = some n := by
  unfold sh
  by_cases h1 : n = 92
  · rw [if_pos h1, h1]; rfl
  rw [if_neg h1]
  by_cases h2 : 7 ≤ n ∧ n ≤ 13
  · rw [if_pos h2]
    exact dec2_nam n _ _ h2
  rw [if_neg h2]
  by_cases h3 : n < 32 ∨ n > 126
  · rw [if_pos h3]
    show dec2 (48 + n / 64) (48 + n / 8 % 8) (48 + n % 8) = some n
    unfold dec2
    rw [if_neg (by omega), if_neg (by omega), if_neg (by omega), if_neg (by omega), if_neg (by omega), if_neg (by omega), if_neg (by omega), if_neg (by omega), if_neg (by omega)]
    congr 1
    omega
  · rw [if_neg h3]
    show (if n = 92 then _ else some n) = some n
    rw [if_neg h1]
theorem ls_len (l : List Nat) : ∀ row, 2 ≤ (ls l row).length := by
  induction l with
  | nil => exact fun _ => by simp [ls]
  | cons c t ih =>
    intro row
    rw [ls]
    split
    · simp only [List.length_cons, List.length_append]; omega
    · simp only [List.length_append]; have := ih (row + (sh c).length); omega
theorem ls_end (l : List Nat) : ∀ row, ∃ p, ls l row = p ++ [36, 10] := by
  induction l with
  | nil => exact fun _ => ⟨[], rfl⟩
  | cons c t ih =>
    intro row
    rw [ls]
    split
    · obtain ⟨p, hp⟩ := ih (sh c).length
      exact ⟨92 :: 10 :: (sh c ++ p), by rw [hp]; simp⟩
    · obtain ⟨p, hp⟩ := ih (row + (sh c).length)
      exact ⟨sh c ++ p, by rw [hp]; simp⟩
theorem ls_fold (A : List Nat) : dec (92 :: 10 :: A) = none := rfl
theorem ls_nil_ne (c : Nat) (hc : c < 256) (t : List Nat) (row : Nat) : ls (c :: t) row ≠ [36, 10] := by
  intro h
  have hl := congrArg List.length h
  rw [ls] at h hl
  have h1 := sh_len c hc
  split at h
  · simp at h
  · rename_i hf
    rw [if_neg hf] at hl
    have h2 := ls_len t (row + (sh c).length)
    simp only [List.length_append, List.length_cons, List.length_nil] at hl
    omega
/-- Two texts that are listed alike are one. -/
theorem ls_inj (l : List Nat) : ∀ (m : List Nat) (row : Nat), (∀ x ∈ l, x < 256) → (∀ x ∈ m, x < 256) → ls l row = ls m row → l = m := by
  induction l with
  | nil =>
    intro m row _ hm h
    cases m with
    | nil => rfl
    | cons d u => exact absurd h.symm (ls_nil_ne d (hm d (by simp)) u row)
  | cons c t ih =>
    intro m row hl hm h
    cases m with
    | nil => exact absurd h (ls_nil_ne c (hl c (by simp)) t row)
    | cons d u =>
      have hc := hl c (by simp)
      have hd := hm d (by simp)
      have key : ∀ A B, sh c ++ A = sh d ++ B → c = d := fun A B e => by
        have e1 := dec_app c hc A
        rw [e, dec_app d hd B] at e1
        exact (Option.some.inj e1).symm
      rw [ls, ls] at h
      split at h
      · split at h
        · simp only [List.cons.injEq, true_and] at h
          obtain rfl := key _ _ h
          rw [ih u _ (fun x hx => hl x (by simp [hx])) (fun x hx => hm x (by simp [hx])) (List.append_cancel_left h)]
        · have e := congrArg dec h
          rw [ls_fold, dec_app d hd] at e
          cases e
      · split at h
        · have e := congrArg dec h
          rw [ls_fold, dec_app c hc] at e
          cases e
        · obtain rfl := key _ _ h
          rw [ih u _ (fun x hx => hl x (by simp [hx])) (fun x hx => hm x (by simp [hx])) (List.append_cancel_left h)]
/-- Rows are of 70 bytes at most, and all can be seen. -/
def chk : List Nat → Nat → Bool
  | [], _ => true
  | b :: t, r => if b = 10 then chk t 0 else if r + 1 > 70 then false else if b < 32 then false else if b > 126 then false else chk t (r + 1)
theorem chk_app (x : List Nat) : ∀ (r : Nat) (A : List Nat), (∀ b ∈ x, 32 ≤ b ∧ b ≤ 126) → r + x.length ≤ 70 → chk (x ++ A) r = chk A (r + x.length) := by
  induction x with
  | nil => exact fun r A _ _ => rfl
  | cons b t ih =>
    intro r A hb hr
    have h1 := hb b (by simp)
    simp only [List.length_cons] at hr
    rw [List.cons_append, chk, if_neg (by omega), if_neg (by omega), if_neg (by omega), if_neg (by omega), ih (r + 1) A (fun c hc => hb c (by simp [hc])) (by omega)]
    congr 1
    simp only [List.length_cons]
    omega
theorem chk_ls (l : List Nat) : ∀ row, row ≤ 69 → (∀ x ∈ l, x < 256) → chk (ls l row) row = true := by
  induction l with
  | nil =>
    intro row hr _
    rw [ls, chk, if_neg (by omega), if_neg (by omega), if_neg (by omega), if_neg (by omega)]
    rfl
  | cons c t ih =>
    intro row hr hl
    have hc := hl c (by simp)
    have h1 := sh_len c hc
    have ht : ∀ x ∈ t, x < 256 := fun x hx => hl x (by simp [hx])
    rw [ls]
    split
    · rw [chk, if_neg (by omega), if_neg (by omega), if_neg (by omega), if_neg (by omega), chk, if_pos rfl, chk_app _ 0 _ (fun b hb => sh_mem c hc b hb) (by omega), Nat.zero_add]
      exact ih _ (by omega) ht
    · rw [chk_app _ row _ (fun b hb => sh_mem c hc b hb) (by omega)]
      exact ih _ (by omega) ht
end Go.Proofs.Ythedaphclgiknaa.Pl
