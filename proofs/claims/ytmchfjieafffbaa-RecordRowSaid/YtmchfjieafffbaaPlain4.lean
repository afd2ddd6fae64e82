/- Records as plain Lean: frames, what is taken, what is scanned. -/
import Derived.Test.YtmchfjieafffbaaPlain1
namespace Go.Proofs.Ytmchfjieafffbaa.Pl

def rdi (xs : List Int) (i : Int) : Int := xs.getD i.toNat 0
def hd3 (n : Int) : List Int := [167, n % 256, n / 256]
def sum4s (s : Int) : List Int := [s % 256, s / 256 % 256, s / 65536 % 256, s / 16777216 % 256]
def fsum (b : List Int) : Int := more 1 (hd3 ((b.length : Int) - 1) ++ b)
def frame (b : List Int) : List Int := hd3 ((b.length : Int) - 1) ++ (sum4s (fsum b) ++ b)
def fits (b : List Int) : Prop := 1 ≤ b.length ∧ b.length ≤ 4096
def wrap (b : List Int) : List Int × Int := if (b.length : Int) = 0 then ([], 1) else if (b.length : Int) > 4096 then ([], 1) else (frame b, 0)
def recN (b : List Int) : Int := rdi b 1 + rdi b 2 * 256 + 1
def sum4 (b : List Int) : Int := rdi b 3 + 256 * rdi b 4 + 65536 * rdi b 5 + 16777216 * rdi b 6
def body (b : List Int) : List Int := (b.take (7 + recN b).toNat).drop 7
def take (b : List Int) : List Int × Int × Int :=
  if (b.length : Int) = 0 then ([], 0, 42) else if rdi b 0 ≠ 167 then ([], 0, 41) else if (b.length : Int) < 3 then ([], 0, 42) else
  if recN b > 4096 then ([], 0, 41) else if (b.length : Int) - 7 < recN b then ([], 0, 42) else
  if sum4 b = more 1 (b.take 3 ++ body b) then (body b, 7 + recN b, 0) else ([], 0, 41)

theorem frame_length (b : List Int) : (frame b).length = 7 + b.length := by simp [frame, hd3, sum4s]; omega
theorem sum4s_sum (s : Int) (h0 : 0 ≤ s) (h1 : s < 4294967296) : s % 256 + 256 * (s / 256 % 256) + 65536 * (s / 65536 % 256) + 16777216 * (s / 16777216 % 256) = s := by omega
theorem fsum_range (b : List Int) : 0 ≤ fsum b ∧ fsum b < 4294967296 := more_range _ _
theorem seven {b : List Int} (h : 7 ≤ b.length) : ∃ b0 b1 b2 b3 b4 b5 b6 t, b = b0 :: b1 :: b2 :: b3 :: b4 :: b5 :: b6 :: t := by
  rcases b with _ | ⟨b0, b⟩ <;> simp at h
  rcases b with _ | ⟨b1, b⟩ <;> simp at h
  rcases b with _ | ⟨b2, b⟩ <;> simp at h
  rcases b with _ | ⟨b3, b⟩ <;> simp at h
  rcases b with _ | ⟨b4, b⟩ <;> simp at h
  rcases b with _ | ⟨b5, b⟩ <;> simp at h
  rcases b with _ | ⟨b6, b⟩ <;> simp at h
  exact ⟨_, _, _, _, _, _, _, _, rfl⟩
theorem rdi_range {b : List Int} (hb : bytes b) (i : Int) : 0 ≤ rdi b i ∧ rdi b i < 256 := by
  unfold rdi
  by_cases h : i.toNat < b.length
  · rw [List.getD_eq_getElem?_getD, List.getElem?_eq_getElem h]
    exact hb _ (List.getElem_mem h)
  · rw [List.getD_eq_getElem?_getD, List.getElem?_eq_none (by omega)]
    exact ⟨by decide, by decide⟩
theorem bytes_app {l m : List Int} (hl : bytes l) (hm : bytes m) : bytes (l ++ m) := fun x hx => by
  rcases List.mem_append.1 hx with h | h
  · exact hl x h
  · exact hm x h
theorem bytes_take {l : List Int} (h : bytes l) (n : Nat) : bytes (l.take n) := fun x hx => h x (List.mem_of_mem_take hx)
theorem bytes_drop {l : List Int} (h : bytes l) (n : Nat) : bytes (l.drop n) := fun x hx => h x (List.mem_of_mem_drop hx)
theorem bytes_left {l m : List Int} (h : bytes (l ++ m)) : bytes l := fun x hx => h x (List.mem_append_left _ hx)
theorem bytes_right {l m : List Int} (h : bytes (l ++ m)) : bytes m := fun x hx => h x (List.mem_append_right _ hx)
theorem bytes_frame {b : List Int} (h : bytes b) (hf : fits b) : bytes (frame b) := by
  intro x hx
  simp only [frame, hd3, sum4s, List.mem_append, List.mem_cons, List.not_mem_nil, or_false] at hx
  unfold fits at hf
  rcases hx with (rfl | rfl | rfl) | (rfl | rfl | rfl | rfl) | hx
  · omega
  · omega
  · omega
  · omega
  · omega
  · omega
  · omega
  · exact h x hx
/-- A frame, whatever stands behind, is taken. -/
theorem take_frame (b r : List Int) (hf : fits b) : take (frame b ++ r) = (b, 7 + (b.length : Int), 0) := by
  have hs := sum4s_sum (fsum b) (fsum_range b).1 (fsum_range b).2
  unfold fits at hf
  have e : frame b ++ r = 167 :: (((b.length : Int) - 1) % 256) :: (((b.length : Int) - 1) / 256) :: (fsum b % 256) :: (fsum b / 256 % 256) :: (fsum b / 65536 % 256) :: (fsum b / 16777216 % 256) :: (b ++ r) := by
    simp [frame, hd3, sum4s]
  have hn : recN (frame b ++ r) = (b.length : Int) := by
    rw [e]
    show ((b.length : Int) - 1) % 256 + ((b.length : Int) - 1) / 256 * 256 + 1 = _
    omega
  have hl : (frame b ++ r).length = 7 + b.length + r.length := by rw [List.length_append, frame_length]
  have h4 : sum4 (frame b ++ r) = fsum b := by
    rw [e]
    exact hs
  have hb : body (frame b ++ r) = b := by
    unfold body
    rw [hn, show (7 + (b.length : Int)).toNat = (frame b).length from by rw [frame_length]; omega, List.take_left]
    simp [frame, hd3, sum4s]
  have h3 : (frame b ++ r).take 3 = hd3 ((b.length : Int) - 1) := by rw [e]; rfl
  have h0 : rdi (frame b ++ r) 0 = 167 := by rw [e]; rfl
  unfold take
  rw [if_neg (by omega), if_neg (by rw [h0]; simp), if_neg (by omega), if_neg (by omega), if_neg (by omega), h4, hb, h3, if_pos (show fsum b = more 1 (hd3 ((b.length : Int) - 1) ++ b) from rfl), hn]
/-- What is taken is what is wrapped. -/
theorem take_ok {b x : List Int} {n : Int} (hb : bytes b) (h : take b = (x, n, 0)) : ∃ r, b = frame x ++ r ∧ fits x ∧ n = 7 + (x.length : Int) := by
  unfold take at h
  split at h
  · simp at h
  split at h
  · simp at h
  split at h
  · simp at h
  split at h
  · simp at h
  split at h
  · simp at h
  split at h
  · rename_i c0 c1 c2 c3 c4 c5
    simp only [Prod.mk.injEq, and_true] at h
    obtain ⟨hx, hn⟩ := h
    have r1 := rdi_range hb 1
    have r2 := rdi_range hb 2
    have hN : recN b = rdi b 1 + rdi b 2 * 256 + 1 := rfl
    obtain ⟨b0, b1, b2, b3, b4, b5, b6, t, rfl⟩ := seven (b := b) (by omega)
    have hb0 : b0 = 167 := by
      have : ¬ (b0 ≠ 167) := c1
      omega
    subst hb0
    have e1 : rdi (167 :: b1 :: b2 :: b3 :: b4 :: b5 :: b6 :: t) 1 = b1 := rfl
    have e2 : rdi (167 :: b1 :: b2 :: b3 :: b4 :: b5 :: b6 :: t) 2 = b2 := rfl
    rw [e1, e2] at hN
    rw [e1] at r1
    rw [e2] at r2
    have q3 : 0 ≤ b3 ∧ b3 < 256 := hb b3 (by simp)
    have q4 : 0 ≤ b4 ∧ b4 < 256 := hb b4 (by simp)
    have q5 : 0 ≤ b5 ∧ b5 < 256 := hb b5 (by simp)
    have q6 : 0 ≤ b6 ∧ b6 < 256 := hb b6 (by simp)
    obtain ⟨m, hm⟩ : ∃ m : Nat, recN (167 :: b1 :: b2 :: b3 :: b4 :: b5 :: b6 :: t) = (m : Int) := ⟨_, (Int.toNat_of_nonneg (by omega)).symm⟩
    have hbody : body (167 :: b1 :: b2 :: b3 :: b4 :: b5 :: b6 :: t) = t.take m := by
      unfold body
      rw [hm, show (7 + (m : Int)).toNat = m + 7 from by omega]
      simp
    rw [hbody] at hx c5
    simp only [List.length_cons] at c4
    have hml : m ≤ t.length := by omega
    have hxl : x.length = m := by rw [← hx, List.length_take]; omega
    have hs : sum4 (167 :: b1 :: b2 :: b3 :: b4 :: b5 :: b6 :: t) = b3 + 256 * b4 + 65536 * b5 + 16777216 * b6 := rfl
    have h3 : (167 :: b1 :: b2 :: b3 :: b4 :: b5 :: b6 :: t).take 3 = [167, b1, b2] := rfl
    rw [hs, h3] at c5
    have ef : fsum x = b3 + 256 * b4 + 65536 * b5 + 16777216 * b6 := by
      rw [c5]
      unfold fsum hd3
      rw [hx, hxl]
      have g1 : ((m : Int) - 1) % 256 = b1 := by omega
      have g2 : ((m : Int) - 1) / 256 = b2 := by omega
      rw [g1, g2]
    refine ⟨t.drop m, ?_, ⟨by omega, by omega⟩, by omega⟩
    unfold frame hd3 sum4s
    rw [ef, hxl]
    have g1 : ((m : Int) - 1) % 256 = b1 := by omega
    have g2 : ((m : Int) - 1) / 256 = b2 := by omega
    have g3 : (b3 + 256 * b4 + 65536 * b5 + 16777216 * b6) % 256 = b3 := by omega
    have g4 : (b3 + 256 * b4 + 65536 * b5 + 16777216 * b6) / 256 % 256 = b4 := by omega
    have g5 : (b3 + 256 * b4 + 65536 * b5 + 16777216 * b6) / 65536 % 256 = b5 := by omega
    have g6 : (b3 + 256 * b4 + 65536 * b5 + 16777216 * b6) / 16777216 % 256 = b6 := by omega
    rw [g1, g2, g3, g4, g5, g6, ← hx]
    simp
  · simp at h
end Go.Proofs.Ytmchfjieafffbaa.Pl
