/- The records and the journal: their functions. -/
import Derived.Test.YtinhednmfldmbaaPlain1
import Derived.Test.YtinhednmfldmbaaPrintF58
import Derived.Test.YtinhednmfldmbaaPrintF42
import Derived.Test.YtinhednmfldmbaaPrintF44
import Derived.Test.YtinhednmfldmbaaPrintF53
import Derived.Test.YtinhednmfldmbaaPrintF46
import Derived.Test.YtinhednmfldmbaaPackA
import Derived.Laws.CopyOwn
import Derived.Deep.LoopGhost
import Derived.Deep.CutBlock
import Derived.Deep.DeepCutAuto
import Derived.Lib.SlBytesConst
namespace Go.Proofs.Ytinhednmfldmbaa.Pl

def rdi (xs : List Int) (i : Int) : Int := xs.getD i.toNat 0
def hd3 (n : Int) : List Int := [167, n % 256, n / 256]
def sum4s (s : Int) : List Int := [s % 256, s / 256 % 256, s / 65536 % 256, s / 16777216 % 256]
def fsum (b : List Int) : Int := more 1 (hd3 ((b.length : Int) - 1) ++ b)
def frame (b : List Int) : List Int := hd3 ((b.length : Int) - 1) ++ (sum4s (fsum b) ++ b)
def fits (b : List Int) : Prop := 1 ≤ b.length ∧ b.length ≤ 4096
def wrap (b : List Int) : List Int × Int := if (b.length : Int) = 0 then ([], 1) else if (b.length : Int) > 4096 then ([], 1) else (frame b, 0)
def recN (b : List Int) : Int := rdi b 1 + rdi b 2 * 256 + 1
def sum4 (b : List Int) : Int := rdi b 3 + 256 * rdi b 4 + 65536 * rdi b 5 + 16777216 * rdi b 6
def body (b : List Int) : List Int := (b.take (7 + recN b).toNat).drop 7
def take (b : List Int) : List Int × Int × Int :=
  if (b.length : Int) = 0 then ([], 0, 42) else if rdi b 0 ≠ 167 then ([], 0, 41) else if (b.length : Int) < 3 then ([], 0, 42) else
  if recN b > 4096 then ([], 0, 41) else if (b.length : Int) - 7 < recN b then ([], 0, 42) else
  if sum4 b = more 1 (b.take 3 ++ body b) then (body b, 7 + recN b, 0) else ([], 0, 41)

theorem frame_length (b : List Int) : (frame b).length = 7 + b.length := by simp [frame, hd3, sum4s]; omega
theorem sum4s_sum (s : Int) (h0 : 0 ≤ s) (h1 : s < 4294967296) : s % 256 + 256 * (s / 256 % 256) + 65536 * (s / 65536 % 256) + 16777216 * (s / 16777216 % 256) = s := by omega
theorem fsum_range (b : List Int) : 0 ≤ fsum b ∧ fsum b < 4294967296 := more_range _ _
theorem seven {b : List Int} (h : 7 ≤ b.length) : ∃ b0 b1 b2 b3 b4 b5 b6 t, b = b0 :: b1 :: b2 :: b3 :: b4 :: b5 :: b6 :: t := by
  rcases b with _ | ⟨b0, b⟩ <;> simp at h
  rcases b with _ | ⟨b1, b⟩ <;> simp at h
  rcases b with _ | ⟨b2, b⟩ <;> simp at h
  rcases b with _ | ⟨b3, b⟩ <;> simp at h
  rcases b with _ | ⟨b4, b⟩ <;> simp at h
  rcases b with _ | ⟨b5, b⟩ <;> simp at h
  rcases b with _ | ⟨b6, b⟩ <;> simp at h
  exact ⟨_, _, _, _, _, _, _, _, rfl⟩
theorem rdi_range {b : List Int} (hb : bytes b) (i : Int) : 0 ≤ rdi b i ∧ rdi b i < 256 := by
  unfold rdi
  by_cases h : i.toNat < b.length
  · rw [List.getD_eq_getElem?_getD, List.getElem?_eq_getElem h]
    exact hb _ (List.getElem_mem h)
  · rw [List.getD_eq_getElem?_getD, List.getElem?_eq_none (by omega)]
    exact ⟨by decide, by decide⟩
theorem bytes_app {l m : List Int} (hl : bytes l) (hm : bytes m) : bytes (l ++ m) := fun x hx => by
  rcases List.mem_append.1 hx with h | h
  · exact hl x h
  · exact hm x h
theorem bytes_take {l : List Int} (h : bytes l) (n : Nat) : bytes (l.take n) := fun x hx => h x (List.mem_of_mem_take hx)
theorem bytes_drop {l : List Int} (h : bytes l) (n : Nat) : bytes (l.drop n) := fun x hx => h x (List.mem_of_mem_drop hx)
theorem bytes_left {l m : List Int} (h : bytes (l ++ m)) : bytes l := fun x hx => h x (List.mem_append_left _ hx)
theorem bytes_right {l m : List Int} (h : bytes (l ++ m)) : bytes m := fun x hx => h x (List.mem_append_right _ hx)
theorem bytes_frame {b : List Int} (h : bytes b) (hf : fits b) : bytes (frame b) := by
  intro x hx
  simp only [frame, hd3, sum4s, List.mem_append, List.mem_cons, List.not_mem_nil, or_false] at hx
  unfold fits at hf
  rcases hx with (rfl | rfl | rfl) | (rfl | rfl | rfl | rfl) | hx
  · omega
  · omega
  · omega
  · omega
  · omega
  · omega
  · omega
  · exact h x hx
/-- A frame, whatever stands behind, is taken. -/
theorem take_frame (b r : List Int) (hf : fits b) : take (frame b ++ r) = (b, 7 + (b.length : Int), 0) := by
  have hs := sum4s_sum (fsum b) (fsum_range b).1 (fsum_range b).2
  unfold fits at hf
  have e : frame b ++ r = 167 :: (((b.length : Int) - 1) % 256) :: (((b.length : Int) - 1) / 256) :: (fsum b % 256) :: (fsum b / 256 % 256) :: (fsum b / 65536 % 256) :: (fsum b / 16777216 % 256) :: (b ++ r) := by
    simp [frame, hd3, sum4s]
  have hn : recN (frame b ++ r) = (b.length : Int) := by
    rw [e]
    show ((b.length : Int) - 1) % 256 + ((b.length : Int) - 1) / 256 * 256 + 1 = _
    omega
  have hl : (frame b ++ r).length = 7 + b.length + r.length := by rw [List.length_append, frame_length]
  have h4 : sum4 (frame b ++ r) = fsum b := by
    rw [e]
    exact hs
  have hb : body (frame b ++ r) = b := by
    unfold body
    rw [hn, show (7 + (b.length : Int)).toNat = (frame b).length from by rw [frame_length]; omega, List.take_left]
    simp [frame, hd3, sum4s]
  have h3 : (frame b ++ r).take 3 = hd3 ((b.length : Int) - 1) := by rw [e]; rfl
  have h0 : rdi (frame b ++ r) 0 = 167 := by rw [e]; rfl
  unfold take
  rw [if_neg (by omega), if_neg (by rw [h0]; simp), if_neg (by omega), if_neg (by omega), if_neg (by omega), h4, hb, h3, if_pos (show fsum b = more 1 (hd3 ((b.length : Int) - 1) ++ b) from rfl), hn]
/-- What is taken is what is wrapped. -/
theorem take_ok {b x : List Int} {n : Int} (hb : bytes b) (h : take b = (x, n, 0)) : ∃ r, b = frame x ++ r ∧ fits x ∧ n = 7 + (x.length : Int) := by
  unfold take at h
  split at h
  · simp at h
  split at h
  · simp at h
  split at h
  · simp at h
  split at h
  · simp at h
  split at h
  · simp at h
  split at h
  · rename_i c0 c1 c2 c3 c4 c5
    simp only [Prod.mk.injEq, and_true] at h
    obtain ⟨hx, hn⟩ := h
    have r1 := rdi_range hb 1
    have r2 := rdi_range hb 2
    have hN : recN b = rdi b 1 + rdi b 2 * 256 + 1 := rfl
    obtain ⟨b0, b1, b2, b3, b4, b5, b6, t, rfl⟩ := seven (b := b) (by omega)
    have hb0 : b0 = 167 := by
      have : ¬ (b0 ≠ 167) := c1
      omega
    subst hb0
    have e1 : rdi (167 :: b1 :: b2 :: b3 :: b4 :: b5 :: b6 :: t) 1 = b1 := rfl
    have e2 : rdi (167 :: b1 :: b2 :: b3 :: b4 :: b5 :: b6 :: t) 2 = b2 := rfl
    rw [e1, e2] at hN
    rw [e1] at r1
    rw [e2] at r2
    have q3 : 0 ≤ b3 ∧ b3 < 256 := hb b3 (by simp)
    have q4 : 0 ≤ b4 ∧ b4 < 256 := hb b4 (by simp)
    have q5 : 0 ≤ b5 ∧ b5 < 256 := hb b5 (by simp)
    have q6 : 0 ≤ b6 ∧ b6 < 256 := hb b6 (by simp)
    obtain ⟨m, hm⟩ : ∃ m : Nat, recN (167 :: b1 :: b2 :: b3 :: b4 :: b5 :: b6 :: t) = (m : Int) := ⟨_, (Int.toNat_of_nonneg (by omega)).symm⟩
    have hbody : body (167 :: b1 :: b2 :: b3 :: b4 :: b5 :: b6 :: t) = t.take m := by
      unfold body
      rw [hm, show (7 + (m : Int)).toNat = m + 7 from by omega]
      simp
    rw [hbody] at hx c5
    simp only [List.length_cons] at c4
    have hml : m ≤ t.length := by omega
    have hxl : x.length = m := by rw [← hx, List.length_take]; omega
    have hs : sum4 (167 :: b1 :: b2 :: b3 :: b4 :: b5 :: b6 :: t) = b3 + 256 * b4 + 65536 * b5 + 16777216 * b6 := rfl
    have h3 : (167 :: b1 :: b2 :: b3 :: b4 :: b5 :: b6 :: t).take 3 = [167, b1, b2] := rfl
    rw [hs, h3] at c5
    have ef : fsum x = b3 + 256 * b4 + 65536 * b5 + 16777216 * b6 := by
      rw [c5]
      unfold fsum hd3
      rw [hx, hxl]
      have g1 : ((m : Int) - 1) % 256 = b1 := by omega
      have g2 : ((m : Int) - 1) / 256 = b2 := by omega
      rw [g1, g2]
    refine ⟨t.drop m, ?_, ⟨by omega, by omega⟩, by omega⟩
    unfold frame hd3 sum4s
    rw [ef, hxl]
    have g1 : ((m : Int) - 1) % 256 = b1 := by omega
    have g2 : ((m : Int) - 1) / 256 = b2 := by omega
    have g3 : (b3 + 256 * b4 + 65536 * b5 + 16777216 * b6) % 256 = b3 := by omega
    have g4 : (b3 + 256 * b4 + 65536 * b5 + 16777216 * b6) / 256 % 256 = b4 := by omega
    have g5 : (b3 + 256 * b4 + 65536 * b5 + 16777216 * b6) / 65536 % 256 = b5 := by omega
    have g6 : (b3 + 256 * b4 + 65536 * b5 + 16777216 * b6) / 16777216 % 256 = b6 := by omega
    rw [g1, g2, g3, g4, g5, g6, ← hx]
    simp
  · simp at h
end Go.Proofs.Ytinhednmfldmbaa.Pl

namespace Go.Proofs.Ytinhednmfldmbaa.Pl

def Bad (t : List Int × Int × Int) : Prop := t.2.2 ≠ 0 → t.1 = [] ∧ t.2.1 = 0 ∧ (t.2.2 = 41 ∨ t.2.2 = 42)
theorem bad_ite {c : Prop} [Decidable c] {s t : List Int × Int × Int} (h1 : Bad s) (h2 : Bad t) : Bad (if c then s else t) := by split <;> assumption
theorem take_bad (b : List Int) (h : (take b).2.2 ≠ 0) : (take b).1 = [] ∧ (take b).2.1 = 0 ∧ ((take b).2.2 = 41 ∨ (take b).2.2 = 42) := by
  have k : Bad (take b) := by
    unfold take
    refine bad_ite (fun _ => ⟨rfl, rfl, .inr rfl⟩) (bad_ite (fun _ => ⟨rfl, rfl, .inl rfl⟩) (bad_ite (fun _ => ⟨rfl, rfl, .inr rfl⟩) (bad_ite (fun _ => ⟨rfl, rfl, .inl rfl⟩) (bad_ite (fun _ => ⟨rfl, rfl, .inr rfl⟩) (bad_ite (fun h => absurd rfl h) (fun _ => ⟨rfl, rfl, .inl rfl⟩))))))
  exact k h
theorem rdi_nat (b : List Int) (i : Nat) : rdi b (i : Int) = b.getD i 0 := by unfold rdi; rw [Int.toNat_natCast]
theorem rdi_take (b : List Int) (n i : Nat) (h : i < n) : rdi (b.take n) (i : Int) = rdi b (i : Int) := by
  rw [rdi_nat, rdi_nat, List.getD_eq_getElem?_getD, List.getD_eq_getElem?_getD, List.getElem?_take_of_lt h]
theorem frame_head (b : List Int) (_ : fits b) : rdi (frame b) 0 = 167 ∧ recN (frame b) = (b.length : Int) := by
  have e : frame b = 167 :: (((b.length : Int) - 1) % 256) :: (((b.length : Int) - 1) / 256) :: (fsum b % 256) :: (fsum b / 256 % 256) :: (fsum b / 65536 % 256) :: (fsum b / 16777216 % 256) :: b := by
    simp [frame, hd3, sum4s]
  rw [e]
  refine ⟨rfl, ?_⟩
  show ((b.length : Int) - 1) % 256 + ((b.length : Int) - 1) / 256 * 256 + 1 = _
  omega
/-- A piece of a frame is too short. -/
theorem take_piece (b : List Int) (hf : fits b) (i : Nat) (hi : i < (frame b).length) : take ((frame b).take i) = ([], 0, 42) := by
  obtain ⟨h0, hn⟩ := frame_head b hf
  rw [frame_length] at hi
  have hl : ((frame b).take i).length = i := by rw [List.length_take, frame_length]; omega
  unfold fits at hf
  unfold take
  by_cases h1 : i = 0
  · rw [if_pos (by omega)]
  · have e0 : rdi ((frame b).take i) 0 = 167 := by rw [← h0]; exact rdi_take _ i 0 (by omega)
    rw [if_neg (by omega), if_neg (by rw [e0]; simp)]
    by_cases h3 : i < 3
    · rw [if_pos (by omega)]
    · have e1 : recN ((frame b).take i) = (b.length : Int) := by
        rw [← hn]
        unfold recN
        have r1 := rdi_take (frame b) i 1 (by omega)
        have r2 := rdi_take (frame b) i 2 (by omega)
        rw [show ((1 : Nat) : Int) = 1 from rfl] at r1
        rw [show ((2 : Nat) : Int) = 2 from rfl] at r2
        rw [r1, r2]
      rw [if_neg (by omega), e1, if_neg (by omega), if_pos (by omega)]

theorem frame_cons (b : List Int) : frame b = 167 :: (((b.length : Int) - 1) % 256) :: (((b.length : Int) - 1) / 256) :: (fsum b % 256) :: (fsum b / 256 % 256) :: (fsum b / 65536 % 256) :: (fsum b / 16777216 % 256) :: b := by
  simp [frame, hd3, sum4s]
/-- Of a frame of which one byte is another one. -/
theorem take_off (b : List Int) (hb : bytes b) (hf : fits b) (i : Nat) (hi : i < (frame b).length) (y : Int) (hy : byte y) (hne : y ≠ (frame b).getD i 0) (x : List Int) (n e : Int) (h : take ((frame b).set i y) = (x, n, e)) :
    (e = 0 → (i = 1 ∨ i = 2) ∧ n < ((frame b).length : Int) ∧ x.length < b.length) ∧ (e ≠ 0 → x = [] ∧ n = 0 ∧ (e = 41 ∨ i = 1 ∨ i = 2)) := by
  have hbf := bytes_frame hb hf
  have hbs : bytes ((frame b).set i y) := fun z hz => by
    rcases List.mem_or_eq_of_mem_set hz with h | h
    · exact hbf z h
    · rw [h]; exact hy
  have hfl := frame_length b
  have hsl : ((frame b).set i y).length = 7 + b.length := by rw [List.length_set, hfl]
  have hN : i ≠ 1 → i ≠ 2 → recN ((frame b).set i y) = (b.length : Int) := fun h1 h2 => by
    rw [← (frame_head b hf).2]
    unfold recN
    have r1 : rdi ((frame b).set i y) 1 = rdi (frame b) 1 := by
      have := rdi_nat ((frame b).set i y) 1
      have := rdi_nat (frame b) 1
      simp only [rdi, List.getD_eq_getElem?_getD]
      rw [List.getElem?_set_ne (by omega)]
    have r2 : rdi ((frame b).set i y) 2 = rdi (frame b) 2 := by
      simp only [rdi, List.getD_eq_getElem?_getD]
      rw [List.getElem?_set_ne (by omega)]
    rw [r1, r2]
  constructor
  · rintro rfl
    obtain ⟨r, hr, hx, hn⟩ := take_ok hbs h
    have hlen : 7 + b.length = 7 + x.length + r.length := by rw [← hsl, hr, List.length_append, frame_length]
    have hrec : recN ((frame b).set i y) = (x.length : Int) := by
      rw [hr]
      have h7 := frame_head x hx
      rw [← h7.2]
      unfold recN
      rw [frame_cons x]
      rfl
    have key : i = 1 ∨ i = 2 := by
      rcases Nat.lt_or_ge 0 0 with h | _
      · omega
      by_cases h1 : i = 1
      · exact .inl h1
      by_cases h2 : i = 2
      · exact .inr h2
      exfalso
      have hlx : x.length = b.length := by have := hN h1 h2; omega
      have hr0 : r = [] := List.eq_nil_of_length_eq_zero (by omega)
      rw [hr0, List.append_nil] at hr
      -- the frame of x differs from the frame of b at i alone
      have hg : ∀ j, j ≠ i → (frame b)[j]? = (frame x)[j]? := fun j hj => by rw [← hr, List.getElem?_set_ne (Ne.symm hj)]
      have hgi : (frame x)[i]? = some y := by rw [← hr, List.getElem?_set_self hi]
      have hge : ∀ j (t : List Int), (frame t)[j + 7]? = t[j]? := fun j t => by rw [frame_cons t]; simp
      by_cases h7 : i < 7
      · have hxb : x = b := List.ext_getElem? fun j => by rw [← hge j x, ← hge j b, hg (j + 7) (by omega)]
        rw [hxb] at hgi
        apply hne
        rw [List.getD_eq_getElem?_getD, hgi]
        rfl
      · obtain ⟨k, rfl⟩ : ∃ k, i = k + 7 := ⟨i - 7, by omega⟩
        have hk : k < b.length := by omega
        have hs : fsum b = fsum x := by
          have q3 := hg 3 (by omega)
          have q4 := hg 4 (by omega)
          have q5 := hg 5 (by omega)
          have q6 := hg 6 (by omega)
          rw [frame_cons b, frame_cons x] at q3 q4 q5 q6
          simp only [List.getElem?_cons_succ, List.getElem?_cons_zero, Option.some.injEq] at q3 q4 q5 q6
          have g1 := fsum_range b
          have g2 := fsum_range x
          omega
        rw [hge] at hgi
        have hxk : x = b.take k ++ y :: b.drop (k + 1) := by
          apply List.ext_getElem?
          intro j
          by_cases hj : j = k
          · subst hj
            rw [hgi, List.getElem?_append_right (by simp; omega)]
            simp [List.length_take, Nat.min_eq_left (Nat.le_of_lt hk)]
          · rw [← hge j x, ← hg (j + 7) (by omega), hge]
            rcases Nat.lt_or_ge j k with hlt | hge'
            · rw [List.getElem?_append_left (by simp; omega), List.getElem?_take_of_lt hlt]
            · rw [List.getElem?_append_right (by simp; omega)]
              have e1 : j - (b.take k).length = (j - k - 1) + 1 := by simp; omega
              rw [e1, List.getElem?_cons_succ, List.getElem?_drop]
              congr 1
              omega
        have hbk : b = b.take k ++ b[k] :: b.drop (k + 1) := by rw [← List.drop_eq_getElem_cons hk, List.take_append_drop]
        have hby : y ≠ b[k] := fun h => hne (by
          rw [List.getD_eq_getElem?_getD, hge, List.getElem?_eq_getElem hk, h]
          rfl)
        unfold fsum at hs
        rw [hlx] at hs
        have e2 : more 1 (hd3 ((b.length : Int) - 1) ++ x) = more 1 ((hd3 ((b.length : Int) - 1) ++ b.take k) ++ y :: b.drop (k + 1)) := by rw [List.append_assoc, ← hxk]
        have e3 : more 1 (hd3 ((b.length : Int) - 1) ++ b) = more 1 ((hd3 ((b.length : Int) - 1) ++ b.take k) ++ b[k] :: b.drop (k + 1)) := by rw [List.append_assoc, ← hbk]
        rw [e2, e3] at hs
        exact more_one 1 _ _ _ _ (hb _ (List.getElem_mem hk)) hy (fun h => hby h.symm) hs
    have hlt : x.length ≠ b.length := by
      intro hl
      have hr0 : r = [] := List.eq_nil_of_length_eq_zero (by omega)
      rw [hr0, List.append_nil] at hr
      -- same length: the bytes of the length are the same
      have e1 : (frame x)[i]? = some y := by rw [← hr, List.getElem?_set_self hi]
      apply hne
      rw [List.getD_eq_getElem?_getD]
      rcases key with rfl | rfl
      · rw [frame_cons x] at e1
        rw [frame_cons b, ← hl]
        simp only [List.getElem?_cons_succ, List.getElem?_cons_zero, Option.some.injEq, Option.getD_some] at e1 ⊢
        exact e1.symm
      · rw [frame_cons x] at e1
        rw [frame_cons b, ← hl]
        simp only [List.getElem?_cons_succ, List.getElem?_cons_zero, Option.some.injEq, Option.getD_some] at e1 ⊢
        exact e1.symm
    exact ⟨key, by omega, by omega⟩
  · intro he
    have hb' := take_bad ((frame b).set i y) (by rw [h]; exact he)
    rw [h] at hb'
    refine ⟨hb'.1, hb'.2.1, ?_⟩
    rcases hb'.2.2 with h41 | h42
    · exact .inl h41
    · by_cases h1 : i = 1
      · exact .inr (.inl h1)
      by_cases h2 : i = 2
      · exact .inr (.inr h2)
      exfalso
      simp only at h42
      subst h42
      have hn := hN h1 h2
      unfold fits at hf
      unfold take at h
      rw [if_neg (by omega)] at h
      split at h
      · simp at h
      rw [if_neg (by omega)] at h
      split at h
      · simp at h
      rw [if_neg (by omega)] at h
      split at h <;> simp at h

/-- What is scanned: the records, and what is left. -/
inductive Scans : List Int → List (List Int) → List Int → Prop
  | done {b} : (take b).2.2 ≠ 0 → Scans b [] b
  | more {b x n xs r} : take b = (x, n, 0) → Scans (b.drop n.toNat) xs r → Scans b (x :: xs) r
theorem scans_all (b : List Int) (hb : bytes b) : ∃ xs r, Scans b xs r := by
  generalize hn : b.length = n
  induction n using Nat.strongRecOn generalizing b with
  | _ n ih =>
    obtain ⟨x, m, e, h⟩ : ∃ x m e, take b = (x, m, e) := ⟨_, _, _, rfl⟩
    by_cases he : e = 0
    · subst he
      obtain ⟨r, hr, hx, hm⟩ := take_ok hb h
      have hl : b.length = 7 + x.length + r.length := by rw [hr, List.length_append, frame_length]
      obtain ⟨xs, r', hs⟩ := ih (b.drop m.toNat).length (by rw [List.length_drop]; omega) (b.drop m.toNat) (bytes_drop hb _) rfl
      exact ⟨_, _, .more h hs⟩
    · exact ⟨_, _, .done (by rw [h]; exact he)⟩
theorem scans_back {b : List Int} {xs : List (List Int)} {r : List Int} (hb : bytes b) (h : Scans b xs r) : b = (xs.map frame).flatten ++ r ∧ (∀ x ∈ xs, fits x ∧ bytes x) ∧ (take r).2.2 ≠ 0 := by
  induction h with
  | done h => exact ⟨by simp, by simp, h⟩
  | @more b x n xs r h hs ih =>
    obtain ⟨r', hr, hx, hm⟩ := take_ok hb h
    have hbx : bytes x := by
      have : bytes (frame x ++ r') := hr ▸ hb
      have h2 := bytes_left this
      rw [frame_cons x] at h2
      exact fun z hz => h2 z (by simp [hz])
    have hd : b.drop n.toNat = r' := by
      rw [hr, show n.toNat = (frame x).length from by rw [frame_length]; omega, List.drop_left]
    obtain ⟨h1, h2, h3⟩ := ih (bytes_drop hb _)
    rw [hd] at h1
    refine ⟨by rw [hr, h1]; simp, ?_, h3⟩
    intro z hz
    rcases List.mem_cons.1 hz with rfl | hz
    · exact ⟨hx, hbx⟩
    · exact h2 z hz
theorem scans_row (xs : List (List Int)) (r : List Int) (hx : ∀ x ∈ xs, fits x) (hr : (take r).2.2 ≠ 0) : Scans ((xs.map frame).flatten ++ r) xs r := by
  induction xs with
  | nil => exact .done hr
  | cons x xs ih =>
    have e : (((x :: xs).map frame).flatten ++ r) = frame x ++ ((xs.map frame).flatten ++ r) := by simp
    rw [e]
    refine .more (take_frame x _ (hx x List.mem_cons_self)) ?_
    rw [show (7 + (x.length : Int)).toNat = (frame x).length from by rw [frame_length]; omega, List.drop_left]
    exact ih fun z hz => hx z (List.mem_cons_of_mem _ hz)
theorem scans_le {b : List Int} {xs : List (List Int)} {r : List Int} (h : Scans b xs r) : r.length ≤ b.length := by
  induction h with
  | done h => exact Nat.le_refl _
  | more h hs ih => rw [List.length_drop] at ih; omega
end Go.Proofs.Ytinhednmfldmbaa.Pl

namespace Go.Proofs.Ytinhednmfldmbaa.Ev1
open Go.RowKit Go.Proofs.Ytinhednmfldmbaa.Print Go.Proofs.YtinhednmfldmbaaW.PrintWords Go.Proofs.YtinhednmfldmbaaW.PrintLast Go.Proofs.Ytinhednmfldmbaa

theorem u8_wf {x : Int} (h : (Lit.int .u8 x).wf = true) : 0 ≤ x ∧ x < 256 := by
  simp only [Lit.wf, Bool.and_eq_true, decide_eq_true_eq] at h
  have e1 : IntKind.u8.min = 0 := by decide
  have e2 : IntKind.u8.max = 255 := by decide
  omega
theorem u32_wf {x : Int} (h : (Lit.int .u32 x).wf = true) : 0 ≤ x ∧ x < 4294967296 := by
  simp only [Lit.wf, Bool.and_eq_true, decide_eq_true_eq] at h
  have e1 : IntKind.u32.min = 0 := by decide
  have e2 : IntKind.u32.max = 4294967295 := by decide
  omega
theorem i64_wf {x : Int} (h : (Lit.int .i64 x).wf = true) : -9223372036854775808 ≤ x ∧ x ≤ 9223372036854775807 := by
  simp only [Lit.wf, Bool.and_eq_true, decide_eq_true_eq] at h
  have e1 : IntKind.i64.min = -9223372036854775808 := by decide
  have e2 : IntKind.i64.max = 9223372036854775807 := by decide
  omega
theorem bytes_wf {l : List Int} (h : ∀ x ∈ l, (Lit.int .u8 x).wf = true) : Pl.bytes l := fun x hx => u8_wf (h x hx)
theorem more_f {a : Int} {l : List Int} (h0 : 0 ≤ a) (h1 : a < 4294967296) (hl : Pl.bytes l) : fletcher_More.f a l = some (Pl.more a l) := by
  unfold fletcher_More.f
  rw [if_pos ⟨⟨h0, h1⟩, hl⟩]
theorem sum_f {l : List Int} (hl : Pl.bytes l) : fletcher_Sum.f l = some (Pl.more 1 l) := by
  unfold fletcher_Sum.f
  rw [more_f (by decide) (by decide) hl]
  rfl
theorem tmod_pos (a b : Int) (h : 0 ≤ a) : Int.tmod a b = a % b := Int.tmod_eq_emod_of_nonneg h
theorem tdiv_pos (a b : Int) (h : 0 ≤ a) : Int.tdiv a b = a / b := Int.tdiv_eq_ediv_of_nonneg h
theorem u64_small (a : Int) (h : 0 ≤ a) (h1 : a < 18446744073709551616) : IntKind.u64.wrap a = a := by
  have : IntKind.u64.wrap a = a % 18446744073709551616 := by simp [IntKind.wrap, IntKind.bits, IntKind.signed]
  rw [this]; omega
theorem wrap64_small (a : Int) (h : -9223372036854775808 ≤ a) (h1 : a ≤ 9223372036854775807) : wrap64 a = a := by unfold wrap64; omega
end Go.Proofs.Ytinhednmfldmbaa.Ev1
namespace Go.Proofs.Ytinhednmfldmbaa.Ev4
open Go.RowKit Go.Proofs.Ytinhednmfldmbaa.Print Go.Proofs.YtinhednmfldmbaaW.PrintWords Go.Proofs.YtinhednmfldmbaaW.PrintLast Go.Proofs.YtinhednmfldmbaaW.PrintMore Go.Proofs.Ytinhednmfldmbaa Go.Proofs.Ytinhednmfldmbaa.Ev1

theorem rsum_f {a b : List Int} (ha : Pl.bytes a) (hb : Pl.bytes b) : record_sum.f a b = some (Pl.more 1 (a ++ b)) := by
  unfold record_sum.f
  have r := Pl.more_range 1 a
  rw [sum_f ha]
  simp only [Option.bind_some]
  rw [more_f r.1 r.2 hb, Pl.more_more]
  rfl
theorem shr0 (s : Int) (i : Int) (n : Nat) (hn : i.toNat = n) (h : n ≤ 32) : shr .u32 s i = s / 2 ^ n := by
  unfold shr
  rw [hn, show IntKind.u32.bits = 32 from rfl, Nat.min_eq_left h]
theorem wrap_l0 (x h3 : List Int) (s : Int) (k : Nat) (hx : x.length ≤ 4096) (hh : h3.length = 3) : record_Wrap.l0 (k + 5) x h3 s 0 = some (h3 ++ (Pl.sum4s s ++ x), 0) := by
  have w0 : wrap64 (8 * 0) = 0 := (wrap64_small _ (by omega) (by omega)).trans (by omega)
  have w1 : wrap64 (8 * 1) = 8 := (wrap64_small _ (by omega) (by omega)).trans (by omega)
  have w2 : wrap64 (8 * 2) = 16 := (wrap64_small _ (by omega) (by omega)).trans (by omega)
  have w3 : wrap64 (8 * 3) = 24 := (wrap64_small _ (by omega) (by omega)).trans (by omega)
  have v0 : wrap64 (0 + 1) = 1 := (wrap64_small _ (by omega) (by omega)).trans (by omega)
  have v1 : wrap64 (1 + 1) = 2 := (wrap64_small _ (by omega) (by omega)).trans (by omega)
  have v2 : wrap64 (2 + 1) = 3 := (wrap64_small _ (by omega) (by omega)).trans (by omega)
  have v3 : wrap64 (3 + 1) = 4 := (wrap64_small _ (by omega) (by omega)).trans (by omega)
  have s0 : shr .u32 s 0 = s := by rw [shr0 s 0 0 rfl (by decide)]; simp
  have s1 : shr .u32 s 8 = s / 256 := by rw [shr0 s 8 8 rfl (by decide)]; rfl
  have s2 : shr .u32 s 16 = s / 65536 := by rw [shr0 s 16 16 rfl (by decide)]; rfl
  have s3 : shr .u32 s 24 = s / 16777216 := by rw [shr0 s 24 24 rfl (by decide)]; rfl
  rw [record_Wrap.l0, if_pos (by decide), w0, if_pos (by decide), if_pos (by omega), v0, s0]
  rw [record_Wrap.l0, if_pos (by decide), w1, if_pos (by decide), if_pos (by simp; omega), v1, s1]
  rw [record_Wrap.l0, if_pos (by decide), w2, if_pos (by decide), if_pos (by simp; omega), v2, s2]
  rw [record_Wrap.l0, if_pos (by decide), w3, if_pos (by decide), if_pos (by simp; omega), v3, s3]
  rw [record_Wrap.l0, if_neg (by decide), if_pos (by simp; omega)]
  simp [Pl.sum4s]
theorem bytes_hd3 (n : Int) (h0 : 0 ≤ n) (h1 : n < 65536) : Pl.bytes (Pl.hd3 n) := by
  intro x hx
  simp only [Pl.hd3, List.mem_cons, List.not_mem_nil, or_false] at hx
  omega
theorem wrap_f {k : Nat} {l : List Int} (hl : Pl.bytes l) (hlen : l.length ≤ 140737488351232) (hk : 6 < k) : record_Wrap.f k l = some (Pl.wrap l) := by
  obtain ⟨k, rfl⟩ : ∃ m, k = m + 6 := ⟨k - 6, by omega⟩
  have T : record_Wrap.j0 (k + 6) l true = some ([], 1) := by rw [record_Wrap.j0, if_pos rfl]
  unfold record_Wrap.f Pl.wrap
  by_cases h0 : (l.length : Int) = 0
  · rw [if_pos h0, if_pos h0, T]
  · rw [if_neg h0, if_neg h0]
    by_cases h1 : (l.length : Int) > 4096
    · rw [if_pos h1, decide_eq_true h1, T]
    · rw [if_neg h1, decide_eq_false h1, record_Wrap.j0, if_neg (by decide), wrap64_small _ (by omega) (by omega)]
      have e : ([167, ((l.length : Int) - 1) % 256, (((l.length : Int) - 1) / 256) % 256] : List Int) = Pl.hd3 ((l.length : Int) - 1) := by
        unfold Pl.hd3
        rw [show (((l.length : Int) - 1) / 256) % 256 = ((l.length : Int) - 1) / 256 from by omega]
      rw [e]
      simp only [Option.bind_some]
      rw [rsum_f (bytes_hd3 _ (by omega) (by omega)) hl]
      simp only [Option.bind_some]
      rw [wrap_l0 l _ _ k (by omega) rfl]
      rfl
theorem or_low (x y : Int) (i : Nat) (_ : i ≤ 32) (hx : 0 ≤ x) (hx1 : x < 2 ^ i) (hy : 0 ≤ y) (hy1 : y < 4294967296) (hy2 : y % 2 ^ i = 0) (hx2 : x < 4294967296) : Go.bits .or .u32 x y = x + y := by
  have e2 : (2 : Int) ^ 32 = 4294967296 := by decide
  have h := bits_join .u32 32 (by decide) (fun n h0 h1 => by rw [IntKind.wrap_u32]; rw [e2] at h1; omega) i y x hy hy2 (by rw [e2]; exact hy1) hx hx1 (by rw [e2]; exact hx2)
  rw [u32_or y x hy hy1 hx hx2] at h
  rw [u32_or x y hx hx2 hy hy1, Nat.or_comm, h]
  omega
theorem rd_eq (l : List Int) (i : Int) : rd l i = Pl.rdi l i := rfl
theorem take_l0 (l : List Int) (n : Int) (k : Nat) (hl : Pl.bytes l) (hlen : l.length ≤ 140737488355000) (h7 : 7 ≤ l.length) : record_Take.l0 (k + 5) l n 0 0 = record_Take.l0 (k + 1) l n (Pl.sum4 l) 4 := by
  have w0 : wrap64 (8 * 0) = 0 := (wrap64_small _ (by omega) (by omega)).trans (by omega)
  have w1 : wrap64 (8 * 1) = 8 := (wrap64_small _ (by omega) (by omega)).trans (by omega)
  have w2 : wrap64 (8 * 2) = 16 := (wrap64_small _ (by omega) (by omega)).trans (by omega)
  have w3 : wrap64 (8 * 3) = 24 := (wrap64_small _ (by omega) (by omega)).trans (by omega)
  have v0 : wrap64 (0 + 1) = 1 := (wrap64_small _ (by omega) (by omega)).trans (by omega)
  have v1 : wrap64 (1 + 1) = 2 := (wrap64_small _ (by omega) (by omega)).trans (by omega)
  have v2 : wrap64 (2 + 1) = 3 := (wrap64_small _ (by omega) (by omega)).trans (by omega)
  have v3 : wrap64 (3 + 1) = 4 := (wrap64_small _ (by omega) (by omega)).trans (by omega)
  have t0 : wrap64 (3 + 0) = 3 := (wrap64_small _ (by omega) (by omega)).trans (by omega)
  have t1 : wrap64 (3 + 1) = 4 := (wrap64_small _ (by omega) (by omega)).trans (by omega)
  have t2 : wrap64 (3 + 2) = 5 := (wrap64_small _ (by omega) (by omega)).trans (by omega)
  have t3 : wrap64 (3 + 3) = 6 := (wrap64_small _ (by omega) (by omega)).trans (by omega)
  have r3 := Pl.rdi_range hl 3
  have r4 := Pl.rdi_range hl 4
  have r5 := Pl.rdi_range hl 5
  have r6 := Pl.rdi_range hl 6
  have sh : ∀ (c i : Int) (m : Nat), i.toNat = m → m ≤ 32 → shl .u32 c i = c * 2 ^ m % 4294967296 := fun c i m hm h => by
    unfold shl
    rw [hm, show IntKind.u32.bits = 32 from rfl, Nat.min_eq_left h, IntKind.wrap_u32]
  have p0 : (2 : Int) ^ 0 = 1 := by decide
  have p8 : (2 : Int) ^ 8 = 256 := by decide
  have p16 : (2 : Int) ^ 16 = 65536 := by decide
  have p24 : (2 : Int) ^ 24 = 16777216 := by decide
  rw [record_Take.l0, if_pos (by decide), t0, if_pos (by decide), if_pos (by omega), w0, if_pos (by decide), v0, rd_eq, sh _ 0 0 rfl (by decide), p0]
  rw [or_low 0 _ 0 (by decide) (by decide) (by decide) (by omega) (by omega) (by rw [p0]; omega) (by decide)]
  rw [record_Take.l0, if_pos (by decide), t1, if_pos (by decide), if_pos (by omega), w1, if_pos (by decide), v1, rd_eq, sh _ 8 8 rfl (by decide), p8]
  rw [or_low _ _ 8 (by decide) (by omega) (by rw [p8]; omega) (by omega) (by omega) (by rw [p8]; omega) (by omega)]
  rw [record_Take.l0, if_pos (by decide), t2, if_pos (by decide), if_pos (by omega), w2, if_pos (by decide), v2, rd_eq, sh _ 16 16 rfl (by decide), p16]
  rw [or_low _ _ 16 (by decide) (by omega) (by rw [p16]; omega) (by omega) (by omega) (by rw [p16]; omega) (by omega)]
  rw [record_Take.l0, if_pos (by decide), t3, if_pos (by decide), if_pos (by omega), w3, if_pos (by decide), v3, rd_eq, sh _ 24 24 rfl (by decide), p24]
  rw [or_low _ _ 24 (by decide) (by omega) (by rw [p24]; omega) (by omega) (by omega) (by rw [p24]; omega) (by omega)]
  congr 1
  unfold Pl.sum4
  omega
theorem recN_eq {l : List Int} (hl : Pl.bytes l) : wrap64 (wrap64 (wrap64 (rd l 1) + wrap64 (wrap64 (rd l 2) * 256)) + 1) = Pl.recN l := by
  have r1 := Pl.rdi_range hl 1
  have r2 := Pl.rdi_range hl 2
  rw [rd_eq, rd_eq]
  unfold Pl.recN
  rw [wrap64_small (Pl.rdi l 1) (by omega) (by omega), wrap64_small (Pl.rdi l 2) (by omega) (by omega), wrap64_small (Pl.rdi l 2 * 256) (by omega) (by omega), wrap64_small (Pl.rdi l 1 + Pl.rdi l 2 * 256) (by omega) (by omega), wrap64_small _ (by omega) (by omega)]
theorem recN_range {l : List Int} (hl : Pl.bytes l) : 1 ≤ Pl.recN l ∧ Pl.recN l ≤ 65536 := by
  have r1 := Pl.rdi_range hl 1
  have r2 := Pl.rdi_range hl 2
  unfold Pl.recN
  omega
theorem clone_f (l : List Int) (h : l.length < 140737488355328) : bytes_Clone.f l = some l := by unfold bytes_Clone.f; rw [if_pos h]
theorem body_bytes {l : List Int} (hl : Pl.bytes l) : Pl.bytes (Pl.body l) := Pl.bytes_drop (Pl.bytes_take hl _) _
theorem body_length (l : List Int) : (Pl.body l).length ≤ l.length := by unfold Pl.body; rw [List.length_drop, List.length_take]; omega
theorem take_f {k : Nat} {l : List Int} (hl : Pl.bytes l) (hlen : l.length ≤ 140737488355000) (hk : 4 < k) : record_Take.f k l = some (Pl.take l) := by
  obtain ⟨k, rfl⟩ : ∃ m, k = m + 5 := ⟨k - 5, by omega⟩
  have hn := recN_range hl
  unfold record_Take.f Pl.take
  by_cases h0 : (l.length : Int) = 0
  · rw [if_pos h0, if_pos h0]
  rw [if_neg h0, if_neg h0, if_pos (by omega), rd_eq l 0]
  by_cases h1 : Pl.rdi l 0 = 167
  · rw [if_pos h1, if_neg (show ¬ (Pl.rdi l 0 ≠ 167) by simp [h1])]
    by_cases h3 : (l.length : Int) < 3
    · rw [if_pos h3, if_pos h3]
    rw [if_neg h3, if_neg h3, if_pos (by omega), if_pos (by omega), recN_eq hl]
    by_cases h4 : Pl.recN l > 4096
    · rw [if_pos h4, if_pos h4]
    rw [if_neg h4, if_neg h4, wrap64_small ((l.length : Int) - 7) (by omega) (by omega)]
    by_cases h5 : (l.length : Int) - 7 < Pl.recN l
    · rw [if_pos h5, if_pos h5]
    rw [if_neg h5, if_neg h5, take_l0 l _ k hl hlen (by omega)]
    rw [record_Take.l0, if_neg (by decide), if_pos (by omega), wrap64_small (7 + Pl.recN l) (by omega) (by omega), if_pos (by omega), if_pos (by omega)]
    have hb : (l.take (7 + Pl.recN l).toNat).drop 7 = Pl.body l := rfl
    rw [hb, rsum_f (Pl.bytes_take hl 3) (body_bytes hl)]
    simp only [Option.bind_some]
    by_cases h6 : Pl.sum4 l = Pl.more 1 (l.take 3 ++ Pl.body l)
    · have := body_length l
      rw [if_pos h6, if_pos h6, clone_f _ (by omega)]
      rfl
    · rw [if_neg h6, if_neg h6]
  · rw [if_neg h1, if_pos h1]
theorem scan_l {l : List Int} (hl : Pl.bytes l) (hlen : l.length ≤ 140737488355000) {b : List Int} {xs : List (List Int)} {r : List Int} (h : Pl.Scans b xs r) : ∀ (k at_ : Nat) (acc : List (List Int)), b = l.drop at_ → at_ ≤ l.length → acc.length + xs.length < 5000000000000 → xs.length + 5 < k →
    record_Scan.l50 k l acc (at_ : Int) = some (acc ++ xs, (l.length : Int) - (r.length : Int)) := by
  induction h with
  | @done b hb =>
    intro k at_ acc he hle hacc hk
    obtain ⟨k, rfl⟩ : ∃ m, k = m + 1 := ⟨k - 1, by omega⟩
    have hlb : b.length = l.length - at_ := by rw [he, List.length_drop]
    rw [record_Scan.l50, if_pos (by omega), if_pos (by omega), Int.toNat_natCast, ← he, take_f (he ▸ Pl.bytes_drop hl _) (by omega) (by omega)]
    simp only [Option.bind_some]
    rw [if_neg hb, List.append_nil]
    congr 2
    omega
  | @more b x n xs r ht hs ih =>
    intro k at_ acc he hle hacc hk
    obtain ⟨k, rfl⟩ : ∃ m, k = m + 1 := ⟨k - 1, by omega⟩
    have hlb : b.length = l.length - at_ := by rw [he, List.length_drop]
    have hbb : Pl.bytes b := he ▸ Pl.bytes_drop hl _
    obtain ⟨r', hr, hx, hn⟩ := Pl.take_ok hbb ht
    have hfl : b.length = 7 + x.length + r'.length := by rw [hr, List.length_append, Pl.frame_length]
    unfold Pl.fits at hx
    simp only [List.length_cons] at hk hacc
    rw [record_Scan.l50, if_pos (by omega), if_pos (by omega), Int.toNat_natCast, ← he, take_f hbb (by omega) (by omega), ht]
    simp only [Option.bind_some]
    rw [if_pos trivial, if_pos (by omega), wrap64_small _ (by omega) (by omega), show (at_ : Int) + n = ((at_ + n.toNat : Nat) : Int) from by omega]
    rw [ih k (at_ + n.toNat) (acc ++ [x]) (by rw [he, List.drop_drop]) (by omega) (by rw [List.length_append, List.length_singleton]; omega) (by omega)]
    simp
theorem scan_f {k : Nat} {l : List Int} (hl : Pl.bytes l) (hlen : l.length ≤ 140737488355000) {xs : List (List Int)} {r : List Int} (h : Pl.Scans l xs r) (hx : xs.length < 5000000000000) (hk : xs.length + 5 < k) : record_Scan.f k l = some (xs, (l.length : Int) - (r.length : Int)) := by
  unfold record_Scan.f
  have := scan_l hl hlen h k 0 [] (by simp) (by omega) (by rw [List.length_nil]; omega) hk
  simpa using this
theorem bytesOf_inj {a b : List Int} (ha : Pl.bytes a) (hb : Pl.bytes b) (h : Go.Lib.bytesOf a = Go.Lib.bytesOf b) : a = b := by
  induction a generalizing b with
  | nil =>
    cases b with
    | nil => rfl
    | cons y t => simp [Go.Lib.bytesOf] at h
  | cons x s ih =>
    cases b with
    | nil => simp [Go.Lib.bytesOf] at h
    | cons y t =>
      simp only [Go.Lib.bytesOf, List.map_cons, List.cons.injEq] at h
      have hx := ha x (by simp)
      have hy := hb y (by simp)
      have e := congrArg UInt8.toNat h.1
      rw [UInt8.toNat_ofNat', UInt8.toNat_ofNat', Nat.mod_eq_of_lt (by omega), Nat.mod_eq_of_lt (by omega)] at e
      have ht := ih (b := t) (fun z hz => ha z (by simp [hz])) (fun z hz => hb z (by simp [hz])) h.2
      rw [ht, show x = y from by omega]
theorem strOf_iff {a b : List Int} (ha : Pl.bytes a) (hb : Pl.bytes b) : (strOfNums a).toList = (strOfNums b).toList ↔ a = b := by
  rw [Go.Lib.strOfNums_toList, Go.Lib.strOfNums_toList]
  exact ⟨bytesOf_inj ha hb, fun h => by rw [h]⟩
end Go.Proofs.Ytinhednmfldmbaa.Ev4

namespace Go.Proofs.Ytinhednmfldmbaa.Dk
open Go Go.RowKit Hp Rd Go.Proofs.YtinhednmfldmbaaW.PrintWords Go.Proofs.Ytinhednmfldmbaa.Print

/-- Bytes that can be read at an address. -/
def Bytes (w : World) (A : Option Addr) (l : List Int) : Prop := 0 < l.length → ∃ ad, A = some ad ∧ ∀ (j : Nat) (x : Int), l[j]? = some x → w.cell? (ad.add j) = some (.int .u8 x)
theorem Bytes.C {w : World} {A : Option Addr} {l : List Int} (h : Bytes w A l) (hl : l.length ≤ 9223372036854775807) : Kd.C (Kd.int .u8) w A l.length l :=
  ⟨rfl, hl, fun h0 => by
    obtain ⟨ad, e, hc⟩ := h h0
    refine ⟨ad, e, fun j p hj => ⟨[.int .u8 p], rfl, rfl, fun i u hu => ?_⟩⟩
    cases i with
    | zero =>
      simp at hu
      subst hu
      show w.cell? (ad.add (j * 1 + 0)) = _
      rw [Nat.mul_one, Nat.add_zero]
      exact hc j p hj
    | succ i => simp at hu⟩
theorem Bytes.own {w : World} {base : Nat} {a : Option Addr} {n c : Nat} {l : List Int} (h : w.ownsRow base 5 1 (.slice a n c) n (l.map (Value.int .u8))) : Bytes w a l := fun h0 => by
  have hl := h.1
  simp at hl
  rcases h.2 with ⟨_, h2⟩ | ⟨g, cap, cur, hv, _⟩
  · omega
  · obtain ⟨rfl, rfl⟩ : a = some ⟨g, 0, none⟩ ∧ c = cap := by simpa using hv
    exact ⟨_, rfl, fun j x hj => h.cells (g := g) rfl j _ (by rw [List.getElem?_map, hj]; rfl)⟩
theorem reps_ints {l : List Int} {cs : List Value} (h : Reps (fun x (c : List Value) => c = [Value.int .u8 x]) 1 l cs) : cs = l.map (Value.int .u8) := by
  obtain ⟨h1, h2⟩ := h
  apply List.ext_getElem?
  intro j
  rw [List.getElem?_map]
  rcases Nat.lt_or_ge j l.length with hj | hj
  · have := h2 j l[j] (List.getElem?_eq_getElem hj)
    rw [Nat.mul_one] at this
    have h3 : ((cs.drop j).take 1)[0]? = some (Value.int .u8 l[j]) := by rw [this]; rfl
    rw [List.getElem?_take_of_lt (by omega), List.getElem?_drop, Nat.add_zero] at h3
    rw [h3, List.getElem?_eq_getElem hj]
    rfl
  · rw [List.getElem?_eq_none (by omega), List.getElem?_eq_none hj]
    rfl
theorem R_row {w : World} {base : Nat} {ok : Nat → Prop} {v : Value} {l : List Int} (h : Kd.R (Kd.int .u8) 5 w base ok v l) : w.ownsRow base 5 1 v l.length (l.map (Value.int .u8)) ∧ ∀ k, v.ownBlock = some k → ok k := by
  obtain ⟨h0, inner, ho, hr⟩ := h
  have := reps_ints hr
  subst this
  exact ⟨ho, h0⟩
/-- Rows of bytes, a row each of its own. -/
structure RecsAt (w : World) (base : Nat) (v : Value) (xs : List (List Int)) (rvs : List Value) : Prop where
  row : w.ownsRow base 31 1 v xs.length rvs
  len : rvs.length = xs.length
  at_ : ∀ (j : Nat) (x : List Int) (rv : Value), xs[j]? = some x → rvs[j]? = some rv → w.ownsRow base 5 1 rv x.length (x.map (Value.int .u8)) ∧ ∀ k, rv.ownBlock = some k → v.ownBlock ≠ some k
theorem S_rows {w : World} {base : Nat} {ok : Nat → Prop} {v : Value} {xs : List (List Int)} (h : Kd.S (Kd.slice 5 (Kd.int .u8)) 31 w base ok v xs) : ∃ rvs, RecsAt w base v xs rvs := by
  obtain ⟨h0, inner, ho, hr1, hr2⟩ := Kd.S_R h
  have hl : inner.length = xs.length := by
    have h1 : inner.length = xs.length * 1 := hr1
    omega
  refine ⟨inner, ho, hl, fun j x rv hj hrv => ?_⟩
  obtain ⟨u, hu, hR⟩ := hr2 j x hj
  have h3 : ((inner.drop (j * 1)).take 1)[0]? = some u := by
    have : (inner.drop (j * 1)).take 1 = [u] := hu
    rw [this]
    rfl
  rw [Nat.mul_one, List.getElem?_take_of_lt (by omega), List.getElem?_drop, Nat.add_zero, hrv] at h3
  obtain rfl : rv = u := Option.some.inj h3
  obtain ⟨h4, h5⟩ := R_row hR
  exact ⟨h4, fun k hk e => (h5 k hk).2 e.symm⟩
theorem rec_scan (A : Option Addr) (c : Nat) (l : List Int) (xs : List (List Int)) (r : List Int) (w : World) (hb : Pl.bytes l) (hl : l.length ≤ 1000000000) (hc : l.length ≤ c) (hr : Bytes w A l) (hs : Pl.Scans l xs r) (hx : xs.length < 5000000000000) :
    Calls Try.prog 42 #[.slice A l.length c] w fun e w' => ∃ v rvs, e = .returned (.tuple #[v, .int .i64 ((l.length : Int) - (r.length : Int))]) ∧ RecsAt w' w.heap.size v xs rvs ∧ Below w.heap.size w w' := by
  refine (record_Scan.calls (xs.length + 6) A c l _ _ w (hr.C (by omega)) hc (Ev4.scan_f hb (by omega) hs hx (by omega))).mono ?_
  rintro e w' ⟨v, rfl, hS, hB⟩
  obtain ⟨rvs, h⟩ := S_rows hS
  exact ⟨v, rvs, rfl, h, hB⟩
theorem rec_wrap (A : Option Addr) (c : Nat) (l : List Int) (w : World) (hb : Pl.bytes l) (hl : l.length ≤ 140737488351232) (hc : l.length ≤ c) (hr : Bytes w A l) :
    Calls Try.prog 44 #[.slice A l.length c] w fun e w' => ∃ v, e = .returned (.tuple #[v, .int .i64 (Pl.wrap l).2]) ∧ w'.ownsRow w.heap.size 5 1 v (Pl.wrap l).1.length ((Pl.wrap l).1.map (Value.int .u8)) ∧ Below w.heap.size w w' := by
  refine (record_Wrap.calls 7 A c l _ _ w (hr.C (by omega)) hc (Ev4.wrap_f hb hl (by omega))).mono ?_
  rintro e w' ⟨v, rfl, hR, hB⟩
  exact ⟨v, rfl, (R_row hR).1, hB⟩
theorem rec_clone (A : Option Addr) (c : Nat) (l : List Int) (w : World) (hl : l.length < 140737488355328) (hc : l.length ≤ c) (hr : Bytes w A l) :
    Calls Try.prog 46 #[.slice A l.length c] w fun e w' => ∃ v, e = .returned v ∧ w'.ownsRow w.heap.size 5 1 v l.length (l.map (Value.int .u8)) ∧ Below w.heap.size w w' := by
  refine (bytes_Clone.calls A c l _ w (hr.C (by omega)) hc (Ev4.clone_f l hl)).mono ?_
  rintro e w' ⟨v, rfl, hR, hB⟩
  exact ⟨v, rfl, (R_row hR).1, hB⟩
theorem rec_equal (A0 : Option Addr) (c0 : Nat) (l0 : List Int) (A1 : Option Addr) (c1 : Nat) (l1 : List Int) (w : World) (hb0 : Pl.bytes l0) (hb1 : Pl.bytes l1) (hl0 : l0.length ≤ 140737488355328) (hl1 : l1.length ≤ 140737488355328) (hc0 : l0.length ≤ c0) (hc1 : l1.length ≤ c1) (hr0 : Bytes w A0 l0) (hr1 : Bytes w A1 l1) :
    Calls Try.prog 53 #[.slice A0 l0.length c0, .slice A1 l1.length c1] w fun e w' => e = .returned (.bool (decide (l0 = l1))) ∧ Drawn0 w w' := by
  refine bytes_Equal.calls A0 c0 l0 A1 c1 l1 _ w (hr0.C (by omega)) hc0 (hr1.C (by omega)) hc1 ?_
  unfold bytes_Equal.f
  congr 1
  rw [Bool.eq_iff_iff, beq_iff_eq, decide_eq_true_eq]
  exact Ev4.strOf_iff hb0 hb1
end Go.Proofs.Ytinhednmfldmbaa.Dk

namespace Go.Proofs.Ytinhednmfldmbaa.Dk
open Go Go.RowKit Hp Rd

/-- A journal at jb: its disk, its bytes' row gb, its records' row vr, a row each (rvs). -/
structure JIs (w : World) (jb b first gb cb : Nat) (bs : List Int) (used : Nat) (vr : Value) (recs : List (List Int)) (rvs : List Value) : Prop where
  head : w.heap[jb]? = some (.cells #[.pointer (some ⟨b, 0, none⟩), .int .i64 first, .slice (some ⟨gb, 0, none⟩) bs.length cb, .int .i64 used, vr] 85 (0, 0))
  row : w.ownsRow 0 5 1 (.slice (some ⟨gb, 0, none⟩) bs.length cb) bs.length (bs.map (Value.int .u8))
  rows : RecsAt w 0 vr recs rvs
  good : Pl.bytes bs
  goodR : ∀ x ∈ recs, Pl.bytes x
  apart : jb ≠ gb ∧ vr.ownBlock ≠ some jb ∧ vr.ownBlock ≠ some gb
  apartR : ∀ rv ∈ rvs, rv.ownBlock ≠ some jb ∧ rv.ownBlock ≠ some gb
def jfoot (jb gb : Nat) (vr : Value) (rvs : List Value) (i : Nat) : Prop := i = jb ∨ i = gb ∨ vr.ownBlock = some i ∨ ∃ rv ∈ rvs, rv.ownBlock = some i
theorem RecsAt.kept {S : Nat → Prop} {w w' : World} {base : Nat} {v : Value} {xs : List (List Int)} {rvs : List Value} (h : RecsAt w base v xs rvs) (K : Kept S w w') (h1 : ∀ i, v.ownBlock = some i → ¬ S i) (h2 : ∀ rv ∈ rvs, ∀ i, rv.ownBlock = some i → ¬ S i) : RecsAt w' base v xs rvs :=
  ⟨own_kept h.row K h1, h.len, fun j x rv hx hrv => ⟨own_kept (h.at_ j x rv hx hrv).1 K (h2 rv (List.mem_of_getElem? hrv)), (h.at_ j x rv hx hrv).2⟩⟩
theorem JIs.kept {S : Nat → Prop} {w w' : World} {jb b first gb cb : Nat} {bs : List Int} {used : Nat} {vr : Value} {recs : List (List Int)} {rvs : List Value} (h : JIs w jb b first gb cb bs used vr recs rvs) (K : Kept S w w') (hS : ∀ i, jfoot jb gb vr rvs i → ¬ S i) : JIs w' jb b first gb cb bs used vr recs rvs :=
  ⟨K.heap h.head (hS _ (.inl rfl)), own_kept h.row K (fun i hi => by
    obtain rfl : gb = i := by simpa [Value.ownBlock] using hi
    exact hS _ (.inr (.inl rfl))), h.rows.kept K (fun i hi => hS i (.inr (.inr (.inl hi)))) (fun rv hr i hi => hS i (.inr (.inr (.inr ⟨rv, hr, hi⟩)))), h.good, h.goodR, h.apart, h.apartR⟩
theorem JIs.lt {w : World} {jb b first gb cb : Nat} {bs : List Int} {used : Nat} {vr : Value} {recs : List (List Int)} {rvs : List Value} (h : JIs w jb b first gb cb bs used vr recs rvs) : ∀ i, jfoot jb gb vr rvs i → i < w.heap.size := by
  rintro i (rfl | rfl | hi | ⟨rv, hr, hi⟩)
  · exact lt_of_heap h.head
  · exact (h.row.lt _ rfl).2
  · exact (h.rows.row.lt _ hi).2
  · obtain ⟨j, hj⟩ := List.getElem?_of_mem hr
    have hl := (List.getElem?_eq_some_iff.1 hj).1
    rw [h.rows.len] at hl
    exact ((h.rows.at_ j _ rv (List.getElem?_eq_getElem hl) hj).1.lt _ hi).2
theorem JIs.cells {w : World} {jb b first gb cb : Nat} {bs : List Int} {used : Nat} {vr : Value} {recs : List (List Int)} {rvs : List Value} (h : JIs w jb b first gb cb bs used vr recs rvs) :
    w.cell? ⟨jb, 0, none⟩ = some (.pointer (some ⟨b, 0, none⟩)) ∧ w.cell? ⟨jb, 1, none⟩ = some (.int .i64 first) ∧ w.cell? ⟨jb, 2, none⟩ = some (.slice (some ⟨gb, 0, none⟩) bs.length cb) ∧ w.cell? ⟨jb, 3, none⟩ = some (.int .i64 used) ∧ w.cell? ⟨jb, 4, none⟩ = some vr := by
  have := h.head
  simp [World.cell?, this]
theorem JIs.cap {w : World} {jb b first gb cb : Nat} {bs : List Int} {used : Nat} {vr : Value} {recs : List (List Int)} {rvs : List Value} (h : JIs w jb b first gb cb bs used vr recs rvs) : bs.length ≤ cb := by
  rcases h.row.2 with ⟨hv, _⟩ | ⟨g, cap, cur, hv, _, _, hle, _⟩
  · cases hv
  · cases hv; exact hle
/-- The bytes behind a place. -/
theorem JIs.bytes {w : World} {jb b first gb cb : Nat} {bs : List Int} {used : Nat} {vr : Value} {recs : List (List Int)} {rvs : List Value} (h : JIs w jb b first gb cb bs used vr recs rvs) (o n : Nat) : Bytes w (some ⟨gb, o, none⟩) ((bs.drop o).take n) := fun _ => ⟨_, rfl, fun j x hj => by
  rw [List.getElem?_take] at hj
  split at hj
  · rw [List.getElem?_drop] at hj
    have := h.row.cells (g := gb) rfl (o + j) (.int .u8 x) (by rw [List.getElem?_map, hj]; rfl)
    rw [Addr.add_mid, Nat.zero_add] at this
    rw [Addr.add_mid]
    exact this
  · cases hj⟩
set_option maxHeartbeats 2000000 in
set_option maxRecDepth 100000 in
theorem block_ok {w : World} {jb b first gb cb : Nat} {bs : List Int} {used : Nat} {vr : Value} {recs : List (List Int)} {rvs : List Value} (h : JIs w jb b first gb cb bs used vr recs rvs) (i : Nat) (hi : i * 32 + 32 ≤ bs.length) (hl : bs.length ≤ 100000000) :
    Calls Try.prog 45 #[.pointer (some ⟨jb, 0, none⟩), .int .i64 i] w fun e w' => e = .returned (.slice (some ⟨gb, i * 32, none⟩) 32 32) ∧ w = w' := by
  obtain ⟨-, -, c2, -, -⟩ := h.cells
  have hc := h.cap
  have q0 : (0 : Int) ≤ (i : Int) * 32 := by omega
  have q1 : (i : Int) * 32 ≤ (i : Int) * 32 + 32 := by omega
  have q2 : (i : Int) * 32 + 32 ≤ (cb : Int) := by omega
  go_enter Try.func45, Try.ntmps45
  go_wp2
  go_ret
  refine ⟨?_, rfl⟩
  show Ending.returned (.slice (some ⟨gb, i * 32, none⟩) (i * 32 + 32 - i * 32) (i * 32 + 32 - i * 32)) = _
  rw [show i * 32 + 32 - i * 32 = 32 by omega]
set_option maxHeartbeats 2000000 in
set_option maxRecDepth 100000 in
theorem room_ok {w : World} {jb b first gb cb : Nat} {bs : List Int} {used : Nat} {vr : Value} {recs : List (List Int)} {rvs : List Value} (h : JIs w jb b first gb cb bs used vr recs rvs) (hl : bs.length ≤ 100000000) (hu : used ≤ bs.length) :
    Calls Try.prog 26 #[.pointer (some ⟨jb, 0, none⟩)] w fun e w' => e = .returned (.int .i64 ((bs.length : Int) - (used : Int))) ∧ Below w.heap.size w w' := by
  have mixed : Try.prog.follows Departure.mixedOrders = true := by kernel_rfl
  obtain ⟨-, -, c2, c3, -⟩ := h.cells
  go_enter Try.func26, Try.ntmps26
  go_upto_region 3 with (fail)
  refine Mo.region 10 [0, 1, 3, 7, 15, 0, 32, 96, 224, 511, 1023] (fun w' => w' = w.drew) (fun _ => Eq) (fun _ _ => True) (fun _ _ _ _ => True) rfl (fun _ => trivial) (fun _ _ _ h k => k ▸ h) (fun _ _ _ _ _ _ _ _ _ _ => trivial) (fun _ _ _ _ _ _ _ _ _ => trivial) mixed (by kernel_rfl) ?_
  simp only [List.take_succ_cons, List.take_zero, List.drop_succ_cons, List.drop_zero]
  refine Mo.val (v := ?_) (fun _ => rfl) (by rfl) (fun _ _ _ => trivial) ?_ ?_
  rotate_left
  · (intro w' hT hP hF; cases hT; go_simp; with_reducible rfl)
  simp only [Act.put, List.setIfInBounds_toArray, List.set_cons_zero, List.set_cons_succ]
  refine Mo.val (v := ?_) (fun _ => rfl) (by rfl) (fun _ _ _ => trivial) ?_ ?_
  rotate_left
  · (intro w' hT hP hF; cases hT; go_simp; with_reducible rfl)
  simp only [Act.put, List.setIfInBounds_toArray, List.set_cons_zero, List.set_cons_succ]
  refine Mo.val (v := ?_) (fun _ => rfl) (by rfl) (fun _ _ _ => trivial) ?_ ?_
  rotate_left
  · (intro w' hT hP hF; cases hT; go_simp; with_reducible rfl)
  simp only [Act.put, List.setIfInBounds_toArray, List.set_cons_zero, List.set_cons_succ]
  refine Mo.val (v := ?_) (fun _ => rfl) (by rfl) (fun _ _ _ => trivial) ?_ ?_
  rotate_left
  · (intro w' hT hP hF; cases hT; go_simp; with_reducible rfl)
  simp only [Act.put, List.setIfInBounds_toArray, List.set_cons_zero, List.set_cons_succ]
  refine Mo.val (v := ?_) (fun _ => rfl) (by rfl) (fun _ _ _ => trivial) ?_ ?_
  rotate_left
  · (intro w' hT hP hF; cases hT; go_simp; with_reducible rfl)
  simp only [Act.put, List.setIfInBounds_toArray, List.set_cons_zero, List.set_cons_succ]
  refine Mo.val (v := ?_) (fun _ => rfl) (by rfl) (fun _ _ _ => trivial) ?_ ?_
  rotate_left
  · (intro w' hT hP hF; cases hT; go_simp; with_reducible rfl)
  simp only [Act.put, List.setIfInBounds_toArray, List.set_cons_zero, List.set_cons_succ]
  refine Mo.val (v := ?_) (fun _ => rfl) (by rfl) (fun _ _ _ => trivial) ?_ ?_
  rotate_left
  · (intro w' hT hP hF; cases hT; go_simp; with_reducible rfl)
  simp only [Act.put, List.setIfInBounds_toArray, List.set_cons_zero, List.set_cons_succ]
  refine Mo.val (v := ?_) (fun _ => rfl) (by rfl) (fun _ _ _ => trivial) ?_ ?_
  rotate_left
  · (intro w' hT hP hF; cases hT; go_simp; with_reducible rfl)
  simp only [Act.put, List.setIfInBounds_toArray, List.set_cons_zero, List.set_cons_succ]
  refine Mo.val (v := ?_) (fun _ => rfl) (by rfl) (fun _ _ _ => trivial) ?_ ?_
  rotate_left
  · (intro w' hT hP hF; cases hT; go_simp; with_reducible rfl)
  simp only [Act.put, List.setIfInBounds_toArray, List.set_cons_zero, List.set_cons_succ]
  refine Mo.val (v := ?_) (fun _ => rfl) (by rfl) (fun _ _ _ => trivial) ?_ ?_
  rotate_left
  · (intro w' hT hP hF; cases hT; go_simp; with_reducible rfl)
  simp only [Act.put, List.setIfInBounds_toArray, List.set_cons_zero, List.set_cons_succ]
  refine Mo.done ?_
  rintro w' rfl - -
  go_wp2
  go_ret
  exact ⟨by rw [IntWalk.i64_in _ (by omega)]; rfl, (Below.refl _ _).drew⟩
theorem jsync_ok {w : World} {jb b first gb cb : Nat} {bs : List Int} {used : Nat} {vr : Value} {recs : List (List Int)} {rvs : List Value} (h : JIs w jb b first gb cb bs used vr recs rvs) {m1 m2 : Nat} {sv : Value} {D : St} (hD : DiskIs w b m1 m2 sv D) (hn : D.calls.length < 1000000000000) :
    Calls Try.prog 30 #[.pointer (some ⟨jb, 0, none⟩)] w fun e w' => ∃ sv', e = .returned (.int .i64 0) ∧ DiskIs w' b m1 m2 sv' D.sync ∧ Kept (foot b m1 m2 sv) w w' ∧ ∀ i, sv'.ownBlock = some i → sv.ownBlock = some i ∨ w.heap.size ≤ i := by
  obtain ⟨c0, -, -, -, -⟩ := h.cells
  go_enter Try.func30, Try.ntmps30
  go_wp2_with fail
  refine (sync_ok b m1 m2 sv D w hD hn).mono ?_
  rintro e w1 ⟨sv', rfl, h1, h2, h3⟩
  go_wp2
  go_ret
  exact ⟨sv', rfl, h1, h2, h3⟩
end Go.Proofs.Ytinhednmfldmbaa.Dk

namespace Go.Proofs.Ytinhednmfldmbaa.Dk
open Go Go.RowKit Hp Rd

theorem makeN (n : Nat) (hn : n ≤ 10000000) (w : World) : (Instr.makeSlice 31 (.int .i64 (n : Int)) (.int .i64 (n : Int))).run Try.prog w = .ok (.slice (some ⟨w.heap.size, 0, none⟩) n n) (w.alloc (.cells ((List.replicate n (0 : Int)).map (Value.int .u8)).toArray 5)) := by
  obtain ⟨i0, hi, hz⟩ := Option.map_eq_some_iff.1 info_u8
  simp only [Prod.mk.injEq] at hz
  obtain ⟨hz0, hz1, hz2⟩ := hz
  have := run_makeSlice (P := Try.prog) w 31 5 i0 (.int .u8 0) Try.underlying31 hi hz0 .i64 .i64 n n (by omega) (by omega) (by rw [hz1]; omega) (by rw [hz2]; omega) (by omega)
  have hm : madeCells (Value.int .u8 0).cells ((n : Int).toNat * 1) = ((List.replicate n (0 : Int)).map (Value.int .u8)).toArray := by
    apply Array.ext
    · simp [size_madeCells]
    · intro i h1 h2
      have h3 : i < n := by simpa using h2
      have : ((List.replicate n (0 : Int)).map (Value.int .u8)).toArray[i] = .int .u8 0 := by simp only [List.map_replicate, List.getElem_toArray, List.getElem_replicate]
      refine Eq.trans ?_ this.symm
      simp [madeCells, Value.cells, Nat.mod_one]
  rw [hz1, hm] at this
  simpa using this
theorem size_u8' : (Try.prog.info? 5).map (·.size) = some 1 := by kernel_rfl
theorem cells_at {w : World} {g : Nat} {cs : List Value} {t : TypeId} {fr : Nat × Nat} (h : w.heap[g]? = some (.cells cs.toArray t fr)) : ∀ (j : Nat) (v : Value), cs[j]? = some v → w.cell? ((⟨g, 0, none⟩ : Addr).add j) = some v := by
  intro j v hj
  rw [Addr.add_mid, Nat.zero_add]
  simp only [World.cell?, h]
  simpa using hj
/-- 'copy' into a row whose block is known: that block alone turns. -/
theorem wpList_copy_row {w : World} {ops : Array Oper} {rest : List Oper} {o : Oper} {a : Act} {Q : Exit → Act → World → Prop} (hgd : o.guard = none) (d s : Operand)
    (ho : o.op = .call { callee := .builtin .copy, args := #[d, s], argTypes := #[31, 31] })
    (dp sp : Option Addr) (dLen dCap sLen sCap : Nat) (hd : a.eval d = .slice dp dLen dCap) (hs : a.eval s = .slice sp sLen sCap)
    (g off : Nat) (cur : Array Value) (hg : w.heap[g]? = some (.cells cur 5 (0, 0))) (cs : List Value) (hn : cs.length = Nat.min sLen dLen)
    (hpos : 0 < cs.length → dp = some ⟨g, off, none⟩ ∧ ∃ ad, sp = some ad ∧ ∀ j v, cs[j]? = some v → w.cell? (ad.add j) = some v)
    (hfit : off + cs.length ≤ cur.size) (h1 : ∀ v ∈ cs, v.oneCell' = true)
    (h : ∀ w', w'.heap[g]? = some (.cells (splice cur.toList off cs).toArray 5 (0, 0)) → Kept (fun i => i = g) w w' → wpList Try.prog ops Q rest (a.put o.dst (goInt cs.length)) w') :
    wpList Try.prog ops Q (o :: rest) a w := by
  by_cases h0 : cs.length = 0
  · obtain rfl : cs = [] := List.eq_nil_of_length_eq_zero h0
    refine wpList_copy_nothing hgd d s 31 31 ho 5 Try.underlying31 size_u8' dp sp dLen dCap sLen sCap hd hs (by simpa using hn.symm) ?_
    exact h w (by simpa [splice] using hg) (Kept.refl _ _)
  · obtain ⟨rfl, ad, rfl, hsrc⟩ := hpos (by omega)
    refine wpList_copy_own hgd d s 31 31 ho 5 Try.underlying31 size_u8' g off dLen dCap ad sLen sCap hd hs cur 5 hg cs hn hsrc hfit h1 ?_
    exact h _ (by simpa [splice] using setRow_heap w g _ _ 5 _ hg) ⟨rfl, rfl, rfl, by simp [World.setRow], fun i _ hi => setRow_other w g i _ hi⟩
/-- Bytes laid over others. -/
def lay (bs : List Int) (o : Nat) (cs : List Int) : List Int := bs.take o ++ (cs ++ bs.drop (o + cs.length))
theorem lay_length (bs : List Int) (o : Nat) (cs : List Int) (h : o + cs.length ≤ bs.length) : (lay bs o cs).length = bs.length := by simp [lay]; omega
theorem lay_bytes {bs cs : List Int} (o : Nat) (h1 : Pl.bytes bs) (h2 : Pl.bytes cs) : Pl.bytes (lay bs o cs) := Pl.bytes_app (Pl.bytes_take h1 _) (Pl.bytes_app h2 (Pl.bytes_drop h1 _))
theorem splice_take {α : Type} (L C : List α) (o n c : Nat) (hc : C.length = c) (h1 : o + c ≤ n) (h2 : n ≤ L.length) : (L.take o ++ (C ++ L.drop (o + C.length))).take n = (L.take n).take o ++ (C ++ (L.take n).drop (o + c)) := by
  subst hc
  rw [List.take_take, Nat.min_eq_left (by omega), List.drop_take, List.take_append, List.take_append, List.take_of_length_le (l := L.take o) (by simp; omega), List.take_of_length_le (l := C) (by simp; omega)]
  congr 3
  simp
  omega
/-- The journal, bytes laid over its own. -/
theorem JIs.lay {w w' : World} {jb b first gb cb : Nat} {bs : List Int} {used : Nat} {vr : Value} {recs : List (List Int)} {rvs : List Value} (h : JIs w jb b first gb cb bs used vr recs rvs) {cur : Array Value} (hc : w.heap[gb]? = some (.cells cur 5 (0, 0))) {o : Nat} {cs : List Int} (ho : o + cs.length ≤ bs.length) (hb : Pl.bytes cs)
    (hh : w'.heap[gb]? = some (.cells (splice cur.toList o (cs.map (Value.int .u8))).toArray 5 (0, 0))) (K : Kept (fun i => i = gb) w w') : JIs w' jb b first gb cb (Dk.lay bs o cs) used vr recs rvs := by
  have hl := lay_length bs o cs ho
  obtain ⟨cap, cur', hv, hcur, hle, hcm, hcs, ht⟩ : ∃ cap cur', Value.slice (some ⟨gb, 0, none⟩) bs.length cb = .slice (some ⟨gb, 0, none⟩) bs.length cap ∧ w.heap[gb]? = some (.cells cur' 5 (0, 0)) ∧ bs.length ≤ cap ∧ cap ≤ maxLen ∧ cur'.size = cap * 1 ∧ cur'.toList.take (bs.length * 1) = bs.map (Value.int .u8) := by
    rcases h.row.2 with ⟨hv, _⟩ | ⟨g, cap, cur', hv, _, h1, h2, h3, h4, h5⟩
    · cases hv
    · cases hv; exact ⟨_, cur', rfl, h1, h2, h3, h4, h5⟩
  obtain rfl : cb = cap := by simpa using hv
  rw [hc] at hcur
  obtain rfl : cur = cur' := by simpa using hcur
  have hj : jb ≠ gb := h.apart.1
  refine ⟨?_, ⟨by simp [hl], .inr ⟨gb, cb, _, by rw [hl], Nat.zero_le _, hh, by omega, hcm, ?_, ?_⟩⟩, h.rows.kept K (fun i hi e => h.apart.2.2 (e ▸ hi)) (fun rv hr i hi e => (h.apartR rv hr).2 (e ▸ hi)), h.good |> fun hg => lay_bytes o hg hb, h.goodR, h.apart, h.apartR⟩
  · rw [hl]
    exact K.heap h.head hj
  · have : (splice cur.toList o (cs.map (Value.int .u8))).length = cur.toList.length := length_splice _ _ _ (by simp; omega)
    simp only [List.size_toArray]
    rw [this]
    simpa using hcs
  · simp only [Nat.mul_one] at ht ⊢
    rw [hl]
    unfold splice Dk.lay
    simp only [List.map_append, List.map_take, List.map_drop, ← ht]
    have hcl : cur.toList.length = cb := by simpa using hcs
    exact splice_take cur.toList (cs.map (Value.int .u8)) o bs.length cs.length (by simp) ho (by omega)
/-- The blocks that turned, written from the last to the first. -/
def zd (first : Nat) (old new : List Int) : Nat → St × Bool → St × Bool
  | 0, s => s
  | k + 1, s => zd first old new k (if (new.drop (k * 32)).take 32 = (old.drop (k * 32)).take 32 then s else (s.1.write ((first : Int) + (k : Int)) ((new.drop (k * 32)).take 32), true))
theorem zd_len (first : Nat) (old new : List Int) : ∀ (k : Nat) (s : St × Bool), (zd first old new k s).1.calls.length ≤ s.1.calls.length + k
  | 0, s => Nat.le_refl _
  | k + 1, s => by
    unfold zd
    refine Nat.le_trans (zd_len first old new k _) ?_
    split
    · omega
    · simp [St.write]
      omega
end Go.Proofs.Ytinhednmfldmbaa.Dk

namespace Go.Proofs.Ytinhednmfldmbaa.Dk
open Go Go.RowKit Hp Rd

theorem own_bytes {w : World} {base g n c : Nat} {l : List Int} (h : w.ownsRow base 5 1 (.slice (some ⟨g, 0, none⟩) n c) n (l.map (Value.int .u8))) (o m : Nat) : Bytes w (some ⟨g, o, none⟩) ((l.drop o).take m) := fun _ => ⟨_, rfl, fun j x hj => by
  rw [List.getElem?_take] at hj
  split at hj
  · rw [List.getElem?_drop] at hj
    have := h.cells (g := g) rfl (o + j) (.int .u8 x) (by rw [List.getElem?_map, hj]; rfl)
    rw [Addr.add_mid, Nat.zero_add] at this
    rw [Addr.add_mid]
    exact this
  · cases hj⟩
theorem own_cap {w : World} {base : Nat} {e : TypeId} {size : Nat} {a : Option Addr} {n c : Nat} {xs : List Value} (h : w.ownsRow base e size (.slice a n c) n xs) (hn : 0 < n) : ∃ g, a = some ⟨g, 0, none⟩ ∧ n ≤ c ∧ base ≤ g := by
  rcases h.2 with ⟨_, h0⟩ | ⟨g, cap, cur, hv, hb, _, hle, _⟩
  · omega
  · obtain ⟨rfl, rfl⟩ : a = some ⟨g, 0, none⟩ ∧ c = cap := by simpa using hv
    exact ⟨g, rfl, hle, hb⟩
set_option maxHeartbeats 4000000 in
set_option maxRecDepth 100000 in
theorem zero_ok {w : World} {jb b first gb cb : Nat} {bs : List Int} {used : Nat} {vr : Value} {recs : List (List Int)} {rvs : List Value} (h : JIs w jb b first gb cb bs used vr recs rvs) {m1 m2 : Nat} {sv : Value} {D : St} (hD : DiskIs w b m1 m2 sv D) (hap : ∀ i, jfoot jb gb vr rvs i → ¬ foot b m1 m2 sv i)
    (nb : Nat) (hnb : bs.length = nb * 32) (hfit : (first : Int) + (nb : Int) ≤ D.size) (fr : Nat) (hf : fr ≤ bs.length) (hn : D.calls.length ≤ 1000000000) :
    Calls Try.prog 43 #[.pointer (some ⟨jb, 0, none⟩), .int .i64 fr] w fun e w' => ∃ sv', e = .returned (.bool (zd first bs (Dk.lay bs fr (List.replicate (bs.length - fr) 0)) nb (D, false)).2) ∧
      JIs w' jb b first gb cb (Dk.lay bs fr (List.replicate (bs.length - fr) 0)) used vr recs rvs ∧ DiskIs w' b m1 m2 sv' (zd first bs (Dk.lay bs fr (List.replicate (bs.length - fr) 0)) nb (D, false)).1 ∧
      Kept (fun i => i = gb ∨ foot b m1 m2 sv i) w w' ∧ ∀ i, sv'.ownBlock = some i → sv.ownBlock = some i ∨ w.heap.size ≤ i := by
  have mixed : Try.prog.follows Departure.mixedOrders = true := by kernel_rfl
  have hDle := hD.ok.le
  have hbl : bs.length ≤ 10000000 := by omega
  obtain ⟨n, hnl⟩ : ∃ n, bs.length = n := ⟨_, rfl⟩
  obtain ⟨bs2, hb2⟩ : ∃ bs2, Dk.lay bs fr (List.replicate (bs.length - fr) 0) = bs2 := ⟨_, rfl⟩
  have hl2 : bs2.length = n := by rw [← hb2, lay_length _ _ _ (by simp; omega), hnl]
  rw [hb2]
  obtain ⟨-, -, c2, -, -⟩ := h.cells
  have hcap := h.cap
  have hmk : ∀ W : World, (Instr.makeSlice 31 (.int .i64 ((n : Int) - (fr : Int))) (.int .i64 ((n : Int) - (fr : Int)))).run Try.prog W = .ok (.slice (some ⟨W.heap.size, 0, none⟩) (n - fr) (n - fr)) (W.alloc (.cells ((List.replicate (n - fr) (0 : Int)).map (Value.int .u8)).toArray 5)) := fun W => by
    have := makeN (n - fr) (by omega) W
    rwa [show ((n - fr : Nat) : Int) = (n : Int) - (fr : Int) by omega] at this
  obtain ⟨cur, hcur, hcs⟩ : ∃ cur : Array Value, w.heap[gb]? = some (.cells cur 5 (0, 0)) ∧ n ≤ cur.size := by
    rcases h.row.2 with ⟨hv, _⟩ | ⟨g, cap, cur, hv, _, h1, h2, h3, h4, h5⟩
    · cases hv
    · cases hv; exact ⟨cur, h1, by omega⟩
  rw [hnl] at c2 hcap hb2 hf
  have HNL := Sh.mk hnl
  have HNB := Sh.mk hnb
  have HB2 := Sh.mk hb2
  have HL2 := Sh.mk hl2
  have hn0 : n ≤ 10000000 := by omega
  have hb8 : nb ≤ 100000 := by omega
  have hn32 : (nb : Int) * 32 = (n : Int) := by omega
  have HN32 := Sh.mk hn32
  clear hb2 hl2 hbl hnb hn32
  rw [← hnl] at hcap
  clear hnl
  go_enter Try.func43, Try.ntmps43
  have k0 : (0 : Int) ≤ (n : Int) - (fr : Int) := by omega
  go_upto_region 3 with (fail)
  obtain ⟨w1, hw1⟩ : ∃ w1, w.alloc (.cells ((List.replicate (n - fr) (0 : Int)).map (Value.int .u8)).toArray 5) = w1 := ⟨_, rfl⟩
  have hb1 : Below w.heap.size w w1 := by rw [← hw1]; exact (Below.refl _ _).alloc (Nat.le_refl _) _
  obtain ⟨zb, hzb⟩ : ∃ zb, w.heap.size = zb := ⟨_, rfl⟩
  have hz1 : w1.heap[zb]? = some (.cells ((List.replicate (n - fr) (0 : Int)).map (Value.int .u8)).toArray 5 (0, 0)) := by rw [← hw1, ← hzb]; exact heap_alloc_new _ _
  have hzs : zb < w1.heap.size := by rw [← hw1, ← hzb]; simp
  simp only [List.map_replicate, List.toArray_replicate] at hw1
  rw [hw1, hzb]
  clear hw1 hmk
  have hJ1 := h.kept (S := fun _ => False) (Kept.of_below hb1) (fun _ _ e => e)
  have c2_1 := bcell' hb1 c2
  go_wp2_with fail
  have hcl := rec_clone (some ⟨gb, 0, none⟩) cb bs w1 (by have := HNL.out; omega) hcap (Bytes.own hJ1.row)
  rw [HNL.out] at hcl
  refine hcl.mono ?_
  rintro e w2 ⟨vo, rfl, hO, hb2⟩
  obtain ⟨ao, co, rfl⟩ := own_len hO
  have hJ2 := hJ1.kept (S := fun _ => False) (Kept.of_below hb2) (fun _ _ e => e)
  have c2_2 := bcell' hb2 c2_1
  have hz2 : w2.heap[zb]? = some (.cells ((List.replicate (n - fr) (0 : Int)).map (Value.int .u8)).toArray 5 (0, 0)) := (hb2.block zb hzs).trans hz1
  have hcur2 : w2.heap[gb]? = some (.cells cur 5 (0, 0)) := (hb2.block gb (hJ1.lt gb (.inr (.inl rfl)))).trans ((hb1.block gb (h.lt gb (.inr (.inl rfl)))).trans hcur)
  have hcapn : n ≤ cb := by have := HNL.out; omega
  clear hcl c2_1
  have k1 : (fr : Int) ≤ (n : Int) := by omega
  go_upto_region 4 with (fail)
  go_cut [] (fun wx => Sh (wx.heap[gb]? = some (.cells (splice cur.toList fr ((List.replicate (n - fr) (0 : Int)).map (Value.int .u8))).toArray 5 (0, 0)) ∧ Kept (fun i => i = gb) w2 wx))
  case first =>
    go_wp2_with (with_reducible refine Ow.at_slot 30 ?_; go_loud (refine wpList_copy_row rfl _ _ rfl _ _ _ _ _ _ rfl rfl gb fr cur hcur2 ((List.replicate (n - fr) (0 : Int)).map (Value.int .u8)) (by show _ = min _ _; simp) (fun h0_ => ⟨by rw [if_neg (by simp at h0_; omega)], ⟨zb, 0, none⟩, rfl, cells_at hz2⟩) (by simp; omega) (one_u8 _) ?_))
    · intro w' hh hK
      go_wp2_with fail
      go_meet
      case rel => exact ⟨by rw [List.map_replicate]; exact hh, hK⟩
    · intro w' hh hK
      go_wp2_with fail
      go_meet
      case rel => exact ⟨by rw [List.map_replicate]; exact hh, hK⟩
  case rest =>
    obtain ⟨hh, hK⟩ := hcut
    obtain ⟨w3, hw3_⟩ : ∃ w3, w3 = wc := ⟨_, rfl⟩
    subst hw3_
    have hJ3 := hJ2.lay hcur2 (o := fr) (cs := List.replicate (n - fr) (0 : Int)) (by have := HNL.out; simp; omega) (fun x hx => by rw [List.eq_of_mem_replicate hx]; exact ⟨by decide, by decide⟩) hh hK
    rw [show Dk.lay bs fr (List.replicate (n - fr) 0) = bs2 from HB2.out] at hJ3
    obtain ⟨-, -, c2_3, -, -⟩ := hJ3.cells
    rw [HL2.out] at c2_3
    have K03 : Kept (fun i => i = gb) w w3 := (Kept.of_below (S := fun i => i = gb) (hb1.trans (hb2.mono hb1.size))).trans hK (fun i _ e => e)
    have hDgb : ∀ i, foot b m1 m2 sv i → ¬ i = gb := fun i hi e => hap gb (.inr (.inl rfl)) (e ▸ hi)
    have hD3 := hD.kept K03 hDgb
    have hO3 := own_kept hO hK (fun i hi e => by have := (hO.lt i hi).1; have := h.lt gb (.inr (.inl rfl)); have := hb1.size; omega)
    have hs13 : w1.heap.size < w3.heap.size ∨ n = 0 := by
      rcases hO3.2 with ⟨_, h0⟩ | ⟨g, cap, cur', hv, hb5, hh5, _⟩
      · exact .inr h0
      · have := lt_of_heap hh5
        exact .inl (by omega)
    have hn1 : (n : Int).tdiv 32 = (nb : Int) := by
      have := HN32.out
      rw [Int.tdiv_eq_ediv_of_nonneg (by omega)]
      omega
    clear hh hz1 hz2 hcur hcur2 c2 c2_2
    go_upto_block 0 with (fail)
    have hn1k : nb = 0 ∨ 0 < n := by have := HN32.out; omega
    clear hn1
    go_cut [5] (fun v5 wx => ∃ sv', v5 = .bool (zd first bs bs2 nb (D, false)).2 ∧ Sh (JIs wx jb b first gb cb bs2 used vr recs rvs ∧ DiskIs wx b m1 m2 sv' (zd first bs bs2 nb (D, false)).1 ∧ Kept (foot b m1 m2 sv) w3 wx ∧ ∀ i, sv'.ownBlock = some i → sv.ownBlock = some i ∨ w3.heap.size ≤ i))
    case first =>
      go_wp2_with fail
      go_loopg [5, 8] nb (fun kq v5 v8 w' => ∃ (Dk : St) (any : Bool) (sv' : Value), v5 = .bool any ∧ v8 = .int .i64 ((kq : Int) - 1) ∧ kq ≤ nb ∧ Dk.calls.length + kq ≤ D.calls.length + nb ∧ Sh (zd first bs bs2 nb (D, false) = zd first bs bs2 kq (Dk, any) ∧ JIs w' jb b first gb cb bs2 used vr recs rvs ∧ DiskIs w' b m1 m2 sv' Dk ∧ Dk.size = D.size ∧ Kept (foot b m1 m2 sv) w3 w' ∧ (∀ i, sv'.ownBlock = some i → sv.ownBlock = some i ∨ w3.heap.size ≤ i) ∧ w'.ownsRow w1.heap.size 5 1 (.slice ao n co) n (bs.map (Value.int .u8))))
      case atStart => exact ⟨D, false, sv, rfl, rfl, Nat.le_refl _, Nat.le_refl _, ⟨rfl, hJ3, hD3, rfl, Kept.refl _ _, fun i hi => .inl hi, hO3⟩⟩
      case round =>
        obtain ⟨Dk, any, sv', rfl, rfl, hkn, hcl, ⟨hzd, hJ, hDk, hDs, hKf, hsv, hOw⟩⟩ := hrel
        have hfar : ∀ i, foot b m1 m2 sv' i → ¬ jfoot jb gb vr rvs i := fun i hi hj => by
          have hlt := h.lt i hj
          have := K03.size
          rcases hi with hi | hi | hi | hi
          · exact hap i hj (.inl hi)
          · exact hap i hj (.inr (.inl hi))
          · exact hap i hj (.inr (.inr (.inl hi)))
          · rcases hsv i hi with h5 | h5
            · exact hap i hj (.inr (.inr (.inr h5)))
            · omega
        cases gk with
        | zero =>
          have q : ¬ ((0 : Int) ≤ ((0 : Nat) : Int) - 1) := by omega
          go_wp2_with fail
          go_meet
          case rel => exact ⟨sv', by rw [hzd]; rfl, ⟨hJ, by rw [hzd]; exact hDk, hKf, hsv⟩⟩
        | succ g1_ =>
          have e8 : ((g1_ + 1 : Nat) : Int) - 1 = (g1_ : Int) := by omega
          rw [e8]
          have q : (0 : Int) ≤ (g1_ : Int) := by omega
          have hn3 := HN32.out
          have hg1 : g1_ * 32 + 32 ≤ n := by omega
          clear hn3
          obtain ⟨go_, rfl, hco, hgo⟩ := own_cap hOw (by omega)
          obtain ⟨l0, hl0⟩ : ∃ l0, (bs2.drop (g1_ * 32)).take 32 = l0 := ⟨_, rfl⟩
          have HL0 := Sh.mk hl0
          obtain ⟨l1, hl1⟩ : ∃ l1, (bs.drop (g1_ * 32)).take 32 = l1 := ⟨_, rfl⟩
          have hl0n : l0.length = 32 := by rw [← hl0]; have := HL2.out; simp; omega
          have hl1n : l1.length = 32 := by rw [← hl1]; have := HNL.out; simp; omega
          have hb0 : Pl.bytes l0 := by rw [← hl0]; exact Pl.bytes_take (Pl.bytes_drop hJ.good _) _
          have hb1_ : Pl.bytes l1 := by rw [← hl1]; exact Pl.bytes_take (Pl.bytes_drop h.good _) _
          have hB0 := hJ.bytes (g1_ * 32) 32
          have hB1 := own_bytes hOw (g1_ * 32) 32
          rw [hl0] at hB0
          rw [hl1] at hB1
          have hbk := block_ok hJ g1_ (by rw [HL2.out]; exact hg1) (by rw [HL2.out]; omega)
          have hz1 : Sh (zd first bs bs2 (g1_ + 1) (Dk, any) = zd first bs bs2 g1_ (if l0 = l1 then (Dk, any) else (Dk.write ((first : Int) + (g1_ : Int)) l0, true))) := ⟨by rw [← hl0, ← hl1]; rfl⟩
          have hne : ¬ (co = g1_ * 32) := by omega
          have q1 : (0 : Int) ≤ (g1_ : Int) * 32 := by omega
          have q2 : (g1_ : Int) * 32 ≤ (n : Int) := by omega
          have q3 : (32 : Int) ≤ ((co - g1_ * 32 : Nat) : Int) := by omega
          have hE := rec_equal (some ⟨gb, g1_ * 32, none⟩) 32 l0 (some ⟨go_, g1_ * 32, none⟩) (co - g1_ * 32) l1 wr hb0 hb1_ (by omega) (by omega) (by omega) (by omega) hB0 hB1
          rw [hl0n, hl1n] at hE
          have HL0N := Sh.mk hl0n
          clear hl0 hl1 hl0n hl1n hB0 hB1 hb0 hb1_ e8
          go_wp2_with fail
          refine hbk.mono ?_
          rintro e w5 ⟨rfl, rfl⟩
          go_wp2_with fail
          refine hE.mono ?_
          rintro e w6 ⟨rfl, hdr⟩
          have hb6 := hdr.below
          have hJ6 := hJ.kept (S := fun _ => False) (Kept.of_below hb6) (fun _ _ e => e)
          have hD6 := hDk.kept (S := fun _ => False) (Kept.of_below hb6) (fun _ _ e => e)
          have hO6 := own_kept hOw (Kept.of_below (S := fun _ => False) hb6) (fun _ _ e => e)
          have hK6 := hKf.then hb6
          clear hE hbk hdr
          by_cases hq01 : l0 = l1
          · have hz2 : Sh (zd first bs bs2 (g1_ + 1) (Dk, any) = zd first bs bs2 g1_ (Dk, any)) := ⟨by rw [hz1.out, if_pos hq01]⟩
            go_wp2_with fail
            go_roundg g1_
            case measure => omega
            case rel => exact ⟨Dk, any, sv', rfl, by go_num, by omega, by omega, ⟨hzd.trans hz2.out, hJ6, hD6, hDs, hK6, hsv, hO6⟩⟩
          · have hz2 : Sh (zd first bs bs2 (g1_ + 1) (Dk, any) = zd first bs bs2 g1_ (Dk.write ((first : Int) + (g1_ : Int)) l0, true)) := ⟨by rw [hz1.out, if_neg hq01]⟩
            obtain ⟨j0, j1, -, -, -⟩ := hJ6.cells
            have hw_ : IntKind.i64.wrap ((first : Int) + (g1_ : Int)) = (first : Int) + (g1_ : Int) := IntWalk.i64_in _ (by omega)
            go_upto_region 10 with (fail)
            refine Mo.region 11 [0, 1, 3, 7, 0, 16, 48, 112, 0, 496, 0, 2047] (fun w' => w' = w6.drew) (fun _ => Eq) (fun _ _ => True) (fun _ _ _ _ => True) rfl (fun _ => trivial) (fun _ _ _ h k => k ▸ h) (fun _ _ _ _ _ _ _ _ _ _ => trivial) (fun _ _ _ _ _ _ _ _ _ => trivial) mixed (by kernel_rfl) ?_
            simp only [List.take_succ_cons, List.take_zero, List.drop_succ_cons, List.drop_zero]
            refine Mo.val (v := ?_) (fun _ => rfl) (by rfl) (fun _ _ _ => trivial) ?_ ?_
            rotate_left
            · (intro w' hT hP hF; cases hT; go_simp; with_reducible rfl)
            simp only [Act.put, List.setIfInBounds_toArray, List.set_cons_zero, List.set_cons_succ]
            refine Mo.val (v := ?_) (fun _ => rfl) (by rfl) (fun _ _ _ => trivial) ?_ ?_
            rotate_left
            · (intro w' hT hP hF; cases hT; go_simp; with_reducible rfl)
            simp only [Act.put, List.setIfInBounds_toArray, List.set_cons_zero, List.set_cons_succ]
            refine Mo.val (v := ?_) (fun _ => rfl) (by rfl) (fun _ _ _ => trivial) ?_ ?_
            rotate_left
            · (intro w' hT hP hF; cases hT; go_simp; with_reducible rfl)
            simp only [Act.put, List.setIfInBounds_toArray, List.set_cons_zero, List.set_cons_succ]
            refine Mo.val (v := ?_) (fun _ => rfl) (by rfl) (fun _ _ _ => trivial) ?_ ?_
            rotate_left
            · (intro w' hT hP hF; cases hT; go_simp; with_reducible rfl)
            simp only [Act.put, List.setIfInBounds_toArray, List.set_cons_zero, List.set_cons_succ]
            refine Mo.val (v := ?_) (fun _ => rfl) (by rfl) (fun _ _ _ => trivial) ?_ ?_
            rotate_left
            · (intro w' hT hP hF; cases hT; go_simp; with_reducible rfl)
            simp only [Act.put, List.setIfInBounds_toArray, List.set_cons_zero, List.set_cons_succ]
            refine Mo.val (v := ?_) (fun _ => rfl) (by rfl) (fun _ _ _ => trivial) ?_ ?_
            rotate_left
            · (intro w' hT hP hF; cases hT; go_simp; with_reducible rfl)
            simp only [Act.put, List.setIfInBounds_toArray, List.set_cons_zero, List.set_cons_succ]
            refine Mo.val (v := ?_) (fun _ => rfl) (by rfl) (fun _ _ _ => trivial) ?_ ?_
            rotate_left
            · (intro w' hT hP hF; cases hT; go_simp; with_reducible rfl)
            simp only [Act.put, List.setIfInBounds_toArray, List.set_cons_zero, List.set_cons_succ]
            refine Mo.val (v := ?_) (fun _ => rfl) (by rfl) (fun _ _ _ => trivial) ?_ ?_
            rotate_left
            · (intro w' hT hP hF; cases hT; go_simp; with_reducible rfl)
            simp only [Act.put, List.setIfInBounds_toArray, List.set_cons_zero, List.set_cons_succ]
            refine Mo.val (v := ?_) (fun _ => rfl) (by rfl) (fun _ _ _ => trivial) ?_ ?_
            rotate_left
            · (intro w' hT hP hF; cases hT; go_simp; with_reducible rfl)
            simp only [Act.put, List.setIfInBounds_toArray, List.set_cons_zero, List.set_cons_succ]
            refine Mo.val (v := ?_) (fun _ => rfl) (by rfl) (fun _ _ _ => trivial) ?_ ?_
            rotate_left
            · (intro w' hT hP hF; cases hT; go_simp; with_reducible rfl)
            simp only [Act.put, List.setIfInBounds_toArray, List.set_cons_zero, List.set_cons_succ]
            refine Mo.val (v := ?_) (fun _ => rfl) (by rfl) (fun _ _ _ => trivial) ?_ ?_
            rotate_left
            · (intro w' hT hP hF; cases hT; go_simp; with_reducible rfl)
            simp only [Act.put, List.setIfInBounds_toArray, List.set_cons_zero, List.set_cons_succ]
            refine Mo.done ?_
            rintro w' rfl - -
            have hdd : Kept (fun _ => False) w6 w6.drew := (Kept.refl _ _).drew
            have hJd := hJ6.kept hdd (fun _ _ e => e)
            have hDd := hD6.kept hdd (fun _ _ e => e)
            have hOd := own_kept hO6 hdd (fun _ _ e => e)
            have hr0 : w6.drew.rangeAt gb (g1_ * 32) (l0.map (Value.int .u8)) := fun j u hu => by
              rw [List.getElem?_map] at hu
              obtain ⟨x, hx, rfl⟩ := Option.map_eq_some_iff.1 hu
              have hB := hJd.bytes (g1_ * 32) 32
              rw [HL0.out] at hB
              obtain ⟨ad, he, hc⟩ := hB (by have := HL0N.out; omega)
              cases he
              have := hc j x hx
              rwa [Addr.add_mid] at this
            go_wp2_with fail
            refine (write_ok b m1 m2 sv' Dk ((first : Int) + (g1_ : Int)) gb (g1_ * 32) 32 l0 w6.drew hDd (by omega) (by omega) HL0N.out hr0 (fun e => hfar gb (.inr (.inr (.inr e))) (.inr (.inl rfl))) (by omega)).mono ?_
            rintro e w7 ⟨sv2, rfl, hD7, hK7, hsv7⟩
            have hJ7 := hJd.kept hK7 (fun i hi hf => hfar i hf hi)
            have hgl := (hO3.lt go_ rfl).2
            have hw13 := hb1.size
            have hO7 := own_kept hOd hK7 (fun i hi hf => by
              obtain rfl : go_ = i := by simpa [Value.ownBlock] using hi
              rcases hf with hf | hf | hf | hf
              · have := hD.lt go_ (.inl hf); omega
              · have := hD.lt go_ (.inr (.inl hf)); omega
              · have := hD.lt go_ (.inr (.inr (.inl hf))); omega
              · rcases hsv go_ hf with h5 | h5
                · have := hD.lt go_ (.inr (.inr (.inr h5))); omega
                · omega)
            have hs36 := hKf.size
            have hs66 := hb6.size
            have hK37 : Kept (foot b m1 m2 sv) w3 w7 := (hK6.drew).trans hK7 (fun i hi hf => by
              rcases hf with hf | hf | hf | hf
              · exact .inl hf
              · exact .inr (.inl hf)
              · exact .inr (.inr (.inl hf))
              · rcases hsv i hf with h5 | h5
                · exact .inr (.inr (.inr h5))
                · omega)
            have hsd : w6.drew.heap.size = w6.heap.size := rfl
            have hsv2 : ∀ i, sv2.ownBlock = some i → sv.ownBlock = some i ∨ w3.heap.size ≤ i := fun i hi => by
              rcases hsv7 i hi with h5 | h5
              · exact hsv i h5
              · exact .inr (by omega)
            clear hr0 hsd hw_
            go_wp2_with fail
            go_roundg g1_
            case measure => omega
            case rel => exact ⟨_, true, sv2, rfl, by go_num, by omega, by simp [St.write]; omega, ⟨hzd.trans hz2.out, hJ7, hD7, hDs, hK37, hsv2, hO7⟩⟩
    case rest =>
      obtain ⟨sv', rfl, ⟨hJ, hD', hKf, hsv⟩⟩ := hcut
      go_wp2_with fail
      go_ret
      have hs3 := K03.size
      exact ⟨sv', rfl, hJ, hD', (K03.mono (fun i _ e => .inl e)).trans hKf (fun i _ e => .inr e), fun i hi => (hsv i hi).imp id (fun h5 => by omega)⟩
end Go.Proofs.Ytinhednmfldmbaa.Dk

namespace Go.Proofs.Ytinhednmfldmbaa.Dk
open Go Go.RowKit Hp Rd

theorem RecsAt.nil (w : World) (base : Nat) : RecsAt w base (.slice none 0 0) [] [] := ⟨World.ownsRow_nil _ _ _ _, rfl, fun j x rv hj => by simp at hj⟩
theorem RecsAt.add {w w1 w2 : World} {base : Nat} {v v' rv : Value} {xs : List (List Int)} {rvs : List Value} {x : List Int} (h : RecsAt w base v xs rvs) (hb : base ≤ w.heap.size) (k1 : Below w.heap.size w w1) (hr : w1.ownsRow w.heap.size 5 1 rv x.length (x.map (Value.int .u8)))
    (K : Kept (fun i => v.ownBlock = some i) w1 w2) (O : w2.ownsRow base 31 1 v' (xs.length + 1) (rvs ++ [rv])) (O2 : ∀ i, v'.ownBlock = some i → v.ownBlock = some i ∨ w1.heap.size ≤ i) : RecsAt w2 base v' (xs ++ [x]) (rvs ++ [rv]) := by
  have s1 := k1.size
  refine ⟨by rw [List.length_append]; exact O, by simp [h.len], fun j y u hj hu => ?_⟩
  rcases Nat.lt_or_ge j xs.length with hj5 | hj5
  · rw [List.getElem?_append_left hj5] at hj
    rw [List.getElem?_append_left (by rw [h.len]; exact hj5)] at hu
    obtain ⟨ho, ha⟩ := h.at_ j y u hj hu
    refine ⟨own_kept (own_kept ho (Kept.of_below (S := fun _ => False) k1) (fun _ _ e => e)) K (fun i hi e => ha i hi e), fun k hk e => ?_⟩
    rcases O2 k e with h5 | h5
    · exact ha k hk h5
    · have := (ho.lt k hk).2
      omega
  · rw [List.getElem?_append_right hj5] at hj
    rw [List.getElem?_append_right (by rw [h.len]; exact hj5), h.len] at hu
    have hj0 : j - xs.length = 0 := by
      have := (List.getElem?_eq_some_iff.1 hj).1
      simp at this
      omega
    rw [hj0] at hj hu
    obtain rfl : x = y := by simpa using hj
    obtain rfl : rv = u := by simpa using hu
    refine ⟨own_base (own_kept hr K (fun i hi e => ?_)) hb, fun k hk e => ?_⟩
    · have := (hr.lt i hi).1
      have := (h.row.lt i e).2
      omega
    · obtain ⟨h6, h7⟩ := hr.lt k hk
      rcases O2 k e with h5 | h5
      · have := (h.row.lt k h5).2
        omega
      · omega
theorem RecsAt.cell {w : World} {base : Nat} {a : Option Addr} {c : Nat} {xs : List (List Int)} {rvs : List Value} (h : RecsAt w base (.slice a xs.length c) xs rvs) {j : Nat} {x : List Int} (hj : xs[j]? = some x) : ∃ g ar cr, a = some ⟨g, 0, none⟩ ∧ w.cell? ⟨g, j, none⟩ = some (.slice ar x.length cr) ∧ w.ownsRow base 5 1 (.slice ar x.length cr) x.length (x.map (Value.int .u8)) := by
  have hlt := (List.getElem?_eq_some_iff.1 hj).1
  obtain ⟨rv, hrv⟩ : ∃ rv, rvs[j]? = some rv := ⟨_, List.getElem?_eq_getElem (by rw [h.len]; exact hlt)⟩
  obtain ⟨ho, -⟩ := h.at_ j x rv hj hrv
  obtain ⟨ar, cr, rfl⟩ := own_len ho
  obtain ⟨g, rfl, -, -⟩ := own_cap h.row (by omega)
  have := h.row.cells (g := g) rfl j _ hrv
  rw [Addr.add_mid, Nat.zero_add] at this
  exact ⟨g, ar, cr, rfl, this, ho⟩
theorem own_le {w : World} {base : Nat} {e : TypeId} {size : Nat} {a : Option Addr} {n c : Nat} {xs : List Value} (h : w.ownsRow base e size (.slice a n c) n xs) : n ≤ c := by
  rcases h.2 with ⟨hv, h0⟩ | ⟨g, cap, cur, hv, _, _, hle, _⟩
  · omega
  · cases hv; exact hle
set_option maxHeartbeats 4000000 in
set_option maxRecDepth 100000 in
theorem records_ok {w : World} {jb b first gb cb : Nat} {bs : List Int} {used : Nat} {vr : Value} {recs : List (List Int)} {rvs : List Value} (h : JIs w jb b first gb cb bs used vr recs rvs) (hl : recs.length ≤ 1000000000) (hx : ∀ x ∈ recs, x.length ≤ 1000000000) :
    Calls Try.prog 28 #[.pointer (some ⟨jb, 0, none⟩)] w fun e w' => ∃ v rvs', e = .returned v ∧ RecsAt w' w.heap.size v recs rvs' ∧ Below w.heap.size w w' := by
  obtain ⟨-, -, -, -, c4⟩ := h.cells
  obtain ⟨a, c, rfl⟩ := own_len h.rows.row
  go_enter Try.func28, Try.ntmps28
  go_upto_block 0 with (fail)
  go_cut [3] (fun v3 wx => ∃ rvs', Sh (RecsAt wx w.heap.size v3 recs rvs' ∧ Below w.heap.size w wx))
  case first =>
    go_wp2_with fail
    go_loopg [3, 13] recs.length (fun kq v3 v13 w' => ∃ (i : Nat) (pre : List (List Int)) (rvs' : List Value), v13 = .int .i64 (i : Int) ∧ i + kq = recs.length ∧ Sh (pre = recs.take i ∧ RecsAt w' w.heap.size v3 pre rvs' ∧ Below w.heap.size w w'))
    case atStart => exact ⟨0, [], [], rfl, by omega, ⟨rfl, RecsAt.nil _ _, Below.refl _ _⟩⟩
    case round =>
      obtain ⟨i, pre, rvs', rfl, hi, ⟨hpre, hR, hB⟩⟩ := hrel
      cases gk with
      | zero =>
        have q : ¬ ((i : Int) < (recs.length : Int)) := by omega
        obtain rfl : i = recs.length := by omega
        rw [List.take_length] at hpre
        subst hpre
        go_wp2_with fail
        go_meet
        case rel => exact ⟨rvs', ⟨hR, hB⟩⟩
      | succ g1_ =>
        have q : (i : Int) < (recs.length : Int) := by omega
        have q0 : (0 : Int) ≤ (i : Int) := by omega
        obtain ⟨x, hxi⟩ : ∃ x, recs[i]? = some x := ⟨_, List.getElem?_eq_getElem (by omega)⟩
        obtain ⟨g, ar, cr, rfl, hcell, hor⟩ := h.rows.cell hxi
        have hcw := bcell' hB hcell
        have how := own_kept hor (Kept.of_below (S := fun _ => False) hB) (fun _ _ e => e)
        have hxl := hx x (List.mem_of_getElem? hxi)
        have hlt : pre.length = i := by rw [hpre]; simp; omega
        have htk : pre ++ [x] = recs.take (i + 1) := by
          obtain ⟨hl_, he_⟩ := List.getElem?_eq_some_iff.1 hxi
          rw [List.take_succ_eq_append_getElem hl_, he_, hpre]
        have hcl := rec_clone ar cr x wr (by omega) (own_le hor) (Bytes.own how)
        have HTK := Sh.mk htk
        have HLT := Sh.mk hlt
        clear htk hlt hcell hpre
        go_wp2_with fail
        refine hcl.mono ?_
        rintro e w1 ⟨rv, rfl, hO, hb1⟩
        obtain ⟨a1, c1, rfl⟩ := own_len hO
        obtain ⟨i0, hi0, hz⟩ := Option.map_eq_some_iff.1 info_row'
        simp only [Prod.mk.injEq] at hz
        obtain ⟨hz0, hz1, hz2⟩ := hz
        have hrow := (own_kept hR.row (Kept.of_below (S := fun _ => False) hb1) (fun _ _ e => e)).alloc (.cells #[.slice a1 x.length c1] 31)
        have hsB := hB.size
        have hsb := hb1.size
        have hone : (Value.slice a1 x.length c1).oneCell' = true := rfl
        obtain ⟨a3, c3, rfl⟩ := own_len hR.row
        clear hcl
        go_wp2_with (at_builtin; refine Ow.wpList_append _ rfl _ _ 42 rfl w.heap.size 31 i0 _ 1 24 Try.underlying42 hi0 hz0 hz1 hz2 rfl (by decide) _ pre.length rvs' rfl hrow ⟨w1.heap.size, 0, none⟩ 1 1 [.slice a1 x.length c1] rfl rfl (cells_at (heap_alloc_new _ _)) (fun u hu => by rw [List.mem_singleton.1 hu]; exact hone) (by have := HLT.out; unfold maxLen; omega) (by have := HLT.out; omega) (by simp; omega) ?_)
        intro v' w2 O1 hgr _ O2
        have KA : Kept (fun k => (Value.slice a3 pre.length c3).ownBlock = some k) w1 w2 := ((Kept.refl _ w1).alloc _).grown hgr (fun k hk => Or.inr hk)
        have hadd := hR.add hsB hb1 hO KA O1 (fun j hj => by
          rcases O2 j hj with h5 | h5
          · exact .inl h5
          · (try simp at h5)
            exact .inr (by omega))
        have hB2 : Below w.heap.size w w2 := (hB.trans (hb1.mono hsB)).trans (KA.below (by omega) (fun j hj e => by have := (hR.row.lt j e).1; omega))
        obtain ⟨a5, c5, rfl⟩ := own_len O1
        clear hrow hgr O1 O2 KA
        go_wp2_with fail
        go_roundg g1_
        case measure => omega
        case rel => exact ⟨i + 1, _, _, by go_num, by omega, ⟨HTK.out, hadd, hB2⟩⟩
  case rest =>
    obtain ⟨rvs', ⟨hR, hB⟩⟩ := hcut
    go_wp2_with fail
    go_ret
    exact ⟨_, rvs', rfl, hR, hB⟩
theorem JIs.setUsed {w : World} {jb b first gb cb : Nat} {bs : List Int} {used : Nat} {vr : Value} {recs : List (List Int)} {rvs : List Value} (h : JIs w jb b first gb cb bs used vr recs rvs) (u : Nat) : JIs (w.setCell ⟨jb, 3, none⟩ (.int .i64 u)) jb b first gb cb bs u vr recs rvs := by
  have K : Kept (fun i => i = jb) w (w.setCell ⟨jb, 3, none⟩ (.int .i64 u)) := (Kept.refl (fun i => i = jb) w).setCell (p := ⟨jb, 3, none⟩) (Or.inr rfl) _
  have hh := h.head
  refine ⟨by simp [World.setCell, Array.getElem?_modify, hh], own_kept h.row K (fun i hi e => ?_), h.rows.kept K (fun i hi e => h.apart.2.1 (e ▸ hi)) (fun rv hr i hi e => (h.apartR rv hr).1 (e ▸ hi)), h.good, h.goodR, h.apart, h.apartR⟩
  obtain rfl : gb = i := by simpa [Value.ownBlock] using hi
  exact h.apart.1 e.symm
theorem JIs.setRecs {w : World} {jb b first gb cb : Nat} {bs : List Int} {used : Nat} {vr vr' : Value} {recs recs' : List (List Int)} {rvs rvs' : List Value} (h : JIs w jb b first gb cb bs used vr recs rvs) (hR : RecsAt w 0 vr' recs' rvs') (hg : ∀ x ∈ recs', Pl.bytes x) (ha : vr'.ownBlock ≠ some jb ∧ vr'.ownBlock ≠ some gb) (haR : ∀ rv ∈ rvs', rv.ownBlock ≠ some jb ∧ rv.ownBlock ≠ some gb) : JIs (w.setCell ⟨jb, 4, none⟩ vr') jb b first gb cb bs used vr' recs' rvs' := by
  have K : Kept (fun i => i = jb) w (w.setCell ⟨jb, 4, none⟩ vr') := (Kept.refl (fun i => i = jb) w).setCell (p := ⟨jb, 4, none⟩) (Or.inr rfl) _
  have hh := h.head
  refine ⟨by simp [World.setCell, Array.getElem?_modify, hh], own_kept h.row K (fun i hi e => ?_), hR.kept K (fun i hi e => ha.1 (e ▸ hi)) (fun rv hr i hi e => (haR rv hr).1 (e ▸ hi)), h.good, hg, ⟨h.apart.1, ha⟩, haR⟩
  obtain rfl : gb = i := by simpa [Value.ownBlock] using hi
  exact h.apart.1 e.symm
theorem lay_all (bs : List Int) : Dk.lay bs 0 (List.replicate (bs.length - 0) 0) = List.replicate bs.length 0 := by simp [Dk.lay]
set_option maxHeartbeats 4000000 in
set_option maxRecDepth 100000 in
theorem clear_ok {w : World} {jb b first gb cb : Nat} {bs : List Int} {used : Nat} {vr : Value} {recs : List (List Int)} {rvs : List Value} (h : JIs w jb b first gb cb bs used vr recs rvs) {m1 m2 : Nat} {sv : Value} {D : St} (hD : DiskIs w b m1 m2 sv D) (hap : ∀ i, jfoot jb gb vr rvs i → ¬ foot b m1 m2 sv i)
    (nb : Nat) (hnb : bs.length = nb * 32) (hfit : (first : Int) + (nb : Int) ≤ D.size) (hn : D.calls.length ≤ 1000000000) (hzl : (zd first bs (List.replicate bs.length 0) nb (D, false)).1.calls.length ≤ 100000000000) :
    Calls Try.prog 29 #[.pointer (some ⟨jb, 0, none⟩)] w fun e w' => ∃ sv', e = .returned (.int .i64 0) ∧
      JIs w' jb b first gb cb (List.replicate bs.length 0) 0 (.slice none 0 0) [] [] ∧ DiskIs w' b m1 m2 sv' (zd first bs (List.replicate bs.length 0) nb (D, false)).1.sync ∧
      Kept (fun i => i = jb ∨ i = gb ∨ foot b m1 m2 sv i) w w' ∧ ∀ i, sv'.ownBlock = some i → sv.ownBlock = some i ∨ w.heap.size ≤ i := by
  go_enter Try.func29, Try.ntmps29
  go_wp2_with fail
  refine (zero_ok h hD hap nb hnb hfit 0 (Nat.zero_le _) hn).mono ?_
  rw [lay_all]
  rintro e w1 ⟨sv1, rfl, hJ1, hD1, hK1, hs1⟩
  obtain ⟨c0, -, -, -, -⟩ := hJ1.cells
  have hJ2 : JIs (w1.setCell ⟨jb, 3, none⟩ (.int .i64 0)) jb b first gb cb (List.replicate bs.length 0) 0 vr recs rvs := hJ1.setUsed 0
  have hJ3 : JIs ((w1.setCell ⟨jb, 3, none⟩ (.int .i64 0)).setCell ⟨jb, 4, none⟩ (.slice none 0 0)) jb b first gb cb (List.replicate bs.length 0) 0 (.slice none 0 0) [] [] := hJ2.setRecs (RecsAt.nil _ _) (fun x hx => by cases hx) ⟨by simp [Value.ownBlock], by simp [Value.ownBlock]⟩ (fun x hx => by cases hx)
  have hh1 := hJ1.head
  have hh2 := hJ2.head
  obtain ⟨-, -, -, x3, -⟩ := hJ1.cells
  obtain ⟨-, -, -, -, x4⟩ := hJ2.cells
  obtain ⟨x0, -, -, -, -⟩ := hJ3.cells
  have z3 : w1.frozen? ⟨jb, 3, none⟩ = false := by simp [World.frozen?, hh1]
  have z4 : (w1.setCell ⟨jb, 3, none⟩ (.int .i64 0)).frozen? ⟨jb, 4, none⟩ = false := by simp [World.frozen?, hh2]
  have K3 : Kept (fun i => i = jb) w1 ((w1.setCell ⟨jb, 3, none⟩ (.int .i64 0)).setCell ⟨jb, 4, none⟩ (.slice none 0 0)) := ((Kept.refl (fun i => i = jb) w1).setCell (p := ⟨jb, 3, none⟩) (Or.inr rfl) _).setCell (p := ⟨jb, 4, none⟩) (Or.inr rfl) _
  obtain ⟨w3, hw3⟩ : ∃ w3, (w1.setCell ⟨jb, 3, none⟩ (.int .i64 0)).setCell ⟨jb, 4, none⟩ (.slice none 0 0) = w3 := ⟨_, rfl⟩
  clear hh1 hh2
  have hs01 := hK1.size
  have hfar : ∀ i, foot b m1 m2 sv1 i → ¬ jfoot jb gb vr rvs i := fun i hi hj => by
    have hlt := h.lt i hj
    rcases hi with hi | hi | hi | hi
    · exact hap i hj (.inl hi)
    · exact hap i hj (.inr (.inl hi))
    · exact hap i hj (.inr (.inr (.inl hi)))
    · rcases hs1 i hi with h5 | h5
      · exact hap i hj (.inr (.inr (.inr h5)))
      · omega
  have hD3 := hD1.kept K3 (fun i hi e => hfar i hi (.inl e))
  rw [hw3] at hJ3 hD3 x0 K3
  obtain ⟨Z, hZ⟩ : ∃ Z, zd first bs (List.replicate bs.length 0) nb (D, false) = Z := ⟨_, rfl⟩
  rw [hZ] at hD3 hzl
  go_upto_region 5 with (fail)
  (try rw [hw3])
  go_wp2_with fail
  refine (sync_ok b m1 m2 sv1 Z.1 w3 hD3 (by omega)).mono ?_
  rintro e w4 ⟨sv4, rfl, hD4, hK4, hs4⟩
  go_wp2
  go_ret
  rw [hZ]
  have hs13 := K3.size
  refine ⟨sv4, rfl, hJ3.kept hK4 (fun i hi hf => hfar i hf ?_), hD4, ?_, fun i hi => ?_⟩
  · rcases hi with hi | hi | hi | ⟨rv, hr, _⟩
    · exact .inl hi
    · exact .inr (.inl hi)
    · cases hi
    · cases hr
  · refine ((hK1.mono (fun i _ e => ?_)).trans K3 (fun i _ e => .inl e)).trans hK4 (fun i hi hf => ?_)
    · rcases e with e | e
      · exact .inr (.inl e)
      · exact .inr (.inr e)
    · rcases hf with hf | hf | hf | hf
      · exact .inr (.inr (.inl hf))
      · exact .inr (.inr (.inr (.inl hf)))
      · exact .inr (.inr (.inr (.inr (.inl hf))))
      · rcases hs1 i hf with h5 | h5
        · exact .inr (.inr (.inr (.inr (.inr h5))))
        · omega
  · rcases hs4 i hi with h5 | h5
    · exact hs1 i h5
    · exact .inr (by omega)
end Go.Proofs.Ytinhednmfldmbaa.Dk

namespace Go.Proofs.Ytinhednmfldmbaa.Dk
open Go Go.RowKit Hp Rd

theorem wp_copy_row {w : World} {o : Oper} {a : Act} {K : Act → World → Prop} {Q : Exit → Act → World → Prop} (d s : Operand)
    (ho : o.op = .call { callee := .builtin .copy, args := #[d, s], argTypes := #[31, 31] })
    (dp sp : Option Addr) (dLen dCap sLen sCap : Nat) (hd : a.eval d = .slice dp dLen dCap) (hs : a.eval s = .slice sp sLen sCap)
    (g off : Nat) (cur : Array Value) (hg : w.heap[g]? = some (.cells cur 5 (0, 0))) (cs : List Value) (hn : cs.length = Nat.min sLen dLen)
    (hpos : dp = some ⟨g, off, none⟩ ∧ ∃ ad, sp = some ad ∧ ∀ j v, cs[j]? = some v → w.cell? (ad.add j) = some v)
    (hfit : off + cs.length ≤ cur.size) (h1 : ∀ v ∈ cs, v.oneCell' = true)
    (h : ∀ w', w'.heap[g]? = some (.cells (splice cur.toList off cs).toArray 5 (0, 0)) → Kept (fun i => i = g) w w' → K (a.put o.dst (goInt cs.length)) w') : o.wp Try.prog a w K Q := by
  obtain ⟨rfl, ad, rfl, hsrc⟩ := hpos
  have hrun := run_copy_row (P := Try.prog) w 31 31 o.type 5 g off dLen dCap ad sLen sCap cur 5 cs Try.underlying31 size_u8' hg hn hsrc hfit h1
  unfold Oper.wp
  simp [execOp, ho, resolve, invoke, builtin, hd, hs, hrun, Result.andThen]
  exact h _ (by simpa [splice] using setRow_heap w g _ _ 5 _ hg) ⟨rfl, rfl, rfl, by simp [World.setRow], fun i _ hi => setRow_other w g i _ hi⟩
/-- The frame is laid on the journal's bytes. -/
def TrJ (gb : Nat) (k : Nat) (u u' : World) : Prop := if k = 11 then Kept (fun i => i = gb) u u' else u = u'
def PsiJ (gb used : Nat) (cur : Array Value) (f : List Int) (k : Nat) (_ : Array Value) (v : Value) (w : World) : Prop :=
  if k = 11 then v = .int .i64 (f.length : Nat) ∧ w.heap[gb]? = some (.cells (splice cur.toList used (f.map (Value.int .u8))).toArray 5 (0, 0)) else True
theorem TrJ.kept {gb k : Nat} {u u' : World} (h : TrJ gb k u u') : Kept (fun i => i = gb) u u' := by
  unfold TrJ at h
  split at h
  · exact h
  · exact h ▸ Kept.refl _ _
theorem psiJ_stays {gb used : Nat} {cur : Array Value} {f : List Int} {j k : Nat} {A : Array Value} {v : Value} {w w' : World} (hjk : j ≠ k) (ht : TrJ gb k w w') (h : PsiJ gb used cur f j A v w) : PsiJ gb used cur f j A v w' := by
  unfold PsiJ at *
  split at h
  · rename_i h4
    rw [if_pos h4]
    unfold TrJ at ht
    rw [if_neg (by omega)] at ht
    exact ht ▸ h
  · rename_i h4
    rw [if_neg h4]
    trivial
/-- A record is cloned, and its row appended to the records. -/
def PsiA (rvs : List Value) (l : List Int) (vr : Value) (w1 : World) (k : Nat) (A : Array Value) (v : Value) (w : World) : Prop :=
  if k = 6 then w.ownsRow w1.heap.size 5 1 v l.length (l.map (Value.int .u8))
  else if k = 7 then ∃ x u, v = .slice (some ⟨x, 0, none⟩) 1 1 ∧ w1.heap.size ≤ x ∧ A = #[u] ∧ w.heap[x]? = some (.cells #[u] 31 (0, 0))
  else if k = 8 then (∀ i, v.ownBlock = some i → vr.ownBlock = some i ∨ w1.heap.size ≤ i) ∧ ∃ rv, w.ownsRow w1.heap.size 5 1 rv l.length (l.map (Value.int .u8)) ∧ (∀ i, rv.ownBlock = some i → v.ownBlock ≠ some i) ∧ w.ownsRow 0 31 1 v (rvs.length + 1) (rvs ++ [rv])
  else True
def TrA (vr : Value) (k : Nat) (u u' : World) : Prop := if k = 6 ∨ k = 7 then Below u.heap.size u u' else if k = 8 then Kept (fun k => vr.ownBlock = some k) u u' else u = u'
theorem TrA.kept {vr : Value} {k : Nat} {u u' : World} (h : TrA vr k u u') : Kept (fun k => vr.ownBlock = some k) u u' := by
  unfold TrA at h
  split at h
  · exact Kept.of_below h
  · split at h
    · exact h
    · exact h ▸ Kept.refl _ _
theorem psiA_stays (rvs : List Value) (l : List Int) (vr : Value) (w1 : World) (hlt : ∀ i, vr.ownBlock = some i → i < w1.heap.size) : ∀ (j k : Nat) (A : Array Value) (v : Value) (w w' : World), j ≠ k → (([0, 0, 2, 6, 14, 0, 32, 96, 254, 511] : List Nat).getD j 0).testBit k = false →
    TrA vr k w w' → PsiA rvs l vr w1 j A v w → PsiA rvs l vr w1 j A v w' := by
  intro j k A v w w' hjk hb ht h
  have K := ht.kept
  unfold PsiA at *
  split at h
  · rename_i h6
    rw [if_pos h6]
    exact own_kept h K (fun i hi e => by have := (h.lt i hi).1; have := hlt i e; omega)
  · rename_i h6
    rw [if_neg h6]
    split at h
    · rename_i h7
      rw [if_pos h7]
      obtain ⟨x, u, rfl, hx, hA, hh⟩ := h
      exact ⟨x, u, rfl, hx, hA, K.heap hh (fun e => by have := hlt x e; omega)⟩
    · rename_i h7
      rw [if_neg h7]
      split at h
      · rename_i h8
        subst h8
        rw [if_pos rfl]
        have : k ≠ 6 ∧ k ≠ 7 := ⟨fun e => by subst e; exact absurd hb (by decide), fun e => by subst e; exact absurd hb (by decide)⟩
        have he : w = w' := by
          unfold TrA at ht
          rw [if_neg (by omega), if_neg (by omega)] at ht
          exact ht
        exact he ▸ h
      · rename_i h8
        rw [if_neg h8]
        trivial
theorem RecsAt.more {W w' : World} {vr v' rv : Value} {xs : List (List Int)} {rvs : List Value} {x : List Int} (h : RecsAt W 0 vr xs rvs) (K : Kept (fun i => vr.ownBlock = some i) W w') (hr : w'.ownsRow W.heap.size 5 1 rv x.length (x.map (Value.int .u8)))
    (O : w'.ownsRow 0 31 1 v' (rvs.length + 1) (rvs ++ [rv])) (O2 : ∀ i, v'.ownBlock = some i → vr.ownBlock = some i ∨ W.heap.size ≤ i) (hne : ∀ i, rv.ownBlock = some i → v'.ownBlock ≠ some i) : RecsAt w' 0 v' (xs ++ [x]) (rvs ++ [rv]) := by
  rw [h.len] at O
  refine ⟨by rw [List.length_append]; exact O, by simp [h.len], fun j y u hj hu => ?_⟩
  rcases Nat.lt_or_ge j xs.length with hj5 | hj5
  · rw [List.getElem?_append_left hj5] at hj
    rw [List.getElem?_append_left (by rw [h.len]; exact hj5)] at hu
    obtain ⟨ho, ha⟩ := h.at_ j y u hj hu
    refine ⟨own_kept ho K (fun i hi e => ha i hi e), fun k hk e => ?_⟩
    rcases O2 k e with h5 | h5
    · exact ha k hk h5
    · have := (ho.lt k hk).2
      omega
  · rw [List.getElem?_append_right hj5] at hj
    rw [List.getElem?_append_right (by rw [h.len]; exact hj5), h.len] at hu
    have hj0 : j - xs.length = 0 := by
      have := (List.getElem?_eq_some_iff.1 hj).1
      simp at this
      omega
    rw [hj0] at hj hu
    obtain rfl : x = y := by simpa using hj
    obtain rfl : rv = u := by simpa using hu
    exact ⟨own_base hr (Nat.zero_le _), hne⟩
/-- Blocks written, from block k on, m of them. -/
def wl (first : Nat) (bs : List Int) : Nat → Nat → St → St
  | _, 0, D => D
  | k, m + 1, D => wl first bs (k + 1) m (D.write ((first : Int) + (k : Int)) ((bs.drop (k * 32)).take 32))
end Go.Proofs.Ytinhednmfldmbaa.Dk

namespace Go.Proofs.Ytinhednmfldmbaa.Dk
open Go Go.RowKit Hp Rd

theorem append_nil (v : Value) (w : World) : Calls Try.prog 27 #[.pointer none, v] w fun e w' => e = .returned (.int .i64 1) ∧ w = w' := by
  go_enter Try.func27, Try.ntmps27
  go_wp2
  go_ret
  exact ⟨rfl, rfl⟩
theorem append_bad (jb : Nat) (A : Option Addr) (c : Nat) (l : List Int) (w : World) (hb : Pl.bytes l) (hl : l.length ≤ 140737488351232) (hc : l.length ≤ c) (hr : Bytes w A l) (hf : ¬ Pl.fits l) :
    Calls Try.prog 27 #[.pointer (some ⟨jb, 0, none⟩), .slice A l.length c] w fun e w' => e = .returned (.int .i64 1) ∧ Below w.heap.size w w' := by
  have hw := rec_wrap A c l w hb hl hc hr
  have e2 : (Pl.wrap l).2 = 1 := by
    unfold Pl.wrap
    unfold Pl.fits at hf
    split
    · rfl
    · split
      · rfl
      · omega
  rw [e2] at hw
  clear e2
  go_enter Try.func27, Try.ntmps27
  go_wp2_with fail
  refine hw.mono ?_
  rintro e w1 ⟨v, rfl, -, hB⟩
  go_wp2_with fail
  go_ret
  exact ⟨rfl, hB⟩
theorem wrap_fits {l : List Int} (hf : Pl.fits l) : Pl.wrap l = (Pl.frame l, 0) := by
  unfold Pl.wrap
  unfold Pl.fits at hf
  rw [if_neg (by omega), if_neg (by omega)]
set_option maxHeartbeats 4000000 in
set_option maxRecDepth 100000 in
theorem append_full {w : World} {jb b first gb cb : Nat} {bs : List Int} {used : Nat} {vr : Value} {recs : List (List Int)} {rvs : List Value} (h : JIs w jb b first gb cb bs used vr recs rvs) (hbl : bs.length ≤ 100000000) (hu : used ≤ bs.length)
    (A : Option Addr) (c : Nat) (l : List Int) (hb : Pl.bytes l) (hc : l.length ≤ c) (hr : Bytes w A l) (hf : Pl.fits l) (hfull : bs.length < used + (7 + l.length)) :
    Calls Try.prog 27 #[.pointer (some ⟨jb, 0, none⟩), .slice A l.length c] w fun e w' => e = .returned (.int .i64 51) ∧ Below w.heap.size w w' := by
  have hf2 := hf
  unfold Pl.fits at hf2
  have hw := rec_wrap A c l w hb (by omega) hc hr
  rw [wrap_fits hf] at hw
  have hfl := Pl.frame_length l
  obtain ⟨f, hfr⟩ : ∃ f, Pl.frame l = f := ⟨_, rfl⟩
  rw [hfr] at hw hfl
  have k0 : ¬ ((f.length : Int) ≤ (bs.length : Int) - (used : Int)) := by omega
  have k1 : (bs.length : Int) - (used : Int) < (f.length : Int) := by omega
  clear hfl hfr
  go_enter Try.func27, Try.ntmps27
  go_wp2_with fail
  refine hw.mono ?_
  rintro e w1 ⟨v, rfl, hO, hB⟩
  obtain ⟨a1, c1, rfl⟩ := own_len hO
  have hJ1 := h.kept (S := fun _ => False) (Kept.of_below hB) (fun _ _ e => e)
  go_wp2_with fail
  refine (room_ok hJ1 hbl hu).mono ?_
  rintro e w2 ⟨rfl, hB2⟩
  go_wp2_with fail
  go_ret
  exact ⟨rfl, hB.trans (hB2.mono hB.size)⟩
set_option maxHeartbeats 8000000 in
set_option maxRecDepth 100000 in
theorem append_ok {w : World} {jb b first gb cb : Nat} {bs : List Int} {used : Nat} {vr : Value} {recs : List (List Int)} {rvs : List Value} (h : JIs w jb b first gb cb bs used vr recs rvs) {m1 m2 : Nat} {sv : Value} {D : St} (hD : DiskIs w b m1 m2 sv D) (hap : ∀ i, jfoot jb gb vr rvs i → ¬ foot b m1 m2 sv i)
    (nb : Nat) (hnb : bs.length = nb * 32) (hfit : (first : Int) + (nb : Int) ≤ D.size) (hn : D.calls.length ≤ 1000000000) (hrl : recs.length ≤ 1000000000)
    (A : Option Addr) (c : Nat) (l : List Int) (hb : Pl.bytes l) (hc : l.length ≤ c) (hr : Bytes w A l) (hnot : ∀ ad, A = some ad → ¬ jfoot jb gb vr rvs ad.block ∧ ¬ foot b m1 m2 sv ad.block) (hf : Pl.fits l) (hroom : used + (7 + l.length) ≤ bs.length) :
    Calls Try.prog 27 #[.pointer (some ⟨jb, 0, none⟩), .slice A l.length c] w fun e w' => ∃ sv' vr' rv, e = .returned (.int .i64 0) ∧
      JIs w' jb b first gb cb (Dk.lay bs used (Pl.frame l)) (used + (7 + l.length)) vr' (recs ++ [l]) (rvs ++ [rv]) ∧
      DiskIs w' b m1 m2 sv' (wl first (Dk.lay bs used (Pl.frame l)) (used / 32) ((used + (7 + l.length) + 31) / 32 - used / 32) D) ∧
      Kept (fun i => jfoot jb gb vr rvs i ∨ foot b m1 m2 sv i) w w' ∧ (∀ i, sv'.ownBlock = some i → sv.ownBlock = some i ∨ w.heap.size ≤ i) ∧ (∀ i, vr'.ownBlock = some i → vr.ownBlock = some i ∨ w.heap.size ≤ i) ∧ (∀ i, rv.ownBlock = some i → w.heap.size ≤ i) ∧ ∀ i, jfoot jb gb vr' (rvs ++ [rv]) i → ¬ foot b m1 m2 sv' i := by
  have mixed : Try.prog.follows Departure.mixedOrders = true := by kernel_rfl
  have hDle := hD.ok.le
  have hf2 := hf
  have hJlt := h.lt
  have hJap := h.apart
  have hJapR := h.apartR
  have hJrows := h.rows
  have hJgR := h.goodR
  unfold Pl.fits at hf2
  have hw := rec_wrap A c l w hb (by omega) hc hr
  rw [wrap_fits hf] at hw
  have hfl := Pl.frame_length l
  have hfb := Pl.bytes_frame hb hf
  obtain ⟨f, hfr⟩ : ∃ f, Pl.frame l = f := ⟨_, rfl⟩
  rw [hfr] at hw hfl hfb
  rw [hfr]
  obtain ⟨bs2, hb2⟩ : ∃ bs2, Dk.lay bs used f = bs2 := ⟨_, rfl⟩
  have hl2 : bs2.length = bs.length := by rw [← hb2, lay_length _ _ _ (by omega)]
  rw [hb2]
  obtain ⟨n, hnl⟩ : ∃ n, bs.length = n := ⟨_, rfl⟩
  rw [hnl] at hnb hroom hl2
  obtain ⟨u2, hu2⟩ : ∃ u2, used + (7 + l.length) = u2 := ⟨_, rfl⟩
  rw [hu2] at hroom ⊢
  obtain ⟨cur, hcur, hcs⟩ : ∃ cur : Array Value, w.heap[gb]? = some (.cells cur 5 (0, 0)) ∧ n ≤ cur.size := by
    rcases h.row.2 with ⟨hv, _⟩ | ⟨g, cap, cur, hv, _, h1, h2, h3, h4, h5⟩
    · cases hv
    · cases hv; exact ⟨cur, h1, by omega⟩
  have hcapn : n ≤ cb := by have := h.cap; omega
  have k0 : ¬ ((n : Int) - (used : Int) < (f.length : Int)) := by omega
  have k2 : (used : Int) ≤ (n : Int) := by omega
  have k3 : f.length ≤ n - used := by omega
  have k4 : (used : Int) + (f.length : Int) = (u2 : Int) := by omega
  have hun : u2 ≤ n := hroom
  have huu : used ≤ u2 := by omega
  have hn0 : n ≤ 10000000 := by omega
  have hfl0 : 0 < f.length := by omega
  have K4 := Sh.mk k4
  have HFL := Sh.mk hfl
  have HU2 := Sh.mk hu2
  have HNL := Sh.mk hnl
  have HNB := Sh.mk hnb
  have HB2 := Sh.mk hb2
  have HL2 := Sh.mk hl2
  have hru := room_ok (w := w) h (by omega) (by omega)
  clear hru k4 hfl hu2 hnl hnb hb2 hl2 hfr
  go_enter Try.func27, Try.ntmps27
  go_wp2_with fail
  refine hw.mono ?_
  rintro e w1 ⟨v, rfl, hO, hB1⟩
  obtain ⟨a1, c1, rfl⟩ := own_len hO
  have hJ1 := h.kept (S := fun _ => False) (Kept.of_below hB1) (fun _ _ e => e)
  have hrm := room_ok hJ1 (by have := HNL.out; omega) (by have := HNL.out; omega)
  rw [HNL.out] at hrm
  go_wp2_with fail
  refine hrm.mono ?_
  rintro e w2 ⟨rfl, hB2⟩
  have hJ2 := hJ1.kept (S := fun _ => False) (Kept.of_below hB2) (fun _ _ e => e)
  have hO2 := own_kept hO (Kept.of_below (S := fun _ => False) hB2) (fun _ _ e => e)
  obtain ⟨-, -, c2, c3, -⟩ := hJ2.cells
  rw [HNL.out] at c2
  clear hw hrm
  go_upto_region 9 with (fail)
  clear k0
  have hgbl : gb < w.heap.size := h.lt gb (.inr (.inl rfl))
  have hjbl : jb < w.heap.size := h.lt jb (.inl rfl)
  have s1 := hB1.size
  have s2 := hB2.size
  have hcur2 : w2.heap[gb]? = some (.cells cur 5 (0, 0)) := (hB2.block gb (by omega)).trans ((hB1.block gb hgbl).trans hcur)
  obtain ⟨g1, rfl, -, hg1⟩ := own_cap hO2 hfl0
  have c3' : ∀ w', Kept (fun i => i = gb) w2 w' → w'.cell? ⟨jb, 3, none⟩ = some (.int .i64 used) := fun w' K => kept_cell' K c3 h.apart.1
  have c2' : ∀ w', Kept (fun i => i = gb) w2 w' → w'.cell? ⟨jb, 2, none⟩ = some (.slice (some ⟨gb, 0, none⟩) n cb) := fun w' K => kept_cell' K c2 h.apart.1
  have hcu : ¬ (cb = used) := by omega
  have wr_ : IntKind.i64.wrap ((used : Int) + (f.length : Int)) = (u2 : Int) := by rw [K4.out]; exact IntWalk.i64_in _ (by omega)
  refine Mo.region 13 [0, 1, 3, 7, 0, 16, 48, 112, 0, 496, 0, 2032, 4095, 8191] (fun w' => Kept (fun i => i = gb) w2 w') (TrJ gb) (fun k w' => k = 11 → w'.heap[gb]? = some (.cells cur 5 (0, 0))) (PsiJ gb used cur f) (Kept.refl _ _).drew (fun _ _ => hcur2) (fun k u u' hu ht => hu.trans ht.kept (fun _ _ e => e)) (fun _ _ _ _ _ _ hjk _ ht h => psiJ_stays hjk ht h) ?hpre mixed (by kernel_rfl) ?_
  case hpre =>
    intro j_ k u u' hjk hb hu ht hp_ e
    subst e
    unfold TrJ at ht
    split at ht
    · rename_i h4
      exact absurd h4.symm hjk
    · exact ht ▸ hp_ rfl
  simp only [List.take_succ_cons, List.take_zero, List.drop_succ_cons, List.drop_zero]
  refine Mo.val (v := ?_) (fun _ => rfl) (by rfl) (fun _ _ _ => trivial) ?_ ?_
  rotate_left
  · (intro w' hT hP hF; skip; go_simp; with_reducible rfl)
  simp only [Act.put, List.setIfInBounds_toArray, List.set_cons_zero, List.set_cons_succ]
  refine Mo.val (v := ?_) (fun _ => rfl) (by rfl) (fun _ _ _ => trivial) ?_ ?_
  rotate_left
  · (intro w' hT hP hF; skip; go_simp; with_reducible rfl)
  simp only [Act.put, List.setIfInBounds_toArray, List.set_cons_zero, List.set_cons_succ]
  refine Mo.val (v := ?_) (fun _ => rfl) (by rfl) (fun _ _ _ => trivial) ?_ ?_
  rotate_left
  · (intro w' hT hP hF; skip; go_simp; with_reducible rfl)
  simp only [Act.put, List.setIfInBounds_toArray, List.set_cons_zero, List.set_cons_succ]
  refine Mo.val (v := ?_) (fun _ => rfl) (by rfl) (fun _ _ _ => trivial) ?_ ?_
  rotate_left
  · (intro w' hT hP hF; have hc := c3' w' hT; go_simp; with_reducible rfl)
  simp only [Act.put, List.setIfInBounds_toArray, List.set_cons_zero, List.set_cons_succ]
  refine Mo.val (v := ?_) (fun _ => rfl) (by rfl) (fun _ _ _ => trivial) ?_ ?_
  rotate_left
  · (intro w' hT hP hF; skip; go_simp; with_reducible rfl)
  simp only [Act.put, List.setIfInBounds_toArray, List.set_cons_zero, List.set_cons_succ]
  refine Mo.val (v := ?_) (fun _ => rfl) (by rfl) (fun _ _ _ => trivial) ?_ ?_
  rotate_left
  · (intro w' hT hP hF; skip; go_simp; with_reducible rfl)
  simp only [Act.put, List.setIfInBounds_toArray, List.set_cons_zero, List.set_cons_succ]
  refine Mo.val (v := ?_) (fun _ => rfl) (by rfl) (fun _ _ _ => trivial) ?_ ?_
  rotate_left
  · (intro w' hT hP hF; skip; go_simp; with_reducible rfl)
  simp only [Act.put, List.setIfInBounds_toArray, List.set_cons_zero, List.set_cons_succ]
  refine Mo.val (v := ?_) (fun _ => rfl) (by rfl) (fun _ _ _ => trivial) ?_ ?_
  rotate_left
  · (intro w' hT hP hF; have hc := c2' w' hT; go_simp; with_reducible rfl)
  simp only [Act.put, List.setIfInBounds_toArray, List.set_cons_zero, List.set_cons_succ]
  refine Mo.val (v := ?_) (fun _ => rfl) (by rfl) (fun _ _ _ => trivial) ?_ ?_
  rotate_left
  · (intro w' hT hP hF; skip; go_simp; with_reducible rfl)
  simp only [Act.put, List.setIfInBounds_toArray, List.set_cons_zero, List.set_cons_succ]
  refine Mo.val (v := ?_) (fun _ => rfl) (by rfl) (fun _ _ _ => trivial) ?_ ?_
  rotate_left
  · (intro w' hT hP hF; skip; go_simp; with_reducible rfl)
  simp only [Act.put, List.setIfInBounds_toArray, List.set_cons_zero, List.set_cons_succ]
  refine Mo.val (v := ?_) (fun _ => rfl) (by rfl) (fun _ _ _ => trivial) ?_ ?_
  rotate_left
  · (intro w' hT hP hF; skip; go_simp; with_reducible rfl)
  simp only [Act.put, List.setIfInBounds_toArray, List.set_cons_zero, List.set_cons_succ]
  refine Mo.any (by rfl) ?_ ?_
  · intro w' hT hP hF
    have hOw := own_kept hO2 hT (fun i hi e => by have := (hO2.lt i hi).1; omega)
    refine Mo.leaves_of_wp (d := 41) rfl (by simp) fun K Q hK => ?_
    refine wp_copy_row (.tmp 39) (.tmp 40) rfl _ _ _ _ _ _ rfl rfl gb used cur (hP rfl) (f.map (Value.int .u8)) (by show _ = min _ _; simp; omega) ⟨rfl, ⟨g1, 0, none⟩, rfl, fun j v hj => hOw.cells (g := g1) rfl j v hj⟩ (by simp; omega) (one_u8 _) fun w'' hh hk => ?_
    refine hK _ _ ⟨?_, ?_⟩
    · unfold TrJ
      rw [if_pos (by simp)]
      exact hk
    · unfold PsiJ
      rw [if_pos rfl]
      exact ⟨by simp [goInt], hh⟩
  simp only [Act.put, List.setIfInBounds_toArray, List.set_cons_zero, List.set_cons_succ]
  rintro v11 ⟨wx, -, hx⟩
  unfold PsiJ at hx
  rw [if_pos rfl] at hx
  obtain ⟨rfl, -⟩ := hx
  refine Mo.val (v := ?_) (fun _ => rfl) (by rfl) (fun _ _ _ => trivial) ?_ ?_
  rotate_left
  · (intro w' hT hP hF; skip; go_simp; with_reducible rfl)
  simp only [Act.put, List.setIfInBounds_toArray, List.set_cons_zero, List.set_cons_succ]
  refine Mo.done ?_
  intro w' hT hF _
  have hF11 := hF 11
  simp (decide := true) only [Mo.upd, if_true, if_false] at hF11
  unfold PsiJ at hF11
  rw [if_pos rfl] at hF11
  obtain ⟨-, hh11⟩ := hF11
  have hJ3 := hJ2.lay hcur2 (o := used) (cs := f) (by have := HNL.out; omega) hfb hh11 hT
  rw [HB2.out] at hJ3
  have hJ4 := hJ3.setUsed u2
  have hh3 := hJ3.head
  have f3 : w'.frozen? ⟨jb, 3, none⟩ = false := by simp [World.frozen?, hh3]
  have f3c := c3' w' hT
  have K04 : Kept (fun i => i = jb ∨ i = gb) w (w'.setCell ⟨jb, 3, none⟩ (.int .i64 (u2 : Int))) := ((Kept.of_below (S := fun i => i = jb ∨ i = gb) (hB1.trans (hB2.mono s1))).trans hT (fun i _ e => .inr e)).setCell (p := ⟨jb, 3, none⟩) (Or.inr (Or.inl rfl)) _
  have hO4 : (w'.setCell ⟨jb, 3, none⟩ (.int .i64 (u2 : Int))).heap.size = w'.heap.size := by simp [World.setCell]
  have s3 := hT.size
  clear hF c3' c2' hh3 hh11
  go_upto_region 10 with (fail)
  obtain ⟨w4, hw4⟩ : ∃ w4, w'.setCell ⟨jb, 3, none⟩ (.int .i64 (u2 : Int)) = w4 := ⟨_, rfl⟩
  rw [hw4] at hJ4 K04 hO4 ⊢
  clear hw4 hT hJ3 f3 f3c c2 c3 wr_
  have hDap : ∀ i, foot b m1 m2 sv i → ¬ (i = jb ∨ i = gb) := fun i hi e => by
    rcases e with e | e
    · exact hap i (.inl e) hi
    · exact hap i (.inr (.inl e)) hi
  have hD4 := hD.kept K04 hDap
  have hq1 : (used : Int).tdiv 32 = ((used / 32 : Nat) : Int) := by rw [Int.tdiv_eq_ediv_of_nonneg (by omega)]; norm_cast
  obtain ⟨k5, hk5⟩ : ∃ k5, used / 32 = k5 := ⟨_, rfl⟩
  obtain ⟨k6, hk6⟩ : ∃ k6, (u2 + 31) / 32 = k6 := ⟨_, rfl⟩
  rw [hk5] at hq1
  have hk56 : k5 ≤ k6 := by omega
  have hk6n : k6 ≤ nb := by have := HNB.out; omega
  have hk6u : ∀ i : Nat, i < k6 → i * 32 < u2 := fun i hi => by omega
  have hk6v : k6 * 32 < u2 + 32 := by omega
  have hk6w : u2 ≤ k6 * 32 := by omega
  have HK5 := Sh.mk hk5
  have HK6 := Sh.mk hk6
  clear hk5 hk6
  go_upto_block 1 with (fail)
  go_cut [] (fun wx => ∃ sv', Sh (JIs wx jb b first gb cb bs2 u2 vr recs rvs ∧ DiskIs wx b m1 m2 sv' (wl first bs2 k5 (k6 - k5) D) ∧ Kept (foot b m1 m2 sv) w4 wx ∧ ∀ i, sv'.ownBlock = some i → sv.ownBlock = some i ∨ w4.heap.size ≤ i))
  case first =>
    go_wp2_with fail
    go_loopg [8] (k6 - k5) (fun kq v8 w' => ∃ (i : Nat) (Dk : St) (sv' : Value), v8 = .int .i64 (i : Int) ∧ i + kq = k6 ∧ Dk.calls.length + kq ≤ D.calls.length + k6 ∧ Sh (wl first bs2 k5 (k6 - k5) D = wl first bs2 i kq Dk ∧ JIs w' jb b first gb cb bs2 u2 vr recs rvs ∧ DiskIs w' b m1 m2 sv' Dk ∧ Dk.size = D.size ∧ Kept (foot b m1 m2 sv) w4 w' ∧ ∀ i, sv'.ownBlock = some i → sv.ownBlock = some i ∨ w4.heap.size ≤ i))
    case atStart => exact ⟨k5, D, sv, rfl, by omega, by omega, ⟨rfl, hJ4, hD4, rfl, Kept.refl _ _, fun i hi => .inl hi⟩⟩
    case round =>
      obtain ⟨i, Dk, sv', rfl, hi, hcl, ⟨hwl, hJ, hDk, hDs, hKf, hsv⟩⟩ := hrel
      obtain ⟨j0, j1, -, j3, -⟩ := hJ.cells
      have hs04 := K04.size
      have hfar : ∀ i, foot b m1 m2 sv' i → ¬ jfoot jb gb vr rvs i := fun i hi hj => by
        have hlt := hJlt i hj
        rcases hi with hi | hi | hi | hi
        · exact hap i hj (.inl hi)
        · exact hap i hj (.inr (.inl hi))
        · exact hap i hj (.inr (.inr (.inl hi)))
        · rcases hsv i hi with h5 | h5
          · exact hap i hj (.inr (.inr (.inr h5)))
          · omega
      cases gk with
      | zero =>
        have q : ¬ ((i : Int) * 32 < (u2 : Int)) := by omega
        go_wp2_with fail
        go_meet
        case rel => exact ⟨sv', ⟨hJ, by rw [hwl]; exact hDk, hKf, hsv⟩⟩
      | succ g2_ =>
        have hi32 := hk6u i (by omega)
        have q : (i : Int) * 32 < (u2 : Int) := by omega
        have hin : i * 32 + 32 ≤ n := by have := HNB.out; omega
        have hbk := fun W (hW : JIs W jb b first gb cb bs2 u2 vr recs rvs) => block_ok hW i (by rw [HL2.out]; exact hin) (by rw [HL2.out]; omega)
        have hw_ : IntKind.i64.wrap ((first : Int) + (i : Int)) = (first : Int) + (i : Int) := IntWalk.i64_in _ (by have := HNB.out; omega)
        have hfi : (first : Int) + (i : Int) < Dk.size := by rw [hDs]; omega
        obtain ⟨l0, hl0⟩ : ∃ l0, (bs2.drop (i * 32)).take 32 = l0 := ⟨_, rfl⟩
        have HL0 := Sh.mk hl0
        have HL0N : Sh (l0.length = 32) := ⟨by rw [← hl0]; have := HL2.out; simp; omega⟩
        have hz2 : Sh (wl first bs2 i (g2_ + 1) Dk = wl first bs2 (i + 1) g2_ (Dk.write ((first : Int) + (i : Int)) l0)) := ⟨by rw [← hl0]; rfl⟩
        clear hl0
        go_upto_region 13 with (fail)
        refine Mo.region 13 [0, 1, 3, 7, 0, 16, 48, 112, 0, 496, 0, 0, 3072, 8191] (fun w' => w' = wr.drew) (fun _ => Eq) (fun _ _ => True) (fun k _ v _ => k = 12 → v = .slice (some ⟨gb, i * 32, none⟩) 32 32) rfl (fun _ => trivial) (fun _ _ _ h k => k ▸ h) (fun _ _ _ _ _ _ _ _ _ h => h) (fun _ _ _ _ _ _ _ _ _ => trivial) mixed (by kernel_rfl) ?_
        simp only [List.take_succ_cons, List.take_zero, List.drop_succ_cons, List.drop_zero]
        have hdd : Kept (fun _ => False) wr wr.drew := (Kept.refl _ _).drew
        have hJd := hJ.kept hdd (fun _ _ e => e)
        have hDd := hDk.kept hdd (fun _ _ e => e)
        refine Mo.val (v := ?_) (fun _ => rfl) (by rfl) (fun _ _ _ hk_ => (by cases hk_)) ?_ ?_
        rotate_left
        · (intro w' hT hP hF; cases hT; go_simp; with_reducible rfl)
        simp only [Act.put, List.setIfInBounds_toArray, List.set_cons_zero, List.set_cons_succ]
        refine Mo.val (v := ?_) (fun _ => rfl) (by rfl) (fun _ _ _ hk_ => (by cases hk_)) ?_ ?_
        rotate_left
        · (intro w' hT hP hF; cases hT; go_simp; with_reducible rfl)
        simp only [Act.put, List.setIfInBounds_toArray, List.set_cons_zero, List.set_cons_succ]
        refine Mo.val (v := ?_) (fun _ => rfl) (by rfl) (fun _ _ _ hk_ => (by cases hk_)) ?_ ?_
        rotate_left
        · (intro w' hT hP hF; cases hT; go_simp; with_reducible rfl)
        simp only [Act.put, List.setIfInBounds_toArray, List.set_cons_zero, List.set_cons_succ]
        refine Mo.val (v := ?_) (fun _ => rfl) (by rfl) (fun _ _ _ hk_ => (by cases hk_)) ?_ ?_
        rotate_left
        · (intro w' hT hP hF; cases hT; go_simp; with_reducible rfl)
        simp only [Act.put, List.setIfInBounds_toArray, List.set_cons_zero, List.set_cons_succ]
        refine Mo.val (v := ?_) (fun _ => rfl) (by rfl) (fun _ _ _ hk_ => (by cases hk_)) ?_ ?_
        rotate_left
        · (intro w' hT hP hF; cases hT; go_simp; with_reducible rfl)
        simp only [Act.put, List.setIfInBounds_toArray, List.set_cons_zero, List.set_cons_succ]
        refine Mo.val (v := ?_) (fun _ => rfl) (by rfl) (fun _ _ _ hk_ => (by cases hk_)) ?_ ?_
        rotate_left
        · (intro w' hT hP hF; cases hT; go_simp; with_reducible rfl)
        simp only [Act.put, List.setIfInBounds_toArray, List.set_cons_zero, List.set_cons_succ]
        refine Mo.val (v := ?_) (fun _ => rfl) (by rfl) (fun _ _ _ hk_ => (by cases hk_)) ?_ ?_
        rotate_left
        · (intro w' hT hP hF; cases hT; go_simp; with_reducible rfl)
        simp only [Act.put, List.setIfInBounds_toArray, List.set_cons_zero, List.set_cons_succ]
        refine Mo.val (v := ?_) (fun _ => rfl) (by rfl) (fun _ _ _ hk_ => (by cases hk_)) ?_ ?_
        rotate_left
        · (intro w' hT hP hF; cases hT; go_simp; with_reducible rfl)
        simp only [Act.put, List.setIfInBounds_toArray, List.set_cons_zero, List.set_cons_succ]
        refine Mo.val (v := ?_) (fun _ => rfl) (by rfl) (fun _ _ _ hk_ => (by cases hk_)) ?_ ?_
        rotate_left
        · (intro w' hT hP hF; cases hT; go_simp; with_reducible rfl)
        simp only [Act.put, List.setIfInBounds_toArray, List.set_cons_zero, List.set_cons_succ]
        refine Mo.val (v := ?_) (fun _ => rfl) (by rfl) (fun _ _ _ hk_ => (by cases hk_)) ?_ ?_
        rotate_left
        · (intro w' hT hP hF; cases hT; go_simp; with_reducible rfl)
        simp only [Act.put, List.setIfInBounds_toArray, List.set_cons_zero, List.set_cons_succ]
        refine Mo.val (v := ?_) (fun _ => rfl) (by rfl) (fun _ _ _ hk_ => (by cases hk_)) ?_ ?_
        rotate_left
        · (intro w' hT hP hF; cases hT; go_simp; with_reducible rfl)
        simp only [Act.put, List.setIfInBounds_toArray, List.set_cons_zero, List.set_cons_succ]
        refine Mo.val (v := ?_) (fun _ => rfl) (by rfl) (fun _ _ _ hk_ => (by cases hk_)) ?_ ?_
        rotate_left
        · (intro w' hT hP hF; cases hT; go_simp; with_reducible rfl)
        simp only [Act.put, List.setIfInBounds_toArray, List.set_cons_zero, List.set_cons_succ]
        refine Mo.any (by rfl) ?_ ?_
        · intro w' hT hP hF
          cases hT
          go_simp
          show Calls _ _ _ _ _
          refine (hbk wr.drew hJd).mono ?_
          rintro e w5 ⟨rfl, rfl⟩
          exact ⟨_, rfl, rfl, by simp⟩
        simp only [Act.put, List.setIfInBounds_toArray, List.set_cons_zero, List.set_cons_succ]
        rintro v12 ⟨_, _, hv12⟩
        obtain rfl := hv12 trivial
        refine Mo.done ?_
        rintro w' rfl - -
        have hr0 : wr.drew.rangeAt gb (i * 32) (l0.map (Value.int .u8)) := fun j u hu => by
          rw [List.getElem?_map] at hu
          obtain ⟨x, hx, rfl⟩ := Option.map_eq_some_iff.1 hu
          have hB := hJd.bytes (i * 32) 32
          rw [HL0.out] at hB
          obtain ⟨ad, he, hc⟩ := hB (by have := HL0N.out; omega)
          cases he
          have := hc j x hx
          rwa [Addr.add_mid] at this
        go_wp2_with fail
        refine (write_ok b m1 m2 sv' Dk ((first : Int) + (i : Int)) gb (i * 32) 32 l0 wr.drew hDd (by omega) hfi HL0N.out hr0 (fun e => hfar gb (.inr (.inr (.inr e))) (.inr (.inl rfl))) (by omega)).mono ?_
        rintro e w7 ⟨sv2, rfl, hD7, hK7, hsv7⟩
        have hJ7 := hJd.kept hK7 (fun i hi hf => hfar i hf hi)
        have hs36 := hKf.size
        have hK37 : Kept (foot b m1 m2 sv) w4 w7 := (hKf.drew).trans hK7 (fun i hi hf => by
          rcases hf with hf | hf | hf | hf
          · exact .inl hf
          · exact .inr (.inl hf)
          · exact .inr (.inr (.inl hf))
          · rcases hsv i hf with h5 | h5
            · exact .inr (.inr (.inr h5))
            · omega)
        have hsd : wr.drew.heap.size = wr.heap.size := rfl
        have hsv2 : ∀ i, sv2.ownBlock = some i → sv.ownBlock = some i ∨ w4.heap.size ≤ i := fun i hi => by
          rcases hsv7 i hi with h5 | h5
          · exact hsv i h5
          · exact .inr (by omega)
        clear hr0 hsd hw_ hbk
        go_wp2_with fail
        go_roundg g2_
        case measure => omega
        case rel => exact ⟨i + 1, _, sv2, by go_num, by omega, by simp [St.write]; omega, ⟨hwl.trans hz2.out, hJ7, hD7, hDs, hK37, hsv2⟩⟩
  case rest =>
    obtain ⟨sv', ⟨hJ, hD', hKf, hsv⟩⟩ := hcut
    obtain ⟨w6, hw6⟩ : ∃ w6, w6 = wc := ⟨_, rfl⟩
    subst hw6
    have hs04 := K04.size
    have hfar : ∀ i, foot b m1 m2 sv' i → ¬ jfoot jb gb vr rvs i := fun i hi hj => by
      have hlt := hJlt i hj
      rcases hi with hi | hi | hi | hi
      · exact hap i hj (.inl hi)
      · exact hap i hj (.inr (.inl hi))
      · exact hap i hj (.inr (.inr (.inl hi)))
      · rcases hsv i hi with h5 | h5
        · exact hap i hj (.inr (.inr (.inr h5)))
        · omega
    have K06 : Kept (fun i => jfoot jb gb vr rvs i ∨ foot b m1 m2 sv i) w w6 := (K04.mono (fun i _ e => .inl (e.elim .inl (fun e => .inr (.inl e))))).trans hKf (fun i _ e => .inr e)
    have hs06 := K06.size
    obtain ⟨-, -, -, -, j4⟩ := hJ.cells
    have hvlt : ∀ i, vr.ownBlock = some i → i < w6.heap.size := fun i hi => hJ.lt i (.inr (.inr (.inl hi)))
    have hrow6 := hJ.rows.row
    have hclone : ∀ W, Kept (fun k => vr.ownBlock = some k) w6 W → Calls Try.prog 46 #[.slice A l.length c] W fun e W' => ∃ v, e = .returned v ∧ W'.ownsRow W.heap.size 5 1 v l.length (l.map (Value.int .u8)) ∧ Below W.heap.size W W' := fun W K => by
      refine rec_clone A c l W (by omega) hc (fun h0 => ?_)
      obtain ⟨ad, he, hcell⟩ := hr h0
      obtain ⟨hn1, hn2⟩ := hnot ad he
      have hab : ∀ j, (ad.add j).block = ad.block := fun j => by (simp only [Addr.add]; split <;> rfl)
      exact ⟨ad, he, fun j x hj => kept_cell' K (kept_cell' K06 (hcell j x hj) (fun e => by rw [hab j] at e; exact e.elim hn1 hn2)) (fun e => by rw [hab j] at e; exact hn1 (.inr (.inr (.inl e))))⟩
    go_upto_region 14 with (fail)
    refine Mo.region 9 [0, 0, 2, 6, 14, 0, 32, 96, 254, 511] (fun w' => Kept (fun k => vr.ownBlock = some k) w6 w') (TrA vr) (fun k w' => k = 8 → w'.ownsRow 0 31 1 vr recs.length rvs) (PsiA rvs l vr w6) (Kept.refl _ _).drew (fun _ _ => own_kept hrow6 (Kept.refl (fun _ => False) w6).drew (fun _ _ e => e)) (fun k u u' hu ht => hu.trans ht.kept (fun _ _ e => e)) (psiA_stays _ _ _ _ hvlt) ?hpre mixed (by kernel_rfl) ?_
    case hpre =>
      intro j_ k u u' hjk hb hu ht hp_ e
      subst e
      unfold TrA at ht
      split at ht
      · exact own_kept (hp_ rfl) (Kept.of_below (S := fun _ => False) ht) (fun _ _ e => e)
      · split at ht
        · rename_i h11
          exact absurd h11.symm hjk
        · exact ht ▸ hp_ rfl
    simp only [List.take_succ_cons, List.take_zero, List.drop_succ_cons, List.drop_zero]
    have j4' : ∀ w', Kept (fun k => vr.ownBlock = some k) w6 w' → w'.cell? ⟨jb, 4, none⟩ = some vr := fun w' K => kept_cell' K j4 hJap.2.1
    refine Mo.val (v := ?_) (fun _ => rfl) (by rfl) (fun _ _ _ => trivial) ?_ ?_
    rotate_left
    · (intro w' hT hP hF; skip; go_simp; with_reducible rfl)
    simp only [Act.put, List.setIfInBounds_toArray, List.set_cons_zero, List.set_cons_succ]
    refine Mo.val (v := ?_) (fun _ => rfl) (by rfl) (fun _ _ _ => trivial) ?_ ?_
    rotate_left
    · (intro w' hT hP hF; skip; go_simp; with_reducible rfl)
    simp only [Act.put, List.setIfInBounds_toArray, List.set_cons_zero, List.set_cons_succ]
    refine Mo.val (v := ?_) (fun _ => rfl) (by rfl) (fun _ _ _ => trivial) ?_ ?_
    rotate_left
    · (intro w' hT hP hF; skip; go_simp; with_reducible rfl)
    simp only [Act.put, List.setIfInBounds_toArray, List.set_cons_zero, List.set_cons_succ]
    refine Mo.val (v := ?_) (fun _ => rfl) (by rfl) (fun _ _ _ => trivial) ?_ ?_
    rotate_left
    · (intro w' hT hP hF; skip; go_simp; with_reducible rfl)
    simp only [Act.put, List.setIfInBounds_toArray, List.set_cons_zero, List.set_cons_succ]
    refine Mo.val (v := ?_) (fun _ => rfl) (by rfl) (fun _ _ _ => trivial) ?_ ?_
    rotate_left
    · (intro w' hT hP hF; have hc := j4' w' hT; go_simp; with_reducible rfl)
    simp only [Act.put, List.setIfInBounds_toArray, List.set_cons_zero, List.set_cons_succ]
    refine Mo.val (v := ?_) (fun _ => rfl) (by rfl) (fun _ _ _ => trivial) ?_ ?_
    rotate_left
    · (intro w' hT hP hF; skip; go_simp; with_reducible rfl)
    simp only [Act.put, List.setIfInBounds_toArray, List.set_cons_zero, List.set_cons_succ]
    refine Mo.any (by rfl) ?_ ?_
    · intro w' hT hP hF
      have hsz := hT.size
      go_simp
      show Calls _ _ _ _ _
      refine (hclone w' hT).mono ?_
      rintro e w7 ⟨v, rfl, hO7, hB7⟩
      refine ⟨_, rfl, ?_, ?_⟩
      · unfold TrA
        rw [if_pos (Or.inl rfl)]
        exact hB7
      · unfold PsiA
        rw [if_pos rfl]
        exact own_base hO7 hsz
    simp only [Act.put, List.setIfInBounds_toArray, List.set_cons_zero, List.set_cons_succ]
    rintro v6 ⟨wx, -, hx⟩
    unfold PsiA at hx
    rw [if_pos rfl] at hx
    obtain ⟨a6, c6, rfl⟩ := own_len hx
    refine Mo.any (by rfl) ?_ ?_
    · intro w' hT hP hF
      have hsz := hT.size
      go_simp
      refine ⟨?_, ?_⟩
      · unfold TrA
        rw [if_pos (by simp)]
        exact (Below.refl _ _).alloc (Nat.le_refl _) _
      · unfold PsiA
        rw [if_neg (by decide), if_pos rfl]
        refine ⟨_, .slice a6 l.length c6, rfl, hsz, ?_, heap_alloc_new _ _⟩
        simp [Op.operands, Act.eval]
    simp only [Act.put, List.setIfInBounds_toArray, List.set_cons_zero, List.set_cons_succ]
    rintro v7 ⟨wx, -, hx⟩
    unfold PsiA at hx
    rw [if_neg (by decide), if_pos rfl] at hx
    obtain ⟨x7, u7, rfl, hx7, -, -⟩ := hx
    refine Mo.any (by rfl) ?_ ?_
    · intro w' hT hP hF
      have hF7 := hF 7 (by decide)
      have hF6 := hF 6 (by decide)
      rw [Mo.upd_same] at hF7
      simp (decide := true) only [Mo.upd, if_true, if_false] at hF6
      unfold PsiA at hF7 hF6
      rw [if_neg (by decide), if_pos rfl] at hF7
      rw [if_pos rfl] at hF6
      obtain ⟨x7', u', he7, -, hA, hh7⟩ := hF7
      obtain rfl : x7 = x7' := by simpa using he7
      have hu' : u' = .slice a6 l.length c6 := by
        simp [Op.operands, Act.eval] at hA
        exact hA.symm
      subst hu'
      have hsz := hT.size
      refine Mo.leaves_of_wp (d := 78) rfl (by simp) fun K Q hK => ?_
      obtain ⟨i0, hi0, hz⟩ := Option.map_eq_some_iff.1 info_row'
      simp only [Prod.mk.injEq] at hz
      obtain ⟨hz0, hz1, hz2⟩ := hz
      have hrow : w'.ownsRow 0 31 1 vr recs.length rvs := hP rfl
      refine Ow.wp_append (P := Try.prog) w' (.tmp 74) (.tmp 77) 42 rfl 0 31 i0 _ 1 24 Try.underlying42 hi0 hz0 hz1 hz2 rfl (by decide) vr recs.length rvs rfl hrow ⟨x7, 0, none⟩ 1 1 [.slice a6 l.length c6] rfl rfl (cells_at hh7) (fun u hu => by rw [List.mem_singleton.1 hu]; rfl) (by unfold maxLen; omega) (by omega) (Nat.zero_le _) ?_
      intro v' w2_ hown hgr _ hnb
      have hK2 : Kept (fun k => vr.ownBlock = some k) w' w2_ := (Kept.refl (fun k => vr.ownBlock = some k) w').grown hgr (fun k hk => Or.inr hk)
      refine hK v' w2_ ⟨?_, ?_⟩
      · unfold TrA
        rw [if_neg (by decide), if_pos rfl]
        exact hK2
      · unfold PsiA
        rw [if_neg (by decide), if_neg (by decide), if_pos rfl]
        refine ⟨fun i hi => ?_, .slice a6 l.length c6, own_kept hF6 hK2 (fun i hi e => by have := (hF6.lt i hi).1; have := hvlt i e; omega), fun i hi e => ?_, by rw [hJrows.len]; exact hown⟩
        · rcases hnb i hi with h5 | h5
          · exact Or.inl h5
          · exact Or.inr (by omega)
        · obtain ⟨h6, h7⟩ := hF6.lt i hi
          rcases hnb i e with h5 | h5
          · have := hvlt i h5
            omega
          · omega
    simp only [Act.put, List.setIfInBounds_toArray, List.set_cons_zero, List.set_cons_succ]
    rintro v8 ⟨wx, -, hx⟩
    unfold PsiA at hx
    rw [if_neg (by decide), if_neg (by decide), if_pos rfl] at hx
    obtain ⟨-, _, -, -, hx⟩ := hx
    obtain ⟨a8, c8, rfl⟩ := own_len hx
    refine Mo.done ?_
    intro w' hT hF _
    have hF8 := hF 8
    rw [Mo.upd_same] at hF8
    unfold PsiA at hF8
    rw [if_neg (by decide), if_neg (by decide), if_pos rfl] at hF8
    obtain ⟨O2, rv, hrv, hrvn, O1⟩ := hF8
    have hfv : ∀ i, foot b m1 m2 sv' i → ¬ vr.ownBlock = some i := fun i hi e => hfar i hi (.inr (.inr (.inl e)))
    have hD7 := hD'.kept hT hfv
    have hJ7 : JIs w' jb b first gb cb bs2 u2 vr recs rvs ∨ True := .inr trivial
    clear hJ7
    have hH7 := hT.heap hJ.head hJap.2.1
    have hB7 := own_kept hJ.row hT (fun i hi e => by
      obtain rfl : gb = i := by simpa [Value.ownBlock] using hi
      exact hJap.2.2 e)
    have hR7 := hJ.rows.more hT hrv O1 O2 hrvn
    have j4w := j4' w' hT
    have f4w : w'.frozen? ⟨jb, 4, none⟩ = false := by simp [World.frozen?, hH7]
    clear hF j4' hx hclone
    go_wp2_with fail
    go_ret
    have hs67 := hT.size
    have hv8 : ∀ i, (Value.slice a8 (rvs.length + 1) c8).ownBlock = some i → vr.ownBlock = some i ∨ w6.heap.size ≤ i := O2
    have hnj : (Value.slice a8 (rvs.length + 1) c8).ownBlock ≠ some jb ∧ (Value.slice a8 (rvs.length + 1) c8).ownBlock ≠ some gb := ⟨fun e => by
      rcases hv8 jb e with h5 | h5
      · exact hJap.2.1 h5
      · omega, fun e => by
      rcases hv8 gb e with h5 | h5
      · exact hJap.2.2 h5
      · omega⟩
    have hrj : ∀ u ∈ rvs ++ [rv], u.ownBlock ≠ some jb ∧ u.ownBlock ≠ some gb := fun u hu => by
      rcases List.mem_append.1 hu with hu | hu
      · exact hJapR u hu
      · rw [List.mem_singleton.1 hu]
        exact ⟨fun e => by have := (hrv.lt jb e).1; omega, fun e => by have := (hrv.lt gb e).1; omega⟩
    have KS : Kept (fun i => i = jb) w' (w'.setCell ⟨jb, 4, none⟩ (.slice a8 (rvs.length + 1) c8)) := (Kept.refl (fun i => i = jb) w').setCell (p := ⟨jb, 4, none⟩) (Or.inr rfl) _
    have hR8 := hR7.kept KS (fun i hi e => hnj.1 (e ▸ hi)) (fun u hu i hi e => (hrj u hu).1 (e ▸ hi))
    refine ⟨sv', .slice a8 (rvs.length + 1) c8, rv, rfl, ⟨by simp [World.setCell, Array.getElem?_modify, hH7], own_kept hB7 KS (fun i hi e => by
      obtain rfl : gb = i := by simpa [Value.ownBlock] using hi
      exact hJap.1 e.symm), hR8, hJ.good, fun x hx => ?_, ⟨hJap.1, hnj⟩, hrj⟩, ?_, ?_, fun i hi => ?_, fun i hi => ?_, fun i hi => ?_, fun i hi hf => ?_⟩
    · rcases List.mem_append.1 hx with hx | hx
      · exact hJgR x hx
      · rw [List.mem_singleton.1 hx]; exact hb
    · rw [HK5.out, HK6.out]
      exact hD7.kept KS (fun i hi e => hfar i hi (.inl e))
    · exact (K06.trans hT (fun i _ e => .inl (.inr (.inr (.inl e))))).trans KS (fun i _ e => .inl (.inl e))
    · exact (hsv i hi).imp id (fun h5 => by omega)
    · exact (hv8 i hi).imp id (fun h5 => by omega)
    · have := (hrv.lt i hi).1
      omega
    · have hlt := hD'.lt i hf
      rcases hi with hi | hi | hi | ⟨u, hu, hi⟩
      · exact hfar i hf (.inl hi)
      · exact hfar i hf (.inr (.inl hi))
      · rcases hv8 i hi with h5 | h5
        · exact hfar i hf (.inr (.inr (.inl h5)))
        · omega
      · rcases List.mem_append.1 hu with hu | hu
        · exact hfar i hf (.inr (.inr (.inr ⟨u, hu, hi⟩)))
        · rw [List.mem_singleton.1 hu] at hi
          have := (hrv.lt i hi).1
          omega
end Go.Proofs.Ytinhednmfldmbaa.Dk

namespace Go.Proofs.Ytinhednmfldmbaa.Dk
open Go Go.RowKit Hp Rd

theorem open_nil (x y : Int) (w : World) : Calls Try.prog 25 #[.pointer none, .int .i64 x, .int .i64 y] w fun e w' => e = .returned (.tuple #[.pointer none, .int .i64 1]) ∧ w = w' := by
  go_enter Try.func25, Try.ntmps25
  go_wp2
  go_ret2
  exact ⟨rfl, rfl⟩
/-- The disk's bytes from a block on. -/
def rdb (D : St) (first : Nat) : Nat → List Int
  | 0 => []
  | k + 1 => rdb D first k ++ D.at ((first : Int) + (k : Int))
theorem rdb_length (D : St) (h : D.Ok) (first : Nat) : ∀ k, (rdb D first k).length = k * 32
  | 0 => rfl
  | k + 1 => by
    unfold rdb
    rw [List.length_append, rdb_length D h first k, D.at_length h]
    omega
theorem rdb_bytes (D : St) (h : ∀ n : Int, Pl.bytes (D.at n)) (first : Nat) : ∀ k, Pl.bytes (rdb D first k)
  | 0 => fun x hx => by cases hx
  | k + 1 => by
    unfold rdb
    exact Pl.bytes_app (rdb_bytes D h first k) (h _)
/-- A journal whose bytes are being read. -/
structure OpSt (w w' : World) (jb b first : Nat) (vb : Value) (bs : List Int) : Prop where
  head : w'.heap[jb]? = some (.cells #[.pointer (some ⟨b, 0, none⟩), .int .i64 first, vb, .int .i64 0, .slice none 0 0] 85 (0, 0))
  row : w'.ownsRow w.heap.size 5 1 vb bs.length (bs.map (Value.int .u8))
  below : Below w.heap.size w w'
  new : w.heap.size ≤ jb
  far : vb.ownBlock ≠ some jb
theorem OpSt.add {w w1 w2 w3 : World} {jb b first : Nat} {vb vb' : Value} {bs l : List Int} (h : OpSt w w1 jb b first vb bs) (k : Below w1.heap.size w1 w2) (K : Kept (fun i => vb.ownBlock = some i) w2 w3)
    (O : w3.ownsRow w.heap.size 5 1 vb' (bs.length + l.length) (bs.map (Value.int .u8) ++ l.map (Value.int .u8))) (O2 : ∀ i, vb'.ownBlock = some i → vb.ownBlock = some i ∨ w2.heap.size ≤ i) :
    OpSt w (w3.setCell ⟨jb, 2, none⟩ vb') jb b first vb' (bs ++ l) := by
  have hjb := lt_of_heap h.head
  have s1 := h.below.size
  have s2 := k.size
  have H2 := K.heap ((k.block jb hjb).trans h.head) h.far
  have hfar : vb'.ownBlock ≠ some jb := fun e => by
    rcases O2 jb e with h5 | h5
    · exact h.far h5
    · omega
  refine ⟨by simp [World.setCell, Array.getElem?_modify, H2], ?_, ?_, h.new, hfar⟩
  · rw [List.length_append, List.map_append]
    exact own_kept O ((Kept.refl (fun i => i = jb) w3).setCell (p := ⟨jb, 2, none⟩) (Or.inr rfl) vb') (fun i hi e => by subst e; exact hfar hi)
  · exact ((h.below.trans (k.mono s1)).trans (K.below (by omega) (fun i hi e => by have := (h.row.lt i e).1; omega))).trans ((Below.refl _ _).setCell (p := ⟨jb, 2, none⟩) h.new vb')
theorem RecsAt.weaken {w : World} {base base' : Nat} {v : Value} {xs : List (List Int)} {rvs : List Value} (h : RecsAt w base v xs rvs) (hb : base' ≤ base) : RecsAt w base' v xs rvs :=
  ⟨own_base h.row hb, h.len, fun j x rv hx hrv => ⟨own_base (h.at_ j x rv hx hrv).1 hb, (h.at_ j x rv hx hrv).2⟩⟩
theorem RecsAt.ge {w : World} {base : Nat} {v : Value} {xs : List (List Int)} {rvs : List Value} (h : RecsAt w base v xs rvs) : (∀ i, v.ownBlock = some i → base ≤ i) ∧ ∀ rv ∈ rvs, ∀ i, rv.ownBlock = some i → base ≤ i := by
  refine ⟨fun i hi => (h.row.lt i hi).1, fun rv hr i hi => ?_⟩
  obtain ⟨j, hj⟩ := List.getElem?_of_mem hr
  have hl := (List.getElem?_eq_some_iff.1 hj).1
  rw [h.len] at hl
  exact ((h.at_ j _ rv (List.getElem?_eq_getElem hl) hj).1.lt _ hi).1
set_option maxHeartbeats 1500000 in
set_option maxRecDepth 100000 in
theorem open_ok {w : World} {b m1 m2 : Nat} {sv : Value} {D : St} (hD : DiskIs w b m1 m2 sv D) (hby : ∀ n : Int, Pl.bytes (D.at n)) (hn : D.calls.length ≤ 1000000000) (first nb : Nat) (h1 : 1 ≤ nb) (hfit : (first : Int) + (nb : Int) ≤ D.size) (xs : List (List Int)) (r : List Int) (hsc : Pl.Scans (rdb D first nb) xs r) (hxg : ∀ x ∈ xs, Pl.bytes x) (hxl : xs.length ≤ 1000000000) (u : Nat) (hu : u + r.length = (rdb D first nb).length) :
    Calls Try.prog 25 #[.pointer (some ⟨b, 0, none⟩), .int .i64 first, .int .i64 nb] w fun e w' => ∃ jb gb cb vr rvs sv', e = .returned (.tuple #[.pointer (some ⟨jb, 0, none⟩), .int .i64 0]) ∧
      JIs w' jb b first gb cb (Dk.lay (rdb D first nb) u (List.replicate ((rdb D first nb).length - u) 0)) u vr xs rvs ∧
      DiskIs w' b m1 m2 sv' (if (zd first (rdb D first nb) (Dk.lay (rdb D first nb) u (List.replicate ((rdb D first nb).length - u) 0)) nb (D, false)).2 = true then (zd first (rdb D first nb) (Dk.lay (rdb D first nb) u (List.replicate ((rdb D first nb).length - u) 0)) nb (D, false)).1.sync else (zd first (rdb D first nb) (Dk.lay (rdb D first nb) u (List.replicate ((rdb D first nb).length - u) 0)) nb (D, false)).1) ∧
      Kept (foot b m1 m2 sv) w w' ∧ (∀ i, sv'.ownBlock = some i → sv.ownBlock = some i ∨ w.heap.size ≤ i) ∧ (∀ i, jfoot jb gb vr rvs i → w.heap.size ≤ i) ∧ ∀ i, jfoot jb gb vr rvs i → ¬ foot b m1 m2 sv' i := by
  have hbl := rdb_length D hD.ok first nb
  have hbb := rdb_bytes D hby first nb
  obtain ⟨bs, hbs⟩ : ∃ bs, rdb D first nb = bs := ⟨_, rfl⟩
  rw [hbs] at hbl hbb hsc hu ⊢
  obtain ⟨bs2, hbs2⟩ : ∃ bs2, Dk.lay bs u (List.replicate (bs.length - u) 0) = bs2 := ⟨_, rfl⟩
  rw [hbs2]
  obtain ⟨Z, hZ⟩ : ∃ Z, zd first bs bs2 nb (D, false) = Z := ⟨_, rfl⟩
  rw [hZ]
  have HBL := Sh.mk hbl
  have HU := Sh.mk hu
  have hur : u ≤ bs.length := by omega
  have hbl3 : bs.length ≤ 3000000 := by have := hD.ok.le; omega
  have hbl1 : 0 < bs.length := by omega
  have hur2 : (bs.length : Int) - (r.length : Int) = (u : Int) := by omega
  have HUR := Sh.mk hur2
  clear hbl hu hur2
  have HBS := Sh.mk hbs
  have HBS2 := Sh.mk hbs2
  have HZ := Sh.mk hZ
  clear hbs hbs2 hZ
  obtain ⟨d0, -, -, -⟩ := hD.cells
  have hDle := hD.ok.le
  have hDpos := hD.ok.pos
  obtain ⟨sz, hsz⟩ : ∃ sz : Nat, D.size = (sz : Int) := Int.eq_ofNat_of_zero_le (by omega)
  rw [hsz] at d0
  have q1 : ¬ ((nb : Int) < 1) := by omega
  have q2 : ¬ ((first : Int) < 0) := by omega
  have q3 : ¬ ((sz : Int) ≤ (first : Int)) := by omega
  have q3n : ¬ (sz ≤ first) := by omega
  have q4 : ¬ ((sz : Int) - (first : Int) < (nb : Int)) := by omega
  have hsz2 : (first : Int) + (nb : Int) ≤ (sz : Int) := by omega
  have hsz3 : sz ≤ 65536 := by omega
  have HSZ := Sh.mk hsz
  clear hsz
  go_enter Try.func25, Try.ntmps25
  go_wp2_with fail
  refine (blocks_calls b sz w d0).mono ?_
  rintro e w1 ⟨rfl, rfl⟩
  go_wp2_with fail
  refine (blocks_calls b sz w d0).mono ?_
  rintro e w1 ⟨rfl, rfl⟩
  go_upto_block 0 with (fail)
  have HO : OpSt w (w.alloc (.cells #[.pointer (some ⟨b, 0, none⟩), .int .i64 first, .slice none 0 0, .int .i64 0, .slice none 0 0] 85)) w.heap.size b first (.slice none 0 0) [] := ⟨heap_alloc_new _ _, World.ownsRow_nil _ _ _ _, (Below.refl _ _).alloc (Nat.le_refl _) _, Nat.le_refl _, by simp [Value.ownBlock]⟩
  obtain ⟨w1, hw1⟩ : ∃ w1, w.alloc (.cells #[.pointer (some ⟨b, 0, none⟩), .int .i64 first, .slice none 0 0, .int .i64 0, .slice none 0 0] 85) = w1 := ⟨_, rfl⟩
  obtain ⟨jb, hjb⟩ : ∃ jb, w.heap.size = jb := ⟨_, rfl⟩
  have HO1 : OpSt w w1 jb b first (.slice none 0 0) [] := by rw [← hw1, ← hjb]; exact HO
  rw [hw1, hjb]
  have hjw : w.heap.size ≤ jb := by omega
  clear HO hw1 hjb q1 q2 q3 q4
  go_cut [] (fun wx => ∃ vb, Sh (OpSt w wx jb b first vb bs))
  case first =>
    go_wp2_with fail
    go_loopg [41] nb (fun kq v41 w' => ∃ (i : Nat) (vb : Value) (cs : List Int), v41 = .int .i64 (i : Int) ∧ i + kq = nb ∧ Sh (cs = rdb D first i ∧ OpSt w w' jb b first vb cs))
    case atStart => exact ⟨0, _, [], rfl, by omega, ⟨rfl, HO1⟩⟩
    case round =>
      obtain ⟨i, vb, cs, rfl, hi, ⟨hcs, hS⟩⟩ := hrel
      cases gk with
      | zero =>
        have q : ¬ ((i : Int) < (nb : Int)) := by omega
        have hin : i = nb := by omega
        rw [hin, HBS.out] at hcs
        subst hcs
        clear hin
        go_wp2_with fail
        go_meet
        case rel => exact ⟨vb, ⟨hS⟩⟩
      | succ g1_ =>
        have q : (i : Int) < (nb : Int) := by omega
        have hDr := hD.below hS.below
        obtain ⟨l, hl⟩ : ∃ l, D.at ((first : Int) + (i : Int)) = l := ⟨_, rfl⟩
        have hrd := read_ok b m1 m2 sv D ((first : Int) + (i : Int)) wr hDr (by omega) (by rw [HSZ.out]; omega)
        have hl32 := D.at_length hD.ok ((first : Int) + (i : Int))
        rw [hl] at hrd hl32
        have hcl : cs.length ≤ 3000000 := by rw [hcs, rdb_length D hD.ok]; omega
        have HCS : Sh (cs ++ l = rdb D first (i + 1)) := ⟨by rw [hcs, ← hl]; rfl⟩
        have HL32 := Sh.mk hl32
        have hh := hS.head
        have c2 : wr.cell? ⟨jb, 2, none⟩ = some vb := by simp [World.cell?, hh]
        clear hl hl32 hcs hh
        go_wp2_with fail
        refine hrd.mono ?_
        rintro e w5 ⟨v, rfl, hb5, hO5⟩
        obtain ⟨a5, c5, rfl⟩ := own_len hO5
        obtain ⟨g5, rfl, -, hg5⟩ := own_cap hO5 (by omega)
        have c2w := bcell' hb5 c2
        obtain ⟨i0, hi0, hz⟩ := Option.map_eq_some_iff.1 info_u8
        simp only [Prod.mk.injEq] at hz
        obtain ⟨hz0, hz1, hz2⟩ := hz
        have hrow := own_kept hS.row (Kept.of_below (S := fun _ => False) hb5) (fun _ _ e => e)
        have hs1 := hS.below.size
        have hs5 := hb5.size
        clear hrd c2
        go_wp2_with (at_builtin; refine Ow.wpList_append _ rfl _ _ 31 rfl w.heap.size 5 i0 _ 1 1 Try.underlying31 hi0 hz0 hz1 hz2 rfl (by decide) _ cs.length (cs.map (Value.int .u8)) rfl hrow ⟨g5, 0, none⟩ 32 c5 (l.map (Value.int .u8)) rfl (by have := HL32.out; simp; omega) (fun j u hu => hO5.cells (g := g5) rfl j u hu) (one_u8 _) (by unfold maxLen; omega) (by omega) (by omega) ?_)
        intro v' w6 O1 hgr _ O2
        have KA : Kept (fun k => vb.ownBlock = some k) w5 w6 := (Kept.refl _ w5).grown hgr (fun k hk => Or.inr hk)
        have hjl := lt_of_heap hS.head
        have H2 := KA.heap ((hb5.block jb hjl).trans hS.head) hS.far
        have c2x : w6.cell? ⟨jb, 2, none⟩ = some vb := by simp [World.cell?, H2]
        have fzx : w6.frozen? ⟨jb, 2, none⟩ = false := by simp [World.frozen?, H2]
        have hadd := hS.add (l := l) hb5 KA (by rw [HL32.out]; exact O1) O2
        obtain ⟨a7, c7, rfl⟩ := own_len O1
        clear hrow hgr O1 O2 H2 KA
        go_wp2_with fail
        go_roundg g1_
        case measure => omega
        case rel => exact ⟨i + 1, _, _, by go_num, by omega, ⟨HCS.out, hadd⟩⟩
  case rest =>
    obtain ⟨vb, ⟨hS⟩⟩ := hcut
    obtain ⟨w2, hw2⟩ : ∃ w2, w2 = wc := ⟨_, rfl⟩
    subst hw2
    obtain ⟨a, c, rfl⟩ := own_len hS.row
    obtain ⟨gb, rfl, hcb, hgb⟩ := own_cap hS.row hbl1
    have hJ2 : JIs w2 jb b first gb c bs 0 (.slice none 0 0) [] [] := ⟨hS.head, own_base hS.row (Nat.zero_le _), RecsAt.nil _ _, hbb, fun x hx => (by cases hx), ⟨fun e => hS.far (by rw [e]; rfl), (by simp [Value.ownBlock]), (by simp [Value.ownBlock])⟩, fun x hx => (by cases hx)⟩
    have hscn := rec_scan (some ⟨gb, 0, none⟩) c bs xs r w2 hbb (by omega) hcb (Bytes.own hJ2.row) hsc (by omega)
    rw [HUR.out] at hscn
    obtain ⟨-, -, e2, -, -⟩ := hJ2.cells
    have hs02 := hS.below.size
    go_wp2_with fail
    refine hscn.mono ?_
    rintro e w3 ⟨v, rvs, rfl, hR3, hb3⟩
    have hJ3 := hJ2.kept (S := fun _ => False) (Kept.of_below hb3) (fun _ _ e => e)
    have hjl : jb < w2.heap.size := lt_of_heap hS.head
    have hgl : gb < w2.heap.size := (hS.row.lt gb rfl).2
    obtain ⟨hge, hgeR⟩ := hR3.ge
    have hxg' : ∀ x ∈ xs, Pl.bytes x := hxg
    have hJ4 := hJ3.setRecs (hR3.weaken (Nat.zero_le _)) hxg' ⟨fun e => by have := hge jb e; omega, fun e => by have := hge gb e; omega⟩ (fun rv hr => ⟨fun e => by have := hgeR rv hr jb e; omega, fun e => by have := hgeR rv hr gb e; omega⟩)
    have hJ5 := hJ4.setUsed u
    obtain ⟨av, cv, rfl⟩ := own_len hR3.row
    have hh3 := hJ3.head
    have hh4 := hJ4.head
    obtain ⟨-, -, -, -, x4⟩ := hJ3.cells
    obtain ⟨-, -, -, x3, -⟩ := hJ4.cells
    have z4 : w3.frozen? ⟨jb, 4, none⟩ = false := by simp [World.frozen?, hh3]
    have z3 : (w3.setCell ⟨jb, 4, none⟩ (.slice av xs.length cv)).frozen? ⟨jb, 3, none⟩ = false := by simp [World.frozen?, hh4]
    have KS : Kept (fun i => i = jb) w3 ((w3.setCell ⟨jb, 4, none⟩ (.slice av xs.length cv)).setCell ⟨jb, 3, none⟩ (.int .i64 (u : Int))) := ((Kept.refl (fun i => i = jb) w3).setCell (p := ⟨jb, 4, none⟩) (Or.inr rfl) _).setCell (p := ⟨jb, 3, none⟩) (Or.inr rfl) _
    obtain ⟨w4, hw4⟩ : ∃ w4, (w3.setCell ⟨jb, 4, none⟩ (.slice av xs.length cv)).setCell ⟨jb, 3, none⟩ (.int .i64 (u : Int)) = w4 := ⟨_, rfl⟩
    have hb4 : Below w.heap.size w w4 := by
      rw [← hw4]
      exact (hS.below.trans (hb3.mono hs02)).trans (KS.below (by have := hb3.size; omega) (fun i hi e => by omega))
    rw [hw4] at hJ5
    have hD4 := hD.below hb4
    have hfoot : ∀ i, jfoot jb gb (.slice av xs.length cv) rvs i → w.heap.size ≤ i := fun i hi => by
      rcases hi with hi | hi | hi | ⟨rv, hr, hi⟩
      · omega
      · omega
      · have := hge i hi; omega
      · have := hgeR rv hr i hi; omega
    have hap : ∀ i, jfoot jb gb (.slice av xs.length cv) rvs i → ¬ foot b m1 m2 sv i := fun i hi hf => by
      have := hfoot i hi
      have := hD.lt i hf
      omega
    have hzr := zero_ok hJ5 hD4 hap nb HBL.out (by rw [HSZ.out]; omega) u hur hn
    rw [HBS2.out, HZ.out] at hzr
    obtain ⟨-, -, -, y3, -⟩ := hJ5.cells
    clear hscn hh3 hh4
    go_upto_region 13 with (fail)
    (try rw [hw4])
    clear hw4
    go_wp2_with fail
    refine hzr.mono ?_
    rintro e w5 ⟨sv5, rfl, hJ6, hD6, hK6, hsv6⟩
    have hs04 := hb4.size
    have hfar : ∀ i, foot b m1 m2 sv5 i → ¬ jfoot jb gb (.slice av xs.length cv) rvs i := fun i hi hj => by
      have hlt := hJ5.lt i hj
      have hge2 := hfoot i hj
      rcases hi with hi | hi | hi | hi
      · exact hap i hj (.inl hi)
      · exact hap i hj (.inr (.inl hi))
      · exact hap i hj (.inr (.inr (.inl hi)))
      · rcases hsv6 i hi with h5 | h5
        · exact hap i hj (.inr (.inr (.inr h5)))
        · omega
    have K05 : Kept (foot b m1 m2 sv) w w5 := (Kept.of_below (S := foot b m1 m2 sv) hb4).trans hK6 (fun i hi e => by
      rcases e with e | e
      · omega
      · exact e)
    have hs45 := hK6.size
    obtain ⟨Z1, Z2⟩ := Z
    cases Z2 with
    | false =>
      go_wp2_with fail
      go_ret2
      exact ⟨jb, rfl, gb, c, _, rvs, hJ6, sv5, hD6, K05, fun i hi => (hsv6 i hi).imp id (fun h5 => by omega), hfoot, fun i hi hf => hfar i hf hi⟩
    | true =>
      have hcl6 : Z1.calls.length < 1000000000000 := by
        have h9 : Z1.calls.length ≤ D.calls.length + nb := by
          have := zd_len first bs bs2 nb (D, false)
          rw [HZ.out] at this
          exact this
        omega
      go_wp2_with fail
      refine (sync_ok b m1 m2 sv5 Z1 w5 hD6 hcl6).mono ?_
      rintro e w6 ⟨sv7, rfl, hD7, hK7, hsv7⟩
      go_wp2_with fail
      go_ret2
      have hsv8 : ∀ i, sv7.ownBlock = some i → sv.ownBlock = some i ∨ w4.heap.size ≤ i := fun i hi => by
        rcases hsv7 i hi with h5 | h5
        · exact hsv6 i h5
        · exact .inr (by omega)
      refine ⟨jb, rfl, gb, c, _, rvs, hJ6.kept hK7 (fun i hi hf => hfar i hf hi), sv7, hD7, K05.trans hK7 (fun i hi hf => ?_), fun i hi => (hsv8 i hi).imp id (fun h5 => by omega), hfoot, fun i hi hf => ?_⟩
      · rcases hf with hf | hf | hf | hf
        · exact .inl hf
        · exact .inr (.inl hf)
        · exact .inr (.inr (.inl hf))
        · rcases hsv6 i hf with h5 | h5
          · exact .inr (.inr (.inr h5))
          · omega
      · have hlt := hJ5.lt i hi
        rcases hf with hf | hf | hf | hf
        · exact hap i hi (.inl hf)
        · exact hap i hi (.inr (.inl hf))
        · exact hap i hi (.inr (.inr (.inl hf)))
        · rcases hsv8 i hf with h5 | h5
          · exact hap i hi (.inr (.inr (.inr h5)))
          · omega
end Go.Proofs.Ytinhednmfldmbaa.Dk

namespace Go.Proofs.Ytinhednmfldmbaa.Dk
open Go Go.RowKit Hp Rd

theorem rdb_zero (D : St) (h : ∀ n : Int, D.at n = zeros) (first : Nat) : ∀ k, rdb D first k = List.replicate (k * 32) 0
  | 0 => rfl
  | k + 1 => by
    unfold rdb
    rw [rdb_zero D h first k, h, zeros, List.replicate_append_replicate]
    congr 1
    omega
theorem scan_zero (m : Nat) : Pl.Scans (List.replicate (m + 1) 0) [] (List.replicate (m + 1) 0) := by
  refine .done ?_
  unfold Pl.take
  rw [if_neg (by simp; omega)]
  have : Pl.rdi (List.replicate (m + 1) 0) 0 = 0 := by simp [Pl.rdi]
  simp [this]
theorem zd_same (first : Nat) (bs : List Int) : ∀ (k : Nat) (s : St × Bool), zd first bs bs k s = s
  | 0, s => rfl
  | k + 1, s => by
    unfold zd
    rw [if_pos rfl]
    exact zd_same first bs k s
theorem zeros_bytes (n : Nat) : Pl.bytes (List.replicate n 0) := fun x hx => by
  rw [List.eq_of_mem_replicate hx]
  exact ⟨by decide, by decide⟩
theorem open_zero {w : World} {b m1 m2 : Nat} {sv : Value} {D : St} (hD : DiskIs w b m1 m2 sv D) (hz : ∀ n : Int, D.at n = zeros) (hn : D.calls.length ≤ 1000000000) (first nb : Nat) (h1 : 1 ≤ nb) (hfit : (first : Int) + (nb : Int) ≤ D.size) :
    Calls Try.prog 25 #[.pointer (some ⟨b, 0, none⟩), .int .i64 first, .int .i64 nb] w fun e w' => ∃ jb gb cb vr rvs sv', e = .returned (.tuple #[.pointer (some ⟨jb, 0, none⟩), .int .i64 0]) ∧
      JIs w' jb b first gb cb (List.replicate (nb * 32) 0) 0 vr [] rvs ∧ DiskIs w' b m1 m2 sv' D ∧
      Kept (foot b m1 m2 sv) w w' ∧ (∀ i, sv'.ownBlock = some i → sv.ownBlock = some i ∨ w.heap.size ≤ i) ∧ (∀ i, jfoot jb gb vr rvs i → w.heap.size ≤ i) ∧ ∀ i, jfoot jb gb vr rvs i → ¬ foot b m1 m2 sv' i := by
  have hr := rdb_zero D hz first nb
  obtain ⟨m, rfl⟩ : ∃ m, nb = m + 1 := ⟨nb - 1, by omega⟩
  have hl : (rdb D first (m + 1)).length = (m + 1) * 32 := by rw [hr, List.length_replicate]
  have hs := scan_zero (m * 32 + 31)
  rw [show m * 32 + 31 + 1 = (m + 1) * 32 by omega, ← hr] at hs
  have hla : Dk.lay (rdb D first (m + 1)) 0 (List.replicate ((rdb D first (m + 1)).length - 0) 0) = rdb D first (m + 1) := by rw [lay_all, hl, hr]
  refine (open_ok hD (fun n => by rw [hz n]; exact zeros_bytes 32) hn first (m + 1) h1 hfit [] _ hs (fun x hx => by cases hx) (by simp) 0 (Nat.zero_add _)).mono ?_
  rw [hla, zd_same]
  rintro e w' ⟨jb, gb, cb, vr, rvs, sv', rfl, k1, k2, k3⟩
  rw [hr] at k1
  exact ⟨jb, gb, cb, vr, rvs, sv', rfl, k1, k2, k3⟩
theorem fits_hi : Pl.fits [104, 105] := ⟨by decide, by decide⟩
set_option maxHeartbeats 2000000 in
set_option maxRecDepth 100000 in
theorem alive05 (w : World) : Calls Try.prog 24 #[] w fun e w' => e = .returned (.bool true) ∧ Below w.heap.size w w' := by
  go_enter Try.func24, Try.ntmps24
  go_wp2_with fail
  refine (new_calls 4 w (by omega) (by omega)).mono ?_
  rintro e w1 ⟨b, m1, m2, rfl, hb1, hft, hD⟩
  have hop := open_zero hD (fun n => rfl) (by simp) 1 2 (by omega) (by show (1 : Int) + (2 : Int) ≤ 4; omega)
  go_wp2_with fail
  refine hop.mono ?_
  rintro e w2 ⟨jb, gb, cb, vr, rvs, sv2, rfl, hJ, hD2, hK2, hsv2, hge, hap⟩
  clear hop
  have hbb : Below w.heap.size w w2 := hb1.trans (hK2.below hb1.size (fun i hi hf => by have := hft i hf; omega))
  obtain ⟨w3, hw3⟩ : ∃ w3, w2.alloc (.cells #[.int .u8 104, .int .u8 105] 5 (2, 3)) = w3 := ⟨_, rfl⟩
  obtain ⟨q, hq⟩ : ∃ q, w2.heap.size = q := ⟨_, rfl⟩
  have hb3 : Below w2.heap.size w2 w3 := by rw [← hw3]; exact (Below.refl _ _).alloc (Nat.le_refl _) _
  have hc3 : w3.heap[q]? = some (.cells [Value.int .u8 104, .int .u8 105].toArray 5 (2, 3)) := by rw [← hw3, ← hq]; exact heap_alloc_new _ _
  have hcv := Go.Lib.run_convert_bytes_const (P := Try.prog) w2 31 5 #[.int .u8 104, .int .u8 105] 2 2 Try.underlying31 Try.underlying5
  rw [hq] at hcv
  have hJ3 := hJ.kept (S := fun _ => False) (Kept.of_below hb3) (fun _ _ e => e)
  have hD3 := hD2.kept (S := fun _ => False) (Kept.of_below hb3) (fun _ _ e => e)
  have hB3 : Bytes w3 (some ⟨q, 0, none⟩) [104, 105] := fun _ => ⟨_, rfl, fun j x hj => cells_at hc3 j (.int .u8 x) (by
    match j, hj with
    | 0, hj => cases hj; rfl
    | 1, hj => cases hj; rfl)⟩
  have hap3 := append_ok hJ3 hD3 hap 2 (by simp) (by show (1 : Int) + (2 : Int) ≤ 4; omega) (by simp) (by simp) (some ⟨q, 0, none⟩) 2 [104, 105] (fun x hx => by
    rcases List.mem_cons.1 hx with rfl | hx
    · exact ⟨by decide, by decide⟩
    · rw [List.mem_singleton.1 hx]; exact ⟨by decide, by decide⟩) (Nat.le_refl _) hB3 (fun ad he => by
    cases he
    exact ⟨fun hj => by have := hJ.lt q hj; omega, fun hf => by have := hD2.lt q hf; omega⟩) fits_hi (by simp)
  have hl4 : (Dk.lay (List.replicate (2 * 32) 0) 0 (Pl.frame [104, 105])).length = 64 := by rw [lay_length _ _ _ (by rw [Pl.frame_length]; simp)]; simp
  obtain ⟨bs4, hbs4⟩ : ∃ bs4, Dk.lay (List.replicate (2 * 32) 0) 0 (Pl.frame [104, 105]) = bs4 := ⟨_, rfl⟩
  rw [hbs4] at hap3 hl4
  have hfar : ∀ i, (jfoot jb gb vr rvs i ∨ foot b m1 m2 sv2 i) → w.heap.size ≤ i := fun i hi => by
    have s1 := hb1.size
    rcases hi with hi | hi | hi | hi | hi
    · have := hge i hi; omega
    · exact hft i (.inl hi)
    · exact hft i (.inr (.inl hi))
    · exact hft i (.inr (.inr (.inl hi)))
    · rcases hsv2 i hi with h5 | h5
      · cases h5
      · omega
  have hbb3 : Below w.heap.size w w3 := hbb.trans (hb3.mono hbb.size)
  have HL4 := Sh.mk hl4
  clear hbs4 hl4 hJ hD2 hc3 hB3
  go_upto_region 7 with (fail)
  go_wp2_with fail
  (try rw [hw3])
  (try rw [hq])
  clear hw3 hq hcv
  refine hap3.mono ?_
  rintro e w4 ⟨sv4, vr4, rv4, rfl, hJ4, -, hK4, -, -, -, -⟩
  have hJ5 : JIs w4 jb b 1 gb cb bs4 9 vr4 [[104, 105]] (rvs ++ [rv4]) := hJ4
  have hrm : ∀ W, JIs W jb b 1 gb cb bs4 9 vr4 [[104, 105]] (rvs ++ [rv4]) → Calls Try.prog 26 #[.pointer (some ⟨jb, 0, none⟩)] W fun e w' => e = .returned (.int .i64 55) ∧ Below W.heap.size W w' := fun W h => by
    refine (room_ok h (by rw [HL4.out]; omega) (by rw [HL4.out]; omega)).mono ?_
    rw [HL4.out]
    rintro e w' ⟨rfl, k⟩
    exact ⟨rfl, k⟩
  have hb4 : Below w.heap.size w w4 := hbb3.trans (hK4.below hbb3.size (fun i hi hf => by have := hfar i hf; omega))
  clear hJ4 hap3
  go_wp2_with fail
  refine (hrm w4 hJ5).mono ?_
  rintro e w5 ⟨rfl, hb5⟩
  have hJ6 := hJ5.kept (S := fun _ => False) (Kept.of_below hb5) (fun _ _ e => e)
  go_wp2_with fail
  refine (records_ok hJ6 (by simp) (fun x hx => by rw [List.mem_singleton.1 hx]; simp)).mono ?_
  rintro e w6 ⟨v6, rvs6, rfl, hR6, hb6⟩
  obtain ⟨a6, c6, rfl⟩ := own_len hR6.row
  go_wp2_with fail
  go_ret
  exact ⟨rfl, (hb4.trans (hb5.mono hb4.size)).trans (hb6.mono (by have := hb4.size; have := hb5.size; omega))⟩
end Go.Proofs.Ytinhednmfldmbaa.Dk
