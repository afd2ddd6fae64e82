/- What the reference's loss of power keeps, as a function, and that it is what drain and keepOf keep. -/
import Derived.Test.YtinhednmfldmbaaRef7
namespace Go.Proofs.Ytinhednmfldmbaa.Dk
open Go Go.RowKit Hp Rd

/-- The last sync's place, 0 where there is none. -/
def lastOf (cs : List Wr) : Nat := cs.zipIdx.foldl (fun a x => if x.1.1 < 0 then x.2 else a) 0
def step2 (keep : List Bool) (last : Nat) (s : List Wr × Nat × Int) (x : Wr × Nat) : List Wr × Nat × Int :=
  if x.1.1 < 0 then s else if last ≤ x.2 then (if keep.getD s.2.1 false then (s.1 ++ [x.1], s.2.1 + 1, (s.1.length : Int)) else (s.1, s.2.1 + 1, s.2.2)) else (s.1 ++ [x.1], s.2.1, s.2.2)
def doneOf (keep : List Bool) (cs : List Wr) : List Wr × Nat × Int := cs.zipIdx.foldl (step2 keep (lastOf cs)) ([], 0, -1)
def writes (cs : List Wr) : List Wr := cs.filter fun c => decide (0 ≤ c.1)
theorem step2_pre (keep : List Bool) (last : Nat) : ∀ (l : List Wr) (k : Nat) (s : List Wr × Nat × Int), (∀ (i : Nat) (c : Wr), l[i]? = some c → 0 ≤ c.1 → k + i < last) → (l.zipIdx k).foldl (step2 keep last) s = (s.1 ++ writes l, s.2)
  | [], k, s, _ => by simp [writes]
  | c :: l, k, s, h => by
    rw [List.zipIdx_cons, List.foldl_cons, step2_pre keep last l (k + 1) _ (fun i c' hi h0 => by have := h (i + 1) c' (by simpa using hi) h0; omega)]
    by_cases h0 : c.1 < 0
    · have h1 : ¬ (0 ≤ c.1) := by omega
      simp [step2, h0, writes, h1]
    · have h1 : 0 ≤ c.1 := by omega
      have h2 := h 0 c rfl h1
      have h3 : ¬ (last ≤ k) := by omega
      simp [step2, h0, h3, writes, h1]
theorem step2_post (keep : List Bool) (last : Nat) : ∀ (l : List Wr) (k j : Nat) (d : List Wr) (t : Int), last ≤ k → (∀ c ∈ l, 0 ≤ c.1) → (l.zipIdx k).foldl (step2 keep last) (d, j, t) =
    (d ++ ((l.zipIdx j).filter fun x => keep.getD x.2 false).map (·.1), j + l.length, if ((l.zipIdx j).filter fun x => keep.getD x.2 false).isEmpty then t else ((d.length + ((l.zipIdx j).filter fun x => keep.getD x.2 false).length : Nat) : Int) - 1)
  | [], k, j, d, t, _, _ => by simp
  | c :: l, k, j, d, t, hk, h => by
    have h0 : ¬ (c.1 < 0) := by have := h c (List.mem_cons.2 (Or.inl rfl)); omega
    have hl := fun x hx => h x (List.mem_cons.2 (Or.inr hx))
    rw [List.zipIdx_cons, List.foldl_cons, List.zipIdx_cons, List.filter_cons]
    by_cases hkp : keep.getD j false = true
    · have hs : step2 keep last (d, j, t) (c, k) = (d ++ [c], j + 1, (d.length : Int)) := by
        unfold step2
        rw [if_neg h0, if_pos hk, if_pos hkp]
      rw [hs, step2_post keep last l (k + 1) (j + 1) _ _ (by omega) hl, if_pos hkp]
      refine Prod.ext ?_ (Prod.ext ?_ ?_)
      · simp
      · simp; omega
      · simp only [List.isEmpty_cons, List.length_cons, List.length_append, List.length_nil]
        by_cases he : ((l.zipIdx (j + 1)).filter fun x => keep.getD x.2 false).isEmpty = true
        · have : ((l.zipIdx (j + 1)).filter fun x => keep.getD x.2 false) = [] := List.isEmpty_iff.1 he
          rw [this]
          simp
        · rw [if_neg he]
          simp only [Bool.false_eq_true, if_false]
          omega
    · have hs : step2 keep last (d, j, t) (c, k) = (d, j + 1, t) := by
        unfold step2
        rw [if_neg h0, if_pos hk, if_neg hkp]
      rw [hs, step2_post keep last l (k + 1) (j + 1) _ _ (by omega) hl, if_neg hkp]
      refine Prod.ext rfl (Prod.ext ?_ rfl)
      simp; omega
theorem lastOf_snoc (cs : List Wr) (c : Wr) : lastOf (cs ++ [c]) = if c.1 < 0 then cs.length else lastOf cs := by
  unfold lastOf
  rw [List.zipIdx_append, List.foldl_append]
  simp
theorem writes_append (a b : List Wr) : writes (a ++ b) = writes a ++ writes b := by simp [writes]
theorem writes_all {a : List Wr} (h : ∀ c ∈ a, 0 ≤ c.1) : writes a = a := by
  unfold writes
  rw [List.filter_eq_self]
  intro c hc
  simpa using h c hc
theorem apply_append (M : BM) (a b : List Wr) : apply (apply M a) b = apply M (a ++ b) := by
  unfold apply
  rw [List.foldl_append]
/-- The calls, parted behind the last sync. -/
structure Parted (cs pre post : List Wr) : Prop where
  eq : cs = pre ++ post
  good : ∀ c ∈ post, 0 ≤ c.1
  drn : ∀ M, drain cs M = (apply M (writes pre), post)
  last : (pre = [] ∧ lastOf cs = 0) ∨ ∃ pre' c, pre = pre' ++ [c] ∧ c.1 < 0 ∧ lastOf cs = pre'.length
theorem parted : ∀ (n : Nat) (cs : List Wr), cs.length = n → (∀ c ∈ cs, c.1 < 0 → c.1 = -1) → ∃ pre post, Parted cs pre post
  | 0, cs, hl, _ => by
    obtain rfl : cs = [] := List.eq_nil_of_length_eq_zero hl
    exact ⟨[], [], rfl, by simp, fun M => rfl, .inl ⟨rfl, rfl⟩⟩
  | n + 1, cs, hl, h => by
    have hne : cs ≠ [] := fun e => by subst e; simp at hl
    obtain ⟨cs0, c, rfl⟩ : ∃ cs0 c, cs = cs0 ++ [c] := ⟨cs.dropLast, cs.getLast hne, (List.dropLast_concat_getLast hne).symm⟩
    obtain ⟨pre, post, hp⟩ := parted n cs0 (by simpa using hl) (fun x hx => h x (List.mem_append.2 (Or.inl hx)))
    by_cases hc : c.1 < 0
    · refine ⟨cs0 ++ [c], [], by simp, by simp, fun M => ?_, .inr ⟨cs0, c, rfl, hc, by rw [lastOf_snoc, if_pos hc]⟩⟩
      have h1 := h c (List.mem_append.2 (Or.inr (List.mem_singleton.2 rfl))) hc
      have h2 : writes [c] = [] := by
        have : ¬ (0 ≤ c.1) := by omega
        simp [writes, this]
      rw [drain_snoc, hp.drn M]
      simp only [step1, h1, if_true]
      rw [apply_append, writes_append, h2, List.append_nil, hp.eq, writes_append, writes_all hp.good]
    · refine ⟨pre, post ++ [c], by rw [hp.eq, List.append_assoc], fun x hx => ?_, fun M => ?_, ?_⟩
      · rcases List.mem_append.1 hx with hx | hx
        · exact hp.good x hx
        · rw [List.mem_singleton.1 hx]; omega
      · have h1 : ¬ (c.1 = -1) := by omega
        rw [drain_snoc, hp.drn M]
        simp only [step1, h1, if_false]
      · rw [lastOf_snoc, if_neg hc]
        exact hp.last
/-- What the reference keeps, and which of it is torn. -/
theorem doneOf_eq {cs pre post : List Wr} (h : Parted cs pre post) (keep : List Bool) : doneOf keep cs = (writes pre ++ keepOf keep post, post.length, if (keepOf keep post).isEmpty then -1 else (((writes pre).length + (keepOf keep post).length : Nat) : Int) - 1) := by
  unfold doneOf
  obtain ⟨L, hL⟩ : ∃ L, lastOf cs = L := ⟨_, rfl⟩
  rw [hL]
  have hlast := h.last
  rw [hL] at hlast
  rw [h.eq, List.zipIdx_append, List.foldl_append]
  have hpre : (pre.zipIdx).foldl (step2 keep L) ([], 0, -1) = (writes pre, 0, -1) := by
    have := step2_pre keep L pre 0 ([], 0, -1) (fun i c hi h0 => by
      rcases hlast with ⟨rfl, _⟩ | ⟨pre', c', rfl, hc', hl⟩
      · simp at hi
      · rcases Nat.lt_or_ge i pre'.length with h5 | h5
        · omega
        · rw [List.getElem?_append_right h5] at hi
          have h6 := (List.getElem?_eq_some_iff.1 hi).1
          have h7 : i - pre'.length = 0 := by simp at h6; omega
          rw [h7] at hi
          obtain rfl : c' = c := by simpa using hi
          omega)
    simpa using this
  rw [hpre, Nat.zero_add]
  have hle : L ≤ pre.length := by
    rcases hlast with ⟨rfl, hl⟩ | ⟨pre', c', rfl, _, hl⟩
    · omega
    · simp; omega
  rw [step2_post keep L post pre.length 0 (writes pre) (-1) hle h.good]
  unfold keepOf
  obtain ⟨K, hK⟩ : ∃ K, (post.zipIdx.filter fun x => keep.getD x.2 false) = K := ⟨_, rfl⟩
  rw [hK]
  cases K <;> simp
end Go.Proofs.Ytinhednmfldmbaa.Dk
