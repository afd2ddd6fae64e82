/- Readers of this chapter's arguments; the contracts in one form. -/
import Derived.Test.YtgnepppncmjagaaFr1
namespace Go.Proofs.Ytgnepppncmjagaa.Fr
open Go Go.RowKit Hp Rd Go.Proofs.YtgnepppncmjagaaW.PrintWords Go.Proofs.Ytgnepppncmjagaa.Print
theorem cells_one {w : World} {a : Addr} {es : List Value} (h : w.cells? 0 a 1 = some es) : ∃ v, es = [v] ∧ w.cell? a = some v := by
  unfold World.cells? at h
  split at h
  · simp only [List.range_succ, List.range_zero, List.nil_append, List.mapM_cons, List.mapM_nil, Option.bind_eq_bind, Option.bind_eq_some_iff] at h
    obtain ⟨v, hv, _, hx, hy⟩ := h
    simp at hx
    subst hx
    simp at hy
    refine ⟨v, hy.symm, ?_⟩
    rw [← hv]
    congr 1
  · cases h
theorem list_of {α : Type} {p : Nat → α → Prop} : ∀ (n : Nat), (∀ i, i < n → ∃ x, p i x) → ∃ l : List α, l.length = n ∧ ∀ i x, l[i]? = some x → p i x
  | 0, _ => ⟨[], rfl, by simp⟩
  | n + 1, h => by
    obtain ⟨l, hl, hp⟩ := list_of n (fun i hi => h i (by omega))
    obtain ⟨x, hx⟩ := h n (by omega)
    refine ⟨l ++ [x], by simp [hl], fun i y hy => ?_⟩
    rcases Nat.lt_trichotomy i n with h1 | h1 | h1
    · rw [List.getElem?_append_left (by omega)] at hy
      exact hp i y hy
    · subst h1
      rw [List.getElem?_append_right (by omega), hl, Nat.sub_self] at hy
      simp at hy
      subst hy
      exact hx
    · rw [List.getElem?_eq_none (by simp; omega)] at hy
      cases hy
theorem cells_bytes : Try.prog.cellsOf 5 = 1 := by kernel_rfl
theorem bytes_u8 : Try.prog.bytesOf 5 = 1 := by kernel_rfl
theorem cells_str : Try.prog.cellsOf 9 = 1 := by kernel_rfl
theorem bytes_str : Try.prog.bytesOf 9 = 16 := by kernel_rfl
theorem cell_lt {w : World} {a : Addr} {v : Value} (h : w.cell? a = some v) : a.block < w.heap.size := by
  unfold World.cell? at h
  cases ho : w.heap[a.block]? with
  | none => rw [ho] at h; cases h
  | some o => exact lt_of_heap ho
theorem rd_bytes {w : World} {cs : List Value} (h : Rd Try.prog w 22 cs) : ∃ A l c, cs = [.slice A l.length c] ∧ l.length ≤ c ∧ Bytes w A l ∧ (∀ x ∈ l, 0 ≤ x ∧ x ≤ 255) ∧ (0 < l.length → ∀ ad, A = some ad → ad.block < w.heap.size) ∧ l.length ≤ 140737488351232 := by
  obtain ⟨a, len, cap, rfl, hh⟩ := rd_slice Try.underlying22 h
  rcases hh with ⟨rfl, rfl, rfl⟩ | ⟨ad, rfl, hlc, hcm, hby, hel⟩
  · exact ⟨none, [], 0, rfl, Nat.le_refl _, Bytes.nil _ _, by simp, fun h => absurd h (by simp), by simp⟩
  · rw [cells_bytes] at hel
    rw [bytes_u8] at hby
    obtain ⟨l, hl, hp⟩ := list_of (p := fun i (x : Int) => w.cell? (ad.add i) = some (.int .u8 x) ∧ (Lit.int .u8 x).wf = true) len (fun i hi => by
      obtain ⟨es, h1, h2⟩ := hel i (by omega)
      obtain ⟨v, rfl, hv⟩ := cells_one h1
      obtain ⟨n, hn, hw⟩ := rd_int Try.underlying5 h2
      simp at hn
      subst hn
      exact ⟨n, by rw [← hv, Nat.mul_one], hw⟩)
    subst hl
    refine ⟨some ad, l, cap, rfl, hlc, fun _ => ⟨ad, rfl, fun j x hj => (hp j x hj).1⟩, fun x hx => ?_, fun h0 ad' e => ?_, by omega⟩
    · obtain ⟨i, hi⟩ := List.mem_iff_getElem?.1 hx
      have := (hp i x hi).2
      simp only [Lit.wf, IntKind.min, IntKind.max, IntKind.bits, IntKind.signed, Bool.and_eq_true] at this
      simpa using this
    · cases e
      have h1 := (hp 0 l[0] (List.getElem?_eq_getElem h0)).1
      exact cell_lt h1
theorem strs_C {w : World} {A : Option Addr} {l : List ByteArray} (h : 0 < l.length → ∃ ad, A = some ad ∧ ∀ (j : Nat) (x : ByteArray), l[j]? = some x → w.cell? (ad.add j) = some (.string x)) (hl : l.length ≤ 9223372036854775807) : Kd.C Kd.string w A l.length l :=
  ⟨rfl, hl, fun h0 => by
    obtain ⟨ad, e, hc⟩ := h h0
    refine ⟨ad, e, fun j p hj => ⟨[.string p], rfl, rfl, fun i u hu => ?_⟩⟩
    cases i with
    | zero =>
      simp at hu
      subst hu
      show w.cell? (ad.add (j * 1 + 0)) = _
      rw [Nat.mul_one, Nat.add_zero]
      exact hc j p hj
    | succ i => simp at hu⟩
theorem rd_strs {w : World} {cs : List Value} (h : Rd Try.prog w 34 cs) : ∃ A l c, cs = [.slice A l.length c] ∧ l.length ≤ c ∧ Kd.C Kd.string w A l.length l := by
  obtain ⟨a, len, cap, rfl, hh⟩ := rd_slice Try.underlying34 h
  rcases hh with ⟨rfl, rfl, rfl⟩ | ⟨ad, rfl, hlc, hcm, hby, hel⟩
  · exact ⟨none, [], 0, rfl, Nat.le_refl _, strs_C (fun h => absurd h (by simp)) (by simp)⟩
  · rw [cells_str] at hel
    obtain ⟨l, hl, hp⟩ := list_of (p := fun i (x : ByteArray) => w.cell? (ad.add i) = some (.string x)) len (fun i hi => by
      obtain ⟨es, h1, h2⟩ := hel i (by omega)
      obtain ⟨v, rfl, hv⟩ := cells_one h1
      obtain ⟨n, hn, -⟩ := rd_string Try.underlying9 h2
      simp at hn
      subst hn
      exact ⟨n, by rw [← hv, Nat.mul_one]⟩)
    subst hl
    exact ⟨some ad, l, cap, rfl, hlc, strs_C (fun _ => ⟨ad, rfl, hp⟩) (by unfold maxLen at hcm; omega)⟩
set_option maxRecDepth 100000 in
theorem fields_req : ∃ fs, Try.prog.underlying 36 = some (.struct fs) ∧ fs.toList.map (fun f => (f.offset, f.type)) = [(0, 3), (1, 9), (2, 4), (3, 4), (4, 4), (5, 34)] := ⟨_, Try.underlying36, by kernel_rfl⟩
theorem fields_frame : ∃ fs, Try.prog.underlying 37 = some (.struct fs) ∧ fs.toList.map (fun f => (f.offset, f.type)) = [(0, 3), (1, 3), (2, 22)] := ⟨_, Try.underlying37, by kernel_rfl⟩
theorem sz_req : Try.prog.cellsOf 36 = 6 ∧ Try.prog.cellsOf 3 = 1 ∧ Try.prog.cellsOf 9 = 1 ∧ Try.prog.cellsOf 4 = 1 ∧ Try.prog.cellsOf 34 = 1 ∧ Try.prog.cellsOf 37 = 3 ∧ Try.prog.cellsOf 22 = 1 := by
  refine ⟨?_, ?_, ?_, ?_, ?_, ?_, ?_⟩ <;> kernel_rfl
theorem field_at {fs : Array Field} {m : List (Nat × TypeId)} (h : fs.toList.map (fun f => (f.offset, f.type)) = m) {i o t : Nat} (hi : m[i]? = some (o, t)) : ∃ f, fs.toList[i]? = some f ∧ f.offset = o ∧ f.type = t := by
  rw [← h, List.getElem?_map] at hi
  cases hf : fs.toList[i]? with
  | none => rw [hf] at hi; cases hi
  | some f =>
    rw [hf] at hi
    simp at hi
    exact ⟨f, rfl, hi.1, hi.2⟩
theorem arg_req {w : World} {v : Value} (h : Arg Try.prog w 36 v) : ∃ id s q x i A l c, v = .agg #[.int .i64 id, .string s, .bool q, .bool x, .bool i, .slice A l.length c] ∧ l.length ≤ c ∧ Kd.C Kd.string w A l.length l := by
  obtain ⟨fs, hu, hm⟩ := fields_req
  obtain ⟨z0, z1, z2, z3, z4, -, -⟩ := sz_req
  obtain ⟨cs, rfl, hl, hr⟩ := arg_struct hu h
  rw [z0] at hl
  obtain ⟨v0, v1, v2, v3, v4, v5, hcs⟩ : ∃ v0 v1 v2 v3 v4 v5, cs.toList = [v0, v1, v2, v3, v4, v5] := by
    match cs.toList, hl with
    | [v0, v1, v2, v3, v4, v5], _ => exact ⟨_, _, _, _, _, _, rfl⟩
  have hcs' : cs = #[v0, v1, v2, v3, v4, v5] := by rw [← Array.toArray_toList (xs := cs), hcs]
  subst hcs'
  have get : ∀ i o t, ([(0, 3), (1, 9), (2, 4), (3, 4), (4, 4), (5, 34)] : List (Nat × TypeId))[i]? = some (o, t) → Rd Try.prog w t (([v0, v1, v2, v3, v4, v5].drop o).take (Try.prog.cellsOf t)) := fun i o t hi => by
    obtain ⟨f, hf, ho, ht⟩ := field_at hm hi
    have := hr i f hf
    rw [ho, ht] at this
    exact this
  have g0 := get 0 _ _ rfl
  have g1 := get 1 _ _ rfl
  have g2 := get 2 _ _ rfl
  have g3 := get 3 _ _ rfl
  have g4 := get 4 _ _ rfl
  have g5 := get 5 _ _ rfl
  rw [z1] at g0
  rw [z2] at g1
  rw [z3] at g2 g3 g4
  rw [z4] at g5
  obtain ⟨id, h0, -⟩ := rd_int Try.underlying3 g0
  obtain ⟨s, h1, -⟩ := rd_string Try.underlying9 g1
  obtain ⟨q, h2⟩ := rd_bool Try.underlying4 g2
  obtain ⟨x, h3⟩ := rd_bool Try.underlying4 g3
  obtain ⟨i, h4⟩ := rd_bool Try.underlying4 g4
  obtain ⟨A, l, c, h5, hc, hC⟩ := rd_strs g5
  simp at h0 h1 h2 h3 h4 h5
  subst h0 h1 h2 h3 h4 h5
  exact ⟨_, _, _, _, _, _, _, _, rfl, hc, hC⟩
theorem arg_frame {w : World} {v : Value} (h : Arg Try.prog w 37 v) : ∃ id k A l c, v = .agg #[.int .i64 id, .int .i64 k, .slice A l.length c] ∧ l.length ≤ c ∧ Bytes w A l ∧ (∀ x ∈ l, 0 ≤ x ∧ x ≤ 255) ∧ (0 < l.length → ∀ ad, A = some ad → ad.block < w.heap.size) := by
  obtain ⟨fs, hu, hm⟩ := fields_frame
  obtain ⟨-, z1, -, -, -, z5, z6⟩ := sz_req
  obtain ⟨cs, rfl, hl, hr⟩ := arg_struct hu h
  rw [z5] at hl
  obtain ⟨v0, v1, v2, hcs⟩ : ∃ v0 v1 v2, cs.toList = [v0, v1, v2] := by
    match cs.toList, hl with
    | [v0, v1, v2], _ => exact ⟨_, _, _, rfl⟩
  have hcs' : cs = #[v0, v1, v2] := by rw [← Array.toArray_toList (xs := cs), hcs]
  subst hcs'
  have get : ∀ i o t, ([(0, 3), (1, 3), (2, 22)] : List (Nat × TypeId))[i]? = some (o, t) → Rd Try.prog w t (([v0, v1, v2].drop o).take (Try.prog.cellsOf t)) := fun i o t hi => by
    obtain ⟨f, hf, ho, ht⟩ := field_at hm hi
    have := hr i f hf
    rw [ho, ht] at this
    exact this
  have g0 := get 0 _ _ rfl
  have g1 := get 1 _ _ rfl
  have g2 := get 2 _ _ rfl
  rw [z1] at g0 g1
  rw [z6] at g2
  obtain ⟨id, h0, -⟩ := rd_int Try.underlying3 g0
  obtain ⟨k, h1, -⟩ := rd_int Try.underlying3 g1
  obtain ⟨A, l, c, h2, hc, hB, hb, hA, -⟩ := rd_bytes g2
  simp at h0 h1 h2
  subst h0 h1 h2
  exact ⟨_, _, _, _, _, rfl, hc, hB, hb, hA⟩
end Go.Proofs.Ytgnepppncmjagaa.Fr
