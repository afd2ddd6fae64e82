/- The scripts' operations, read. -/
import Derived.Test.YtinhednmfldmbaaProg
import Derived.Test.YtinhednmfldmbaaRd
import Derived.WalkKit
namespace Go.Proofs.Ytinhednmfldmbaa.Rd
open Go Go.RowKit

/-- A slice of cells of one value each, read as a list. -/
def Row1 {α : Type} (w : World) (f : α → Value) (v : Value) (l : List α) : Prop := ∃ a cap, v = .slice a l.length cap ∧ (a = none → l = [] ∧ cap = 0) ∧ ∀ ad, a = some ad → l.length ≤ cap ∧ ∀ i x, l[i]? = some x → w.cell? (ad.add i) = some (f x)
theorem cells_one {w : World} {a : Addr} {es : List Value} (h : w.cells? 0 a 1 = some es) : ∃ v, es = [v] ∧ w.cell? a = some v := by
  unfold World.cells? at h
  split at h
  · simp only [List.range_succ, List.range_zero, List.nil_append, List.mapM_cons, List.mapM_nil, Option.bind_eq_bind, Option.bind_eq_some_iff] at h
    obtain ⟨v, hv, _, hx, hy⟩ := h
    simp at hx
    subst hx
    simp at hy
    refine ⟨v, hy.symm, ?_⟩
    rw [← hv]
    congr 1
  · cases h
theorem list_of {α : Type} {p : Nat → α → Prop} : ∀ (n : Nat), (∀ i, i < n → ∃ x, p i x) → ∃ l : List α, l.length = n ∧ ∀ i x, l[i]? = some x → p i x
  | 0, _ => ⟨[], rfl, by simp⟩
  | n + 1, h => by
    obtain ⟨l, hl, hp⟩ := list_of n (fun i hi => h i (by omega))
    obtain ⟨x, hx⟩ := h n (by omega)
    refine ⟨l ++ [x], by simp [hl], fun i y hy => ?_⟩
    rcases Nat.lt_trichotomy i n with h1 | h1 | h1
    · rw [List.getElem?_append_left (by omega)] at hy
      exact hp i y hy
    · subst h1
      rw [List.getElem?_append_right (by omega), hl, Nat.sub_self] at hy
      simp at hy
      subst hy
      exact hx
    · rw [List.getElem?_eq_none (by simp; omega)] at hy
      cases hy
theorem cells_bytes : Try.prog.cellsOf 5 = 1 := by kernel_rfl
theorem cells_bool : Try.prog.cellsOf 4 = 1 := by kernel_rfl
theorem bytes_u8 : Try.prog.bytesOf 5 = 1 := by kernel_rfl
theorem bytes_bool : Try.prog.bytesOf 4 = 1 := by kernel_rfl
theorem row_bytes {w : World} {cs : List Value} (h : Rd Try.prog w 31 cs) : ∃ v, cs = [v] ∧ ∃ l : List Int, Row1 w (Value.int .u8) v l ∧ l.length ≤ 140737488355328 ∧ ∀ x ∈ l, 0 ≤ x ∧ x ≤ 255 := by
  obtain ⟨a, len, cap, rfl, hh⟩ := rd_slice Try.underlying31 h
  refine ⟨_, rfl, ?_⟩
  rcases hh with ⟨rfl, rfl, rfl⟩ | ⟨ad, rfl, hlc, hcm, hby, hel⟩
  · exact ⟨[], ⟨none, 0, rfl, fun _ => ⟨rfl, rfl⟩, fun _ h => (by cases h)⟩, by simp, by simp⟩
  · rw [cells_bytes] at hel
    rw [bytes_u8] at hby
    obtain ⟨l, hl, hp⟩ := list_of (p := fun i (x : Int) => w.cell? (ad.add i) = some (.int .u8 x) ∧ (Lit.int .u8 x).wf = true) len (fun i hi => by
      obtain ⟨es, h1, h2⟩ := hel i (by omega)
      obtain ⟨v, rfl, hv⟩ := cells_one h1
      obtain ⟨n, hn, hw⟩ := rd_int Try.underlying5 h2
      simp at hn
      subst hn
      exact ⟨n, by rw [← hv, Nat.mul_one], hw⟩)
    refine ⟨l, ⟨some ad, cap, by rw [hl], fun h => (by cases h), fun ad' h => (by cases h; exact ⟨by omega, fun i x hx => (hp i x hx).1⟩)⟩, by omega, fun x hx => ?_⟩
    obtain ⟨i, hi⟩ := List.mem_iff_getElem?.1 hx
    have := (hp i x hi).2
    simp only [Lit.wf, IntKind.min, IntKind.max, IntKind.bits, IntKind.signed, Bool.and_eq_true] at this
    simpa using this
theorem row_bools {w : World} {cs : List Value} (h : Rd Try.prog w 32 cs) : ∃ v, cs = [v] ∧ ∃ l : List Bool, Row1 w Value.bool v l ∧ l.length ≤ 140737488355328 := by
  obtain ⟨a, len, cap, rfl, hh⟩ := rd_slice Try.underlying32 h
  refine ⟨_, rfl, ?_⟩
  rcases hh with ⟨rfl, rfl, rfl⟩ | ⟨ad, rfl, hlc, hcm, hby, hel⟩
  · exact ⟨[], ⟨none, 0, rfl, fun _ => ⟨rfl, rfl⟩, fun _ h => (by cases h)⟩, by simp⟩
  · rw [cells_bool] at hel
    rw [bytes_bool] at hby
    obtain ⟨l, hl, hp⟩ := list_of (p := fun i (x : Bool) => w.cell? (ad.add i) = some (.bool x)) len (fun i hi => by
      obtain ⟨es, h1, h2⟩ := hel i (by omega)
      obtain ⟨v, rfl, hv⟩ := cells_one h1
      obtain ⟨n, hn⟩ := rd_bool Try.underlying4 h2
      simp at hn
      subst hn
      exact ⟨n, by rw [← hv, Nat.mul_one]⟩)
    exact ⟨l, ⟨some ad, cap, by rw [hl], fun h => (by cases h), fun ad' h => (by cases h; exact ⟨by omega, fun i x hx => hp i x hx⟩)⟩, by omega⟩
/-- An operation of a script. -/
structure OpD where
  kind : Int
  n : Int
  b : List Int
  keep : List Bool
  torn : Int
structure OpD.Reads (w : World) (o : OpD) (cs : List Value) : Prop where
  is : ∃ vb vk, cs = [.int .i64 o.kind, .int .i64 o.n, vb, vk, .int .i64 o.torn] ∧ Row1 w (Value.int .u8) vb o.b ∧ Row1 w Value.bool vk o.keep
  len : o.b.length ≤ 140737488355328
  bytes : ∀ x ∈ o.b, 0 ≤ x ∧ x ≤ 255
  klen : o.keep.length ≤ 140737488355328
  wk : (Lit.int .i64 o.kind).wf = true
  wn : (Lit.int .i64 o.n).wf = true
  wt : (Lit.int .i64 o.torn).wf = true
theorem fields_op : ∃ fs, Try.prog.underlying 34 = some (.struct fs) ∧ (fs.toList.map fun f => (f.type, f.offset)) = [(3, 0), (3, 1), (31, 2), (32, 3), (3, 4)] := ⟨_, Try.underlying34, rfl⟩
theorem cells_op : Try.prog.cellsOf 34 = 5 := by kernel_rfl
theorem cells_of3 : Try.prog.cellsOf 3 = 1 ∧ Try.prog.cellsOf 31 = 1 ∧ Try.prog.cellsOf 32 = 1 := ⟨by kernel_rfl, by kernel_rfl, by kernel_rfl⟩
theorem rd_op {w : World} {cs : List Value} (h : Rd Try.prog w 34 cs) : ∃ o : OpD, o.Reads w cs := by
  obtain ⟨fs, hu, hfs⟩ := fields_op
  obtain ⟨hl, hf⟩ := rd_struct hu h
  rw [cells_op] at hl
  obtain ⟨k1, k2, k3⟩ := cells_of3
  have at_ : ∀ (i : Nat) (t o : Nat), (fs.toList.map fun f => (f.type, f.offset))[i]? = some (t, o) → Rd Try.prog w t ((cs.drop o).take (Try.prog.cellsOf t)) := fun i t o hi => by
    rw [List.getElem?_map] at hi
    obtain ⟨f, h1, h2⟩ := Option.map_eq_some_iff.1 hi
    cases h2
    exact hf i f h1
  rw [hfs] at at_
  have r0 := at_ 0 3 0 rfl
  have r1 := at_ 1 3 1 rfl
  have r2 := at_ 2 31 2 rfl
  have r3 := at_ 3 32 3 rfl
  have r4 := at_ 4 3 4 rfl
  rw [k1] at r0 r1 r4
  rw [k2] at r2
  rw [k3] at r3
  match cs, hl with
  | [c0, c1, c2, c3, c4], _ =>
    obtain ⟨x0, e0, w0⟩ := rd_int Try.underlying3 r0
    obtain ⟨x1, e1, w1⟩ := rd_int Try.underlying3 r1
    obtain ⟨v2, e2, l2, h2, g2, b2⟩ := row_bytes r2
    obtain ⟨v3, e3, l3, h3, g3⟩ := row_bools r3
    obtain ⟨x4, e4, w4⟩ := rd_int Try.underlying3 r4
    simp at e0 e1 e2 e3 e4
    subst e0 e1 e2 e3 e4
    exact ⟨⟨x0, x1, l2, l3, x4⟩, ⟨_, _, rfl, h2, h3⟩, g2, b2, g3, w0, w1, w4⟩
theorem arg_op {w : World} {v : Value} (h : Arg Try.prog w 34 v) : ∃ (o : OpD) (cs : List Value), v = .agg cs.toArray ∧ o.Reads w cs := by
  obtain ⟨fs, hu, hfs⟩ := fields_op
  obtain ⟨⟨b, ho⟩, hr⟩ := h
  obtain ⟨cs, rfl, _⟩ := Go.WideShapes.okWide_struct hu ho
  obtain ⟨o, h⟩ := rd_op hr
  exact ⟨o, cs.toList, by simp, h⟩
end Go.Proofs.Ytinhednmfldmbaa.Rd
