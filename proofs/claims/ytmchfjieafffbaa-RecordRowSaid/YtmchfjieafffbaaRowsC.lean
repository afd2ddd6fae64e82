/- An argument that is a slice of slices of integers, as the contracts read it. -/
import Derived.Test.YtmchfjieafffbaaWMore
import Derived.Deep.Matrix
namespace Go.Proofs.Ytmchfjieafffbaa.Mem
open Go.RowKit Go.Proofs.YtmchfjieafffbaaW.PrintWords

theorem C_of_fn {α : Type} {d : Kd α} {w : World} {a : Option Addr} {n : Nat} (f : Nat → α) (hn : n ≤ 9223372036854775807) (h : 0 < n → ∃ ad, a = some ad ∧ ∀ j, j < n → ∃ c, c.length = d.sz ∧ d.K w (f j) c ∧ ∀ i u, c[i]? = some u → w.cell? (ad.add (j * d.sz + i)) = some u) :
    Kd.C d w a ((List.range n).map f).length ((List.range n).map f) := by
  have hl : ((List.range n).map f).length = n := by simp
  refine ⟨rfl, by rw [hl]; exact hn, fun h0 => ?_⟩
  obtain ⟨ad, e, hc⟩ := h (by rwa [hl] at h0)
  refine ⟨ad, e, fun j p hj => ?_⟩
  have hjl : j < n := by
    have := (List.getElem?_eq_some_iff.1 hj).1
    rwa [hl] at this
  have hp : f j = p := by
    rw [List.getElem?_map, List.getElem?_range hjl] at hj
    simpa using hj
  rw [← hp]
  exact hc j hjl

theorem rows_C {H : Type} {enc : TypeId × Value → H} {P : Program} {w : World} {base : Nat} {held : Bool} {t e q : TypeId} {k : IntKind} {a0 : Option Addr} {len0 cap0 fuel : Nat} {x : DataW H × List MemPlace}
    (ht : P.underlying t = some (.slice e)) (he : P.underlying e = some (.slice q)) (hq : P.underlying q = some (.int k)) (ce : P.cellsOf e = 1) (cq : P.cellsOf q = 1)
    (h : DataW.trod enc P w base (fun _ => true) held fuel t [.slice a0 len0 cap0] = some x) :
    ∃ xs : List (List Int), len0 = xs.length ∧ Kd.C (Kd.slice q (Kd.int k)) w a0 xs.length xs ∧ xs.length ≤ cap0 ∧ xs.length ≤ maxLen ∧ ∀ y ∈ xs, y.length ≤ maxLen ∧ ∀ n ∈ y, (Lit.int k n).wf = true := by
  rcases Go.Deep.open_int_rows ht he hq ce cq h with ⟨hcs, _⟩ | ⟨a, len, cap, A, L, C, Z, hcs, _, hl, hm, _, hx⟩
  · simp only [List.cons.injEq, Value.slice.injEq, and_true] at hcs
    obtain ⟨rfl, rfl, rfl⟩ := hcs
    exact ⟨[], rfl, Kd.C_nil _ _, Nat.le_refl _, Nat.zero_le _, fun y hy => by cases hy⟩
  · simp only [List.cons.injEq, Value.slice.injEq, and_true] at hcs
    obtain ⟨rfl, rfl, rfl⟩ := hcs
    have row : ∀ r, r < cap0 → ∃ l : List Int, L r = l.length ∧ ReadsInt w k (A r) l.length l ∧ l.length ≤ maxLen ∧ (∀ x ∈ l, (Lit.int k x).wf = true) ∧ l.length ≤ C r := fun r hr => by
      obtain ⟨_, h1, h2, h3, h4, h5, h6⟩ := hx r hr
      refine ReadsInt.ofRowC (zs := Z r) ?_
      cases hA : A r with
      | none =>
        have h0 := h5 hA
        refine .inl ⟨rfl, by omega, h0, List.eq_nil_of_length_eq_zero (by omega)⟩
      | some a' => exact .inr ⟨a', rfl, h1, h2, h3, fun i hi => (h6 a' hA).2 i (by omega), h4⟩
    obtain ⟨f, hf⟩ : ∃ f : Nat → List Int, ∀ r, r < cap0 → L r = (f r).length ∧ ReadsInt w k (A r) (f r).length (f r) ∧ (f r).length ≤ maxLen ∧ (∀ x ∈ f r, (Lit.int k x).wf = true) ∧ (f r).length ≤ C r := by
      refine ⟨fun r => if hr : r < cap0 then Classical.choose (row r hr) else [], fun r hr => ?_⟩
      simp only [dif_pos hr]
      exact Classical.choose_spec (row r hr)
    refine ⟨(List.range len0).map f, by simp, C_of_fn f (Nat.le_trans hl (Nat.le_trans hm (by decide))) (fun _ => ⟨a, rfl, fun j hj => ?_⟩), by simpa using hl, by simpa using Nat.le_trans hl hm, fun y hy => ?_⟩
    · obtain ⟨e1, e2, _, _, e5⟩ := hf j (by omega)
      refine ⟨[.slice (A j) (f j).length (C j)], rfl, ⟨A j, C j, rfl, e5, Kd.C_of_reads (d := (0 : Int)) (h1 := fun _ => rfl) e2⟩, fun i u hu => ?_⟩
      have hi : i = 0 := by
        cases i with
        | zero => rfl
        | succ i => simp at hu
      subst hi
      have hu' : Value.slice (A j) (f j).length (C j) = u := by simpa using hu
      rw [← hu', ← e1, show j * (Kd.slice q (Kd.int k)).sz + 0 = j by show j * 1 + 0 = j; omega]
      exact (hx j (by omega)).1
    · obtain ⟨r, hr, rfl⟩ := List.mem_map.1 hy
      have hr' := List.mem_range.1 hr
      obtain ⟨_, _, e3, e4, _⟩ := hf r (by omega)
      exact ⟨e3, e4⟩
end Go.Proofs.Ytmchfjieafffbaa.Mem
