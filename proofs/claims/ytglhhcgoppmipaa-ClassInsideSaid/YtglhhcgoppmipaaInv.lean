/- A region that draws its order, by an invariant: one proof for each operation, in whatever order they come up. -/
import Derived.Orders
import Derived.Laws.World
namespace Go.Proofs.Ytglhhcgoppmipaa.Inv
open Go

def falses : List Bool → Nat
  | [] => 0
  | b :: l => (if b then 0 else 1) + falses l
theorem falses_set : ∀ (l : List Bool) (i : Nat), l[i]? = some false → falses (l.set i true) + 1 = falses l
  | [], i, h => by simp at h
  | b :: l, 0, h => by
    have : b = false := by simpa using h
    subst this
    simp [falses]
    omega
  | b :: l, i + 1, h => by
    have := falses_set l i (by simpa using h)
    simp only [List.set, falses]
    omega
theorem falses_zero : ∀ (l : List Bool), falses l = 0 → ∀ i : Nat, l[i]? ≠ some false
  | [], _, i => by simp
  | b :: l, h, 0 => by
    cases b
    · simp [falses] at h
    · simp
  | b :: l, h, i + 1 => by
    have := falses_zero l (by simp only [falses] at h; omega) i
    simpa using this
theorem falses_rep (n : Nat) : falses (List.replicate n false) = n := by
  induction n with
  | zero => rfl
  | succ n ih => simp only [List.replicate, falses, ih]; simp; omega

theorem ready_false {md : Region.Mode} {ops : Array Oper} {L : Array Bool} {i : Nat} (h : i ∈ Region.ready md ops L) : L.toList[i]? = some false := by
  simp only [Region.ready, List.mem_filter, Bool.and_eq_true] at h
  have h1 := h.2.1
  rw [Array.getElem?_toList]
  rcases Nat.lt_or_ge i L.size with hl | hl
  · rw [Array.getElem?_eq_getElem hl]
    simp [Array.getD, hl] at h1
    rw [h1]
  · simp [Array.getD, Nat.not_lt.2 hl] at h1

section
variable {P : Program} {md : Region.Mode} {ops : Array Oper} {Q : Exit → Act → World → Prop}
theorem wpAny_inv (I : Array Bool → Act → World → Prop)
    (step : ∀ L a w, I L a w → ∀ i ∈ Region.ready md ops L, wpOp P ops Q i (I (L.setIfInBounds i true)) a w)
    (fin : ∀ L a w, I L a w → Region.ready md ops L = [] → Q .normal a w) :
    ∀ (n : Nat) (L : Array Bool) (a : Act) (w : World), falses L.toList ≤ n → I L a w → wpAny P md ops Q n L a w := by
  intro n
  induction n with
  | zero =>
    intro L a w hn hI
    have hr : Region.ready md ops L = [] := by
      apply List.eq_nil_iff_forall_not_mem.2
      intro i hi
      exact falses_zero _ (by omega) i (ready_false hi)
    exact ⟨hr, fin L a w hI hr⟩
  | succ n ih =>
    intro L a w hn hI
    refine ⟨fun hr => fin L a w hI hr, fun i hi => ?_⟩
    refine wpOp_mono (fun a' w' h => ih _ a' w' ?_ h) (step L a w hI i hi)
    have := falses_set L.toList i (ready_false hi)
    rw [Array.toList_setIfInBounds]
    omega
/-- THE LAW. -/
theorem region {id : Nat} {a : Act} {w : World} (hm : P.follows .mixedOrders = true) (I : Array Bool → Act → World → Prop)
    (h0 : I (Array.replicate ops.size false) a w.drew)
    (step : ∀ L a w, I L a w → ∀ i ∈ Region.ready .any ops L, wpOp P ops Q i (I (L.setIfInBounds i true)) a w)
    (fin : ∀ L a w, I L a w → Region.ready .any ops L = [] → Q .normal a w) : (Code.region id ops true).wp P Q a w :=
  wp_region_any hm (wpAny_inv I step fin _ _ _ _ (by rw [Array.toList_replicate, falses_rep]; exact Nat.le_refl _) h0)
theorem wpOp_of {i : Nat} {o : Oper} {K : Act → World → Prop} {a : Act} {w : World} (ho : ops[i]? = some o) (hg : o.guard = none) (h : o.wp P a w K Q) : wpOp P ops Q i K a w := by
  unfold wpOp
  simp only [ho]
  rw [if_pos (by simp [Region.wanted, hg])]
  exact .inl h
end
end Go.Proofs.Ytglhhcgoppmipaa.Inv
