/- A region that draws its order: where two operations may come up. -/
import Derived.Test.YtglhhcgoppmipaaTake
namespace Go.Proofs.Ytglhhcgoppmipaa.Tk
open Go
section
variable {P : Program} {ops : Array Oper} {Q : Exit → Act → World → Prop} {fuel : Nat} {L : Array Bool} {a : Act} {w : World} {i : Nat} {oi : Oper}
theorem two {j : Nat} {oj : Oper} (Li Lj : Array Bool) (hi : ops[i]? = some oi) (hj : ops[j]? = some oj) (hr : Region.ready .any ops L = [i, j]) (hLi : L.setIfInBounds i true = Li) (hLj : L.setIfInBounds j true = Lj)
    (hwi : Region.wanted oi (yielded ops a.tmps) = true) (hwj : Region.wanted oj (yielded ops a.tmps) = true)
    (h1 : ∀ K : Act → World → Prop, (∀ a' w', Wy P ops Q fuel Li a' w' → K a' w') → Oper.wp P oi a w K Q)
    (h2 : ∀ K : Act → World → Prop, (∀ a' w', Wy P ops Q fuel Lj a' w' → K a' w') → Oper.wp P oj a w K Q) : Wy P ops Q (fuel + 1) L a w := by
  refine ⟨wpAny_all hr (by simp) fun k hk => ?_⟩
  have hk' : k = i ∨ k = j := by simpa using hk
  unfold wpOp
  rcases hk' with rfl | rfl
  · simp only [hi]
    rw [if_pos hwi]
    exact .inl (h1 _ fun a' w' h' => by rw [hLi]; exact h'.out)
  · simp only [hj]
    rw [if_pos hwj]
    exact .inl (h2 _ fun a' w' h' => by rw [hLj]; exact h'.out)
end
end Go.Proofs.Ytglhhcgoppmipaa.Tk
