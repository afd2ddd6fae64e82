/- A region that draws its order, its pure operations taken first, the others one behind the other. -/
import Derived.Orders
import Derived.Laws.World
namespace Go.Proofs.Ytglhhcgoppmipaa.Tk
open Go

/-- wpAny, shut: nothing looks into it. -/
structure Wy (P : Program) (ops : Array Oper) (Q : Exit → Act → World → Prop) (fuel : Nat) (L : Array Bool) (a : Act) (w : World) : Prop where
  out : wpAny P .any ops Q fuel L a w
section
variable {P : Program} {ops : Array Oper} {Q : Exit → Act → World → Prop} {fuel : Nat} {L : Array Bool} {a : Act} {w : World} {i : Nat} {oi : Oper}
theorem take {v : Value} (L' : Array Bool) (hi : ops[i]? = some oi) (hs : Region.noSelect ops = true) (hf : Region.free .any ops L i = true) (hr : (Region.ready .any ops L).contains i = true) (hL : L.setIfInBounds i true = L')
    (hQ : ∀ c a w, Q (.panic c) (a.put oi.dst v) w → Q (.panic c) a w) (hw : Region.wanted oi (yielded ops a.tmps) = true) (hy : ∀ w, (execOp a.eval oi).run P w = .ok (.value v) w)
    (h : Wy P ops Q fuel L' (a.put oi.dst v) w) : Wy P ops Q (fuel + 1) L a w :=
  ⟨wpAny_take hi hs hf hr hQ (.inl ⟨hw, hy⟩) (by rw [hL]; exact h.out)⟩
theorem one (L' : Array Bool) (hi : ops[i]? = some oi) (hr : Region.ready .any ops L = [i]) (hL : L.setIfInBounds i true = L') (hw : Region.wanted oi (yielded ops a.tmps) = true)
    (h : ∀ K : Act → World → Prop, (∀ a' w', Wy P ops Q fuel L' a' w' → K a' w') → Oper.wp P oi a w K Q) : Wy P ops Q (fuel + 1) L a w := by
  refine ⟨wpAny_all hr (by simp) fun j hj => ?_⟩
  obtain rfl : j = i := by simpa using hj
  unfold wpOp
  simp only [hi]
  rw [if_pos hw]
  exact .inl (h _ fun a' w' h' => by rw [hL]; exact h'.out)
theorem done (hr : Region.ready .any ops L = []) (h : Q .normal a w) : Wy P ops Q fuel L a w := ⟨wpAny_done hr h _⟩
theorem start {id : Nat} (L0 : Array Bool) (n : Nat) (hm : P.follows .mixedOrders = true) (hn : ops.size = n) (hL : Array.replicate n false = L0) (h : Wy P ops Q n L0 a w.drew) : (Code.region id ops true).wp P Q a w :=
  wp_region_any hm (by rw [hn, hL]; exact h.out)
end
end Go.Proofs.Ytglhhcgoppmipaa.Tk
