/- A region that draws its order, whose operations read and whose callees leave what stands as it was: walked once, in the order of the text, in a class of worlds. -/
import Derived.Deep.Quiet
import Derived.Below
namespace Go.Proofs.Ytglhhcgoppmipaa.Qu
open Go Go.RowKit

/-- wpQuiet, shut: nothing looks into it. -/
structure Wq (P : Program) (ops : Array Oper) (C : World → Prop) (Q : Act → Prop) (l : List Oper) (a : Act) : Prop where
  out : wpQuiet P ops C Q l a
section
variable {P : Program} {ops : Array Oper} {C : World → Prop} {Q : Act → Prop} {o : Oper} {rest : List Oper} {a : Act}
theorem step_skip (hw : Region.wanted o (yielded ops a.tmps) = false) (hk : Wq P ops C Q rest (a.put o.dst undef)) : Wq P ops C Q (o :: rest) a := by
  constructor
  unfold wpQuiet
  rw [if_neg (by rw [hw]; decide)]
  exact hk.out
theorem step_run {v : Value} (hw : Region.wanted o (yielded ops a.tmps) = true) (h : ∀ w, C w → (execOp a.eval o).run P w = .ok (.value v) w) (hk : Wq P ops C Q rest (a.put o.dst v)) : Wq P ops C Q (o :: rest) a := by
  constructor
  unfold wpQuiet
  rw [if_pos hw]
  exact ⟨v, fun w hw => by unfold Oper.quietAt; rw [h w hw]; exact ⟨rfl, rfl⟩, hk.out⟩
theorem step_call {v : Value} {f : FuncId} {args : Array Value} (hw : Region.wanted o (yielded ops a.tmps) = true) (h : ∀ w, C w → (execOp a.eval o).run P w = .ok (.enter f args) w) (hc : ∀ w, C w → Calls P f args w fun e w' => e = .returned v ∧ C w')
    (hk : Wq P ops C Q rest (a.put o.dst v)) : Wq P ops C Q (o :: rest) a := by
  constructor
  unfold wpQuiet
  rw [if_pos hw]
  exact ⟨v, fun w hw => by unfold Oper.quietAt; rw [h w hw]; exact ⟨rfl, hc w hw⟩, hk.out⟩
theorem done (h : Q a) : Wq P ops C Q [] a := ⟨wpQuiet_nil h⟩
theorem region {id : Nat} {Q : Exit → Act → World → Prop} {a : Act} {w : World} {l : List Oper} (hm : P.follows .mixedOrders = true) (hB : Region.lexB .any l.toArray = true)
    (h : Wq P l.toArray (fun w' => Below w.heap.size w w') (fun a' => ∀ w', Below w.heap.size w w' → Q .normal a' w') l a) : (Code.region id l.toArray true).wp P Q a w :=
  wp_region_quiet (C := fun w' => Below w.heap.size w w') hm hB (Below.refl _ _).drew (by simpa using h.out)
end
end Go.Proofs.Ytglhhcgoppmipaa.Qu
