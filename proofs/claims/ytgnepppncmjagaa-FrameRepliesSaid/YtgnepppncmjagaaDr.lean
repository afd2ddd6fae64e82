/- Steps of a region that draws, one operation ready. -/
import Derived.Test.YtgnepppncmjagaaWLast
namespace Go.Proofs.YtgnepppncmjagaaW.PrintWords
open Go Go.RowKit Go.Proofs.YtgnepppncmjagaaW.PrintLast
section
variable {P : Program} {md : Region.Mode} {ops : Array Oper} {Q : Exit → Act → World → Prop} {S : World → Prop} {ds : List Nat}
theorem one_val {i : Nat} {N : Option Tmp} {oi : Oper} {fuel : Nat} {l : Array Bool} {a a' : Act} {w w' : World} {v : Value} (l' : Array Bool) (hi : ops[i]? = some oi) (hN : oi.dst = N) (hc : readyB md ops l l' i = true) (hd : i ∉ ds)
    (hw : Region.wanted oi (yielded ops a.tmps) = true) (hr : (execOp a.eval oi).run P w = .ok (.value v) w') (hS : S w') (ha : a.put N v = a')
    (h : wpAnyLast P md ops Q S ds fuel l' a' w') : wpAnyLast P md ops Q S ds (fuel + 1) l a w := by
  refine one_ l' hi hN hc hd fun K hK => ?_
  rw [if_pos hw]
  unfold Oper.wp
  rw [hr]
  subst hN
  subst ha
  exact hK.out _ _ hS (fun _ => h)
theorem one_call {i : Nat} {N : Option Tmp} {oi : Oper} {fuel : Nat} {l : Array Bool} {a : Act} {w : World} (f : FuncId) (args : Array Value) (l' : Array Bool) (hi : ops[i]? = some oi) (hN : oi.dst = N) (hc : readyB md ops l l' i = true) (hd : i ∉ ds)
    (hw : Region.wanted oi (yielded ops a.tmps) = true) (hr : (execOp a.eval oi).run P w = .ok (.enter f args) w)
    (h : Calls P f args w fun e w' => ∃ v, e = .returned v ∧ S w' ∧ wpAnyLast P md ops Q S ds fuel l' (a.put N v) w') : wpAnyLast P md ops Q S ds (fuel + 1) l a w := by
  refine one_ l' hi hN hc hd fun K hK => ?_
  refine call_ f args hw hN hr (h.mono ?_)
  rintro e w' ⟨v, rfl, hS, hh⟩
  exact ⟨v, rfl, hK.out _ _ hS (fun _ => hh)⟩
theorem last_skip {i : Nat} {oi : Oper} {fuel : Nat} {l : Array Bool} {a : Act} {w w' : World} (l' : Array Bool) (hi : ops[i]? = some oi) (hN : oi.dst = none) (hc : readyB md ops l l' i = true) (hd : i ∈ ds)
    (hw : Region.wanted oi (yielded ops a.tmps) = true) (hr : (execOp a.eval oi).run P w = .ok .skip w')
    (h : wpAnyLast P md ops Q S ds fuel l' a w') : wpAnyLast P md ops Q S ds (fuel + 1) l a w := by
  refine last_ l' hi hN hc hd fun K hK => ?_
  rw [if_pos hw]
  unfold Oper.wp
  rw [hr]
  have : a.put oi.dst undef = a := by rw [hN]; rfl
  show K (a.put oi.dst undef) w'
  rw [this]
  exact hK.out _ _ h
end
end Go.Proofs.YtgnepppncmjagaaW.PrintWords
