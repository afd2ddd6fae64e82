/- Scopes with labels: where a goto leads is told without an invariant (GoTo); a label that is jumped back to is a loop with one. -/
import Derived.Scope
namespace Go.Proofs.Ytnemnhfdjofckaa.Goto
open Go
/-- As Q; by a goto to label l: J l. -/
def Jumps (J : Nat → Act → World → Prop) (Q : Exit → Act → World → Prop) : Exit → Act → World → Prop
  | .goto l, a, w => J l a w
  | e, a, w => Q e a w
/-- From the place behind label l of scope c the run leaves the scope as Q says, or it comes to a place behind a label at which B holds. -/
def GoTo (P : Program) (c : Code) (Q : Exit → Act → World → Prop) (B : Nat → Act → World → Prop) (l : Nat) (a : Act) (w : World) : Prop :=
  ∃ rest, findLabel c l = some rest ∧ ∀ (b : Frame) (k : List Item) (cs : List Frame),
    (∃ e a' w', Q e a' w' ∧ Arrives P (lone (b.at a (.code rest :: .inScope c :: k)) cs w) b k cs e a' w') ∨
    (∃ l' rest' a' w', B l' a' w' ∧ findLabel c l' = some rest' ∧ Steps P (lone (b.at a (.code rest :: .inScope c :: k)) cs w) (lone (b.at a' (.code rest' :: .inScope c :: k)) cs w'))
section
variable {P : Program} {a : Act} {w : World} {Q : Exit → Act → World → Prop} {J B B' : Nat → Act → World → Prop} {c : Code}
theorem Jumps_normal : Jumps J Q .normal a w = Q .normal a w := rfl
theorem Jumps_exit (id : Nat) : Jumps J Q (.exit id) a w = Q (.exit id) a w := rfl
theorem Jumps_ret : Jumps J Q .ret a w = Q .ret a w := rfl
theorem Jumps_panic (ch : List PanicEntry) : Jumps J Q (.panic ch) a w = Q (.panic ch) a w := rfl
theorem Jumps_outgrown : Jumps J Q .outgrown a w = Q .outgrown a w := rfl
end
end Go.Proofs.Ytnemnhfdjofckaa.Goto
