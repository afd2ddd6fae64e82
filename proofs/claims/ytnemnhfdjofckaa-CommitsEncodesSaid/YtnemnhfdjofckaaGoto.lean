/- Scopes with labels: where a goto leads is told without an invariant (GoTo); a label that is jumped back to is a loop with one. -/
import Derived.Scope
namespace Go.Proofs.Ytnemnhfdjofckaa.Goto
open Go

/-- As Q; by a goto to label l: J l. -/
def Jumps (J : Nat → Act → World → Prop) (Q : Exit → Act → World → Prop) : Exit → Act → World → Prop
  | .goto l, a, w => J l a w
  | e, a, w => Q e a w

/-- From the place behind label l of scope c the run leaves the scope as Q says, or it comes to a place behind a label at which B holds. -/
def GoTo (P : Program) (c : Code) (Q : Exit → Act → World → Prop) (B : Nat → Act → World → Prop) (l : Nat) (a : Act) (w : World) : Prop :=
  ∃ rest, findLabel c l = some rest ∧ ∀ (b : Frame) (k : List Item) (cs : List Frame),
    (∃ e a' w', Q e a' w' ∧ Arrives P (lone (b.at a (.code rest :: .inScope c :: k)) cs w) b k cs e a' w') ∨
    (∃ l' rest' a' w', B l' a' w' ∧ findLabel c l' = some rest' ∧ Steps P (lone (b.at a (.code rest :: .inScope c :: k)) cs w) (lone (b.at a' (.code rest' :: .inScope c :: k)) cs w'))

section
variable {P : Program} {a : Act} {w : World} {Q : Exit → Act → World → Prop} {J B B' : Nat → Act → World → Prop} {c : Code}

theorem Jumps_normal : Jumps J Q .normal a w = Q .normal a w := rfl
theorem Jumps_exit (id : Nat) : Jumps J Q (.exit id) a w = Q (.exit id) a w := rfl
theorem Jumps_ret : Jumps J Q .ret a w = Q .ret a w := rfl
theorem Jumps_goto (l : Nat) : Jumps J Q (.goto l) a w = J l a w := rfl
theorem Jumps_panic (ch : List PanicEntry) : Jumps J Q (.panic ch) a w = Q (.panic ch) a w := rfl
theorem Jumps_outgrown : Jumps J Q .outgrown a w = Q .outgrown a w := rfl
theorem Jumps_mono {c : Code} {J' : Nat → Act → World → Prop} (h : c.wp P (Jumps J Q) a w) (hJ : ∀ l a w, J l a w → J' l a w) : c.wp P (Jumps J' Q) a w :=
  wp_mono h fun e a w hq => by cases e <;> first | exact hJ _ _ _ hq | exact hq

theorem GoTo_at {l : Nat} {rest : Code} (hf : findLabel c l = some rest) (h : B l a w) : GoTo P c Q B l a w :=
  ⟨rest, hf, fun _ _ _ => .inr ⟨l, rest, a, w, h, hf, .refl _ _⟩⟩

/-- A run that is in the scope, at code d, in front of nothing but the scope's end. -/
theorem goes_on {d : Code} (h : d.wp P (Jumps (GoTo P c Q B) Q) a w) (b : Frame) (k : List Item) (cs : List Frame) :
    (∃ e a' w', Q e a' w' ∧ Arrives P (lone (b.at a (.code d :: .inScope c :: k)) cs w) b k cs e a' w') ∨
    (∃ l' rest' a' w', B l' a' w' ∧ findLabel c l' = some rest' ∧ Steps P (lone (b.at a (.code d :: .inScope c :: k)) cs w) (lone (b.at a' (.code rest' :: .inScope c :: k)) cs w')) := by
  obtain ⟨e, a₁, w₁, hq, harr⟩ := h b (.inScope c :: k) cs
  cases e with
  | normal => exact .inl ⟨.normal, a₁, w₁, hq, Steps.trans harr (.one step_inScope)⟩
  | exit id => exact .inl ⟨.exit id, a₁, w₁, hq, fun k' hk => harr k' (by simp [exitTo, hk])⟩
  | goto l' =>
    obtain ⟨rest', hf', hgo⟩ := hq
    have hs : Steps P (lone (b.at a (.code d :: .inScope c :: k)) cs w) (lone (b.at a₁ (.code rest' :: .inScope c :: k)) cs w₁) := harr _ (by simp [gotoIn, hf'])
    rcases hgo b k cs with ⟨e₂, a₂, w₂, hq₂, harr₂⟩ | ⟨l₂, rest₂, a₂, w₂, hB, hf₂, hs₂⟩
    · exact .inl ⟨e₂, a₂, w₂, hq₂, .of_steps hs harr₂⟩
    · exact .inr ⟨l₂, rest₂, a₂, w₂, hB, hf₂, hs.trans hs₂⟩
  | ret => exact .inl ⟨_, a₁, w₁, hq, harr⟩
  | panic ch => exact .inl ⟨_, a₁, w₁, hq, harr⟩
  | outgrown => exact .inl ⟨_, a₁, w₁, hq, harr⟩

/-- A goto: what stands behind its label is walked. -/
theorem GoTo_walk {l : Nat} {rest : Code} (hf : findLabel c l = some rest) (h : rest.wp P (Jumps (GoTo P c Q B) Q) a w) : GoTo P c Q B l a w :=
  ⟨rest, hf, goes_on h⟩

theorem GoTo_bind {l : Nat} (h : GoTo P c Q B l a w) (hB : ∀ l a w rest, findLabel c l = some rest → B l a w → GoTo P c Q B' l a w) : GoTo P c Q B' l a w := by
  obtain ⟨rest, hf, h⟩ := h
  refine ⟨rest, hf, fun b k cs => ?_⟩
  rcases h b k cs with h | ⟨l', rest', a', w', hb, hf', hs⟩
  · exact .inl h
  · obtain ⟨rest₂, hf₂, h₂⟩ := hB _ _ _ _ hf' hb
    rw [hf'] at hf₂
    cases hf₂
    rcases h₂ b k cs with ⟨e₂, a₂, w₂, hq₂, harr₂⟩ | ⟨l₂, rest₃, a₂, w₂, hB₂, hf₃, hs₂⟩
    · exact .inl ⟨e₂, a₂, w₂, hq₂, .of_steps hs harr₂⟩
    · exact .inr ⟨l₂, rest₃, a₂, w₂, hB₂, hf₃, hs.trans hs₂⟩

theorem wp_scope_goto (h : c.wp P (Jumps (GoTo P c Q fun _ _ _ => False) Q) a w) : (Code.scope c).wp P Q a w := by
  intro b k cs
  rcases goes_on h b k cs with ⟨e, a', w', hq, harr⟩ | ⟨_, _, _, _, hb, _⟩
  · exact ⟨e, a', w', hq, .of_steps (.one step_scope) harr⟩
  · exact hb.elim

/-- A label that the run comes to from above and jumps back to; R: what stands behind it. I n: at most n rounds are to come. -/
theorem wp_label_loop {R : Code} (l : Nat) (hf : findLabel c l = some (.seq .skip R)) (I : Nat → Act → World → Prop) (n : Nat) (h : I n a w)
    (round : ∀ n a w, I n a w → ∀ J : Nat → Act → World → Prop, (∀ n' a' w', n' < n → I n' a' w' → J l a' w') →
      (∀ m rest a' w', findLabel c m = some rest → rest.wp P (Jumps J Q) a' w' → J m a' w') → (∀ m a' w', GoTo P c Q B m a' w' → J m a' w') → R.wp P (Jumps J Q) a w) :
    R.wp P (Jumps (GoTo P c Q B) Q) a w := by
  let B' : Nat → Nat → Act → World → Prop := fun n l' a' w' => (l' = l ∧ ∃ n', n' < n ∧ I n' a' w') ∨ B l' a' w'
  have round' : ∀ n a w, I n a w → R.wp P (Jumps (GoTo P c Q (B' n)) Q) a w := fun n a w h =>
    round n a w h (GoTo P c Q (B' n)) (fun n' a' w' hlt hI => GoTo_at hf (.inl ⟨rfl, n', hlt, hI⟩)) (fun m rest a' w' hm hw => GoTo_walk hm hw)
      (fun m a' w' hg => GoTo_bind hg fun l' a' w' rest hr hB => GoTo_at hr (.inr hB))
  have key : ∀ n a w, I n a w → GoTo P c Q B l a w := by
    intro n
    induction n using Nat.strongRecOn with
    | _ n ih =>
      intro a w hI
      refine GoTo_bind (GoTo_walk hf (wp_seq (wp_skip (round' n a w hI)))) fun l' a' w' rest hr hb => ?_
      rcases hb with ⟨rfl, n', hlt, hI'⟩ | hb
      · exact ih n' hlt a' w' hI'
      · exact GoTo_at hr hb
  refine Jumps_mono (round' n a w h) fun l' a' w' hg => GoTo_bind hg fun l'' a'' w'' rest hr hb => ?_
  rcases hb with ⟨rfl, n', hlt, hI'⟩ | hb
  · exact key n' a'' w'' hI'
  · exact GoTo_at hr hb
end
end Go.Proofs.Ytnemnhfdjofckaa.Goto
