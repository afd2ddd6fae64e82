/- A region that draws its order, whose operations only add to what is known: one walk in the order of the text serves every order. What an operation leaves is a fact that stays, whatever the others do. -/
import Derived.StillTail
import Derived.Below
namespace Go.Proofs.Ytinhednmfldmbaa.Mo
open Go

/-- What an operation comes to: a value and a world of which R holds. -/
def leaves (P : Program) (R : Value → World → Prop) : Result Next → Prop
  | .ok (.value u) w' => R u w'
  | .ok .skip w' => R undef w'
  | .ok (.enter f args) w' => Calls P f args w' (fun e w'' => ∃ v, e = .returned v ∧ R v w'')
  | .ok (.row row args) w' => Rows P row args w' R
  | _ => False
/-- The value is what the operation gives. -/
def gives (v : Value) : Result Next → Prop
  | .ok (.value u) _ => v = u
  | .ok .skip _ => v = undef
  | _ => True
theorem leaves_mono {P : Program} {R R' : Value → World → Prop} {r : Result Next} (h : ∀ v w, R v w → R' v w) (hh : leaves P R r) : leaves P R' r := by
  cases r with
  | ok n w' =>
    cases n <;> simp only [leaves] at hh ⊢ <;>
      first
        | exact h _ _ hh
        | exact Calls.mono hh (fun e w'' ⟨v, e1, e2⟩ => ⟨v, e1, h _ _ e2⟩)
        | exact Rows.mono hh (fun _ _ he => h _ _ he)
  | halt x w' => simp only [leaves] at hh
theorem leaves_some {P : Program} {R : Value → World → Prop} {r : Result Next} (hh : leaves P R r) : ∃ v w', R v w' ∧ gives v r := by
  cases r with
  | ok n w' =>
    cases n <;> simp only [leaves] at hh <;> simp only [gives]
    case value u => exact ⟨u, w', hh, rfl⟩
    case skip => exact ⟨undef, w', hh, rfl⟩
    case enter f args =>
      obtain ⟨e, w'', fr, ⟨v, _, h2⟩, _⟩ := hh []
      exact ⟨v, w'', h2, trivial⟩
    case row row args =>
      obtain ⟨v, w'', h2, _⟩ := hh default []
      exact ⟨v, w'', h2, trivial⟩
  | halt x w' => simp only [leaves] at hh
theorem wp_of_leaves {P : Program} {o : Oper} {a : Act} {w : World} {R : Value → World → Prop} {K : Act → World → Prop} {Q : Exit → Act → World → Prop}
    (h : leaves P R ((execOp a.eval o).run P w)) (hK : ∀ v w', R v w' → gives v ((execOp a.eval o).run P w) → K (a.put o.dst v) w') : o.wp P a w K Q := by
  unfold Oper.wp
  generalize (execOp a.eval o).run P w = r at *
  cases r with
  | ok n w' =>
    cases n <;> simp only [leaves] at h <;> simp only [gives] at hK <;> simp only [Oper.upon]
    case value u => exact hK _ _ h rfl
    case skip => exact hK _ _ h rfl
    case enter f args => exact Calls.mono h fun e w'' ⟨v, he, h2⟩ => by subst he; exact hK _ _ h2 trivial
    case row row args => exact Rows.mono h fun v w'' h2 => hK _ _ h2 trivial
  | halt x w' => simp only [leaves] at h
theorem put_inj {a : Act} {d : Tmp} {u v : Value} (hlt : d < a.tmps.size) (h : a.put (some d) u = a.put (some d) v) : u = v := by
  have h1 := congrArg (fun z : Act => z.tmps[d]?) h
  simpa [Act.put, hlt] using h1
/-- The same by a rule for the operation's wp. -/
theorem leaves_of_wp {P : Program} {o : Oper} {a : Act} {w : World} {R : Value → World → Prop} {d : Tmp} (hd : o.dst = some d) (hlt : d < a.tmps.size)
    (h : ∀ (K : Act → World → Prop) (Q : Exit → Act → World → Prop), (∀ v w', R v w' → K (a.put (some d) v) w') → o.wp P a w K Q) : leaves P R ((execOp a.eval o).run P w) := by
  have h1 := h (fun a' w' => ∃ v, a' = a.put (some d) v ∧ R v w') (fun _ _ _ => False) (fun v w' hr => ⟨v, rfl, hr⟩)
  unfold Oper.wp at h1
  generalize (execOp a.eval o).run P w = r at *
  cases r with
  | ok n w' =>
    cases n <;> simp only [Oper.upon, hd] at h1 <;> simp only [leaves]
    case value u => obtain ⟨v, e, h2⟩ := h1; rw [put_inj hlt e]; exact h2
    case skip => obtain ⟨v, e, h2⟩ := h1; rw [put_inj hlt e]; exact h2
    case defer d0 =>
      obtain ⟨v, e, _⟩ := h1
      have := congrArg (fun z : Act => z.defers.length) e
      simp [Act.put] at this
    case enter f args =>
      refine Calls.mono h1 fun e w'' he => ?_
      cases e with
      | returned v => obtain ⟨u, e, h2⟩ := he; exact ⟨v, rfl, by rw [put_inj hlt e]; exact h2⟩
      | panicked chain => exact he.elim
      | outgrown => obtain ⟨_, _, h3⟩ := he; exact h3.elim
    case row row args => exact Rows.mono h1 fun v w'' ⟨u, e, h2⟩ => by rw [put_inj hlt e]; exact h2
  | halt x w' => cases x <;> simp only [Oper.upon] at h1

def upd (F : Nat → World → Prop) (k : Nat) (p : World → Prop) : Nat → World → Prop := fun i => if i = k then p else F i
theorem upd_same (F : Nat → World → Prop) (k : Nat) (p : World → Prop) : upd F k p k = p := by simp [upd]
theorem upd_ne (F : Nat → World → Prop) {k i : Nat} (p : World → Prop) (h : i ≠ k) : upd F k p i = F i := by simp [upd, h]
theorem upd_comm (F : Nat → World → Prop) {i j : Nat} (p q : World → Prop) (h : i ≠ j) : upd (upd F i p) j q = upd (upd F j q) i p := by
  funext k
  unfold upd
  by_cases h1 : k = j
  · by_cases h2 : k = i
    · exact absurd (h2.symm.trans h1) h
    · rw [if_pos h1, if_neg h2, if_pos h1]
  · by_cases h2 : k = i
    · rw [if_neg h1, if_pos h2, if_pos h2]
    · rw [if_neg h1, if_neg h2, if_neg h2, if_neg h1]

/-- Does operation k wait for operation i, at first hand? -/
def direct (ops : Array Oper) (k i : Nat) : Bool := (ops[k]?).any fun o => o.after.any fun e => Region.binds .any e && e.on == i
/-- Each operation's set of operations (a number's bits) for which it waits. -/
def masksOk (ops : Array Oper) (B : List Nat) : Bool :=
  (List.range ops.size).all fun k => decide (B.getD k 0 < 2 ^ k) && (List.range k).all fun i => !(B.getD k 0).testBit i || direct ops k i || (List.range k).any fun d => direct ops k d && (B.getD d 0).testBit i
theorem masks_spec {ops : Array Oper} {B : List Nat} (h : masksOk ops B = true) {k i : Nat} (hk : k < ops.size) (hb : (B.getD k 0).testBit i = true) :
    direct ops k i = true ∨ ∃ d, d < k ∧ direct ops k d = true ∧ (B.getD d 0).testBit i = true := by
  simp only [masksOk, List.all_eq_true, List.mem_range, Bool.and_eq_true, decide_eq_true_eq] at h
  obtain ⟨h1, h2⟩ := h k hk
  have hi : i < k := by
    rcases Nat.lt_or_ge i k with h3 | h3
    · exact h3
    · rw [Nat.testBit_lt_two_pow (Nat.lt_of_lt_of_le h1 (Nat.pow_le_pow_right (by decide) h3))] at hb
      cases hb
  have h3 := h2 i hi
  simp only [hb, Bool.not_true, Bool.false_or, Bool.or_eq_true, List.any_eq_true, List.mem_range, Bool.and_eq_true] at h3
  rcases h3 with h3 | ⟨d, h3, h4⟩
  · exact .inl h3
  · exact .inr ⟨d, h3, h4⟩
def Closed (ops : Array Oper) (L : Array Bool) : Prop := ∀ x, L.getD x false = true → ∀ d, direct ops x d = true → L.getD d false = true
theorem direct_ready {ops : Array Oper} {L : Array Bool} {j d : Nat} (hj : j ∈ Region.ready .any ops L) (hd : direct ops j d = true) : L.getD d false = true := by
  obtain ⟨_, o, ho, hall⟩ := mem_ready.1 hj
  simp only [direct, ho, Option.any_some, Array.any_eq_true', Bool.and_eq_true, beq_iff_eq] at hd
  obtain ⟨e, he, hb, rfl⟩ := hd
  exact hall e he hb
theorem size_of_direct {ops : Array Oper} {k d : Nat} (h : direct ops k d = true) : k < ops.size := by
  rcases Nat.lt_or_ge k ops.size with h1 | h1
  · exact h1
  · simp [direct, Array.getElem?_eq_none h1] at h
theorem masks_listed {ops : Array Oper} {B : List Nat} {L : Array Bool} (hB : masksOk ops B = true) (hL : Closed ops L) : ∀ (k : Nat), k < ops.size → (∀ d, direct ops k d = true → L.getD d false = true) →
    ∀ i, (B.getD k 0).testBit i = true → L.getD i false = true := by
  intro k
  induction k using Nat.strongRecOn with
  | ind k ih =>
    intro hk hd i hi
    rcases masks_spec hB hk hi with h | ⟨d, h1, h2, h3⟩
    · exact hd i h
    · exact ih d h1 (by omega) (fun x hx => hL d (hd d h2) x hx) i h3
theorem closed_set {ops : Array Oper} {L : Array Bool} (hL : Closed ops L) {j : Nat} (hj : j ∈ Region.ready .any ops L) : Closed ops (L.setIfInBounds j true) := by
  intro x hx d hd
  by_cases h : j = x
  · subst h
    exact getD_set_true (direct_ready hj hd)
  · rw [getD_set_ne false h] at hx
    exact getD_set_true (hL x hx d hd)

def falses : List Bool → Nat
  | [] => 0
  | b :: l => (if b then 0 else 1) + falses l
theorem falses_set : ∀ (l : List Bool) (i : Nat), l[i]? = some false → falses (l.set i true) + 1 = falses l
  | [], i, h => by simp at h
  | b :: l, 0, h => by
    have : b = false := by simpa using h
    subst this
    simp [falses]
    omega
  | b :: l, i + 1, h => by
    have := falses_set l i (by simpa using h)
    simp only [List.set, falses]
    omega
theorem falses_zero : ∀ (l : List Bool), falses l = 0 → ∀ i : Nat, l[i]? ≠ some false
  | [], _, i => by simp
  | b :: l, h, 0 => by
    cases b
    · simp [falses] at h
    · simp
  | b :: l, h, i + 1 => by
    have := falses_zero l (by simp only [falses] at h; omega) i
    simpa using this
theorem falses_rep (n : Nat) : falses (List.replicate n false) = n := by
  induction n with
  | zero => rfl
  | succ n ih => simp only [List.replicate, falses, ih]; simp; omega
theorem ready_false {ops : Array Oper} {L : Array Bool} {i : Nat} (h : i ∈ Region.ready .any ops L) : L.toList[i]? = some false := by
  have h1 := (mem_ready.1 h).1
  rw [Array.getElem?_toList]
  rcases Nat.lt_or_ge i L.size with hl | hl
  · rw [Array.getElem?_eq_getElem hl]
    simp [Array.getD, hl] at h1
    rw [h1]
  · simp [Array.getD, Nat.not_lt.2 hl] at h1

section
variable (P : Program) (ops : Array Oper) (B : List Nat) (Tr : World → World → Prop) (w0 : World) (Ψ : Nat → Array Value → Value → World → Prop)
def avail (F : Nat → World → Prop) (m : Nat) (w : World) : Prop := ∀ i, m.testBit i = true → F i w
/-- The value may be what the operation gives, at some world. -/
def SP (k : Nat) (o : Oper) (F : Nat → World → Prop) (a : Act) (v : Value) : Prop := ∃ w, Tr w0 w ∧ avail F (B.getD k 0) w ∧ gives v ((execOp a.eval o).run P w)
def obl (k : Nat) (o : Oper) (F : Nat → World → Prop) (a : Act) : Prop := ∀ w, Tr w0 w → avail F (B.getD k 0) w → leaves P (fun v w' => Tr w w' ∧ Ψ k (o.op.operands.map a.eval) v w') ((execOp a.eval o).run P w)
def NV (F : Nat → World → Prop) : Prop := ∃ w, Tr w0 w ∧ ∀ i, F i w
def stepM (k : Nat) (F : Nat → World → Prop) (a : Act) (K : (Nat → World → Prop) → Act → Prop) : Prop :=
  match ops[k]? with
  | none => K F a
  | some o => if Region.wanted o (yielded ops a.tmps) then
      obl P B Tr w0 Ψ k o F a ∧ ∀ v, SP P B Tr w0 k o F a v → NV Tr w0 (upd F k (Ψ k (o.op.operands.map a.eval) v)) → K (upd F k (Ψ k (o.op.operands.map a.eval) v)) (a.put o.dst v)
    else K F (a.put o.dst undef)
def wpAnyM (Q : (Nat → World → Prop) → Act → Prop) : Nat → Array Bool → (Nat → World → Prop) → Act → Prop
  | 0, _, F, a => Q F a
  | n + 1, L, F, a => (Region.ready .any ops L = [] → Q F a) ∧ ∀ i ∈ Region.ready .any ops L, stepM P ops B Tr w0 Ψ i F a (wpAnyM Q n (L.setIfInBounds i true))
/-- The walk in the order of the text. -/
def wpM (Q : (Nat → World → Prop) → Act → Prop) : List Oper → Nat → (Nat → World → Prop) → Act → Prop
  | [], _, F, a => Q F a
  | o :: rest, k, F, a => if Region.wanted o (yielded ops a.tmps) then
      obl P B Tr w0 Ψ k o F a ∧ ∀ v, SP P B Tr w0 k o F a v → NV Tr w0 (upd F k (Ψ k (o.op.operands.map a.eval) v)) → wpM Q rest (k + 1) (upd F k (Ψ k (o.op.operands.map a.eval) v)) (a.put o.dst v)
    else wpM Q rest (k + 1) F (a.put o.dst undef)
variable {P ops B Tr w0 Ψ}
theorem stepM_mono {k : Nat} {F : Nat → World → Prop} {a : Act} {K K' : (Nat → World → Prop) → Act → Prop} (hF0 : NV Tr w0 F) (h : ∀ F a, NV Tr w0 F → K F a → K' F a) (hh : stepM P ops B Tr w0 Ψ k F a K) : stepM P ops B Tr w0 Ψ k F a K' := by
  unfold stepM at *
  split
  · rename_i ho
    simp only [ho] at hh
    exact h _ _ hF0 hh
  · rename_i o ho
    simp only [ho] at hh
    split
    · rename_i hw
      simp only [hw, if_true] at hh
      exact ⟨hh.1, fun v h1 h2 => h _ _ h2 (hh.2 v h1 h2)⟩
    · rename_i hw
      simp only [hw] at hh
      exact h _ _ hF0 hh
theorem avail_upd {F : Nat → World → Prop} {m i : Nat} {p : World → Prop} (h : m.testBit i = false) (w : World) : avail (upd F i p) m w ↔ avail F m w := by
  unfold avail
  constructor
  · intro h1 j hj
    have := h1 j hj
    rwa [upd_ne _ _ (fun e => by subst e; rw [h] at hj; cases hj)] at this
  · intro h1 j hj
    rw [upd_ne _ _ (fun e => by subst e; rw [h] at hj; cases hj)]
    exact h1 j hj
theorem args_put {o : Oper} {a : Act} {dst : Option Tmp} {v : Value} (h : ∀ d, dst = some d → d ∉ o.looksAt ops) : o.op.operands.map (a.put dst v).eval = o.op.operands.map a.eval :=
  Array.map_congr_left fun x hx => Act.eval_put fun d hd hxd => h d hd (by
    subst hxd
    exact List.mem_append_left _ (List.mem_filterMap.2 ⟨.tmp d, by simpa using hx, rfl⟩))
theorem obl_act {k : Nat} {o : Oper} {F : Nat → World → Prop} {a : Act} {dst : Option Tmp} {v : Value} (hs : ∀ cs b, o.op ≠ .select cs b) (h : ∀ d, dst = some d → d ∉ o.looksAt ops) :
    obl P B Tr w0 Ψ k o F (a.put dst v) ↔ obl P B Tr w0 Ψ k o F a := by
  unfold obl
  rw [execOp_put (ops := ops) o hs a dst v h, args_put h]
theorem SP_act {k : Nat} {o : Oper} {F : Nat → World → Prop} {a : Act} {dst : Option Tmp} {v u : Value} (hs : ∀ cs b, o.op ≠ .select cs b) (h : ∀ d, dst = some d → d ∉ o.looksAt ops) :
    SP P B Tr w0 k o F (a.put dst v) u ↔ SP P B Tr w0 k o F a u := by
  unfold SP
  rw [execOp_put (ops := ops) o hs a dst v h]
theorem obl_upd {k i : Nat} {o : Oper} {F : Nat → World → Prop} {a : Act} {p : World → Prop} (hm : (B.getD k 0).testBit i = false) :
    obl P B Tr w0 Ψ k o (upd F i p) a ↔ obl P B Tr w0 Ψ k o F a := by
  unfold obl
  constructor
  · intro h1 w h2 h3
    exact h1 w h2 ((avail_upd hm w).2 h3)
  · intro h1 w h2 h3
    exact h1 w h2 ((avail_upd hm w).1 h3)
theorem SP_upd {k i : Nat} {o : Oper} {F : Nat → World → Prop} {a : Act} {u : Value} {p : World → Prop} (hm : (B.getD k 0).testBit i = false) :
    SP P B Tr w0 k o (upd F i p) a u ↔ SP P B Tr w0 k o F a u := by
  unfold SP
  constructor
  · rintro ⟨w, h2, h3, h4⟩
    exact ⟨w, h2, (avail_upd hm w).1 h3, h4⟩
  · rintro ⟨w, h2, h3, h4⟩
    exact ⟨w, h2, (avail_upd hm w).2 h3, h4⟩
def StableF (F : Nat → World → Prop) : Prop := ∀ i w w', Tr w w' → F i w → F i w'
theorem stable_upd {F : Nat → World → Prop} {k : Nat} {p : World → Prop} (hF : StableF (Tr := Tr) F) (hp : ∀ w w', Tr w w' → p w → p w') : StableF (Tr := Tr) (upd F k p) := by
  intro i w w' ht h
  by_cases e : i = k
  · subst e; rw [upd_same] at *; exact hp w w' ht h
  · rw [upd_ne _ _ e] at *; exact hF i w w' ht h
theorem NV_drop {F : Nat → World → Prop} {k : Nat} {p : World → Prop} (hfk : ∀ w, F k w) (h : NV Tr w0 (upd F k p)) : NV Tr w0 F := by
  obtain ⟨w, h1, h2⟩ := h
  refine ⟨w, h1, fun i => ?_⟩
  by_cases e : i = k
  · subst e; exact hfk w
  · have := h2 i; rwa [upd_ne _ _ e] at this
/-- An operation that can run at a world where all facts hold, leaves one where its own holds, too. -/
theorem NV_run (ht : ∀ w w' w'', Tr w w' → Tr w' w'' → Tr w w'') {k : Nat} {o : Oper} {F : Nat → World → Prop} {a : Act} (hF : StableF (Tr := Tr) F) (hN : NV Tr w0 F) (ho : obl P B Tr w0 Ψ k o F a) :
    ∃ v, SP P B Tr w0 k o F a v ∧ NV Tr w0 (upd F k (Ψ k (o.op.operands.map a.eval) v)) := by
  obtain ⟨w, h1, h2⟩ := hN
  obtain ⟨v, w', ⟨h3, h4⟩, h5⟩ := leaves_some (ho w h1 fun i _ => h2 i)
  refine ⟨v, ⟨w, h1, fun i _ => h2 i, h5⟩, w', ht _ _ _ h1 h3, fun i => ?_⟩
  by_cases e : i = k
  · subst e; rw [upd_same]; exact h4
  · rw [upd_ne _ _ e]; exact hF i w w' h3 (h2 i)
/-- Two operations that do not wait for each other come up in either order. -/
theorem swap (ht : ∀ w w' w'', Tr w w' → Tr w' w'' → Tr w w'') {i j : Nat} {oi oj : Oper} (hi : ops[i]? = some oi) (hj : ops[j]? = some oj) (hij : i ≠ j) (hap : oi.apart ops oj = true)
    (hsi : ∀ cs b, oi.op ≠ .select cs b) (hsj : ∀ cs b, oj.op ≠ .select cs b) (mi : (B.getD i 0).testBit j = false) (mj : (B.getD j 0).testBit i = false)
    {F : Nat → World → Prop} {a : Act} {K : (Nat → World → Prop) → Act → Prop} (hF : StableF (Tr := Tr) F) (hN : NV Tr w0 F) (fj : ∀ w, F j w)
    (h : stepM P ops B Tr w0 Ψ i F a (fun F' a' => stepM P ops B Tr w0 Ψ j F' a' K)) : stepM P ops B Tr w0 Ψ j F a (fun F' a' => stepM P ops B Tr w0 Ψ i F' a' K) := by
  obtain ⟨h1, h2, h3⟩ := Oper.apart_spec hap
  unfold stepM at *
  simp only [hi, hj] at *
  by_cases wi : Region.wanted oi (yielded ops a.tmps) = true
  · simp only [wi, if_true] at h
    obtain ⟨oi', hi'⟩ := h
    obtain ⟨v0, sp0, nv0⟩ := NV_run ht hF hN oi'
    have hv0 := hi' v0 sp0 nv0
    by_cases wj : Region.wanted oj (yielded ops a.tmps) = true
    · simp only [wj, if_true]
      rw [wanted_put oj a oi.dst v0 h1, wj] at hv0
      simp only [if_true] at hv0
      refine ⟨(obl_act hsj h1).1 ((obl_upd mj).1 hv0.1), fun u su nu => ?_⟩
      rw [wanted_put oi a oj.dst u h3, wi]
      simp only [if_true]
      refine ⟨(obl_upd mi).2 ((obl_act hsi h3).2 oi'), fun v sv nv => ?_⟩
      have sv' := (SP_act hsi h3).1 ((SP_upd mi).1 sv)
      rw [args_put h3] at nv ⊢
      rw [upd_comm _ _ _ hij.symm] at nv ⊢
      rw [← Act.put_comm a v u h2]
      have nvi : NV Tr w0 (upd F i (Ψ i (oi.op.operands.map a.eval) v)) := NV_drop (k := j) (fun w => by rw [upd_ne _ _ hij.symm]; exact fj w) nv
      have hv := hi' v sv' nvi
      rw [wanted_put oj a oi.dst v h1, wj] at hv
      simp only [if_true] at hv
      have := hv.2 u ((SP_upd mj).2 ((SP_act hsj h1).2 su))
      rw [args_put h1] at this
      exact this nv
    · have wj' : Region.wanted oj (yielded ops a.tmps) = false := by simpa using wj
      simp only [wj', Bool.false_eq_true, if_false]
      rw [wanted_put oi a oj.dst undef h3, wi]
      simp only [if_true]
      refine ⟨(obl_act hsi h3).2 oi', fun v sv nv => ?_⟩
      rw [args_put h3] at nv ⊢
      have hv := hi' v ((SP_act hsi h3).1 sv) nv
      rw [wanted_put oj a oi.dst v h1, wj'] at hv
      simp only [Bool.false_eq_true, if_false] at hv
      rw [← Act.put_comm a v undef h2]
      exact hv
  · have wi' : Region.wanted oi (yielded ops a.tmps) = false := by simpa using wi
    simp only [wi', Bool.false_eq_true, if_false] at h
    rw [wanted_put oj a oi.dst undef h1] at h
    by_cases wj : Region.wanted oj (yielded ops a.tmps) = true
    · simp only [wj, if_true] at h ⊢
      refine ⟨(obl_act hsj h1).1 h.1, fun u su nu => ?_⟩
      rw [wanted_put oi a oj.dst u h3, wi']
      simp only [Bool.false_eq_true, if_false]
      have := h.2 u ((SP_act hsj h1).2 su)
      rw [args_put h1] at this
      rw [← Act.put_comm a undef u h2]
      exact this nu
    · have wj' : Region.wanted oj (yielded ops a.tmps) = false := by simpa using wj
      simp only [wj', Bool.false_eq_true, if_false] at h ⊢
      rw [wanted_put oi a oj.dst undef h3, wi']
      simp only [Bool.false_eq_true, if_false]
      rw [← Act.put_comm a undef undef h2]
      exact h
/-- An operation that may come up now may be taken first. -/
theorem first (ht : ∀ w w' w'', Tr w w' → Tr w' w'' → Tr w w'') (hst : ∀ k A v w w', Tr w w' → Ψ k A v w → Ψ k A v w') (hB : masksOk ops B = true) (hsel : ∀ (j : Nat) (o : Oper) cs b, ops[j]? = some o → o.op ≠ .select cs b)
    {Q : (Nat → World → Prop) → Act → Prop} {i : Nat} {oi : Oper} (hi : ops[i]? = some oi) : ∀ (n : Nat) (L : Array Bool) (F : Nat → World → Prop) (a : Act),
      (∀ j oj, ops[j]? = some oj → j ≠ i → L.getD j true = false → (∀ e ∈ oj.after, Region.binds .any e = true → e.on ≠ i) → oi.apart ops oj = true) →
      i ∈ Region.ready .any ops L → Closed ops L → falses L.toList ≤ n + 1 → StableF (Tr := Tr) F → NV Tr w0 F → (∀ j, L.getD j true = false → ∀ w, F j w) →
      stepM P ops B Tr w0 Ψ i F a (wpAnyM P ops B Tr w0 Ψ Q n (L.setIfInBounds i true)) → wpAnyM P ops B Tr w0 Ψ Q (n + 1) L F a := by
  intro n
  induction n with
  | zero =>
    intro L F a _ hr _ hn _ _ _ H
    refine ⟨fun h => (by rw [h] at hr; cases hr), fun j hj => ?_⟩
    by_cases hji : j = i
    · subst hji; exact H
    · have h1 := falses_set L.toList i (ready_false hr)
      have h2 := ready_false (ready_mono hj hji)
      rw [Array.toList_setIfInBounds] at h2
      exact absurd h2 (falses_zero _ (by omega) j)
  | succ n ih =>
    intro L F a hfree hr hc hn hF hN hT H
    refine ⟨fun h => (by rw [h] at hr; cases hr), fun j hj => ?_⟩
    by_cases hji : j = i
    · subst hji; exact H
    · obtain ⟨hjun, oj, hoj, hall⟩ := mem_ready.1 hj
      have hiun := (mem_ready.1 hr).1
      have hnot : ∀ e ∈ oj.after, Region.binds .any e = true → e.on ≠ i := fun e he hb heq => by
        have h1 := hall e he hb
        rw [heq] at h1
        rcases Nat.lt_or_ge i L.size with h' | h'
        · simp [h'] at hiun h1; rw [hiun] at h1; cases h1
        · simp [Array.getElem?_eq_none h'] at h1
      have unl : ∀ x y, x ∈ Region.ready .any ops L → L.getD y true = false → (B.getD x 0).testBit y = false := fun x y hx hy => by
        cases hb : (B.getD x 0).testBit y with
        | false => rfl
        | true =>
          have hxs : x < ops.size := by
            obtain ⟨_, o, ho, _⟩ := mem_ready.1 hx
            exact (Array.getElem?_eq_some_iff.1 ho).1
          have h1 := masks_listed hB hc x hxs (fun d hd => direct_ready hx hd) y hb
          rcases Nat.lt_or_ge y L.size with h' | h'
          · simp [h'] at hy h1; rw [hy] at h1; cases h1
          · simp [Array.getElem?_eq_none h'] at h1
      have h1 : stepM P ops B Tr w0 Ψ i F a (fun F' a' => stepM P ops B Tr w0 Ψ j F' a' (wpAnyM P ops B Tr w0 Ψ Q n ((L.setIfInBounds i true).setIfInBounds j true))) :=
        stepM_mono hN (fun F' a' _ h => h.2 j (ready_mono hj hji)) H
      have h2 := swap ht hi hoj (Ne.symm hji) (hfree j oj hoj hji hjun hnot) (fun cs b => hsel i oi cs b hi) (fun cs b => hsel j oj cs b hoj) (unl i j hr hjun) (unl j i hj hiun) hF hN (hT j hjun) h1
      rw [Array.setIfInBounds_comm _ _ (Ne.symm hji)] at h2
      have hfree' : ∀ k ok, ops[k]? = some ok → k ≠ i → (L.setIfInBounds j true).getD k true = false →
          (∀ e ∈ ok.after, Region.binds .any e = true → e.on ≠ i) → oi.apart ops ok = true := fun k ok hk hki hun hno => by
        refine hfree k ok hk hki ?_ hno
        by_cases hjk : j = k
        · subst hjk; exact hjun
        · rw [getD_set_ne true hjk] at hun; exact hun
      have hn' := falses_set L.toList j (ready_false hj)
      unfold stepM at h2 ⊢
      simp only [hoj] at h2 ⊢
      have hT' : ∀ (p : World → Prop) (k : Nat), (L.setIfInBounds j true).getD k true = false → ∀ w, (upd F j p) k w := fun p k hk w => by
        by_cases e : k = j
        · subst e
          have hlt : k < L.size := by
            rcases Nat.lt_or_ge k L.size with h' | h'
            · exact h'
            · simp [Array.getElem?_eq_none h'] at hjun
          simp [hlt] at hk
        · rw [upd_ne _ _ e]
          rw [getD_set_ne true (Ne.symm e)] at hk
          exact hT k hk w
      split
      · rename_i hw
        simp only [hw, if_true] at h2
        refine ⟨h2.1, fun v sv nv => ih (L.setIfInBounds j true) _ _ hfree' (ready_mono hr (Ne.symm hji)) (closed_set hc hj) (by rw [Array.toList_setIfInBounds]; omega) (stable_upd hF (hst _ _ _)) nv (hT' _) (h2.2 v sv nv)⟩
      · rename_i hw
        simp only [hw] at h2
        refine ih (L.setIfInBounds j true) _ _ hfree' (ready_mono hr (Ne.symm hji)) (closed_set hc hj) (by rw [Array.toList_setIfInBounds]; omega) hF hN (fun k hk w => ?_) h2
        by_cases e : k = j
        · subst e; exact hT k hjun w
        · rw [getD_set_ne true (Ne.symm e)] at hk
          exact hT k hk w
theorem lex (ht : ∀ w w' w'', Tr w w' → Tr w' w'' → Tr w w'') (hst : ∀ k A v w w', Tr w w' → Ψ k A v w → Ψ k A v w') (hB : masksOk ops B = true) (hs : Region.noSelect ops = true)
    {Q : (Nat → World → Prop) → Act → Prop} : ∀ (l : List Oper) (k : Nat) (L : Array Bool) (F : Nat → World → Prop) (a : Act), (∀ j, l[j]? = ops[k + j]?) →
    Region.lexFrom .any ops l.length k L = true → Closed ops L → falses L.toList ≤ l.length → StableF (Tr := Tr) F → NV Tr w0 F → (∀ j, L.getD j true = false → ∀ w, F j w) →
    wpM P ops B Tr w0 Ψ Q l k F a → wpAnyM P ops B Tr w0 Ψ Q l.length L F a
  | [], _, _, _, _, _, _, _, _, _, _, _, h => h
  | o :: l, k, L, F, a, hl, hX, hc, hn, hF, hN, hT, h => by
    have h0 : ops[k]? = some o := by simpa using (hl 0).symm
    simp only [List.length_cons, Region.lexFrom, Bool.and_eq_true] at hX
    obtain ⟨⟨hr, hf⟩, hX'⟩ := hX
    have hr' : k ∈ Region.ready .any ops L := by simpa using hr
    have hkun := (mem_ready.1 hr').1
    have hn' := falses_set L.toList k (ready_false hr')
    have hl' : ∀ j, l[j]? = ops[k + 1 + j]? := fun j => by have := hl (j + 1); simpa [Nat.add_assoc, Nat.add_comm 1 j] using this
    have hlt : k < L.size := by
      rcases Nat.lt_or_ge k L.size with h' | h'
      · exact h'
      · simp [Array.getElem?_eq_none h'] at hkun
    have hT' : ∀ (p : World → Prop) (j : Nat), (L.setIfInBounds k true).getD j true = false → ∀ w, (upd F k p) j w := fun p j hj w => by
      by_cases e : j = k
      · subst e; simp [hlt] at hj
      · rw [upd_ne _ _ e]
        rw [getD_set_ne true (Ne.symm e)] at hj
        exact hT j hj w
    refine first ht hst hB (Region.noSelect_spec hs) h0 l.length L F a (Region.free_spec h0 hf) hr' hc (by simpa using hn) hF hN hT ?_
    unfold wpM at h
    unfold stepM
    simp only [h0]
    split
    · rename_i hw
      simp only [hw, if_true] at h
      exact ⟨h.1, fun v sv nv => lex ht hst hB hs l (k + 1) _ _ _ hl' hX' (closed_set hc hr') (by rw [Array.toList_setIfInBounds]; simp only [List.length_cons] at hn; omega) (stable_upd hF (hst _ _ _)) nv (hT' _) (h.2 v sv nv)⟩
    · rename_i hw
      simp only [hw] at h
      refine lex ht hst hB hs l (k + 1) _ _ _ hl' hX' (closed_set hc hr') (by rw [Array.toList_setIfInBounds]; simp only [List.length_cons] at hn; omega) hF hN (fun j hj w => ?_) h
      by_cases e : j = k
      · subst e; exact hT j hkun w
      · rw [getD_set_ne true (Ne.symm e)] at hj
        exact hT j hj w
theorem sound (ht : ∀ w w' w'', Tr w w' → Tr w' w'' → Tr w w'') (hst : ∀ k A v w w', Tr w w' → Ψ k A v w → Ψ k A v w') {Q : (Nat → World → Prop) → Act → Prop} {Q' : Exit → Act → World → Prop}
    (hQ : ∀ F a w, Tr w0 w → (∀ i, F i w) → Q F a → Q' .normal a w) : ∀ (n : Nat) (L : Array Bool) (F : Nat → World → Prop) (a : Act) (w : World), falses L.toList ≤ n → StableF (Tr := Tr) F → Tr w0 w → (∀ i, F i w) →
    wpAnyM P ops B Tr w0 Ψ Q n L F a → wpAny P .any ops Q' n L a w
  | 0, L, F, a, w, hn, _, hw, hf, h => by
    refine ⟨List.eq_nil_iff_forall_not_mem.2 fun i hi => falses_zero _ (by omega) i (ready_false hi), hQ F a w hw hf h⟩
  | n + 1, L, F, a, w, hn, hF, hw, hf, h => by
    refine ⟨fun h0 => hQ F a w hw hf (h.1 h0), fun i hi => ?_⟩
    have h1 := h.2 i hi
    have hn' := falses_set L.toList i (ready_false hi)
    have hn'' : falses (L.setIfInBounds i true).toList ≤ n := by rw [Array.toList_setIfInBounds]; omega
    unfold stepM at h1
    unfold wpOp
    split
    · rename_i ho
      simp only [ho] at h1
      exact sound ht hst hQ n _ F a w hn'' hF hw hf h1
    · rename_i o ho
      simp only [ho] at h1
      split
      · rename_i hwt
        simp only [hwt, if_true] at h1
        refine .inl (wp_of_leaves (h1.1 w hw fun j _ => hf j) fun v w' ⟨h2, h3⟩ hg => ?_)
        have hf' : ∀ j, (upd F i (Ψ i (o.op.operands.map a.eval) v)) j w' := fun j => by
          by_cases e : j = i
          · subst e; rw [upd_same]; exact h3
          · rw [upd_ne _ _ e]; exact hF j w w' h2 (hf j)
        have hw' := ht _ _ _ hw h2
        exact sound ht hst hQ n _ _ _ w' hn'' (stable_upd hF (hst _ _ _)) hw' hf' (h1.2 v ⟨w, hw, fun j _ => hf j, hg⟩ ⟨w', hw', hf'⟩)
      · rename_i hwt
        simp only [hwt] at h1
        exact sound ht hst hQ n _ F _ w hn'' hF hw hf h1
theorem stepM_some (ht : ∀ w w' w'', Tr w w' → Tr w' w'' → Tr w w'') {i : Nat} {F : Nat → World → Prop} {a : Act} {K : (Nat → World → Prop) → Act → Prop} (hF : StableF (Tr := Tr) F) (hN : NV Tr w0 F) (h : stepM P ops B Tr w0 Ψ i F a K) : ∃ F' a', K F' a' := by
  unfold stepM at h
  split at h
  · exact ⟨_, _, h⟩
  · split at h
    · obtain ⟨v, sv, nv⟩ := NV_run ht hF hN h.1
      exact ⟨_, _, h.2 v sv nv⟩
    · exact ⟨_, _, h⟩
theorem closed_inv {n : Nat} {L : Array Bool} (inv : HeadInv .any ops n L) : Closed ops L := by
  intro x hx d hd
  cases ho : ops[x]? with
  | none => simp [direct, ho] at hd
  | some o =>
    simp only [direct, ho, Option.any_some, Array.any_eq_true', Bool.and_eq_true, beq_iff_eq] at hd
    obtain ⟨e, he, hb, rfl⟩ := hd
    exact inv.closed x o ho hx e he hb
/-- Till the tail. -/
def wpAnyLM (P : Program) (ops : Array Oper) (B : List Nat) (Tr : World → World → Prop) (w0 : World) (Ψ : Nat → Array Value → Value → World → Prop) (n : Nat) (Q : Array Bool → (Nat → World → Prop) → Act → Prop) : Nat → Array Bool → (Nat → World → Prop) → Act → Prop
  | 0, L, F, a => Q L F a
  | f + 1, L, F, a => Region.ready .any ops L ≠ [] ∧ ∀ i ∈ Region.ready .any ops L, i < n ∧ stepM P ops B Tr w0 Ψ i F a (wpAnyLM P ops B Tr w0 Ψ n Q f (L.setIfInBounds i true))
theorem firstL (ht : ∀ w w' w'', Tr w w' → Tr w' w'' → Tr w w'') (hst : ∀ k A v w w', Tr w w' → Ψ k A v w → Ψ k A v w') (hB : masksOk ops B = true) (hsel : ∀ (j : Nat) (o : Oper) cs b, ops[j]? = some o → o.op ≠ .select cs b)
    {n : Nat} {Q : Array Bool → (Nat → World → Prop) → Act → Prop} {i : Nat} {oi : Oper} (hi : ops[i]? = some oi) (hs : Region.sinkB .any ops n = true) (hcb : Region.chainB .any ops n = true) (hn : n < ops.size) (hin : i < n)
    (hdone : ∀ L F a, Q L F a → ∀ j ∈ Region.ready .any ops L, n ≤ j) : ∀ (f : Nat) (L : Array Bool) (F : Nat → World → Prop) (a : Act), HeadInv .any ops n L →
      (∀ j oj, ops[j]? = some oj → j ≠ i → L.getD j true = false → (∀ e ∈ oj.after, Region.binds .any e = true → e.on ≠ i) → oi.apart ops oj = true) →
      i ∈ Region.ready .any ops L → StableF (Tr := Tr) F → NV Tr w0 F → (∀ j, L.getD j true = false → ∀ w, F j w) →
      stepM P ops B Tr w0 Ψ i F a (wpAnyLM P ops B Tr w0 Ψ n Q f (L.setIfInBounds i true)) → wpAnyLM P ops B Tr w0 Ψ n Q (f + 1) L F a := by
  intro f
  induction f with
  | zero =>
    intro L F a inv _ hr hF hN _ H
    have hun := (mem_ready.1 hr).1
    refine ⟨fun h => (by rw [h] at hr; cases hr), fun j hj => ?_⟩
    have hjn : j < n := by
      rcases Nat.lt_or_ge j n with h | h
      · exact h
      · exact absurd hj (tail_waits hs hcb hn inv _ i rfl hin hun j h)
    refine ⟨hjn, ?_⟩
    by_cases hji : j = i
    · subst hji; exact H
    · obtain ⟨F', a', h1⟩ := stepM_some ht hF hN H
      have := hdone _ _ _ h1 j (ready_mono hj hji)
      omega
  | succ f ih =>
    intro L F a inv hfree hr hF hN hT H
    have hiun := (mem_ready.1 hr).1
    have hc := closed_inv inv
    refine ⟨fun h => (by rw [h] at hr; cases hr), fun j hj => ?_⟩
    have hjn : j < n := by
      rcases Nat.lt_or_ge j n with h | h
      · exact h
      · exact absurd hj (tail_waits hs hcb hn inv _ i rfl hin hiun j h)
    refine ⟨hjn, ?_⟩
    by_cases hji : j = i
    · subst hji; exact H
    · obtain ⟨hjun, oj, hoj, hall⟩ := mem_ready.1 hj
      have hnot : ∀ e ∈ oj.after, Region.binds .any e = true → e.on ≠ i := fun e he hb heq => by
        have h1 := hall e he hb
        rw [heq, getD_both hiun] at h1
        cases h1
      have unl : ∀ x y, x ∈ Region.ready .any ops L → L.getD y true = false → (B.getD x 0).testBit y = false := fun x y hx hy => by
        cases hb : (B.getD x 0).testBit y with
        | false => rfl
        | true =>
          have hxs : x < ops.size := by
            obtain ⟨_, o, ho, _⟩ := mem_ready.1 hx
            exact (Array.getElem?_eq_some_iff.1 ho).1
          have h1 := masks_listed hB hc x hxs (fun d hd => direct_ready hx hd) y hb
          rw [getD_both hy] at h1
          cases h1
      have h1 : stepM P ops B Tr w0 Ψ i F a (fun F' a' => stepM P ops B Tr w0 Ψ j F' a' (wpAnyLM P ops B Tr w0 Ψ n Q f ((L.setIfInBounds i true).setIfInBounds j true))) :=
        stepM_mono hN (fun F' a' _ h => (h.2 j (ready_mono hj hji)).2) H
      have h2 := swap ht hi hoj (Ne.symm hji) (hfree j oj hoj hji hjun hnot) (fun cs b => hsel i oi cs b hi) (fun cs b => hsel j oj cs b hoj) (unl i j hr hjun) (unl j i hj hiun) hF hN (hT j hjun) h1
      rw [Array.setIfInBounds_comm _ _ (Ne.symm hji)] at h2
      have hfree' : ∀ k ok, ops[k]? = some ok → k ≠ i → (L.setIfInBounds j true).getD k true = false →
          (∀ e ∈ ok.after, Region.binds .any e = true → e.on ≠ i) → oi.apart ops ok = true := fun k ok hk hki hun hno => by
        refine hfree k ok hk hki ?_ hno
        by_cases hjk : j = k
        · subst hjk; exact hjun
        · rw [getD_set_ne true hjk] at hun; exact hun
      have hjL : j < L.size := by
        rcases Nat.lt_or_ge j L.size with h' | h'
        · exact h'
        · simp [Array.getElem?_eq_none h'] at hjun
      unfold stepM at h2 ⊢
      simp only [hoj] at h2 ⊢
      split
      · rename_i hw
        simp only [hw, if_true] at h2
        refine ⟨h2.1, fun v sv nv => ih (L.setIfInBounds j true) _ _ (inv.set hj hjn) hfree' (ready_mono hr (Ne.symm hji)) (stable_upd hF (hst _ _ _)) nv (fun k hk w => ?_) (h2.2 v sv nv)⟩
        by_cases e : k = j
        · subst e; simp [hjL] at hk
        · rw [upd_ne _ _ e]
          rw [getD_set_ne true (Ne.symm e)] at hk
          exact hT k hk w
      · rename_i hw
        simp only [hw] at h2
        refine ih (L.setIfInBounds j true) _ _ (inv.set hj hjn) hfree' (ready_mono hr (Ne.symm hji)) hF hN (fun k hk w => ?_) h2
        by_cases e : k = j
        · subst e; exact hT k hjun w
        · rw [getD_set_ne true (Ne.symm e)] at hk
          exact hT k hk w
theorem lexL (ht : ∀ w w' w'', Tr w w' → Tr w' w'' → Tr w w'') (hst : ∀ k A v w w', Tr w w' → Ψ k A v w → Ψ k A v w') (hB : masksOk ops B = true) (hsl : Region.noSelect ops = true)
    {n g : Nat} {Q : (Nat → World → Prop) → Act → Prop} (hs : Region.sinkB .any ops n = true) (hcb : Region.chainB .any ops n = true) (hn : n < ops.size) : ∀ (l : List Oper) (k : Nat) (L : Array Bool) (F : Nat → World → Prop) (a : Act), (∀ j, j < l.length → l[j]? = ops[k + j]?) → k + l.length = n → HeadInv .any ops n L →
    Region.lexHead .any ops g l.length k L = true → StableF (Tr := Tr) F → NV Tr w0 F → (∀ j, L.getD j true = false → ∀ w, F j w) →
    wpM P ops B Tr w0 Ψ Q l k F a → wpAnyLM P ops B Tr w0 Ψ n (fun L' F' a' => Region.seqB .any ops g n L' = true ∧ Q F' a') l.length L F a
  | [], k, L, F, a, _, hk, _, hX, _, _, _, h => by
    have : k = n := by simpa using hk
    subst this
    exact ⟨by simpa [Region.lexHead] using hX, h⟩
  | o :: l, k, L, F, a, hl, hk, inv, hX, hF, hN, hT, h => by
    have h0 : ops[k]? = some o := by simpa using (hl 0 (by simp)).symm
    simp only [List.length_cons, Region.lexHead, Bool.and_eq_true] at hX
    obtain ⟨⟨hr, hf⟩, hX'⟩ := hX
    have hkn : k < n := by simp only [List.length_cons] at hk; omega
    have hr' : k ∈ Region.ready .any ops L := by simpa using hr
    have hkun := (mem_ready.1 hr').1
    have hlt : k < L.size := by
      rcases Nat.lt_or_ge k L.size with h' | h'
      · exact h'
      · simp [Array.getElem?_eq_none h'] at hkun
    have hl' : ∀ j, j < l.length → l[j]? = ops[k + 1 + j]? := fun j hj => by have := hl (j + 1) (by simp; omega); simpa [Nat.add_assoc, Nat.add_comm 1 j] using this
    have hk' : k + 1 + l.length = n := by simp only [List.length_cons] at hk; omega
    refine firstL ht hst hB (Region.noSelect_spec hsl) h0 hs hcb hn hkn (fun L' F' a' hL => seqB_ready hL.1) l.length L F a inv (Region.free_spec h0 hf) hr' hF hN hT ?_
    unfold wpM at h
    unfold stepM
    simp only [h0]
    split
    · rename_i hw
      simp only [hw, if_true] at h
      refine ⟨h.1, fun v sv nv => lexL ht hst hB hsl hs hcb hn l (k + 1) _ _ _ hl' hk' (inv.set hr' hkn) hX' (stable_upd hF (hst _ _ _)) nv (fun j hj w => ?_) (h.2 v sv nv)⟩
      by_cases e : j = k
      · subst e; simp [hlt] at hj
      · rw [upd_ne _ _ e]
        rw [getD_set_ne true (Ne.symm e)] at hj
        exact hT j hj w
    · rename_i hw
      simp only [hw] at h
      refine lexL ht hst hB hsl hs hcb hn l (k + 1) _ _ _ hl' hk' (inv.set hr' hkn) hX' hF hN (fun j hj w => ?_) h
      by_cases e : j = k
      · subst e; exact hT j hkun w
      · rw [getD_set_ne true (Ne.symm e)] at hj
        exact hT j hj w
theorem soundL (ht : ∀ w w' w'', Tr w w' → Tr w' w'' → Tr w w'') (hst : ∀ k A v w w', Tr w w' → Ψ k A v w → Ψ k A v w') {n g : Nat} {Q : Array Bool → (Nat → World → Prop) → Act → Prop} {Q' : Exit → Act → World → Prop}
    (hQ : ∀ L F a w, Tr w0 w → (∀ i, F i w) → Q L F a → wpAny P .any ops Q' g L a w) : ∀ (f : Nat) (L : Array Bool) (F : Nat → World → Prop) (a : Act) (w : World), StableF (Tr := Tr) F → Tr w0 w → (∀ i, F i w) →
    wpAnyLM P ops B Tr w0 Ψ n Q f L F a → wpAny P .any ops Q' (f + g) L a w
  | 0, L, F, a, w, _, hw, hf, h => by rw [Nat.zero_add]; exact hQ L F a w hw hf h
  | f + 1, L, F, a, w, hF, hw, hf, h => by
    rw [show f + 1 + g = (f + g) + 1 by omega]
    refine ⟨fun h0 => absurd h0 h.1, fun i hi => ?_⟩
    have h1 := (h.2 i hi).2
    unfold stepM at h1
    unfold wpOp
    split
    · rename_i ho
      simp only [ho] at h1
      exact soundL ht hst hQ f _ F a w hF hw hf h1
    · rename_i o ho
      simp only [ho] at h1
      split
      · rename_i hwt
        simp only [hwt, if_true] at h1
        refine .inl (wp_of_leaves (h1.1 w hw fun j _ => hf j) fun v w' ⟨h2, h3⟩ hg => ?_)
        have hf' : ∀ j, (upd F i (Ψ i (o.op.operands.map a.eval) v)) j w' := fun j => by
          by_cases e : j = i
          · subst e; rw [upd_same]; exact h3
          · rw [upd_ne _ _ e]; exact hF j w w' h2 (hf j)
        have hw' := ht _ _ _ hw h2
        exact soundL ht hst hQ f _ _ _ w' (stable_upd hF (hst _ _ _)) hw' hf' (h1.2 v ⟨w, hw, fun j _ => hf j, hg⟩ ⟨w', hw', hf'⟩)
      · rename_i hwt
        simp only [hwt] at h1
        exact soundL ht hst hQ f _ F _ w hF hw hf h1
/-- The walk, shut: nothing looks into it. -/
structure Wm (P : Program) (ops : Array Oper) (B : List Nat) (Tr : World → World → Prop) (w0 : World) (Ψ : Nat → Array Value → Value → World → Prop) (Q : (Nat → World → Prop) → Act → Prop) (l : List Oper) (k : Nat) (F : Nat → World → Prop) (a : Act) : Prop where
  out : wpM P ops B Tr w0 Ψ Q l k F a
/-- THE LAW. -/
theorem region {id : Nat} {Q : Exit → Act → World → Prop} {a : Act} {w : World} {l : List Oper} (B : List Nat) (Tr : World → World → Prop) (Ψ : Nat → Array Value → Value → World → Prop)
    (hr : ∀ w, Tr w w) (ht : ∀ w w' w'', Tr w w' → Tr w' w'' → Tr w w'') (hst : ∀ k A v w w', Tr w w' → Ψ k A v w → Ψ k A v w')
    (hm : P.follows .mixedOrders = true) (hX : Region.lexB .any l.toArray = true) (hB : masksOk l.toArray B = true)
    (h : Wm P l.toArray B Tr w.drew Ψ (fun F a' => ∀ w', Tr w.drew w' → (∀ i, F i w') → Q .normal a' w') l 0 (fun _ _ => True) a) : (Code.region id l.toArray true).wp P Q a w := by
  simp only [Region.lexB, Bool.and_eq_true] at hX
  have hrep : falses (Array.replicate l.toArray.size false).toList = l.length := by rw [Array.toList_replicate, falses_rep]; simp
  refine wp_region_any hm ?_
  have h1 := lex (P := P) (w0 := w.drew) ht hst hB hX.1 l 0 (Array.replicate l.toArray.size false) (fun _ _ => True) a (by simp) (by simpa using hX.2)
    (fun x hx => by
      rw [Array.getD_eq_getD_getElem?, Array.getElem?_replicate] at hx
      split at hx <;> simp at hx)
    (by rw [hrep]; exact Nat.le_refl _) (fun _ _ _ _ _ => trivial) ⟨w.drew, hr _, fun _ => trivial⟩ (fun _ _ _ => trivial) h.out
  have h2 := sound (w0 := w.drew) (Q' := Q) ht hst (fun F a w' k1 k2 k3 => k3 w' k1 k2) l.length (Array.replicate l.toArray.size false) (fun _ _ => True) a w.drew (by rw [hrep]; exact Nat.le_refl _) (fun _ _ _ _ _ => trivial) (hr _) (fun _ => trivial) h1
  simpa using h2
/-- THE LAW, where the last operations come up in one order: they are walked one behind the other. -/
theorem region_tail {id : Nat} {Q : Exit → Act → World → Prop} {a : Act} {w : World} {l : List Oper} (n : Nat) (B : List Nat) (Tr : World → World → Prop) (Ψ : Nat → Array Value → Value → World → Prop)
    (hr : ∀ w, Tr w w) (ht : ∀ w w' w'', Tr w w' → Tr w' w'' → Tr w w'') (hst : ∀ k A v w w', Tr w w' → Ψ k A v w → Ψ k A v w')
    (hm : P.follows .mixedOrders = true) (hX : Region.lexTailB .any l.toArray n = true) (hB : masksOk l.toArray B = true)
    (h : Wm P l.toArray B Tr w.drew Ψ (fun F a' => ∀ w', Tr w.drew w' → (∀ i, F i w') → wpList P l.toArray Q (l.drop n) a' w') (l.take n) 0 (fun _ _ => True) a) : (Code.region id l.toArray true).wp P Q a w := by
  simp only [Region.lexTailB, Bool.and_eq_true, decide_eq_true_eq] at hX
  obtain ⟨⟨⟨⟨hsel, hn⟩, hs⟩, hc⟩, hlex⟩ := hX
  have hn' : n < l.length := by simpa using hn
  have htl : (l.take n).length = n := by simp; omega
  have hdl : (l.drop n).length = l.toArray.size - n := by simp
  have inv0 : HeadInv .any l.toArray n (Array.replicate l.toArray.size false) :=
    ⟨by simp, fun j oj _ hl => (by rw [getD_replicate_false] at hl; cases hl), fun t _ ht => getD_in (by simpa using ht) (getD_replicate_false _ _)⟩
  have H := lexL (P := P) (w0 := w.drew) (g := l.toArray.size - n) ht hst hB hsel hs hc hn (l.take n) 0 (Array.replicate l.toArray.size false) (fun _ _ => True) a (fun j hj => by
    have hj' : j < n := by rw [htl] at hj; exact hj
    simp [hj']) (by simpa using htl) inv0 (by rw [htl]; exact hlex) (fun _ _ _ _ _ => trivial) ⟨w.drew, hr _, fun _ => trivial⟩ (fun _ _ _ => trivial) h.out
  refine wp_region_any hm ?_
  have := soundL (w0 := w.drew) (Q' := Q) (g := l.toArray.size - n) ht hst (fun L F a' w' k1 k2 hL => by
    have := wpAny_of_seq (md := .any) (Q' := Q) (l.drop n) n L a' w' (fun j => by simp [List.getElem?_drop]) (by rw [hdl]; exact hL.1) (hL.2 w' k1 k2)
    rwa [hdl] at this) _ _ _ _ w.drew (fun _ _ _ _ _ => trivial) (hr _) (fun _ => trivial) H
  rw [htl, show n + (l.toArray.size - n) = l.toArray.size by omega] at this
  exact this
variable {Q : (Nat → World → Prop) → Act → Prop} {o : Oper} {rest : List Oper} {k : Nat} {F : Nat → World → Prop} {a : Act}
theorem done (h : Q F a) : Wm P ops B Tr w0 Ψ Q [] k F a := ⟨h⟩
theorem skip (hw : Region.wanted o (yielded ops a.tmps) = false) (h : Wm P ops B Tr w0 Ψ Q rest (k + 1) F (a.put o.dst undef)) : Wm P ops B Tr w0 Ψ Q (o :: rest) k F a := by
  constructor
  unfold wpM
  rw [if_neg (by rw [hw]; decide)]
  exact h.out
/-- An operation that gives one value, wherever it comes up, and leaves the world. -/
theorem val {v : Value} (hr : ∀ w, Tr w w) (hw : Region.wanted o (yielded ops a.tmps) = true) (hΨ : ∀ A v w, Ψ k A v w)
    (h : ∀ w, Tr w0 w → avail F (B.getD k 0) w → (execOp a.eval o).run P w = .ok (.value v) w) (hk : Wm P ops B Tr w0 Ψ Q rest (k + 1) (upd F k fun _ => True) (a.put o.dst v)) : Wm P ops B Tr w0 Ψ Q (o :: rest) k F a := by
  have hu : ∀ A u, upd F k (Ψ k A u) = upd F k fun _ => True := fun A u => by
    funext i w
    unfold upd
    split
    · exact propext ⟨fun _ => trivial, fun _ => hΨ _ _ _⟩
    · rfl
  constructor
  unfold wpM
  rw [if_pos hw]
  refine ⟨fun w h1 h2 => by rw [h w h1 h2]; exact ⟨hr w, hΨ _ _ _⟩, fun u ⟨w, h1, h2, h3⟩ _ => ?_⟩
  rw [h w h1 h2] at h3
  have : u = v := h3
  subst this
  rw [hu]
  exact hk.out
/-- An operation that says nothing and leaves the world (a nil check). -/
theorem still (hr : ∀ w, Tr w w) (hw : Region.wanted o (yielded ops a.tmps) = true) (hΨ : ∀ A v w, Ψ k A v w)
    (h : ∀ w, Tr w0 w → avail F (B.getD k 0) w → (execOp a.eval o).run P w = .ok .skip w) (hk : Wm P ops B Tr w0 Ψ Q rest (k + 1) (upd F k fun _ => True) (a.put o.dst undef)) : Wm P ops B Tr w0 Ψ Q (o :: rest) k F a := by
  have hu : ∀ A u, upd F k (Ψ k A u) = upd F k fun _ => True := fun A u => by
    funext i w
    unfold upd
    split
    · exact propext ⟨fun _ => trivial, fun _ => hΨ _ _ _⟩
    · rfl
  constructor
  unfold wpM
  rw [if_pos hw]
  refine ⟨fun w h1 h2 => by rw [h w h1 h2]; exact ⟨hr w, hΨ _ _ _⟩, fun u ⟨w, h1, h2, h3⟩ _ => ?_⟩
  rw [h w h1 h2] at h3
  have : u = undef := h3
  subst this
  rw [hu]
  exact hk.out
/-- Any operation that leaves its fact. -/
theorem any (hw : Region.wanted o (yielded ops a.tmps) = true)
    (h : ∀ w, Tr w0 w → avail F (B.getD k 0) w → leaves P (fun v w' => Tr w w' ∧ Ψ k (o.op.operands.map a.eval) v w') ((execOp a.eval o).run P w))
    (hk : ∀ v, (∃ w, Tr w0 w ∧ Ψ k (o.op.operands.map a.eval) v w) → Wm P ops B Tr w0 Ψ Q rest (k + 1) (upd F k (Ψ k (o.op.operands.map a.eval) v)) (a.put o.dst v)) : Wm P ops B Tr w0 Ψ Q (o :: rest) k F a := by
  constructor
  unfold wpM
  rw [if_pos hw]
  refine ⟨h, fun v _ nv => ?_⟩
  obtain ⟨w, h1, h2⟩ := nv
  have h3 := h2 k
  rw [upd_same] at h3
  exact (hk v ⟨w, h1, h3⟩).out
end
end Go.Proofs.Ytinhednmfldmbaa.Mo
