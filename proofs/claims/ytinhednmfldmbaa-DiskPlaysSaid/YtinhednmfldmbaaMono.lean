/- A region that draws its order: one walk in the order of the text serves every order. What an operation leaves is a fact that stays, whatever comes behind it; what it asks of the world stays till it comes up. -/
import Derived.StillTail
import Derived.Below
namespace Go.Proofs.Ytinhednmfldmbaa.Mo
open Go

/-- What an operation comes to: a value and a world of which R holds. -/
def leaves (P : Program) (R : Value → World → Prop) : Result Next → Prop
  | .ok (.value u) w' => R u w'
  | .ok .skip w' => R undef w'
  | .ok (.enter f args) w' => Calls P f args w' (fun e w'' => ∃ v, e = .returned v ∧ R v w'')
  | .ok (.row row args) w' => Rows P row args w' R
  | _ => False
/-- The value is what the operation gives. -/
def gives (v : Value) : Result Next → Prop
  | .ok (.value u) _ => v = u
  | .ok .skip _ => v = undef
  | _ => True
theorem leaves_mono {P : Program} {R R' : Value → World → Prop} {r : Result Next} (h : ∀ v w, R v w → R' v w) (hh : leaves P R r) : leaves P R' r := by
  cases r with
  | ok n w' =>
    cases n <;> simp only [leaves] at hh ⊢ <;>
      first
        | exact h _ _ hh
        | exact Calls.mono hh (fun e w'' ⟨v, e1, e2⟩ => ⟨v, e1, h _ _ e2⟩)
        | exact Rows.mono hh (fun _ _ he => h _ _ he)
  | halt x w' => simp only [leaves] at hh
theorem leaves_some {P : Program} {R : Value → World → Prop} {r : Result Next} (hh : leaves P R r) : ∃ v w', R v w' ∧ gives v r := by
  cases r with
  | ok n w' =>
    cases n <;> simp only [leaves] at hh <;> simp only [gives]
    case value u => exact ⟨u, w', hh, rfl⟩
    case skip => exact ⟨undef, w', hh, rfl⟩
    case enter f args =>
      obtain ⟨e, w'', fr, ⟨v, _, h2⟩, _⟩ := hh []
      exact ⟨v, w'', h2, trivial⟩
    case row row args =>
      obtain ⟨v, w'', h2, _⟩ := hh default []
      exact ⟨v, w'', h2, trivial⟩
  | halt x w' => simp only [leaves] at hh
theorem wp_of_leaves {P : Program} {o : Oper} {a : Act} {w : World} {R : Value → World → Prop} {K : Act → World → Prop} {Q : Exit → Act → World → Prop}
    (h : leaves P R ((execOp a.eval o).run P w)) (hK : ∀ v w', R v w' → gives v ((execOp a.eval o).run P w) → K (a.put o.dst v) w') : o.wp P a w K Q := by
  unfold Oper.wp
  generalize (execOp a.eval o).run P w = r at *
  cases r with
  | ok n w' =>
    cases n <;> simp only [leaves] at h <;> simp only [gives] at hK <;> simp only [Oper.upon]
    case value u => exact hK _ _ h rfl
    case skip => exact hK _ _ h rfl
    case enter f args => exact Calls.mono h fun e w'' ⟨v, he, h2⟩ => by subst he; exact hK _ _ h2 trivial
    case row row args => exact Rows.mono h fun v w'' h2 => hK _ _ h2 trivial
  | halt x w' => simp only [leaves] at h
theorem put_inj {a : Act} {d : Tmp} {u v : Value} (hlt : d < a.tmps.size) (h : a.put (some d) u = a.put (some d) v) : u = v := by
  have h1 := congrArg (fun z : Act => z.tmps[d]?) h
  simpa [Act.put, hlt] using h1
/-- The same by a rule for the operation's wp. -/
theorem leaves_of_wp {P : Program} {o : Oper} {a : Act} {w : World} {R : Value → World → Prop} {d : Tmp} (hd : o.dst = some d) (hlt : d < a.tmps.size)
    (h : ∀ (K : Act → World → Prop) (Q : Exit → Act → World → Prop), (∀ v w', R v w' → K (a.put (some d) v) w') → o.wp P a w K Q) : leaves P R ((execOp a.eval o).run P w) := by
  have h1 := h (fun a' w' => ∃ v, a' = a.put (some d) v ∧ R v w') (fun _ _ _ => False) (fun v w' hr => ⟨v, rfl, hr⟩)
  unfold Oper.wp at h1
  generalize (execOp a.eval o).run P w = r at *
  cases r with
  | ok n w' =>
    cases n <;> simp only [Oper.upon, hd] at h1 <;> simp only [leaves]
    case value u => obtain ⟨v, e, h2⟩ := h1; rw [put_inj hlt e]; exact h2
    case skip => obtain ⟨v, e, h2⟩ := h1; rw [put_inj hlt e]; exact h2
    case defer d0 =>
      obtain ⟨v, e, _⟩ := h1
      have := congrArg (fun z : Act => z.defers.length) e
      simp [Act.put] at this
    case enter f args =>
      refine Calls.mono h1 fun e w'' he => ?_
      cases e with
      | returned v => obtain ⟨u, e, h2⟩ := he; exact ⟨v, rfl, by rw [put_inj hlt e]; exact h2⟩
      | panicked chain => exact he.elim
      | outgrown => obtain ⟨_, _, h3⟩ := he; exact h3.elim
    case row row args => exact Rows.mono h1 fun v w'' ⟨u, e, h2⟩ => by rw [put_inj hlt e]; exact h2
  | halt x w' => cases x <;> simp only [Oper.upon] at h1

def upd (F : Nat → World → Prop) (k : Nat) (p : World → Prop) : Nat → World → Prop := fun i => if i = k then p else F i
theorem upd_same (F : Nat → World → Prop) (k : Nat) (p : World → Prop) : upd F k p k = p := by simp [upd]
theorem upd_ne (F : Nat → World → Prop) {k i : Nat} (p : World → Prop) (h : i ≠ k) : upd F k p i = F i := by simp [upd, h]
theorem upd_comm (F : Nat → World → Prop) {i j : Nat} (p q : World → Prop) (h : i ≠ j) : upd (upd F i p) j q = upd (upd F j q) i p := by
  funext k
  unfold upd
  by_cases h1 : k = j
  · by_cases h2 : k = i
    · exact absurd (h2.symm.trans h1) h
    · rw [if_pos h1, if_neg h2, if_pos h1]
  · by_cases h2 : k = i
    · rw [if_neg h1, if_pos h2, if_pos h2]
    · rw [if_neg h1, if_neg h2, if_neg h2, if_neg h1]

/-- Does operation k wait for operation i, at first hand? -/
def direct (ops : Array Oper) (k i : Nat) : Bool := (ops[k]?).any fun o => o.after.any fun e => Region.binds .any e && e.on == i
/-- Each operation's set of operations (a number's bits) for which it waits. -/
def masksOk (ops : Array Oper) (B : List Nat) : Bool :=
  (List.range ops.size).all fun k => decide (B.getD k 0 < 2 ^ k) && (List.range k).all fun i => !(B.getD k 0).testBit i || direct ops k i || (List.range k).any fun d => direct ops k d && (B.getD d 0).testBit i
theorem masks_spec {ops : Array Oper} {B : List Nat} (h : masksOk ops B = true) {k i : Nat} (hk : k < ops.size) (hb : (B.getD k 0).testBit i = true) :
    direct ops k i = true ∨ ∃ d, d < k ∧ direct ops k d = true ∧ (B.getD d 0).testBit i = true := by
  simp only [masksOk, List.all_eq_true, List.mem_range, Bool.and_eq_true, decide_eq_true_eq] at h
  obtain ⟨h1, h2⟩ := h k hk
  have hi : i < k := by
    rcases Nat.lt_or_ge i k with h3 | h3
    · exact h3
    · rw [Nat.testBit_lt_two_pow (Nat.lt_of_lt_of_le h1 (Nat.pow_le_pow_right (by decide) h3))] at hb
      cases hb
  have h3 := h2 i hi
  simp only [hb, Bool.not_true, Bool.false_or, Bool.or_eq_true, List.any_eq_true, List.mem_range, Bool.and_eq_true] at h3
  rcases h3 with h3 | ⟨d, h3, h4⟩
  · exact .inl h3
  · exact .inr ⟨d, h3, h4⟩
def Closed (ops : Array Oper) (L : Array Bool) : Prop := ∀ x, L.getD x false = true → ∀ d, direct ops x d = true → L.getD d false = true
theorem direct_ready {ops : Array Oper} {L : Array Bool} {j d : Nat} (hj : j ∈ Region.ready .any ops L) (hd : direct ops j d = true) : L.getD d false = true := by
  obtain ⟨_, o, ho, hall⟩ := mem_ready.1 hj
  simp only [direct, ho, Option.any_some, Array.any_eq_true', Bool.and_eq_true, beq_iff_eq] at hd
  obtain ⟨e, he, hb, rfl⟩ := hd
  exact hall e he hb
theorem size_of_direct {ops : Array Oper} {k d : Nat} (h : direct ops k d = true) : k < ops.size := by
  rcases Nat.lt_or_ge k ops.size with h1 | h1
  · exact h1
  · simp [direct, Array.getElem?_eq_none h1] at h
theorem masks_listed {ops : Array Oper} {B : List Nat} {L : Array Bool} (hB : masksOk ops B = true) (hL : Closed ops L) : ∀ (k : Nat), k < ops.size → (∀ d, direct ops k d = true → L.getD d false = true) →
    ∀ i, (B.getD k 0).testBit i = true → L.getD i false = true := by
  intro k
  induction k using Nat.strongRecOn with
  | ind k ih =>
    intro hk hd i hi
    rcases masks_spec hB hk hi with h | ⟨d, h1, h2, h3⟩
    · exact hd i h
    · exact ih d h1 (by omega) (fun x hx => hL d (hd d h2) x hx) i h3
theorem closed_set {ops : Array Oper} {L : Array Bool} (hL : Closed ops L) {j : Nat} (hj : j ∈ Region.ready .any ops L) : Closed ops (L.setIfInBounds j true) := by
  intro x hx d hd
  by_cases h : j = x
  · subst h
    exact getD_set_true (direct_ready hj hd)
  · rw [getD_set_ne false h] at hx
    exact getD_set_true (hL x hx d hd)

theorem ready_size {ops : Array Oper} {L : Array Bool} {x : Nat} (hx : x ∈ Region.ready .any ops L) : x < ops.size := by
  obtain ⟨_, o, ho, _⟩ := mem_ready.1 hx
  exact (Array.getElem?_eq_some_iff.1 ho).1
theorem not_both {L : Array Bool} {y : Nat} (hy : L.getD y true = false) (h1 : L.getD y false = true) : False := by
  rw [getD_both hy] at h1
  cases h1
theorem unl {ops : Array Oper} {B : List Nat} (hB : masksOk ops B = true) {L : Array Bool} (hc : Closed ops L) {x y : Nat} (hx : x ∈ Region.ready .any ops L) (hy : L.getD y true = false) : (B.getD x 0).testBit y = false := by
  cases hb : (B.getD x 0).testBit y with
  | false => rfl
  | true => exact (not_both hy (masks_listed hB hc x (ready_size hx) (fun d hd => direct_ready hx hd) y hb)).elim
theorem unlisted_set {L : Array Bool} {j k : Nat} (hj : L.getD j true = false) (h : (L.setIfInBounds j true).getD k true = false) : k ≠ j ∧ L.getD k true = false := by
  have hlt : j < L.size := by
    rcases Nat.lt_or_ge j L.size with h' | h'
    · exact h'
    · simp [Array.getElem?_eq_none h'] at hj
  by_cases e : j = k
  · subst e; simp [hlt] at h
  · exact ⟨fun e1 => e e1.symm, by rwa [getD_set_ne true e] at h⟩
/-- Each operation ahead of the n-th waits for none behind it; two of them are apart, or wait. -/
def apartOk (ops : Array Oper) (n : Nat) : Bool := (List.range n).all fun j => ((ops[j]?).any fun o => o.after.all fun e => !Region.binds .any e || decide (e.on < j)) && (List.range j).all fun i => direct ops j i || (match ops[i]?, ops[j]? with | some x, some y => x.apart ops y | _, _ => false)
def done_ (n m : Nat) : Array Bool := (List.replicate n true ++ List.replicate (m - n) false).toArray
def okB (ops : Array Oper) (n : Nat) (B : List Nat) : Bool :=
  Region.noSelect ops && masksOk ops B && apartOk ops n && (n == ops.size || (decide (n < ops.size) && Region.sinkB .any ops n && Region.chainB .any ops n)) && Region.seqB .any ops (ops.size - n) n (done_ n ops.size)

section
variable (P : Program) (ops : Array Oper) (B : List Nat) (C : World → Prop) (Tr : Nat → World → World → Prop) (Pre : Nat → World → Prop) (Ψ : Nat → Array Value → Value → World → Prop)
def avail (F : Nat → World → Prop) (m : Nat) (w : World) : Prop := ∀ i, m.testBit i = true → F i w
/-- The value may be what the operation gives, at some world. -/
def SP (k : Nat) (o : Oper) (F : Nat → World → Prop) (a : Act) (v : Value) : Prop :=
  (∃ w, C w ∧ Pre k w ∧ avail F (B.getD k 0) w ∧ gives v ((execOp a.eval o).run P w)) ∧ ∃ w, C w ∧ Ψ k (o.op.operands.map a.eval) v w
def obl (k : Nat) (o : Oper) (F : Nat → World → Prop) (a : Act) : Prop := ∀ w, C w → Pre k w → avail F (B.getD k 0) w → leaves P (fun v w' => Tr k w w' ∧ Ψ k (o.op.operands.map a.eval) v w') ((execOp a.eval o).run P w)
/-- The walk in the order of the text. -/
def tree (Q : (Nat → World → Prop) → Act → Prop) : List (Nat × Oper) → (Nat → World → Prop) → Act → Prop
  | [], F, a => Q F a
  | (k, o) :: rest, F, a => if Region.wanted o (yielded ops a.tmps) then
      obl P B C Tr Pre Ψ k o F a ∧ ∀ v, SP P B C Pre Ψ k o F a v → tree Q rest (upd F k (Ψ k (o.op.operands.map a.eval) v)) (a.put o.dst v)
    else tree Q rest F (a.put o.dst undef)
/-- No operation that is still to come turns a fact. -/
def StableF (L : Array Bool) (F : Nat → World → Prop) : Prop := ∀ i k, L.getD k true = false → ∀ w w', Tr k w w' → F i w → F i w'
structure Legit (L : Array Bool) (F : Nat → World → Prop) (w : World) : Prop where
  closed : Closed ops L
  stable : StableF Tr L F
  cls : C w
  all : ∀ i, F i w
  pre : ∀ k, L.getD k true = false → Pre k w
variable {P ops B C Tr Pre Ψ}
theorem avail_upd {F : Nat → World → Prop} {m i : Nat} {p : World → Prop} (h : m.testBit i = false) (w : World) : avail (upd F i p) m w ↔ avail F m w := by
  unfold avail
  constructor
  · intro h1 j hj
    have := h1 j hj
    rwa [upd_ne _ _ (fun e => by subst e; rw [h] at hj; cases hj)] at this
  · intro h1 j hj
    rw [upd_ne _ _ (fun e => by subst e; rw [h] at hj; cases hj)]
    exact h1 j hj
theorem args_put {o : Oper} {a : Act} {dst : Option Tmp} {v : Value} (h : ∀ d, dst = some d → d ∉ o.looksAt ops) : o.op.operands.map (a.put dst v).eval = o.op.operands.map a.eval :=
  Array.map_congr_left fun x hx => Act.eval_put fun d hd hxd => h d hd (by
    subst hxd
    exact List.mem_append_left _ (List.mem_filterMap.2 ⟨.tmp d, by simpa using hx, rfl⟩))
theorem obl_act {k : Nat} {o : Oper} {F : Nat → World → Prop} {a : Act} {dst : Option Tmp} {v : Value} (hs : ∀ cs b, o.op ≠ .select cs b) (h : ∀ d, dst = some d → d ∉ o.looksAt ops) :
    obl P B C Tr Pre Ψ k o F (a.put dst v) ↔ obl P B C Tr Pre Ψ k o F a := by
  unfold obl
  rw [execOp_put (ops := ops) o hs a dst v h, args_put h]
theorem SP_act {k : Nat} {o : Oper} {F : Nat → World → Prop} {a : Act} {dst : Option Tmp} {v u : Value} (hs : ∀ cs b, o.op ≠ .select cs b) (h : ∀ d, dst = some d → d ∉ o.looksAt ops) :
    SP P B C Pre Ψ k o F (a.put dst v) u ↔ SP P B C Pre Ψ k o F a u := by
  unfold SP
  rw [execOp_put (ops := ops) o hs a dst v h, args_put h]
theorem obl_upd {k i : Nat} {o : Oper} {F : Nat → World → Prop} {a : Act} {p : World → Prop} (hm : (B.getD k 0).testBit i = false) :
    obl P B C Tr Pre Ψ k o (upd F i p) a ↔ obl P B C Tr Pre Ψ k o F a := by
  unfold obl
  constructor
  · intro h1 w h2 h3 h4
    exact h1 w h2 h3 ((avail_upd hm w).2 h4)
  · intro h1 w h2 h3 h4
    exact h1 w h2 h3 ((avail_upd hm w).1 h4)
theorem SP_upd {k i : Nat} {o : Oper} {F : Nat → World → Prop} {a : Act} {u : Value} {p : World → Prop} (hm : (B.getD k 0).testBit i = false) :
    SP P B C Pre Ψ k o (upd F i p) a u ↔ SP P B C Pre Ψ k o F a u := by
  unfold SP
  constructor
  · rintro ⟨⟨w, h2, h3, h4, h5⟩, h6⟩
    exact ⟨⟨w, h2, h3, (avail_upd hm w).1 h4, h5⟩, h6⟩
  · rintro ⟨⟨w, h2, h3, h4, h5⟩, h6⟩
    exact ⟨⟨w, h2, h3, (avail_upd hm w).2 h4, h5⟩, h6⟩
theorem stable_set (hB : masksOk ops B = true) {L : Array Bool} (hc : Closed ops L) (hst : ∀ j k A v w w', j ≠ k → (B.getD j 0).testBit k = false → Tr k w w' → Ψ j A v w → Ψ j A v w') {F : Nat → World → Prop} (hF : StableF Tr L F) {j : Nat} (hj : j ∈ Region.ready .any ops L) (A : Array Value) (v : Value) :
    StableF Tr (L.setIfInBounds j true) (upd F j (Ψ j A v)) := by
  intro i k hk w w' ht h
  obtain ⟨hkj, hk'⟩ := unlisted_set (mem_ready.1 hj).1 hk
  by_cases e : i = j
  · subst e
    rw [upd_same] at *
    exact hst i k A v w w' (Ne.symm hkj) (unl hB hc hj hk') ht h
  · rw [upd_ne _ _ e] at *
    exact hF i k hk' w w' ht h
theorem Legit.skip {L : Array Bool} {F : Nat → World → Prop} {w : World} (h : Legit ops C Tr Pre L F w) {j : Nat} (hj : j ∈ Region.ready .any ops L) : Legit ops C Tr Pre (L.setIfInBounds j true) F w :=
  ⟨closed_set h.closed hj, fun i k hk => h.stable i k (unlisted_set (mem_ready.1 hj).1 hk).2, h.cls, h.all, fun k hk => h.pre k (unlisted_set (mem_ready.1 hj).1 hk).2⟩
theorem Legit.step (hB : masksOk ops B = true) (hC : ∀ k w w', C w → Tr k w w' → C w') (hst : ∀ j k A v w w', j ≠ k → (B.getD j 0).testBit k = false → Tr k w w' → Ψ j A v w → Ψ j A v w')
    (hpre : ∀ j k w w', j ≠ k → (B.getD k 0).testBit j = false → C w → Tr k w w' → Pre j w → Pre j w') {L : Array Bool} {F : Nat → World → Prop} {w w' : World} (h : Legit ops C Tr Pre L F w) {j : Nat} (hj : j ∈ Region.ready .any ops L) {A : Array Value} {v : Value}
    (ht : Tr j w w') (hp : Ψ j A v w') : Legit ops C Tr Pre (L.setIfInBounds j true) (upd F j (Ψ j A v)) w' := by
  refine ⟨closed_set h.closed hj, stable_set hB h.closed hst h.stable hj A v, hC _ _ _ h.cls ht, fun i => ?_, fun k hk => ?_⟩
  · by_cases e : i = j
    · subst e; rw [upd_same]; exact hp
    · rw [upd_ne _ _ e]; exact h.stable i j (mem_ready.1 hj).1 w w' ht (h.all i)
  · obtain ⟨h1, h2⟩ := unlisted_set (mem_ready.1 hj).1 hk
    exact hpre k j w w' h1 (unl hB h.closed hj h2) h.cls ht (h.pre k h2)
theorem obl_some {k : Nat} {o : Oper} {F : Nat → World → Prop} {a : Act} {w : World} (ho : obl P B C Tr Pre Ψ k o F a) (hcl : ∀ w', Tr k w w' → C w') (h1 : C w) (h2 : Pre k w) (h3 : avail F (B.getD k 0) w) :
    ∃ v w', SP P B C Pre Ψ k o F a v ∧ Tr k w w' ∧ Ψ k (o.op.operands.map a.eval) v w' := by
  obtain ⟨v, w', ⟨h4, h5⟩, h6⟩ := leaves_some (ho w h1 h2 h3)
  exact ⟨v, w', ⟨⟨w, h1, h2, h3, h6⟩, w', hcl _ h4, h5⟩, h4, h5⟩
theorem apart_of {n : Nat} (hA : apartOk ops n = true) {i j : Nat} {oi oj : Oper} (hj : j < n) (hij : i < j) (hi : ops[i]? = some oi) (hoj : ops[j]? = some oj) (hd : direct ops j i = false) : oi.apart ops oj = true := by
  simp only [apartOk, List.all_eq_true, List.mem_range, Bool.and_eq_true] at hA
  have h1 := (hA j hj).2 i hij
  rw [hd, hi, hoj] at h1
  simpa using h1
theorem topo_of {n : Nat} (hA : apartOk ops n = true) {j : Nat} {o : Oper} (hj : j < n) (ho : ops[j]? = some o) {e : Edge} (he : e ∈ o.after) (hb : Region.binds .any e = true) : e.on < j := by
  simp only [apartOk, List.all_eq_true, List.mem_range, Bool.and_eq_true] at hA
  have h1 := (hA j hj).1
  rw [ho, Option.any_some] at h1
  have h2 := Array.all_eq_true_iff_forall_mem.1 h1 e he
  simpa [hb] using h2
/-- Which operations are to come. -/
structure Rest (ops : Array Oper) (n : Nat) (l : List (Nat × Oper)) (L : Array Bool) : Prop where
  size : L.size = ops.size
  mem : ∀ k o, (k, o) ∈ l → k < n ∧ ops[k]? = some o ∧ L.getD k true = false
  all : ∀ k, k < n → L.getD k true = false → ∃ o, (k, o) ∈ l
  sorted : l.Pairwise fun x y => x.1 < y.1
  tail : ∀ t, n ≤ t → t < ops.size → L.getD t true = false
theorem Rest.cut {n : Nat} {l1 l2 : List (Nat × Oper)} {j : Nat} {o : Oper} {L : Array Bool} (h : Rest ops n (l1 ++ (j, o) :: l2) L) : Rest ops n (l1 ++ l2) (L.setIfInBounds j true) := by
  obtain ⟨hjn, hoj, hju⟩ := h.mem j o (by simp)
  have hs := h.sorted
  rw [List.pairwise_append, List.pairwise_cons] at hs
  obtain ⟨s1, ⟨s2, s3⟩, s4⟩ := hs
  have ne : ∀ k o', (k, o') ∈ l1 ++ l2 → k ≠ j := fun k o' hk => by
    rcases List.mem_append.1 hk with h1 | h1
    · have := s4 (k, o') h1 (j, o) (by simp); simp at this; omega
    · have := s2 (k, o') h1; simp at this; omega
  refine ⟨by simpa using h.size, fun k o' hk => ?_, fun k hk hu => ?_, ?_, fun t ht hts => ?_⟩
  · obtain ⟨h1, h2, h3⟩ := h.mem k o' (by
      rcases List.mem_append.1 hk with h1 | h1
      · exact List.mem_append.2 (Or.inl h1)
      · exact List.mem_append.2 (Or.inr (List.mem_cons.2 (Or.inr h1))))
    exact ⟨h1, h2, by rw [getD_set_ne true (Ne.symm (ne k o' hk))]; exact h3⟩
  · obtain ⟨h1, h2⟩ := unlisted_set hju hu
    obtain ⟨o', ho'⟩ := h.all k hk h2
    refine ⟨o', ?_⟩
    rcases List.mem_append.1 ho' with h3 | h3
    · exact List.mem_append.2 (Or.inl h3)
    · rcases List.mem_cons.1 h3 with h4 | h4
      · cases h4; exact absurd rfl h1
      · exact List.mem_append.2 (Or.inr h4)
  · rw [List.pairwise_append]
    exact ⟨s1, s3, fun x hx y hy => s4 x hx y (List.mem_cons.2 (Or.inr hy))⟩
  · rw [getD_set_ne true (by omega)]
    exact h.tail t ht hts
theorem Rest.ready {n : Nat} (hA : apartOk ops n = true) {l : List (Nat × Oper)} {j : Nat} {o : Oper} {L : Array Bool} (h : Rest ops n ((j, o) :: l) L) : j ∈ Region.ready .any ops L := by
  obtain ⟨hjn, hoj, hju⟩ := h.mem j o (by simp)
  have hs := List.pairwise_cons.1 h.sorted
  refine mem_ready.2 ⟨hju, o, hoj, fun e he hb => ?_⟩
  have hlt := topo_of hA hjn hoj he hb
  cases hx : L.getD e.on false with
  | true => rfl
  | false =>
    exfalso
    have hjs := (Array.getElem?_eq_some_iff.1 hoj).1
    obtain ⟨o', ho'⟩ := h.all e.on (by omega) (getD_in (by rw [h.size]; omega) hx)
    rcases List.mem_cons.1 ho' with h4 | h4
    · cases h4; omega
    · have := hs.1 _ h4; simp at this; omega
theorem direct_false {L : Array Bool} {i j : Nat} (hj : j ∈ Region.ready .any ops L) (hi : L.getD i true = false) : direct ops j i = false := by
  cases hd : direct ops j i with
  | false => rfl
  | true => exact (not_both hi (direct_ready hj hd)).elim
/-- What the walk shows of an operation that comes up now. -/
theorem extract (hB : masksOk ops B = true) (hC : ∀ k w w', C w → Tr k w w' → C w') (hst : ∀ j k A v w w', j ≠ k → (B.getD j 0).testBit k = false → Tr k w w' → Ψ j A v w → Ψ j A v w')
    (hpre : ∀ j k w w', j ≠ k → (B.getD k 0).testBit j = false → C w → Tr k w w' → Pre j w → Pre j w') {n : Nat} (hA : apartOk ops n = true) (hsel : Region.noSelect ops = true) {Q : (Nat → World → Prop) → Act → Prop} {j : Nat} {oj : Oper} :
    ∀ (l : List (Nat × Oper)) (L : Array Bool) (F : Nat → World → Prop) (a : Act) (w : World), (j, oj) ∈ l → Rest ops n l L → j ∈ Region.ready .any ops L → Legit ops C Tr Pre L F w → tree P ops B C Tr Pre Ψ Q l F a →
      Region.wanted oj (yielded ops a.tmps) = true → obl P B C Tr Pre Ψ j oj F a
  | [], _, _, _, _, hm, _, _, _, _, _ => by simp at hm
  | (i, oi) :: rest, L, F, a, w, hm, hR, hr, hL, hT, hw => by
    obtain ⟨hin, hoi, hiu⟩ := hR.mem i oi (by simp)
    obtain ⟨hjn, hoj, hju⟩ := hR.mem j oj hm
    by_cases hij : i = j
    · subst hij
      have : oi = oj := Option.some.inj (hoi.symm.trans hoj)
      subst this
      unfold tree at hT
      rw [if_pos hw] at hT
      exact hT.1
    · have hm' : (j, oj) ∈ rest := by
        rcases List.mem_cons.1 hm with h | h
        · cases h; exact absurd rfl hij
        · exact h
      have hlt : i < j := by have := (List.pairwise_cons.1 hR.sorted).1 _ hm'; simpa using this
      have hir := hR.ready hA
      have hap := apart_of hA hjn hlt hoi hoj (direct_false hr hiu)
      obtain ⟨h1, h2, h3⟩ := Oper.apart_spec hap
      have si : ∀ cs b, oi.op ≠ .select cs b := fun cs b => Region.noSelect_spec hsel i oi cs b hoi
      have sj : ∀ cs b, oj.op ≠ .select cs b := fun cs b => Region.noSelect_spec hsel j oj cs b hoj
      have hR' : Rest ops n rest (L.setIfInBounds i true) := by
        have := Rest.cut (l1 := []) hR
        simpa using this
      unfold tree at hT
      split at hT
      · obtain ⟨ho, hk⟩ := hT
        obtain ⟨v, w', sv, ht, hp⟩ := obl_some ho (fun w' => hC i w w' hL.cls) hL.cls (hL.pre i hiu) (fun x _ => hL.all x)
        have hL' := hL.step hB hC hst hpre hir (A := oi.op.operands.map a.eval) ht hp
        have := extract hB hC hst hpre hA hsel rest _ _ _ w' hm' hR' (ready_mono hr (Ne.symm hij)) hL' (hk v sv) (by rw [wanted_put oj a oi.dst v h1]; exact hw)
        exact (obl_upd (unl hB hL.closed hr hiu)).1 ((obl_act sj h1).1 this)
      · have := extract hB hC hst hpre hA hsel rest _ _ _ w hm' hR' (ready_mono hr (Ne.symm hij)) (hL.skip hir) hT (by rw [wanted_put oj a oi.dst undef h1]; exact hw)
        exact (obl_act sj h1).1 this
/-- The walk of what is left, once an operation has come up. -/
theorem residual (hB : masksOk ops B = true) {n : Nat} (hA : apartOk ops n = true) (hsel : Region.noSelect ops = true) {Q : (Nat → World → Prop) → Act → Prop} {j : Nat} {oj : Oper} {l2 : List (Nat × Oper)} {L : Array Bool} (hc : Closed ops L) (hr : j ∈ Region.ready .any ops L) (hjn : j < n) (hoj : ops[j]? = some oj) :
    ∀ (l1 : List (Nat × Oper)) (F : Nat → World → Prop) (a : Act), (∀ i oi, (i, oi) ∈ l1 → i < j ∧ ops[i]? = some oi ∧ L.getD i true = false) → tree P ops B C Tr Pre Ψ Q (l1 ++ (j, oj) :: l2) F a →
      (Region.wanted oj (yielded ops a.tmps) = true → ∀ u, SP P B C Pre Ψ j oj F a u → tree P ops B C Tr Pre Ψ Q (l1 ++ l2) (upd F j (Ψ j (oj.op.operands.map a.eval) u)) (a.put oj.dst u)) ∧
      (Region.wanted oj (yielded ops a.tmps) = false → tree P ops B C Tr Pre Ψ Q (l1 ++ l2) F (a.put oj.dst undef))
  | [], F, a, _, hT => by
    rw [List.nil_append] at *
    unfold tree at hT
    refine ⟨fun hw u su => ?_, fun hw => ?_⟩
    · rw [if_pos hw] at hT
      exact hT.2 u su
    · rw [if_neg (by rw [hw]; decide)] at hT
      exact hT
  | (i, oi) :: l1, F, a, hl, hT => by
    obtain ⟨hij, hoi, hiu⟩ := hl i oi (by simp)
    have hl' : ∀ i oi, (i, oi) ∈ l1 → i < j ∧ ops[i]? = some oi ∧ L.getD i true = false := fun i oi h => hl i oi (List.mem_cons.2 (Or.inr h))
    have hap := apart_of hA hjn hij hoi hoj (direct_false hr hiu)
    obtain ⟨h1, h2, h3⟩ := Oper.apart_spec hap
    have si : ∀ cs b, oi.op ≠ .select cs b := fun cs b => Region.noSelect_spec hsel i oi cs b hoi
    have sj : ∀ cs b, oj.op ≠ .select cs b := fun cs b => Region.noSelect_spec hsel j oj cs b hoj
    have mj := unl hB hc hr hiu
    have mi : (B.getD i 0).testBit j = false := by
      have hB' := hB
      simp only [masksOk, List.all_eq_true, List.mem_range, Bool.and_eq_true, decide_eq_true_eq] at hB'
      have := (hB' i (Array.getElem?_eq_some_iff.1 hoi).1).1
      exact Nat.testBit_lt_two_pow (Nat.lt_of_lt_of_le this (Nat.pow_le_pow_right (by decide) (by omega)))
    rw [List.cons_append] at hT ⊢
    unfold tree at hT
    refine ⟨fun hw u su => ?_, fun hw => ?_⟩
    · unfold tree
      rw [wanted_put oi a oj.dst u h3]
      split at hT
      · rename_i wi
        rw [if_pos wi]
        refine ⟨(obl_upd mi).2 ((obl_act si h3).2 hT.1), fun v sv => ?_⟩
        have sv' := (SP_act si h3).1 ((SP_upd mi).1 sv)
        rw [args_put h3, upd_comm _ _ _ (by omega), ← Act.put_comm a v u h2]
        have := (residual hB hA hsel hc hr hjn hoj l1 _ _ hl' (hT.2 v sv')).1 (by rw [wanted_put oj a oi.dst v h1]; exact hw) u ((SP_upd mj).2 ((SP_act sj h1).2 su))
        rw [args_put h1] at this
        exact this
      · rename_i wi
        rw [if_neg wi, ← Act.put_comm a undef u h2]
        have := (residual hB hA hsel hc hr hjn hoj l1 _ _ hl' hT).1 (by rw [wanted_put oj a oi.dst undef h1]; exact hw) u ((SP_act sj h1).2 su)
        rw [args_put h1] at this
        exact this
    · unfold tree
      rw [wanted_put oi a oj.dst undef h3]
      split at hT
      · rename_i wi
        rw [if_pos wi]
        refine ⟨(obl_act si h3).2 hT.1, fun v sv => ?_⟩
        have sv' := (SP_act si h3).1 sv
        rw [args_put h3, ← Act.put_comm a v undef h2]
        exact (residual hB hA hsel hc hr hjn hoj l1 _ _ hl' (hT.2 v sv')).2 (by rw [wanted_put oj a oi.dst v h1]; exact hw)
      · rename_i wi
        rw [if_neg wi, ← Act.put_comm a undef undef h2]
        exact (residual hB hA hsel hc hr hjn hoj l1 _ _ hl' hT).2 (by rw [wanted_put oj a oi.dst undef h1]; exact hw)
theorem rest_split {n : Nat} {l : List (Nat × Oper)} {L : Array Bool} (hR : Rest ops n l L) {j : Nat} {o : Oper} (hm : (j, o) ∈ l) : ∃ l1 l2, l = l1 ++ (j, o) :: l2 ∧ ∀ i oi, (i, oi) ∈ l1 → i < j ∧ ops[i]? = some oi ∧ L.getD i true = false := by
  obtain ⟨l1, l2, rfl⟩ := List.append_of_mem hm
  refine ⟨l1, l2, rfl, fun i oi h => ?_⟩
  obtain ⟨h1, h2, h3⟩ := hR.mem i oi (List.mem_append.2 (Or.inl h))
  have hs := hR.sorted
  rw [List.pairwise_append] at hs
  have := hs.2.2 (i, oi) h (j, o) (by simp)
  exact ⟨by simpa using this, h2, h3⟩
theorem sound (hB : masksOk ops B = true) (hC : ∀ k w w', C w → Tr k w w' → C w') (hst : ∀ j k A v w w', j ≠ k → (B.getD j 0).testBit k = false → Tr k w w' → Ψ j A v w → Ψ j A v w')
    (hpre : ∀ j k w w', j ≠ k → (B.getD k 0).testBit j = false → C w → Tr k w w' → Pre j w → Pre j w') {n g : Nat} (hA : apartOk ops n = true) (hsel : Region.noSelect ops = true) (htail : n = ops.size ∨ (n < ops.size ∧ Region.sinkB .any ops n = true ∧ Region.chainB .any ops n = true))
    {Q : (Nat → World → Prop) → Act → Prop} {Q' : Exit → Act → World → Prop} (hQ : ∀ L F a w, Rest ops n [] L → Legit ops C Tr Pre L F w → Q F a → wpAny P .any ops Q' g L a w) :
    ∀ (m : Nat) (l : List (Nat × Oper)) (L : Array Bool) (F : Nat → World → Prop) (a : Act) (w : World), l.length = m → Rest ops n l L → Legit ops C Tr Pre L F w → tree P ops B C Tr Pre Ψ Q l F a → wpAny P .any ops Q' (m + g) L a w
  | 0, l, L, F, a, w, hl, hR, hL, hT => by
    have : l = [] := List.eq_nil_of_length_eq_zero hl
    subst this
    rw [Nat.zero_add]
    exact hQ L F a w hR hL hT
  | m + 1, l, L, F, a, w, hl, hR, hL, hT => by
    rw [show m + 1 + g = (m + g) + 1 by omega]
    have hne : ∃ k o l', l = (k, o) :: l' := by
      cases l with
      | nil => simp at hl
      | cons x l' => exact ⟨x.1, x.2, l', rfl⟩
    obtain ⟨k, o, l', rfl⟩ := hne
    have hk := hR.ready hA
    refine ⟨fun h0 => (by rw [h0] at hk; cases hk), fun j hj => ?_⟩
    obtain ⟨hju, oj, hoj, hall⟩ := mem_ready.1 hj
    have hjn : j < n := by
      rcases Nat.lt_or_ge j n with h | h
      · exact h
      · rcases htail with e | ⟨hn, hs, hcb⟩
        · have := (Array.getElem?_eq_some_iff.1 hoj).1; omega
        · have inv : HeadInv .any ops n L := ⟨hR.size, fun x ox hx hxl e he hb => hL.closed x hxl e.on (by
            simp only [direct, hx, Option.any_some, Array.any_eq_true', Bool.and_eq_true, beq_iff_eq]
            exact ⟨e, he, hb, rfl⟩), hR.tail⟩
          obtain ⟨hkn, _, hku⟩ := hR.mem k o (by simp)
          exact absurd hj (tail_waits hs hcb hn inv _ k rfl hkn hku j h)
    obtain ⟨o', hm⟩ := hR.all j hjn hju
    have : o' = oj := Option.some.inj ((hR.mem j o' hm).2.1.symm.trans hoj)
    subst this
    obtain ⟨l1, l2, he, hl1⟩ := rest_split hR hm
    have hres := residual hB hA hsel hL.closed hj hjn hoj l1 F a hl1 (he ▸ hT)
    have hR' : Rest ops n (l1 ++ l2) (L.setIfInBounds j true) := Rest.cut (o := o') (by rw [← he]; exact hR)
    have hlen : (l1 ++ l2).length = m := by
      have := congrArg List.length he
      simp only [List.length_append, List.length_cons] at this hl ⊢
      omega
    unfold wpOp
    simp only [hoj]
    split
    · rename_i hw
      have ho := extract hB hC hst hpre hA hsel ((k, o) :: l') L F a w hm hR hj hL hT hw
      refine .inl (wp_of_leaves (ho w hL.cls (hL.pre j hju) fun x _ => hL.all x) fun v w' ⟨h2, h3⟩ hg => ?_)
      have hL' := hL.step hB hC hst hpre hj (A := o'.op.operands.map a.eval) h2 h3
      exact sound hB hC hst hpre hA hsel htail hQ m (l1 ++ l2) _ _ _ w' hlen hR' hL' (hres.1 hw v ⟨⟨w, hL.cls, hL.pre j hju, fun x _ => hL.all x, hg⟩, w', hL'.cls, h3⟩)
    · rename_i hw
      exact sound hB hC hst hpre hA hsel htail hQ m (l1 ++ l2) _ _ _ w hlen hR' (hL.skip hj) (hres.2 (by simpa using hw))
/-- The walk, shut: nothing looks into it. -/
structure Wm (P : Program) (ops : Array Oper) (B : List Nat) (C : World → Prop) (Tr : Nat → World → World → Prop) (Pre : Nat → World → Prop) (Ψ : Nat → Array Value → Value → World → Prop) (Q : (Nat → World → Prop) → Act → Prop) (l : List Oper) (k : Nat) (F : Nat → World → Prop) (a : Act) : Prop where
  out : tree P ops B C Tr Pre Ψ Q (l.zipIdx k |>.map fun x => (x.2, x.1)) F a
/-- THE LAW: the first n operations in whatever order; the others, which come up in one order, are walked one behind the other. -/
theorem region {id : Nat} {Q : Exit → Act → World → Prop} {a : Act} {w : World} {l : List Oper} (n : Nat) (B : List Nat) (C : World → Prop) (Tr : Nat → World → World → Prop) (Pre : Nat → World → Prop) (Ψ : Nat → Array Value → Value → World → Prop)
    (hC0 : C w.drew) (hP0 : ∀ k, Pre k w.drew) (hC : ∀ k w w', C w → Tr k w w' → C w') (hst : ∀ j k A v w w', j ≠ k → (B.getD j 0).testBit k = false → Tr k w w' → Ψ j A v w → Ψ j A v w')
    (hpre : ∀ j k w w', j ≠ k → (B.getD k 0).testBit j = false → C w → Tr k w w' → Pre j w → Pre j w') (hm : P.follows .mixedOrders = true) (hX : okB l.toArray n B = true)
    (h : Wm P l.toArray B C Tr Pre Ψ (fun F a' => ∀ w', C w' → (∀ i, F i w') → (∀ k, n ≤ k → k < l.length → Pre k w') → wpList P l.toArray Q (l.drop n) a' w') (l.take n) 0 (fun _ _ => True) a) : (Code.region id l.toArray true).wp P Q a w := by
  simp only [okB, Bool.and_eq_true, Bool.or_eq_true, beq_iff_eq, decide_eq_true_eq] at hX
  obtain ⟨⟨⟨⟨hsel, hB⟩, hA⟩, htl⟩, hseq⟩ := hX
  have hnl : n ≤ l.length := by
    rcases htl with e | ⟨⟨h1, _⟩, _⟩
    · simpa using Nat.le_of_eq e
    · simpa using Nat.le_of_lt h1
  have htake : (l.take n).length = n := by simp; omega
  have hget : ∀ (k : Nat) (o : Oper), (k, o) ∈ ((l.take n).zipIdx 0 |>.map fun x => (x.2, x.1)) ↔ k < n ∧ l[k]? = some o := fun k o => by
    simp only [List.mem_map, Prod.mk.injEq, Prod.exists]
    constructor
    · rintro ⟨o', k', h1, rfl, rfl⟩
      have := List.mem_zipIdx_iff_getElem?.1 h1
      rw [List.getElem?_take] at this
      split at this
      · exact ⟨by assumption, this⟩
      · cases this
    · rintro ⟨h1, h2⟩
      refine ⟨o, k, List.mem_zipIdx_iff_getElem?.2 ?_, rfl, rfl⟩
      show (l.take n)[k]? = some o
      rw [List.getElem?_take, if_pos h1]
      exact h2
  have hR : Rest l.toArray n ((l.take n).zipIdx 0 |>.map fun x => (x.2, x.1)) (Array.replicate l.toArray.size false) := by
    refine ⟨by simp, fun k o hk => ?_, fun k hk hu => ?_, ?_, fun t ht hts => getD_in (by simpa using hts) (getD_replicate_false _ _)⟩
    · obtain ⟨h1, h2⟩ := (hget k o).1 hk
      exact ⟨h1, by simpa using h2, getD_in (by simp; omega) (getD_replicate_false _ _)⟩
    · have hkl : k < l.length := by omega
      exact ⟨l[k], (hget k _).2 ⟨hk, List.getElem?_eq_getElem hkl⟩⟩
    · rw [List.pairwise_map]
      exact (List.pairwise_iff_getElem.2 fun i j hi hj hij => by
        simp only [List.getElem_zipIdx]
        omega)
  have hL : Legit l.toArray C Tr Pre (Array.replicate l.toArray.size false) (fun _ _ => True) w.drew :=
    ⟨fun x hx => (by rw [getD_replicate_false] at hx; cases hx), fun _ _ _ _ _ _ h => h, hC0, fun _ => trivial, fun k _ => hP0 k⟩
  refine wp_region_any hm ?_
  have H := sound (P := P) (n := n) (g := l.toArray.size - n) (Q' := Q) hB hC hst hpre hA hsel (by
    rcases htl with e | ⟨⟨h1, h2⟩, h3⟩
    · exact Or.inl e
    · exact Or.inr ⟨h1, h2, h3⟩) (fun L F a' w' hRL hLL hq => by
    have hLe : L = done_ n l.toArray.size := by
      apply Array.ext_getElem?
      intro i
      rcases Nat.lt_or_ge i l.toArray.size with h1 | h1
      · have hi : i < L.size := by rw [hRL.size]; exact h1
        rw [Array.getElem?_eq_getElem hi]
        rcases Nat.lt_or_ge i n with h2 | h2
        · have : L[i] = true := by
            cases hx : L[i] with
            | true => rfl
            | false =>
              obtain ⟨o, ho⟩ := hRL.all i h2 (by simp [hi, hx])
              simp at ho
          rw [this]
          simp [done_, List.getElem?_append, h2]
        · have hx := hRL.tail i h2 h1
          have : L[i] = false := by simpa [hi] using hx
          rw [this]
          have h3 : ¬ i < n := by omega
          simp [done_, List.getElem?_append, h3]
          have hsz : l.toArray.size = l.length := by simp
          rw [List.getElem?_replicate, if_pos (by omega)]
      · rw [Array.getElem?_eq_none (by rw [hRL.size]; exact h1), Array.getElem?_eq_none (by simp [done_] at h1 ⊢; omega)]
    have := wpAny_of_seq (md := .any) (Q' := Q) (l.drop n) n L a' w' (fun j => by simp [List.getElem?_drop]) (by rw [hLe]; simpa using hseq) (hq w' hLL.cls hLL.all (fun k hk hkl => hLL.pre k (hRL.tail k hk (by simpa using hkl))))
    simpa using this) n _ _ _ _ w.drew (by simp; omega) hR hL h.out
  simpa [show n + (l.length - n) = l.length by omega] using H
variable {Q : (Nat → World → Prop) → Act → Prop} {o : Oper} {rest : List Oper} {k : Nat} {F : Nat → World → Prop} {a : Act}
theorem done (h : Q F a) : Wm P ops B C Tr Pre Ψ Q [] k F a := ⟨h⟩
theorem skip (hw : Region.wanted o (yielded ops a.tmps) = false) (h : Wm P ops B C Tr Pre Ψ Q rest (k + 1) F (a.put o.dst undef)) : Wm P ops B C Tr Pre Ψ Q (o :: rest) k F a := by
  constructor
  rw [List.zipIdx_cons, List.map_cons]
  unfold tree
  rw [if_neg (by rw [hw]; decide)]
  exact h.out
/-- An operation that gives one value, wherever it comes up, and leaves the world. -/
theorem val {v : Value} (hr : ∀ w, Tr k w w) (hw : Region.wanted o (yielded ops a.tmps) = true) (hΨ : ∀ A v w, Ψ k A v w)
    (h : ∀ w, C w → Pre k w → avail F (B.getD k 0) w → (execOp a.eval o).run P w = .ok (.value v) w) (hk : Wm P ops B C Tr Pre Ψ Q rest (k + 1) (upd F k fun _ => True) (a.put o.dst v)) : Wm P ops B C Tr Pre Ψ Q (o :: rest) k F a := by
  have hu : ∀ A u, upd F k (Ψ k A u) = upd F k fun _ => True := fun A u => by
    funext i w
    unfold upd
    split
    · exact propext ⟨fun _ => trivial, fun _ => hΨ _ _ _⟩
    · rfl
  constructor
  rw [List.zipIdx_cons, List.map_cons]
  unfold tree
  rw [if_pos hw]
  refine ⟨fun w h1 h2 h3 => by rw [h w h1 h2 h3]; exact ⟨hr w, hΨ _ _ _⟩, fun u ⟨⟨w, h1, h2, h3, h4⟩, _⟩ => ?_⟩
  rw [h w h1 h2 h3] at h4
  have : u = v := h4
  subst this
  rw [hu]
  exact hk.out
/-- An operation that says nothing and leaves the world. -/
theorem still (hr : ∀ w, Tr k w w) (hw : Region.wanted o (yielded ops a.tmps) = true) (hΨ : ∀ A v w, Ψ k A v w)
    (h : ∀ w, C w → Pre k w → avail F (B.getD k 0) w → (execOp a.eval o).run P w = .ok .skip w) (hk : Wm P ops B C Tr Pre Ψ Q rest (k + 1) (upd F k fun _ => True) (a.put o.dst undef)) : Wm P ops B C Tr Pre Ψ Q (o :: rest) k F a := by
  have hu : ∀ A u, upd F k (Ψ k A u) = upd F k fun _ => True := fun A u => by
    funext i w
    unfold upd
    split
    · exact propext ⟨fun _ => trivial, fun _ => hΨ _ _ _⟩
    · rfl
  constructor
  rw [List.zipIdx_cons, List.map_cons]
  unfold tree
  rw [if_pos hw]
  refine ⟨fun w h1 h2 h3 => by rw [h w h1 h2 h3]; exact ⟨hr w, hΨ _ _ _⟩, fun u ⟨⟨w, h1, h2, h3, h4⟩, _⟩ => ?_⟩
  rw [h w h1 h2 h3] at h4
  have : u = undef := h4
  subst this
  rw [hu]
  exact hk.out
/-- Any operation that leaves its fact. -/
theorem any (hw : Region.wanted o (yielded ops a.tmps) = true)
    (h : ∀ w, C w → Pre k w → avail F (B.getD k 0) w → leaves P (fun v w' => Tr k w w' ∧ Ψ k (o.op.operands.map a.eval) v w') ((execOp a.eval o).run P w))
    (hk : ∀ v, (∃ w, C w ∧ Ψ k (o.op.operands.map a.eval) v w) → Wm P ops B C Tr Pre Ψ Q rest (k + 1) (upd F k (Ψ k (o.op.operands.map a.eval) v)) (a.put o.dst v)) : Wm P ops B C Tr Pre Ψ Q (o :: rest) k F a := by
  constructor
  rw [List.zipIdx_cons, List.map_cons]
  unfold tree
  rw [if_pos hw]
  exact ⟨h, fun v sv => (hk v sv.2).out⟩
end
end Go.Proofs.Ytinhednmfldmbaa.Mo
