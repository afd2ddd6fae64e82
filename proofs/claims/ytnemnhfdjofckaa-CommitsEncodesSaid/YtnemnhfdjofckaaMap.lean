/- Maps keyed by int, told as functions; which blocks of a world have turned. -/
import Derived.Maps.RangeRun
import Derived.MapKept
import Derived.Below
import Derived.LaidMore
namespace Go.Proofs.Ytnemnhfdjofckaa.Hp
open Go Go.RowKit Go.ChangeMaps Go.MapKept

/-- A fact, shut: the walk does not look into it. -/
structure Sh (p : Prop) : Prop where
  out : p
/-- Of what was there, nothing but the blocks of S has turned. -/
structure Kept (S : Nat → Prop) (w w' : World) : Prop where
  os : w'.os = w.os
  tape : w'.tape = w.tape
  output : w'.output = w.output
  size : w.heap.size ≤ w'.heap.size
  block : ∀ k, k < w.heap.size → ¬ S k → w'.heap[k]? = w.heap[k]?
theorem Kept.refl (S : Nat → Prop) (w : World) : Kept S w w := ⟨rfl, rfl, rfl, Nat.le_refl _, fun _ _ _ => rfl⟩
theorem Kept.trans {S S' : Nat → Prop} {a b c : World} (h : Kept S a b) (k : Kept S' b c) (hS : ∀ i, i < a.heap.size → S' i → S i) : Kept S a c :=
  ⟨k.os.trans h.os, k.tape.trans h.tape, k.output.trans h.output, Nat.le_trans h.size k.size, fun i hi hn => (k.block i (Nat.lt_of_lt_of_le hi h.size) (fun e => hn (hS i hi e))).trans (h.block i hi hn)⟩
theorem Kept.mono {S S' : Nat → Prop} {a b : World} (h : Kept S a b) (hS : ∀ i, i < a.heap.size → S i → S' i) : Kept S' a b :=
  ⟨h.os, h.tape, h.output, h.size, fun i hi hn => h.block i hi (fun e => hn (hS i hi e))⟩
theorem Kept.of_below {S : Nat → Prop} {a b : World} (h : Below a.heap.size a b) : Kept S a b := ⟨h.os, h.tape, h.output, h.size, fun i hi _ => h.block i hi⟩
theorem Kept.below {S : Nat → Prop} {B : Nat} {a b : World} (h : Kept S a b) (hB : B ≤ a.heap.size) (hS : ∀ i, i < B → ¬ S i) : Below B a b := ⟨h.os, h.tape, h.output, h.size, fun i hi => h.block i (by omega) (hS i hi)⟩
/-- Then a step that leaves what stands. -/
theorem Kept.then {S : Nat → Prop} {a b c : World} (h : Kept S a b) (k : Below b.heap.size b c) : Kept S a c := h.trans (S' := fun _ => False) (Kept.of_below k) (fun _ _ e => e.elim)
theorem Kept.after {S : Nat → Prop} {a b c : World} (h : Below a.heap.size a b) (k : Kept S b c) : Kept S a c := (Kept.of_below (S := S) h).trans k (fun _ _ e => e)
theorem Kept.drew {S : Nat → Prop} {a b : World} (h : Kept S a b) : Kept S a b.drew := ⟨h.os, h.tape, h.output, h.size, h.block⟩
theorem Kept.alloc {S : Nat → Prop} {a b : World} (h : Kept S a b) (o : Obj) : Kept S a (b.alloc o) := h.then ((Below.refl _ _).alloc (Nat.le_refl _) o)
theorem Kept.setCell {S : Nat → Prop} {a b : World} (h : Kept S a b) {p : Addr} (hp : a.heap.size ≤ p.block ∨ S p.block) (u : Value) : Kept S a (b.setCell p u) :=
  ⟨h.os, h.tape, h.output, by simpa [World.setCell] using h.size, fun i hi hn => (Below.heap_setCell b p u i (fun e => by subst e; rcases hp with hp | hp; omega; exact hn hp)).trans (h.block i hi hn)⟩
theorem Kept.setBlock {S : Nat → Prop} {a b : World} (h : Kept S a b) {m : Nat} (hm : a.heap.size ≤ m ∨ S m) (o : Obj) : Kept S a (setBlock b m o) :=
  ⟨h.os, h.tape, h.output, by simpa [Go.ChangeMaps.setBlock] using h.size, fun i hi hn => by
    have hne : m ≠ i := fun e => by subst e; rcases hm with hm | hm; omega; exact hn hm
    rw [← h.block i hi hn]
    simp [Go.ChangeMaps.setBlock, Array.getElem?_setIfInBounds_ne hne]⟩
theorem Kept.grown {S : Nat → Prop} {a b c : World} {row : Option Nat} (h : Kept S a b) (hg : b.grownBy c row) (hr : ∀ k, row = some k → a.heap.size ≤ k ∨ S k) : Kept S a c :=
  ⟨hg.os.trans h.os, hg.tape.trans h.tape, hg.output.trans h.output, Nat.le_trans h.size hg.size, fun i hi hn =>
    (hg.block i (Nat.lt_of_lt_of_le hi h.size) (fun e => by rcases hr i e.symm with h1 | h1; omega; exact hn h1)).trans (h.block i hi hn)⟩
theorem lt_of_heap {w : World} {b : Nat} {o : Obj} (h : w.heap[b]? = some o) : b < w.heap.size := (Array.getElem?_eq_some_iff.1 h).1
theorem Kept.heap {S : Nat → Prop} {a b : World} (h : Kept S a b) {k : Nat} {o : Obj} (hk : a.heap[k]? = some o) (hn : ¬ S k) : b.heap[k]? = some o := (h.block k (lt_of_heap hk) hn).trans hk

/-- A map's entries, told as a function. -/
def Ents (es : Array MapEntry) (clock : Nat) (M : Int → Option Value) : Prop :=
  Stamped es clock ∧ (∀ e ∈ es.toList, ∃ n, e.key = .int .i64 n ∧ M n = some e.val) ∧ ∀ n v, M n = some v → ∃ e ∈ es.toList, e.key = .int .i64 n
def MapIs (w : World) (m : Nat) (M : Int → Option Value) : Prop := ∃ es clock, w.heap[m]? = some (.map es clock) ∧ Ents es clock M
def put (M : Int → Option Value) (n : Int) (v : Value) : Int → Option Value := fun k => if k = n then some v else M k
theorem Ents.keys {es : Array MapEntry} {clock : Nat} {M : Int → Option Value} (h : Ents es clock M) : ∀ x ∈ es.toList, IsKey (.int .i64) x.key := fun x hx => by
  obtain ⟨n, hn, _⟩ := h.2.1 x hx
  rw [hn]
  exact rfl
theorem ents_empty (c : Nat) : Ents #[] c (fun _ => none) := ⟨stamped_empty c, by simp, by simp⟩
theorem MapIs.lt {w : World} {m : Nat} {M : Int → Option Value} (h : MapIs w m M) : m < w.heap.size := by
  obtain ⟨es, clock, hb, _⟩ := h
  exact lt_of_heap hb
theorem MapIs.kept {S : Nat → Prop} {w w' : World} {m : Nat} {M : Int → Option Value} (h : MapIs w m M) (k : Kept S w w') (hm : ¬ S m) : MapIs w' m M := by
  obtain ⟨es, clock, hb, he⟩ := h
  exact ⟨es, clock, k.heap hb hm, he⟩
theorem MapIs.new (w : World) : MapIs (w.alloc (.map #[] 0)) w.heap.size (fun _ => none) := ⟨#[], 0, (heap_alloc w _).1, ents_empty 0⟩
section
variable {P : Program}
theorem run_look {w : World} {m : Nat} {M : Int → Option Value} (h : MapIs w m M) {t k e : TypeId} (ht : P.underlying t = some (.map k e)) (hk : P.underlying k = some (.int .i64)) {z : Value} (hz : (zeroValue e).run P w = .ok z w) (n : Int) :
    (Instr.lookup t (.map (some m)) (.int .i64 n) false).run P w = .ok ((M n).getD z) w := by
  obtain ⟨es, clock, hb, hs, h1, h2⟩ := h
  have hkey : IsKey (.int .i64) (.int .i64 n) := rfl
  rcases findNow_spec hkey es.toList 0 (Ents.keys ⟨hs, h1, h2⟩) with ⟨f1, f2⟩ | ⟨j, e0, f1, f2, f3⟩
  · have : M n = none := by
      cases hM : M n with
      | none => rfl
      | some v =>
        obtain ⟨e0, he, hke⟩ := h2 n v hM
        exact absurd hke (f2 e0 he)
    simp [Instr.lookup, run_underlying ht, Go.MapKept.run_getObj_map hb, Go.MapKept.run_checkKey hk hkey, Go.MapKept.run_findKey hk f1, hz, this, Result.andThen]
  · have he : e0 ∈ es.toList := List.mem_of_getElem? f2
    obtain ⟨n', hn', hv⟩ := h1 e0 he
    rw [f3] at hn'
    cases hn'
    simp [Instr.lookup, run_underlying ht, Go.MapKept.run_getObj_map hb, Go.MapKept.run_checkKey hk hkey, Go.MapKept.run_findKey hk f1, hv, Result.andThen]
theorem run_put {w : World} {m : Nat} {M : Int → Option Value} (h : MapIs w m M) {t k e : TypeId} (ht : P.underlying t = some (.map k e)) (hk : P.underlying k = some (.int .i64)) (n : Int) (v : Value) :
    ∃ es clock, (Instr.mapUpdate t (.map (some m)) (.int .i64 n) v).run P w = .ok () (setBlock w m (.map es clock)) ∧ Ents es clock (put M n v) := by
  obtain ⟨es, clock, hb, hs, h1, h2⟩ := h
  have hkey : IsKey (.int .i64) (.int .i64 n) := rfl
  have hks := Ents.keys ⟨hs, h1, h2⟩
  rcases findNow_spec hkey es.toList 0 hks with ⟨f1, f2⟩ | ⟨j, e0, f1, f2, f3⟩
  · refine ⟨es.push { key := .int .i64 n, val := v, born := clock }, clock + 1, ?_, stamped_push hs f2, ?_, ?_⟩
    rotate_left
    · intro e he
      simp only [Array.toList_push, List.mem_append, List.mem_singleton] at he
      rcases he with he | rfl
      · obtain ⟨n', hn', hv⟩ := h1 e he
        refine ⟨n', hn', ?_⟩
        have : n' ≠ n := fun e1 => f2 e he (by rw [hn', e1])
        simp [put, this, hv]
      · exact ⟨n, rfl, by simp [put]⟩
    · intro n' v' hv'
      by_cases hn : n' = n
      · subst hn
        exact ⟨_, by simp only [Array.toList_push, List.mem_append, List.mem_singleton]; exact Or.inr rfl, rfl⟩
      · simp only [put, hn, if_false] at hv'
        obtain ⟨e, he, hke⟩ := h2 n' v' hv'
        exact ⟨e, by simp only [Array.toList_push, List.mem_append]; exact Or.inl he, hke⟩
    · simp [Instr.mapUpdate, run_underlying ht, Go.MapKept.run_getObj_map hb, Go.MapKept.run_checkKey hk hkey, Go.MapKept.run_findKey hk f1, Go.MapKept.run_setObj_map _ hb, Result.andThen, setBlock]
  · have hj : es[j]? = some e0 := by simpa using f2
    have hkeyj : ∀ e', es[j]? = some e' → ({ e' with key := .int .i64 n, val := v } : MapEntry).key = e'.key := fun e' he' => by rw [hj] at he'; cases he'; exact f3.symm
    have hmod : ∀ x, x ∈ (es.modify j fun e => { e with key := .int .i64 n, val := v }).toList → (x = { e0 with key := .int .i64 n, val := v }) ∨ (x ∈ es.toList ∧ x.key ≠ .int .i64 n) := by
      intro x hx
      obtain ⟨i, hi⟩ := List.mem_iff_getElem?.1 hx
      rw [Array.getElem?_toList, Array.getElem?_modify] at hi
      by_cases hij : j = i
      · subst hij
        rw [if_pos rfl, hj] at hi
        simp at hi
        exact Or.inl hi.symm
      · rw [if_neg hij] at hi
        refine Or.inr ⟨List.mem_of_getElem? (by rw [Array.getElem?_toList]; exact hi), fun e1 => ?_⟩
        have hp := ((stamped_iff es clock).1 hs).2.2
        have h3 := List.pairwise_iff_getElem.1 hp
        obtain ⟨hil, hie⟩ := Array.getElem?_eq_some_iff.1 hi
        obtain ⟨hjl, hje⟩ := Array.getElem?_eq_some_iff.1 hj
        rcases Nat.lt_or_ge i j with h4 | h4
        · refine h3 i j (by simpa using hil) (by simpa using hjl) h4 ?_
          simp only [Array.getElem_toList, hie, hje, e1, f3]
        · refine h3 j i (by simpa using hjl) (by simpa using hil) (by omega) ?_
          simp only [Array.getElem_toList, hie, hje, e1, f3]
    refine ⟨es.modify j fun e => { e with key := .int .i64 n, val := v }, clock, ?_, stamped_modify hs j (fun e => { e with key := .int .i64 n, val := v }) (fun _ _ => rfl) (fun e' _ he' => hkeyj e' he'), ?_, ?_⟩
    rotate_left
    · intro x hx
      rcases hmod x hx with rfl | ⟨hx', hne⟩
      · exact ⟨n, rfl, by simp [put]⟩
      · obtain ⟨n', hn', hv⟩ := h1 x hx'
        refine ⟨n', hn', ?_⟩
        have : n' ≠ n := fun e1 => hne (by rw [hn', e1])
        simp [put, this, hv]
    · intro n' v' hv'
      have hjm : ({ e0 with key := .int .i64 n, val := v } : MapEntry) ∈ (es.modify j fun e => { e with key := .int .i64 n, val := v }).toList := by
        refine List.mem_of_getElem? (i := j) ?_
        rw [Array.getElem?_toList, Array.getElem?_modify, if_pos rfl, hj]
        rfl
      by_cases hn : n' = n
      · subst hn
        exact ⟨_, hjm, rfl⟩
      · simp only [put, hn, if_false] at hv'
        obtain ⟨e, he, hke⟩ := h2 n' v' hv'
        obtain ⟨i, hi⟩ := List.mem_iff_getElem?.1 he
        refine ⟨e, List.mem_of_getElem? (i := i) ?_, hke⟩
        rw [Array.getElem?_toList] at hi ⊢
        rw [Array.getElem?_modify]
        by_cases hij : j = i
        · subst hij
          rw [hj] at hi
          cases hi
          rw [f3] at hke
          cases hke
          exact absurd rfl hn
        · rw [if_neg hij]; exact hi
    · simp [Instr.mapUpdate, run_underlying ht, Go.MapKept.run_getObj_map hb, Go.MapKept.run_checkKey hk hkey, Go.MapKept.run_findKey hk f1, hj, f3, Go.MapKept.run_keyThatStays hkey, Go.MapKept.run_setObj_map _ hb, Result.andThen, setBlock]
theorem MapIs.put {w : World} {m : Nat} {M M' : Int → Option Value} (h : MapIs w m M) {es : Array MapEntry} {clock : Nat} (he : Ents es clock M') : MapIs (setBlock w m (.map es clock)) m M' := by
  obtain ⟨es0, clock0, hb, _⟩ := h
  exact ⟨es, clock, (heap_set hb).1, he⟩
/-- 'for n, v := range m' under way: 'left' says which keys are to come. -/
def Goes (w : World) (r m : Nat) (M : Int → Option Value) (left : Int → Bool) (cnt : Nat) : Prop :=
  ∃ es clock since seen c0, w.heap[m]? = some (.map es clock) ∧ Ents es clock M ∧ w.heap[r]? = some (.mapIter (some m) since seen c0) ∧ (∀ x ∈ es.toList, x.born < since) ∧ since ≤ c0 ∧ since ≤ clock ∧ (leftOf es seen).size = cnt ∧
    (∀ x ∈ es.toList, ∀ n, x.key = .int .i64 n → left n = !seen.contains x.born) ∧ ∀ n, left n = true → ∃ v, M n = some v
theorem Goes.map {w : World} {r m : Nat} {M : Int → Option Value} {left : Int → Bool} {cnt : Nat} (h : Goes w r m M left cnt) : MapIs w m M := by
  obtain ⟨es, clock, _, _, _, hb, he, _⟩ := h
  exact ⟨es, clock, hb, he⟩
theorem Goes.kept {S : Nat → Prop} {w w' : World} {r m : Nat} {M : Int → Option Value} {left : Int → Bool} {cnt : Nat} (h : Goes w r m M left cnt) (k : Kept S w w') (hm : ¬ S m) (hr : ¬ S r) : Goes w' r m M left cnt := by
  obtain ⟨es, clock, since, seen, c0, hb, he, hi, rest⟩ := h
  exact ⟨es, clock, since, seen, c0, k.heap hb hm, he, k.heap hi hr, rest⟩
theorem run_range {w : World} {m : Nat} {M : Int → Option Value} (h : MapIs w m M) {t k e : TypeId} (ht : P.underlying t = some (.map k e)) :
    ∃ o cnt, (Instr.range t (.map (some m))).run P w = .ok (.pointer (some ⟨w.heap.size, 0, none⟩)) (w.alloc o) ∧ Goes (w.alloc o) w.heap.size m M (fun n => (M n).isSome) cnt := by
  have hlt := h.lt
  obtain ⟨es, clock, hb, he⟩ := h
  refine ⟨_, _, run_range_map w t k e m es clock ht hb, es, clock, clock, #[], clock, ((heap_alloc w _).2 m hlt).trans hb, he, (heap_alloc w _).1, ((stamped_iff es clock).1 he.1).1, Nat.le_refl _, Nat.le_refl _, rfl, ?_, ?_⟩
  · intro x hx n hn
    obtain ⟨n', hn', hv⟩ := he.2.1 x hx
    rw [hn] at hn'
    cases hn'
    simp [hv]
  · intro n hn
    exact Option.isSome_iff_exists.1 hn
theorem run_next {w : World} {r m : Nat} {M : Int → Option Value} {left : Int → Bool} {cnt : Nat} (h : Goes w r m M left cnt) (ty : TypeId) :
    ((∀ n, left n = false) ∧ (Instr.next (.pointer (some ⟨r, 0, none⟩)) false ty).run P w = .ok (.tuple #[.bool false]) w) ∨
    ∃ n v w' cnt', left n = true ∧ M n = some v ∧ (Instr.next (.pointer (some ⟨r, 0, none⟩)) false ty).run P w = .ok (.tuple #[.bool true, .int .i64 n, v]) w' ∧ (Instr.entry (.pointer (some ⟨r, 0, none⟩))).run P w' = .ok (.tuple #[.int .i64 n, v]) w' ∧
      Goes w' r m M (fun k => if k = n then false else left k) cnt' ∧ cnt' < cnt ∧ Kept (fun k => k = r) w w' := by
  obtain ⟨es, clock, since, seen, c0, hb, he, hi, hold, hsc, hsk, hc, hl, hl2⟩ := h
  have hst := (stamped_iff es clock).1 he.1
  have hne : r ≠ m := fun e => by rw [e, hb] at hi; cases hi
  rcases run_next_at (P := P) w ty r m since c0 seen es clock hi hb hold hsc with ⟨h0, hrun⟩ | ⟨e, hel, w1, hal, hrun⟩
  · refine Or.inl ⟨fun n => ?_, hrun⟩
    cases hk : left n
    · rfl
    · obtain ⟨v, hv⟩ := hl2 n hk
      obtain ⟨x, hx, hxk⟩ := he.2.2 n v hv
      rw [hl x hx n hxk, all_seen es seen h0 x hx] at hk
      cases hk
  · obtain ⟨hem, hes⟩ := mem_left hel
    obtain ⟨n, hn, hv⟩ := he.2.1 e hem
    have hr1 : w1.heap[r]? = some (.mapIter (some m) since seen c0) := by rcases hal with rfl | rfl <;> exact hi
    have hb1 : w1.heap[m]? = some (.map es clock) := by rcases hal with rfl | rfl <;> exact hb
    have hset := heap_set (o' := .mapIter (some m) since (seen.push e.born) clock) hr1
    have hb' : (setBlock w1 r (.mapIter (some m) since (seen.push e.born) clock)).heap[m]? = some (.map es clock) := (hset.2 m (fun e1 => hne e1.symm)).trans hb1
    rw [hn] at hrun
    have hent := run_entry_at (P := P) (setBlock w1 r (.mapIter (some m) since (seen.push e.born) clock)) r m since seen es clock e hset.1 hb' hem hst.2.1
    rw [hn] at hent
    have hlt := left_shrinks es seen e hel
    refine Or.inr ⟨n, e.val, _, _, ?_, hv, hrun, hent, ⟨es, clock, since, seen.push e.born, clock, hb', he, hset.1, hold, hsk, hsk, rfl, ?_, ?_⟩, hc ▸ hlt, ?_⟩
    · rw [hl e hem n hn, hes]; rfl
    · intro x hx k hk
      show (if k = n then false else left k) = _
      rw [contains_push]
      by_cases hkn : k = n
      · subst hkn
        rw [if_pos rfl]
        have hxe : x.key = e.key := by rw [hk, hn]
        have : x = e := by
          obtain ⟨i, hi1⟩ := List.mem_iff_getElem?.1 hx
          obtain ⟨j, hj1⟩ := List.mem_iff_getElem?.1 hem
          have h3 := List.pairwise_iff_getElem.1 hst.2.2
          obtain ⟨hil, hie⟩ := List.getElem?_eq_some_iff.1 hi1
          obtain ⟨hjl, hje⟩ := List.getElem?_eq_some_iff.1 hj1
          rcases Nat.lt_trichotomy i j with h4 | h4 | h4
          · exact absurd (by rw [hie, hje, hxe]) (h3 i j hil hjl h4)
          · subst h4; rw [← hie, ← hje]
          · exact absurd (by rw [hie, hje, hxe]) (h3 j i hjl hil h4)
        subst this
        simp
      · rw [if_neg hkn, hl x hx k hk]
        have : (x.born == e.born) = false := by
          cases hb2 : x.born == e.born with
          | false => rfl
          | true =>
            have := born_inj hst.2.1 hx hem (beq_iff_eq.1 hb2)
            subst this
            rw [hk] at hn
            cases hn
            exact absurd rfl hkn
        rw [this, Bool.or_false]
    · intro k hk
      by_cases hkn : k = n
      · simp [hkn] at hk
      · simp only [hkn, if_false] at hk
        exact hl2 k hk
    · have hk1 : Kept (fun k => k = r) w w1 := by
        rcases hal with rfl | rfl
        · exact Kept.refl _ _
        · exact (Kept.refl _ _).drew
      exact hk1.setBlock (Or.inr rfl) _
end
end Go.Proofs.Ytnemnhfdjofckaa.Hp
