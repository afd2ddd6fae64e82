/- The disk: its state and its functions. -/
import Derived.Maps.RangeRun
import Derived.MapKept
import Derived.Below
import Derived.LaidMore
import Derived.StillTail
import Derived.Laws.AppendOwn
import Derived.Laws.OwnMore
import GoSem.ClaimJoined
import Derived.WideShapes
import Derived.RowKit
import Derived.Deep.MidRow
import Derived.Laws.Cover2
import Derived.Test.YtinhednmfldmbaaProg
import Derived.WalkKit
import Derived.Carry
import Derived.Deep.WholeRow
import Derived.StillTailTactics
import Derived.Deep.LoopGhost
import Derived.Deep.CutBlock
import Derived.Deep.DeepCutAuto
import Derived.IntWalk
import Derived.Laws.CopyOwn
import Derived.Laws.BytesArg
namespace Go.Proofs.Ytinhednmfldmbaa.Hp
open Go Go.RowKit Go.ChangeMaps Go.MapKept

/-- A fact, shut: the walk does not look into it. -/
structure Sh (p : Prop) : Prop where
  out : p
/-- Of what was there, nothing but the blocks of S has turned. -/
structure Kept (S : Nat → Prop) (w w' : World) : Prop where
  os : w'.os = w.os
  tape : w'.tape = w.tape
  output : w'.output = w.output
  size : w.heap.size ≤ w'.heap.size
  block : ∀ k, k < w.heap.size → ¬ S k → w'.heap[k]? = w.heap[k]?
theorem Kept.refl (S : Nat → Prop) (w : World) : Kept S w w := ⟨rfl, rfl, rfl, Nat.le_refl _, fun _ _ _ => rfl⟩
theorem Kept.trans {S S' : Nat → Prop} {a b c : World} (h : Kept S a b) (k : Kept S' b c) (hS : ∀ i, i < a.heap.size → S' i → S i) : Kept S a c :=
  ⟨k.os.trans h.os, k.tape.trans h.tape, k.output.trans h.output, Nat.le_trans h.size k.size, fun i hi hn => (k.block i (Nat.lt_of_lt_of_le hi h.size) (fun e => hn (hS i hi e))).trans (h.block i hi hn)⟩
theorem Kept.mono {S S' : Nat → Prop} {a b : World} (h : Kept S a b) (hS : ∀ i, i < a.heap.size → S i → S' i) : Kept S' a b :=
  ⟨h.os, h.tape, h.output, h.size, fun i hi hn => h.block i hi (fun e => hn (hS i hi e))⟩
theorem Kept.of_below {S : Nat → Prop} {a b : World} (h : Below a.heap.size a b) : Kept S a b := ⟨h.os, h.tape, h.output, h.size, fun i hi _ => h.block i hi⟩
theorem Kept.below {S : Nat → Prop} {B : Nat} {a b : World} (h : Kept S a b) (hB : B ≤ a.heap.size) (hS : ∀ i, i < B → ¬ S i) : Below B a b := ⟨h.os, h.tape, h.output, h.size, fun i hi => h.block i (by omega) (hS i hi)⟩
/-- Then a step that leaves what stands. -/
theorem Kept.then {S : Nat → Prop} {a b c : World} (h : Kept S a b) (k : Below b.heap.size b c) : Kept S a c := h.trans (S' := fun _ => False) (Kept.of_below k) (fun _ _ e => e.elim)
theorem Kept.after {S : Nat → Prop} {a b c : World} (h : Below a.heap.size a b) (k : Kept S b c) : Kept S a c := (Kept.of_below (S := S) h).trans k (fun _ _ e => e)
theorem Kept.drew {S : Nat → Prop} {a b : World} (h : Kept S a b) : Kept S a b.drew := ⟨h.os, h.tape, h.output, h.size, h.block⟩
theorem Kept.alloc {S : Nat → Prop} {a b : World} (h : Kept S a b) (o : Obj) : Kept S a (b.alloc o) := h.then ((Below.refl _ _).alloc (Nat.le_refl _) o)
theorem Kept.setCell {S : Nat → Prop} {a b : World} (h : Kept S a b) {p : Addr} (hp : a.heap.size ≤ p.block ∨ S p.block) (u : Value) : Kept S a (b.setCell p u) :=
  ⟨h.os, h.tape, h.output, by simpa [World.setCell] using h.size, fun i hi hn => (Below.heap_setCell b p u i (fun e => by subst e; rcases hp with hp | hp; omega; exact hn hp)).trans (h.block i hi hn)⟩
theorem Kept.setBlock {S : Nat → Prop} {a b : World} (h : Kept S a b) {m : Nat} (hm : a.heap.size ≤ m ∨ S m) (o : Obj) : Kept S a (setBlock b m o) :=
  ⟨h.os, h.tape, h.output, by simpa [Go.ChangeMaps.setBlock] using h.size, fun i hi hn => by
    have hne : m ≠ i := fun e => by subst e; rcases hm with hm | hm; omega; exact hn hm
    rw [← h.block i hi hn]
    simp [Go.ChangeMaps.setBlock, Array.getElem?_setIfInBounds_ne hne]⟩
theorem Kept.grown {S : Nat → Prop} {a b c : World} {row : Option Nat} (h : Kept S a b) (hg : b.grownBy c row) (hr : ∀ k, row = some k → a.heap.size ≤ k ∨ S k) : Kept S a c :=
  ⟨hg.os.trans h.os, hg.tape.trans h.tape, hg.output.trans h.output, Nat.le_trans h.size hg.size, fun i hi hn =>
    (hg.block i (Nat.lt_of_lt_of_le hi h.size) (fun e => by rcases hr i e.symm with h1 | h1; omega; exact hn h1)).trans (h.block i hi hn)⟩
theorem lt_of_heap {w : World} {b : Nat} {o : Obj} (h : w.heap[b]? = some o) : b < w.heap.size := (Array.getElem?_eq_some_iff.1 h).1
theorem Kept.heap {S : Nat → Prop} {a b : World} (h : Kept S a b) {k : Nat} {o : Obj} (hk : a.heap[k]? = some o) (hn : ¬ S k) : b.heap[k]? = some o := (h.block k (lt_of_heap hk) hn).trans hk

/-- A map's entries, told as a function. -/
def Ents (es : Array MapEntry) (clock : Nat) (M : Int → Option Value) : Prop :=
  Stamped es clock ∧ (∀ e ∈ es.toList, ∃ n, e.key = .int .i64 n ∧ M n = some e.val) ∧ ∀ n v, M n = some v → ∃ e ∈ es.toList, e.key = .int .i64 n
def MapIs (w : World) (m : Nat) (M : Int → Option Value) : Prop := ∃ es clock, w.heap[m]? = some (.map es clock) ∧ Ents es clock M
def put (M : Int → Option Value) (n : Int) (v : Value) : Int → Option Value := fun k => if k = n then some v else M k
theorem Ents.keys {es : Array MapEntry} {clock : Nat} {M : Int → Option Value} (h : Ents es clock M) : ∀ x ∈ es.toList, IsKey (.int .i64) x.key := fun x hx => by
  obtain ⟨n, hn, _⟩ := h.2.1 x hx
  rw [hn]
  exact rfl
theorem ents_empty (c : Nat) : Ents #[] c (fun _ => none) := ⟨stamped_empty c, by simp, by simp⟩
theorem MapIs.lt {w : World} {m : Nat} {M : Int → Option Value} (h : MapIs w m M) : m < w.heap.size := by
  obtain ⟨es, clock, hb, _⟩ := h
  exact lt_of_heap hb
theorem MapIs.kept {S : Nat → Prop} {w w' : World} {m : Nat} {M : Int → Option Value} (h : MapIs w m M) (k : Kept S w w') (hm : ¬ S m) : MapIs w' m M := by
  obtain ⟨es, clock, hb, he⟩ := h
  exact ⟨es, clock, k.heap hb hm, he⟩
theorem MapIs.new (w : World) : MapIs (w.alloc (.map #[] 0)) w.heap.size (fun _ => none) := ⟨#[], 0, (heap_alloc w _).1, ents_empty 0⟩
section
variable {P : Program}
theorem run_look {w : World} {m : Nat} {M : Int → Option Value} (h : MapIs w m M) {t k e : TypeId} (ht : P.underlying t = some (.map k e)) (hk : P.underlying k = some (.int .i64)) {z : Value} (hz : (zeroValue e).run P w = .ok z w) (n : Int) :
    (Instr.lookup t (.map (some m)) (.int .i64 n) false).run P w = .ok ((M n).getD z) w := by
  obtain ⟨es, clock, hb, hs, h1, h2⟩ := h
  have hkey : IsKey (.int .i64) (.int .i64 n) := rfl
  rcases findNow_spec hkey es.toList 0 (Ents.keys ⟨hs, h1, h2⟩) with ⟨f1, f2⟩ | ⟨j, e0, f1, f2, f3⟩
  · have : M n = none := by
      cases hM : M n with
      | none => rfl
      | some v =>
        obtain ⟨e0, he, hke⟩ := h2 n v hM
        exact absurd hke (f2 e0 he)
    simp [Instr.lookup, run_underlying ht, Go.MapKept.run_getObj_map hb, Go.MapKept.run_checkKey hk hkey, Go.MapKept.run_findKey hk f1, hz, this, Result.andThen]
  · have he : e0 ∈ es.toList := List.mem_of_getElem? f2
    obtain ⟨n', hn', hv⟩ := h1 e0 he
    rw [f3] at hn'
    cases hn'
    simp [Instr.lookup, run_underlying ht, Go.MapKept.run_getObj_map hb, Go.MapKept.run_checkKey hk hkey, Go.MapKept.run_findKey hk f1, hv, Result.andThen]
theorem run_put {w : World} {m : Nat} {M : Int → Option Value} (h : MapIs w m M) {t k e : TypeId} (ht : P.underlying t = some (.map k e)) (hk : P.underlying k = some (.int .i64)) (n : Int) (v : Value) :
    ∃ es clock, (Instr.mapUpdate t (.map (some m)) (.int .i64 n) v).run P w = .ok () (setBlock w m (.map es clock)) ∧ Ents es clock (put M n v) := by
  obtain ⟨es, clock, hb, hs, h1, h2⟩ := h
  have hkey : IsKey (.int .i64) (.int .i64 n) := rfl
  have hks := Ents.keys ⟨hs, h1, h2⟩
  rcases findNow_spec hkey es.toList 0 hks with ⟨f1, f2⟩ | ⟨j, e0, f1, f2, f3⟩
  · refine ⟨es.push { key := .int .i64 n, val := v, born := clock }, clock + 1, ?_, stamped_push hs f2, ?_, ?_⟩
    rotate_left
    · intro e he
      simp only [Array.toList_push, List.mem_append, List.mem_singleton] at he
      rcases he with he | rfl
      · obtain ⟨n', hn', hv⟩ := h1 e he
        refine ⟨n', hn', ?_⟩
        have : n' ≠ n := fun e1 => f2 e he (by rw [hn', e1])
        simp [put, this, hv]
      · exact ⟨n, rfl, by simp [put]⟩
    · intro n' v' hv'
      by_cases hn : n' = n
      · subst hn
        exact ⟨_, by simp only [Array.toList_push, List.mem_append, List.mem_singleton]; exact Or.inr rfl, rfl⟩
      · simp only [put, hn, if_false] at hv'
        obtain ⟨e, he, hke⟩ := h2 n' v' hv'
        exact ⟨e, by simp only [Array.toList_push, List.mem_append]; exact Or.inl he, hke⟩
    · simp [Instr.mapUpdate, run_underlying ht, Go.MapKept.run_getObj_map hb, Go.MapKept.run_checkKey hk hkey, Go.MapKept.run_findKey hk f1, Go.MapKept.run_setObj_map _ hb, Result.andThen, setBlock]
  · have hj : es[j]? = some e0 := by simpa using f2
    have hkeyj : ∀ e', es[j]? = some e' → ({ e' with key := .int .i64 n, val := v } : MapEntry).key = e'.key := fun e' he' => by rw [hj] at he'; cases he'; exact f3.symm
    have hmod : ∀ x, x ∈ (es.modify j fun e => { e with key := .int .i64 n, val := v }).toList → (x = { e0 with key := .int .i64 n, val := v }) ∨ (x ∈ es.toList ∧ x.key ≠ .int .i64 n) := by
      intro x hx
      obtain ⟨i, hi⟩ := List.mem_iff_getElem?.1 hx
      rw [Array.getElem?_toList, Array.getElem?_modify] at hi
      by_cases hij : j = i
      · subst hij
        rw [if_pos rfl, hj] at hi
        simp at hi
        exact Or.inl hi.symm
      · rw [if_neg hij] at hi
        refine Or.inr ⟨List.mem_of_getElem? (by rw [Array.getElem?_toList]; exact hi), fun e1 => ?_⟩
        have hp := ((stamped_iff es clock).1 hs).2.2
        have h3 := List.pairwise_iff_getElem.1 hp
        obtain ⟨hil, hie⟩ := Array.getElem?_eq_some_iff.1 hi
        obtain ⟨hjl, hje⟩ := Array.getElem?_eq_some_iff.1 hj
        rcases Nat.lt_or_ge i j with h4 | h4
        · refine h3 i j (by simpa using hil) (by simpa using hjl) h4 ?_
          simp only [Array.getElem_toList, hie, hje, e1, f3]
        · refine h3 j i (by simpa using hjl) (by simpa using hil) (by omega) ?_
          simp only [Array.getElem_toList, hie, hje, e1, f3]
    refine ⟨es.modify j fun e => { e with key := .int .i64 n, val := v }, clock, ?_, stamped_modify hs j (fun e => { e with key := .int .i64 n, val := v }) (fun _ _ => rfl) (fun e' _ he' => hkeyj e' he'), ?_, ?_⟩
    rotate_left
    · intro x hx
      rcases hmod x hx with rfl | ⟨hx', hne⟩
      · exact ⟨n, rfl, by simp [put]⟩
      · obtain ⟨n', hn', hv⟩ := h1 x hx'
        refine ⟨n', hn', ?_⟩
        have : n' ≠ n := fun e1 => hne (by rw [hn', e1])
        simp [put, this, hv]
    · intro n' v' hv'
      have hjm : ({ e0 with key := .int .i64 n, val := v } : MapEntry) ∈ (es.modify j fun e => { e with key := .int .i64 n, val := v }).toList := by
        refine List.mem_of_getElem? (i := j) ?_
        rw [Array.getElem?_toList, Array.getElem?_modify, if_pos rfl, hj]
        rfl
      by_cases hn : n' = n
      · subst hn
        exact ⟨_, hjm, rfl⟩
      · simp only [put, hn, if_false] at hv'
        obtain ⟨e, he, hke⟩ := h2 n' v' hv'
        obtain ⟨i, hi⟩ := List.mem_iff_getElem?.1 he
        refine ⟨e, List.mem_of_getElem? (i := i) ?_, hke⟩
        rw [Array.getElem?_toList] at hi ⊢
        rw [Array.getElem?_modify]
        by_cases hij : j = i
        · subst hij
          rw [hj] at hi
          cases hi
          rw [f3] at hke
          cases hke
          exact absurd rfl hn
        · rw [if_neg hij]; exact hi
    · simp [Instr.mapUpdate, run_underlying ht, Go.MapKept.run_getObj_map hb, Go.MapKept.run_checkKey hk hkey, Go.MapKept.run_findKey hk f1, hj, f3, Go.MapKept.run_keyThatStays hkey, Go.MapKept.run_setObj_map _ hb, Result.andThen, setBlock]
theorem MapIs.put {w : World} {m : Nat} {M M' : Int → Option Value} (h : MapIs w m M) {es : Array MapEntry} {clock : Nat} (he : Ents es clock M') : MapIs (setBlock w m (.map es clock)) m M' := by
  obtain ⟨es0, clock0, hb, _⟩ := h
  exact ⟨es, clock, (heap_set hb).1, he⟩
/-- 'for n, v := range m' under way: 'left' says which keys are to come. -/
def Goes (w : World) (r m : Nat) (M : Int → Option Value) (left : Int → Bool) (cnt : Nat) : Prop :=
  ∃ es clock since seen c0, w.heap[m]? = some (.map es clock) ∧ Ents es clock M ∧ w.heap[r]? = some (.mapIter (some m) since seen c0) ∧ (∀ x ∈ es.toList, x.born < since) ∧ since ≤ c0 ∧ since ≤ clock ∧ (leftOf es seen).size = cnt ∧
    (∀ x ∈ es.toList, ∀ n, x.key = .int .i64 n → left n = !seen.contains x.born) ∧ ∀ n, left n = true → ∃ v, M n = some v
theorem Goes.map {w : World} {r m : Nat} {M : Int → Option Value} {left : Int → Bool} {cnt : Nat} (h : Goes w r m M left cnt) : MapIs w m M := by
  obtain ⟨es, clock, _, _, _, hb, he, _⟩ := h
  exact ⟨es, clock, hb, he⟩
theorem Goes.kept {S : Nat → Prop} {w w' : World} {r m : Nat} {M : Int → Option Value} {left : Int → Bool} {cnt : Nat} (h : Goes w r m M left cnt) (k : Kept S w w') (hm : ¬ S m) (hr : ¬ S r) : Goes w' r m M left cnt := by
  obtain ⟨es, clock, since, seen, c0, hb, he, hi, rest⟩ := h
  exact ⟨es, clock, since, seen, c0, k.heap hb hm, he, k.heap hi hr, rest⟩
theorem run_range {w : World} {m : Nat} {M : Int → Option Value} (h : MapIs w m M) {t k e : TypeId} (ht : P.underlying t = some (.map k e)) :
    ∃ o cnt, (Instr.range t (.map (some m))).run P w = .ok (.pointer (some ⟨w.heap.size, 0, none⟩)) (w.alloc o) ∧ Goes (w.alloc o) w.heap.size m M (fun n => (M n).isSome) cnt := by
  have hlt := h.lt
  obtain ⟨es, clock, hb, he⟩ := h
  refine ⟨_, _, run_range_map w t k e m es clock ht hb, es, clock, clock, #[], clock, ((heap_alloc w _).2 m hlt).trans hb, he, (heap_alloc w _).1, ((stamped_iff es clock).1 he.1).1, Nat.le_refl _, Nat.le_refl _, rfl, ?_, ?_⟩
  · intro x hx n hn
    obtain ⟨n', hn', hv⟩ := he.2.1 x hx
    rw [hn] at hn'
    cases hn'
    simp [hv]
  · intro n hn
    exact Option.isSome_iff_exists.1 hn
theorem run_next {w : World} {r m : Nat} {M : Int → Option Value} {left : Int → Bool} {cnt : Nat} (h : Goes w r m M left cnt) (ty : TypeId) :
    ((∀ n, left n = false) ∧ (Instr.next (.pointer (some ⟨r, 0, none⟩)) false ty).run P w = .ok (.tuple #[.bool false]) w) ∨
    ∃ n v w' cnt', left n = true ∧ M n = some v ∧ (Instr.next (.pointer (some ⟨r, 0, none⟩)) false ty).run P w = .ok (.tuple #[.bool true, .int .i64 n, v]) w' ∧ (Instr.entry (.pointer (some ⟨r, 0, none⟩))).run P w' = .ok (.tuple #[.int .i64 n, v]) w' ∧
      Goes w' r m M (fun k => if k = n then false else left k) cnt' ∧ cnt' < cnt ∧ Kept (fun k => k = r) w w' := by
  obtain ⟨es, clock, since, seen, c0, hb, he, hi, hold, hsc, hsk, hc, hl, hl2⟩ := h
  have hst := (stamped_iff es clock).1 he.1
  have hne : r ≠ m := fun e => by rw [e, hb] at hi; cases hi
  rcases run_next_at (P := P) w ty r m since c0 seen es clock hi hb hold hsc with ⟨h0, hrun⟩ | ⟨e, hel, w1, hal, hrun⟩
  · refine Or.inl ⟨fun n => ?_, hrun⟩
    cases hk : left n
    · rfl
    · obtain ⟨v, hv⟩ := hl2 n hk
      obtain ⟨x, hx, hxk⟩ := he.2.2 n v hv
      rw [hl x hx n hxk, all_seen es seen h0 x hx] at hk
      cases hk
  · obtain ⟨hem, hes⟩ := mem_left hel
    obtain ⟨n, hn, hv⟩ := he.2.1 e hem
    have hr1 : w1.heap[r]? = some (.mapIter (some m) since seen c0) := by rcases hal with rfl | rfl <;> exact hi
    have hb1 : w1.heap[m]? = some (.map es clock) := by rcases hal with rfl | rfl <;> exact hb
    have hset := heap_set (o' := .mapIter (some m) since (seen.push e.born) clock) hr1
    have hb' : (setBlock w1 r (.mapIter (some m) since (seen.push e.born) clock)).heap[m]? = some (.map es clock) := (hset.2 m (fun e1 => hne e1.symm)).trans hb1
    rw [hn] at hrun
    have hent := run_entry_at (P := P) (setBlock w1 r (.mapIter (some m) since (seen.push e.born) clock)) r m since seen es clock e hset.1 hb' hem hst.2.1
    rw [hn] at hent
    have hlt := left_shrinks es seen e hel
    refine Or.inr ⟨n, e.val, _, _, ?_, hv, hrun, hent, ⟨es, clock, since, seen.push e.born, clock, hb', he, hset.1, hold, hsk, hsk, rfl, ?_, ?_⟩, hc ▸ hlt, ?_⟩
    · rw [hl e hem n hn, hes]; rfl
    · intro x hx k hk
      show (if k = n then false else left k) = _
      rw [contains_push]
      by_cases hkn : k = n
      · subst hkn
        rw [if_pos rfl]
        have hxe : x.key = e.key := by rw [hk, hn]
        have : x = e := by
          obtain ⟨i, hi1⟩ := List.mem_iff_getElem?.1 hx
          obtain ⟨j, hj1⟩ := List.mem_iff_getElem?.1 hem
          have h3 := List.pairwise_iff_getElem.1 hst.2.2
          obtain ⟨hil, hie⟩ := List.getElem?_eq_some_iff.1 hi1
          obtain ⟨hjl, hje⟩ := List.getElem?_eq_some_iff.1 hj1
          rcases Nat.lt_trichotomy i j with h4 | h4 | h4
          · exact absurd (by rw [hie, hje, hxe]) (h3 i j hil hjl h4)
          · subst h4; rw [← hie, ← hje]
          · exact absurd (by rw [hie, hje, hxe]) (h3 j i hjl hil h4)
        subst this
        simp
      · rw [if_neg hkn, hl x hx k hk]
        have : (x.born == e.born) = false := by
          cases hb2 : x.born == e.born with
          | false => rfl
          | true =>
            have := born_inj hst.2.1 hx hem (beq_iff_eq.1 hb2)
            subst this
            rw [hk] at hn
            cases hn
            exact absurd rfl hkn
        rw [this, Bool.or_false]
    · intro k hk
      by_cases hkn : k = n
      · simp [hkn] at hk
      · simp only [hkn, if_false] at hk
        exact hl2 k hk
    · have hk1 : Kept (fun k => k = r) w w1 := by
        rcases hal with rfl | rfl
        · exact Kept.refl _ _
        · exact (Kept.refl _ _).drew
      exact hk1.setBlock (Or.inr rfl) _
end
end Go.Proofs.Ytinhednmfldmbaa.Hp

namespace Go.Proofs.Ytinhednmfldmbaa.Mo
open Go

/-- What an operation comes to: a value and a world of which R holds. -/
def leaves (P : Program) (R : Value → World → Prop) : Result Next → Prop
  | .ok (.value u) w' => R u w'
  | .ok .skip w' => R undef w'
  | .ok (.enter f args) w' => Calls P f args w' (fun e w'' => ∃ v, e = .returned v ∧ R v w'')
  | .ok (.row row args) w' => Rows P row args w' R
  | _ => False
/-- The value is what the operation gives. -/
def gives (v : Value) : Result Next → Prop
  | .ok (.value u) _ => v = u
  | .ok .skip _ => v = undef
  | _ => True
theorem leaves_mono {P : Program} {R R' : Value → World → Prop} {r : Result Next} (h : ∀ v w, R v w → R' v w) (hh : leaves P R r) : leaves P R' r := by
  cases r with
  | ok n w' =>
    cases n <;> simp only [leaves] at hh ⊢ <;>
      first
        | exact h _ _ hh
        | exact Calls.mono hh (fun e w'' ⟨v, e1, e2⟩ => ⟨v, e1, h _ _ e2⟩)
        | exact Rows.mono hh (fun _ _ he => h _ _ he)
  | halt x w' => simp only [leaves] at hh
theorem leaves_some {P : Program} {R : Value → World → Prop} {r : Result Next} (hh : leaves P R r) : ∃ v w', R v w' ∧ gives v r := by
  cases r with
  | ok n w' =>
    cases n <;> simp only [leaves] at hh <;> simp only [gives]
    case value u => exact ⟨u, w', hh, rfl⟩
    case skip => exact ⟨undef, w', hh, rfl⟩
    case enter f args =>
      obtain ⟨e, w'', fr, ⟨v, _, h2⟩, _⟩ := hh []
      exact ⟨v, w'', h2, trivial⟩
    case row row args =>
      obtain ⟨v, w'', h2, _⟩ := hh default []
      exact ⟨v, w'', h2, trivial⟩
  | halt x w' => simp only [leaves] at hh
theorem wp_of_leaves {P : Program} {o : Oper} {a : Act} {w : World} {R : Value → World → Prop} {K : Act → World → Prop} {Q : Exit → Act → World → Prop}
    (h : leaves P R ((execOp a.eval o).run P w)) (hK : ∀ v w', R v w' → gives v ((execOp a.eval o).run P w) → K (a.put o.dst v) w') : o.wp P a w K Q := by
  unfold Oper.wp
  generalize (execOp a.eval o).run P w = r at *
  cases r with
  | ok n w' =>
    cases n <;> simp only [leaves] at h <;> simp only [gives] at hK <;> simp only [Oper.upon]
    case value u => exact hK _ _ h rfl
    case skip => exact hK _ _ h rfl
    case enter f args => exact Calls.mono h fun e w'' ⟨v, he, h2⟩ => by subst he; exact hK _ _ h2 trivial
    case row row args => exact Rows.mono h fun v w'' h2 => hK _ _ h2 trivial
  | halt x w' => simp only [leaves] at h
theorem put_inj {a : Act} {d : Tmp} {u v : Value} (hlt : d < a.tmps.size) (h : a.put (some d) u = a.put (some d) v) : u = v := by
  have h1 := congrArg (fun z : Act => z.tmps[d]?) h
  simpa [Act.put, hlt] using h1
/-- The same by a rule for the operation's wp. -/
theorem leaves_of_wp {P : Program} {o : Oper} {a : Act} {w : World} {R : Value → World → Prop} {d : Tmp} (hd : o.dst = some d) (hlt : d < a.tmps.size)
    (h : ∀ (K : Act → World → Prop) (Q : Exit → Act → World → Prop), (∀ v w', R v w' → K (a.put (some d) v) w') → o.wp P a w K Q) : leaves P R ((execOp a.eval o).run P w) := by
  have h1 := h (fun a' w' => ∃ v, a' = a.put (some d) v ∧ R v w') (fun _ _ _ => False) (fun v w' hr => ⟨v, rfl, hr⟩)
  unfold Oper.wp at h1
  generalize (execOp a.eval o).run P w = r at *
  cases r with
  | ok n w' =>
    cases n <;> simp only [Oper.upon, hd] at h1 <;> simp only [leaves]
    case value u => obtain ⟨v, e, h2⟩ := h1; rw [put_inj hlt e]; exact h2
    case skip => obtain ⟨v, e, h2⟩ := h1; rw [put_inj hlt e]; exact h2
    case defer d0 =>
      obtain ⟨v, e, _⟩ := h1
      have := congrArg (fun z : Act => z.defers.length) e
      simp [Act.put] at this
    case enter f args =>
      refine Calls.mono h1 fun e w'' he => ?_
      cases e with
      | returned v => obtain ⟨u, e, h2⟩ := he; exact ⟨v, rfl, by rw [put_inj hlt e]; exact h2⟩
      | panicked chain => exact he.elim
      | outgrown => obtain ⟨_, _, h3⟩ := he; exact h3.elim
    case row row args => exact Rows.mono h1 fun v w'' ⟨u, e, h2⟩ => by rw [put_inj hlt e]; exact h2
  | halt x w' => cases x <;> simp only [Oper.upon] at h1

def upd (F : Nat → World → Prop) (k : Nat) (p : World → Prop) : Nat → World → Prop := fun i => if i = k then p else F i
theorem upd_same (F : Nat → World → Prop) (k : Nat) (p : World → Prop) : upd F k p k = p := by simp [upd]
theorem upd_ne (F : Nat → World → Prop) {k i : Nat} (p : World → Prop) (h : i ≠ k) : upd F k p i = F i := by simp [upd, h]
theorem upd_comm (F : Nat → World → Prop) {i j : Nat} (p q : World → Prop) (h : i ≠ j) : upd (upd F i p) j q = upd (upd F j q) i p := by
  funext k
  unfold upd
  by_cases h1 : k = j
  · by_cases h2 : k = i
    · exact absurd (h2.symm.trans h1) h
    · rw [if_pos h1, if_neg h2, if_pos h1]
  · by_cases h2 : k = i
    · rw [if_neg h1, if_pos h2, if_pos h2]
    · rw [if_neg h1, if_neg h2, if_neg h2, if_neg h1]

/-- Does operation k wait for operation i, at first hand? -/
def direct (ops : Array Oper) (k i : Nat) : Bool := (ops[k]?).any fun o => o.after.any fun e => Region.binds .any e && e.on == i
/-- Each operation's set of operations (a number's bits) for which it waits. -/
def masksOk (ops : Array Oper) (B : List Nat) : Bool :=
  (List.range ops.size).all fun k => decide (B.getD k 0 < 2 ^ k) && (List.range k).all fun i => !(B.getD k 0).testBit i || direct ops k i || (List.range k).any fun d => direct ops k d && (B.getD d 0).testBit i
theorem masks_spec {ops : Array Oper} {B : List Nat} (h : masksOk ops B = true) {k i : Nat} (hk : k < ops.size) (hb : (B.getD k 0).testBit i = true) :
    direct ops k i = true ∨ ∃ d, d < k ∧ direct ops k d = true ∧ (B.getD d 0).testBit i = true := by
  simp only [masksOk, List.all_eq_true, List.mem_range, Bool.and_eq_true, decide_eq_true_eq] at h
  obtain ⟨h1, h2⟩ := h k hk
  have hi : i < k := by
    rcases Nat.lt_or_ge i k with h3 | h3
    · exact h3
    · rw [Nat.testBit_lt_two_pow (Nat.lt_of_lt_of_le h1 (Nat.pow_le_pow_right (by decide) h3))] at hb
      cases hb
  have h3 := h2 i hi
  simp only [hb, Bool.not_true, Bool.false_or, Bool.or_eq_true, List.any_eq_true, List.mem_range, Bool.and_eq_true] at h3
  rcases h3 with h3 | ⟨d, h3, h4⟩
  · exact .inl h3
  · exact .inr ⟨d, h3, h4⟩
def Closed (ops : Array Oper) (L : Array Bool) : Prop := ∀ x, L.getD x false = true → ∀ d, direct ops x d = true → L.getD d false = true
theorem direct_ready {ops : Array Oper} {L : Array Bool} {j d : Nat} (hj : j ∈ Region.ready .any ops L) (hd : direct ops j d = true) : L.getD d false = true := by
  obtain ⟨_, o, ho, hall⟩ := mem_ready.1 hj
  simp only [direct, ho, Option.any_some, Array.any_eq_true', Bool.and_eq_true, beq_iff_eq] at hd
  obtain ⟨e, he, hb, rfl⟩ := hd
  exact hall e he hb
theorem size_of_direct {ops : Array Oper} {k d : Nat} (h : direct ops k d = true) : k < ops.size := by
  rcases Nat.lt_or_ge k ops.size with h1 | h1
  · exact h1
  · simp [direct, Array.getElem?_eq_none h1] at h
theorem masks_listed {ops : Array Oper} {B : List Nat} {L : Array Bool} (hB : masksOk ops B = true) (hL : Closed ops L) : ∀ (k : Nat), k < ops.size → (∀ d, direct ops k d = true → L.getD d false = true) →
    ∀ i, (B.getD k 0).testBit i = true → L.getD i false = true := by
  intro k
  induction k using Nat.strongRecOn with
  | ind k ih =>
    intro hk hd i hi
    rcases masks_spec hB hk hi with h | ⟨d, h1, h2, h3⟩
    · exact hd i h
    · exact ih d h1 (by omega) (fun x hx => hL d (hd d h2) x hx) i h3
theorem closed_set {ops : Array Oper} {L : Array Bool} (hL : Closed ops L) {j : Nat} (hj : j ∈ Region.ready .any ops L) : Closed ops (L.setIfInBounds j true) := by
  intro x hx d hd
  by_cases h : j = x
  · subst h
    exact getD_set_true (direct_ready hj hd)
  · rw [getD_set_ne false h] at hx
    exact getD_set_true (hL x hx d hd)

theorem ready_size {ops : Array Oper} {L : Array Bool} {x : Nat} (hx : x ∈ Region.ready .any ops L) : x < ops.size := by
  obtain ⟨_, o, ho, _⟩ := mem_ready.1 hx
  exact (Array.getElem?_eq_some_iff.1 ho).1
theorem not_both {L : Array Bool} {y : Nat} (hy : L.getD y true = false) (h1 : L.getD y false = true) : False := by
  rw [getD_both hy] at h1
  cases h1
theorem unl {ops : Array Oper} {B : List Nat} (hB : masksOk ops B = true) {L : Array Bool} (hc : Closed ops L) {x y : Nat} (hx : x ∈ Region.ready .any ops L) (hy : L.getD y true = false) : (B.getD x 0).testBit y = false := by
  cases hb : (B.getD x 0).testBit y with
  | false => rfl
  | true => exact (not_both hy (masks_listed hB hc x (ready_size hx) (fun d hd => direct_ready hx hd) y hb)).elim
theorem unlisted_set {L : Array Bool} {j k : Nat} (hj : L.getD j true = false) (h : (L.setIfInBounds j true).getD k true = false) : k ≠ j ∧ L.getD k true = false := by
  have hlt : j < L.size := by
    rcases Nat.lt_or_ge j L.size with h' | h'
    · exact h'
    · simp [Array.getElem?_eq_none h'] at hj
  by_cases e : j = k
  · subst e; simp [hlt] at h
  · exact ⟨fun e1 => e e1.symm, by rwa [getD_set_ne true e] at h⟩
/-- Each operation ahead of the n-th waits for none behind it; two of them are apart, or wait. -/
def apartOk (ops : Array Oper) (n : Nat) : Bool := (List.range n).all fun j => ((ops[j]?).any fun o => o.after.all fun e => !Region.binds .any e || decide (e.on < j)) && (List.range j).all fun i => direct ops j i || (match ops[i]?, ops[j]? with | some x, some y => x.apart ops y | _, _ => false)
def done_ (n m : Nat) : Array Bool := (List.replicate n true ++ List.replicate (m - n) false).toArray
def okB (ops : Array Oper) (n : Nat) (B : List Nat) : Bool :=
  Region.noSelect ops && masksOk ops B && apartOk ops n && (n == ops.size || (decide (n < ops.size) && Region.sinkB .any ops n && Region.chainB .any ops n)) && Region.seqB .any ops (ops.size - n) n (done_ n ops.size)

section
variable (P : Program) (ops : Array Oper) (B : List Nat) (C : World → Prop) (Tr : Nat → World → World → Prop) (Pre : Nat → World → Prop) (Ψ : Nat → Array Value → Value → World → Prop)
def avail (F : Nat → World → Prop) (m : Nat) (w : World) : Prop := ∀ i, m.testBit i = true → F i w
/-- The value may be what the operation gives, at some world. -/
def SP (k : Nat) (o : Oper) (F : Nat → World → Prop) (a : Act) (v : Value) : Prop :=
  (∃ w, C w ∧ Pre k w ∧ avail F (B.getD k 0) w ∧ gives v ((execOp a.eval o).run P w)) ∧ ∃ w, C w ∧ Ψ k (o.op.operands.map a.eval) v w
def obl (k : Nat) (o : Oper) (F : Nat → World → Prop) (a : Act) : Prop := ∀ w, C w → Pre k w → avail F (B.getD k 0) w → leaves P (fun v w' => Tr k w w' ∧ Ψ k (o.op.operands.map a.eval) v w') ((execOp a.eval o).run P w)
/-- The walk in the order of the text. -/
def tree (Q : (Nat → World → Prop) → Act → Prop) : List (Nat × Oper) → (Nat → World → Prop) → Act → Prop
  | [], F, a => Q F a
  | (k, o) :: rest, F, a => if Region.wanted o (yielded ops a.tmps) then
      obl P B C Tr Pre Ψ k o F a ∧ ∀ v, SP P B C Pre Ψ k o F a v → tree Q rest (upd F k (Ψ k (o.op.operands.map a.eval) v)) (a.put o.dst v)
    else tree Q rest F (a.put o.dst undef)
/-- No operation that is still to come turns a fact. -/
def StableF (L : Array Bool) (F : Nat → World → Prop) : Prop := ∀ i k, L.getD k true = false → ∀ w w', Tr k w w' → F i w → F i w'
structure Legit (L : Array Bool) (F : Nat → World → Prop) (w : World) : Prop where
  closed : Closed ops L
  stable : StableF Tr L F
  cls : C w
  all : ∀ i, F i w
  pre : ∀ k, L.getD k true = false → Pre k w
variable {P ops B C Tr Pre Ψ}
theorem avail_upd {F : Nat → World → Prop} {m i : Nat} {p : World → Prop} (h : m.testBit i = false) (w : World) : avail (upd F i p) m w ↔ avail F m w := by
  unfold avail
  constructor
  · intro h1 j hj
    have := h1 j hj
    rwa [upd_ne _ _ (fun e => by subst e; rw [h] at hj; cases hj)] at this
  · intro h1 j hj
    rw [upd_ne _ _ (fun e => by subst e; rw [h] at hj; cases hj)]
    exact h1 j hj
theorem args_put {o : Oper} {a : Act} {dst : Option Tmp} {v : Value} (h : ∀ d, dst = some d → d ∉ o.looksAt ops) : o.op.operands.map (a.put dst v).eval = o.op.operands.map a.eval :=
  Array.map_congr_left fun x hx => Act.eval_put fun d hd hxd => h d hd (by
    subst hxd
    exact List.mem_append_left _ (List.mem_filterMap.2 ⟨.tmp d, by simpa using hx, rfl⟩))
theorem obl_act {k : Nat} {o : Oper} {F : Nat → World → Prop} {a : Act} {dst : Option Tmp} {v : Value} (hs : ∀ cs b, o.op ≠ .select cs b) (h : ∀ d, dst = some d → d ∉ o.looksAt ops) :
    obl P B C Tr Pre Ψ k o F (a.put dst v) ↔ obl P B C Tr Pre Ψ k o F a := by
  unfold obl
  rw [execOp_put (ops := ops) o hs a dst v h, args_put h]
theorem SP_act {k : Nat} {o : Oper} {F : Nat → World → Prop} {a : Act} {dst : Option Tmp} {v u : Value} (hs : ∀ cs b, o.op ≠ .select cs b) (h : ∀ d, dst = some d → d ∉ o.looksAt ops) :
    SP P B C Pre Ψ k o F (a.put dst v) u ↔ SP P B C Pre Ψ k o F a u := by
  unfold SP
  rw [execOp_put (ops := ops) o hs a dst v h, args_put h]
theorem obl_upd {k i : Nat} {o : Oper} {F : Nat → World → Prop} {a : Act} {p : World → Prop} (hm : (B.getD k 0).testBit i = false) :
    obl P B C Tr Pre Ψ k o (upd F i p) a ↔ obl P B C Tr Pre Ψ k o F a := by
  unfold obl
  constructor
  · intro h1 w h2 h3 h4
    exact h1 w h2 h3 ((avail_upd hm w).2 h4)
  · intro h1 w h2 h3 h4
    exact h1 w h2 h3 ((avail_upd hm w).1 h4)
theorem SP_upd {k i : Nat} {o : Oper} {F : Nat → World → Prop} {a : Act} {u : Value} {p : World → Prop} (hm : (B.getD k 0).testBit i = false) :
    SP P B C Pre Ψ k o (upd F i p) a u ↔ SP P B C Pre Ψ k o F a u := by
  unfold SP
  constructor
  · rintro ⟨⟨w, h2, h3, h4, h5⟩, h6⟩
    exact ⟨⟨w, h2, h3, (avail_upd hm w).1 h4, h5⟩, h6⟩
  · rintro ⟨⟨w, h2, h3, h4, h5⟩, h6⟩
    exact ⟨⟨w, h2, h3, (avail_upd hm w).2 h4, h5⟩, h6⟩
theorem stable_set (hB : masksOk ops B = true) {L : Array Bool} (hc : Closed ops L) (hst : ∀ j k A v w w', j ≠ k → (B.getD j 0).testBit k = false → Tr k w w' → Ψ j A v w → Ψ j A v w') {F : Nat → World → Prop} (hF : StableF Tr L F) {j : Nat} (hj : j ∈ Region.ready .any ops L) (A : Array Value) (v : Value) :
    StableF Tr (L.setIfInBounds j true) (upd F j (Ψ j A v)) := by
  intro i k hk w w' ht h
  obtain ⟨hkj, hk'⟩ := unlisted_set (mem_ready.1 hj).1 hk
  by_cases e : i = j
  · subst e
    rw [upd_same] at *
    exact hst i k A v w w' (Ne.symm hkj) (unl hB hc hj hk') ht h
  · rw [upd_ne _ _ e] at *
    exact hF i k hk' w w' ht h
theorem Legit.skip {L : Array Bool} {F : Nat → World → Prop} {w : World} (h : Legit ops C Tr Pre L F w) {j : Nat} (hj : j ∈ Region.ready .any ops L) : Legit ops C Tr Pre (L.setIfInBounds j true) F w :=
  ⟨closed_set h.closed hj, fun i k hk => h.stable i k (unlisted_set (mem_ready.1 hj).1 hk).2, h.cls, h.all, fun k hk => h.pre k (unlisted_set (mem_ready.1 hj).1 hk).2⟩
theorem Legit.step (hB : masksOk ops B = true) (hC : ∀ k w w', C w → Tr k w w' → C w') (hst : ∀ j k A v w w', j ≠ k → (B.getD j 0).testBit k = false → Tr k w w' → Ψ j A v w → Ψ j A v w')
    (hpre : ∀ j k w w', j ≠ k → (B.getD k 0).testBit j = false → C w → Tr k w w' → Pre j w → Pre j w') {L : Array Bool} {F : Nat → World → Prop} {w w' : World} (h : Legit ops C Tr Pre L F w) {j : Nat} (hj : j ∈ Region.ready .any ops L) {A : Array Value} {v : Value}
    (ht : Tr j w w') (hp : Ψ j A v w') : Legit ops C Tr Pre (L.setIfInBounds j true) (upd F j (Ψ j A v)) w' := by
  refine ⟨closed_set h.closed hj, stable_set hB h.closed hst h.stable hj A v, hC _ _ _ h.cls ht, fun i => ?_, fun k hk => ?_⟩
  · by_cases e : i = j
    · subst e; rw [upd_same]; exact hp
    · rw [upd_ne _ _ e]; exact h.stable i j (mem_ready.1 hj).1 w w' ht (h.all i)
  · obtain ⟨h1, h2⟩ := unlisted_set (mem_ready.1 hj).1 hk
    exact hpre k j w w' h1 (unl hB h.closed hj h2) h.cls ht (h.pre k h2)
theorem obl_some {k : Nat} {o : Oper} {F : Nat → World → Prop} {a : Act} {w : World} (ho : obl P B C Tr Pre Ψ k o F a) (hcl : ∀ w', Tr k w w' → C w') (h1 : C w) (h2 : Pre k w) (h3 : avail F (B.getD k 0) w) :
    ∃ v w', SP P B C Pre Ψ k o F a v ∧ Tr k w w' ∧ Ψ k (o.op.operands.map a.eval) v w' := by
  obtain ⟨v, w', ⟨h4, h5⟩, h6⟩ := leaves_some (ho w h1 h2 h3)
  exact ⟨v, w', ⟨⟨w, h1, h2, h3, h6⟩, w', hcl _ h4, h5⟩, h4, h5⟩
theorem apart_of {n : Nat} (hA : apartOk ops n = true) {i j : Nat} {oi oj : Oper} (hj : j < n) (hij : i < j) (hi : ops[i]? = some oi) (hoj : ops[j]? = some oj) (hd : direct ops j i = false) : oi.apart ops oj = true := by
  simp only [apartOk, List.all_eq_true, List.mem_range, Bool.and_eq_true] at hA
  have h1 := (hA j hj).2 i hij
  rw [hd, hi, hoj] at h1
  simpa using h1
theorem topo_of {n : Nat} (hA : apartOk ops n = true) {j : Nat} {o : Oper} (hj : j < n) (ho : ops[j]? = some o) {e : Edge} (he : e ∈ o.after) (hb : Region.binds .any e = true) : e.on < j := by
  simp only [apartOk, List.all_eq_true, List.mem_range, Bool.and_eq_true] at hA
  have h1 := (hA j hj).1
  rw [ho, Option.any_some] at h1
  have h2 := Array.all_eq_true_iff_forall_mem.1 h1 e he
  simpa [hb] using h2
/-- Which operations are to come. -/
structure Rest (ops : Array Oper) (n : Nat) (l : List (Nat × Oper)) (L : Array Bool) : Prop where
  size : L.size = ops.size
  mem : ∀ k o, (k, o) ∈ l → k < n ∧ ops[k]? = some o ∧ L.getD k true = false
  all : ∀ k, k < n → L.getD k true = false → ∃ o, (k, o) ∈ l
  sorted : l.Pairwise fun x y => x.1 < y.1
  tail : ∀ t, n ≤ t → t < ops.size → L.getD t true = false
theorem Rest.cut {n : Nat} {l1 l2 : List (Nat × Oper)} {j : Nat} {o : Oper} {L : Array Bool} (h : Rest ops n (l1 ++ (j, o) :: l2) L) : Rest ops n (l1 ++ l2) (L.setIfInBounds j true) := by
  obtain ⟨hjn, hoj, hju⟩ := h.mem j o (by simp)
  have hs := h.sorted
  rw [List.pairwise_append, List.pairwise_cons] at hs
  obtain ⟨s1, ⟨s2, s3⟩, s4⟩ := hs
  have ne : ∀ k o', (k, o') ∈ l1 ++ l2 → k ≠ j := fun k o' hk => by
    rcases List.mem_append.1 hk with h1 | h1
    · have := s4 (k, o') h1 (j, o) (by simp); simp at this; omega
    · have := s2 (k, o') h1; simp at this; omega
  refine ⟨by simpa using h.size, fun k o' hk => ?_, fun k hk hu => ?_, ?_, fun t ht hts => ?_⟩
  · obtain ⟨h1, h2, h3⟩ := h.mem k o' (by
      rcases List.mem_append.1 hk with h1 | h1
      · exact List.mem_append.2 (Or.inl h1)
      · exact List.mem_append.2 (Or.inr (List.mem_cons.2 (Or.inr h1))))
    exact ⟨h1, h2, by rw [getD_set_ne true (Ne.symm (ne k o' hk))]; exact h3⟩
  · obtain ⟨h1, h2⟩ := unlisted_set hju hu
    obtain ⟨o', ho'⟩ := h.all k hk h2
    refine ⟨o', ?_⟩
    rcases List.mem_append.1 ho' with h3 | h3
    · exact List.mem_append.2 (Or.inl h3)
    · rcases List.mem_cons.1 h3 with h4 | h4
      · cases h4; exact absurd rfl h1
      · exact List.mem_append.2 (Or.inr h4)
  · rw [List.pairwise_append]
    exact ⟨s1, s3, fun x hx y hy => s4 x hx y (List.mem_cons.2 (Or.inr hy))⟩
  · rw [getD_set_ne true (by omega)]
    exact h.tail t ht hts
theorem Rest.ready {n : Nat} (hA : apartOk ops n = true) {l : List (Nat × Oper)} {j : Nat} {o : Oper} {L : Array Bool} (h : Rest ops n ((j, o) :: l) L) : j ∈ Region.ready .any ops L := by
  obtain ⟨hjn, hoj, hju⟩ := h.mem j o (by simp)
  have hs := List.pairwise_cons.1 h.sorted
  refine mem_ready.2 ⟨hju, o, hoj, fun e he hb => ?_⟩
  have hlt := topo_of hA hjn hoj he hb
  cases hx : L.getD e.on false with
  | true => rfl
  | false =>
    exfalso
    have hjs := (Array.getElem?_eq_some_iff.1 hoj).1
    obtain ⟨o', ho'⟩ := h.all e.on (by omega) (getD_in (by rw [h.size]; omega) hx)
    rcases List.mem_cons.1 ho' with h4 | h4
    · cases h4; omega
    · have := hs.1 _ h4; simp at this; omega
theorem direct_false {L : Array Bool} {i j : Nat} (hj : j ∈ Region.ready .any ops L) (hi : L.getD i true = false) : direct ops j i = false := by
  cases hd : direct ops j i with
  | false => rfl
  | true => exact (not_both hi (direct_ready hj hd)).elim
/-- What the walk shows of an operation that comes up now. -/
theorem extract (hB : masksOk ops B = true) (hC : ∀ k w w', C w → Tr k w w' → C w') (hst : ∀ j k A v w w', j ≠ k → (B.getD j 0).testBit k = false → Tr k w w' → Ψ j A v w → Ψ j A v w')
    (hpre : ∀ j k w w', j ≠ k → (B.getD k 0).testBit j = false → C w → Tr k w w' → Pre j w → Pre j w') {n : Nat} (hA : apartOk ops n = true) (hsel : Region.noSelect ops = true) {Q : (Nat → World → Prop) → Act → Prop} {j : Nat} {oj : Oper} :
    ∀ (l : List (Nat × Oper)) (L : Array Bool) (F : Nat → World → Prop) (a : Act) (w : World), (j, oj) ∈ l → Rest ops n l L → j ∈ Region.ready .any ops L → Legit ops C Tr Pre L F w → tree P ops B C Tr Pre Ψ Q l F a →
      Region.wanted oj (yielded ops a.tmps) = true → obl P B C Tr Pre Ψ j oj F a
  | [], _, _, _, _, hm, _, _, _, _, _ => by simp at hm
  | (i, oi) :: rest, L, F, a, w, hm, hR, hr, hL, hT, hw => by
    obtain ⟨hin, hoi, hiu⟩ := hR.mem i oi (by simp)
    obtain ⟨hjn, hoj, hju⟩ := hR.mem j oj hm
    by_cases hij : i = j
    · subst hij
      have : oi = oj := Option.some.inj (hoi.symm.trans hoj)
      subst this
      unfold tree at hT
      rw [if_pos hw] at hT
      exact hT.1
    · have hm' : (j, oj) ∈ rest := by
        rcases List.mem_cons.1 hm with h | h
        · cases h; exact absurd rfl hij
        · exact h
      have hlt : i < j := by have := (List.pairwise_cons.1 hR.sorted).1 _ hm'; simpa using this
      have hir := hR.ready hA
      have hap := apart_of hA hjn hlt hoi hoj (direct_false hr hiu)
      obtain ⟨h1, h2, h3⟩ := Oper.apart_spec hap
      have si : ∀ cs b, oi.op ≠ .select cs b := fun cs b => Region.noSelect_spec hsel i oi cs b hoi
      have sj : ∀ cs b, oj.op ≠ .select cs b := fun cs b => Region.noSelect_spec hsel j oj cs b hoj
      have hR' : Rest ops n rest (L.setIfInBounds i true) := by
        have := Rest.cut (l1 := []) hR
        simpa using this
      unfold tree at hT
      split at hT
      · obtain ⟨ho, hk⟩ := hT
        obtain ⟨v, w', sv, ht, hp⟩ := obl_some ho (fun w' => hC i w w' hL.cls) hL.cls (hL.pre i hiu) (fun x _ => hL.all x)
        have hL' := hL.step hB hC hst hpre hir (A := oi.op.operands.map a.eval) ht hp
        have := extract hB hC hst hpre hA hsel rest _ _ _ w' hm' hR' (ready_mono hr (Ne.symm hij)) hL' (hk v sv) (by rw [wanted_put oj a oi.dst v h1]; exact hw)
        exact (obl_upd (unl hB hL.closed hr hiu)).1 ((obl_act sj h1).1 this)
      · have := extract hB hC hst hpre hA hsel rest _ _ _ w hm' hR' (ready_mono hr (Ne.symm hij)) (hL.skip hir) hT (by rw [wanted_put oj a oi.dst undef h1]; exact hw)
        exact (obl_act sj h1).1 this
/-- The walk of what is left, once an operation has come up. -/
theorem residual (hB : masksOk ops B = true) {n : Nat} (hA : apartOk ops n = true) (hsel : Region.noSelect ops = true) {Q : (Nat → World → Prop) → Act → Prop} {j : Nat} {oj : Oper} {l2 : List (Nat × Oper)} {L : Array Bool} (hc : Closed ops L) (hr : j ∈ Region.ready .any ops L) (hjn : j < n) (hoj : ops[j]? = some oj) :
    ∀ (l1 : List (Nat × Oper)) (F : Nat → World → Prop) (a : Act), (∀ i oi, (i, oi) ∈ l1 → i < j ∧ ops[i]? = some oi ∧ L.getD i true = false) → tree P ops B C Tr Pre Ψ Q (l1 ++ (j, oj) :: l2) F a →
      (Region.wanted oj (yielded ops a.tmps) = true → ∀ u, SP P B C Pre Ψ j oj F a u → tree P ops B C Tr Pre Ψ Q (l1 ++ l2) (upd F j (Ψ j (oj.op.operands.map a.eval) u)) (a.put oj.dst u)) ∧
      (Region.wanted oj (yielded ops a.tmps) = false → tree P ops B C Tr Pre Ψ Q (l1 ++ l2) F (a.put oj.dst undef))
  | [], F, a, _, hT => by
    rw [List.nil_append] at *
    unfold tree at hT
    refine ⟨fun hw u su => ?_, fun hw => ?_⟩
    · rw [if_pos hw] at hT
      exact hT.2 u su
    · rw [if_neg (by rw [hw]; decide)] at hT
      exact hT
  | (i, oi) :: l1, F, a, hl, hT => by
    obtain ⟨hij, hoi, hiu⟩ := hl i oi (by simp)
    have hl' : ∀ i oi, (i, oi) ∈ l1 → i < j ∧ ops[i]? = some oi ∧ L.getD i true = false := fun i oi h => hl i oi (List.mem_cons.2 (Or.inr h))
    have hap := apart_of hA hjn hij hoi hoj (direct_false hr hiu)
    obtain ⟨h1, h2, h3⟩ := Oper.apart_spec hap
    have si : ∀ cs b, oi.op ≠ .select cs b := fun cs b => Region.noSelect_spec hsel i oi cs b hoi
    have sj : ∀ cs b, oj.op ≠ .select cs b := fun cs b => Region.noSelect_spec hsel j oj cs b hoj
    have mj := unl hB hc hr hiu
    have mi : (B.getD i 0).testBit j = false := by
      have hB' := hB
      simp only [masksOk, List.all_eq_true, List.mem_range, Bool.and_eq_true, decide_eq_true_eq] at hB'
      have := (hB' i (Array.getElem?_eq_some_iff.1 hoi).1).1
      exact Nat.testBit_lt_two_pow (Nat.lt_of_lt_of_le this (Nat.pow_le_pow_right (by decide) (by omega)))
    rw [List.cons_append] at hT ⊢
    unfold tree at hT
    refine ⟨fun hw u su => ?_, fun hw => ?_⟩
    · unfold tree
      rw [wanted_put oi a oj.dst u h3]
      split at hT
      · rename_i wi
        rw [if_pos wi]
        refine ⟨(obl_upd mi).2 ((obl_act si h3).2 hT.1), fun v sv => ?_⟩
        have sv' := (SP_act si h3).1 ((SP_upd mi).1 sv)
        rw [args_put h3, upd_comm _ _ _ (by omega), ← Act.put_comm a v u h2]
        have := (residual hB hA hsel hc hr hjn hoj l1 _ _ hl' (hT.2 v sv')).1 (by rw [wanted_put oj a oi.dst v h1]; exact hw) u ((SP_upd mj).2 ((SP_act sj h1).2 su))
        rw [args_put h1] at this
        exact this
      · rename_i wi
        rw [if_neg wi, ← Act.put_comm a undef u h2]
        have := (residual hB hA hsel hc hr hjn hoj l1 _ _ hl' hT).1 (by rw [wanted_put oj a oi.dst undef h1]; exact hw) u ((SP_act sj h1).2 su)
        rw [args_put h1] at this
        exact this
    · unfold tree
      rw [wanted_put oi a oj.dst undef h3]
      split at hT
      · rename_i wi
        rw [if_pos wi]
        refine ⟨(obl_act si h3).2 hT.1, fun v sv => ?_⟩
        have sv' := (SP_act si h3).1 sv
        rw [args_put h3, ← Act.put_comm a v undef h2]
        exact (residual hB hA hsel hc hr hjn hoj l1 _ _ hl' (hT.2 v sv')).2 (by rw [wanted_put oj a oi.dst v h1]; exact hw)
      · rename_i wi
        rw [if_neg wi, ← Act.put_comm a undef undef h2]
        exact (residual hB hA hsel hc hr hjn hoj l1 _ _ hl' hT).2 (by rw [wanted_put oj a oi.dst undef h1]; exact hw)
theorem rest_split {n : Nat} {l : List (Nat × Oper)} {L : Array Bool} (hR : Rest ops n l L) {j : Nat} {o : Oper} (hm : (j, o) ∈ l) : ∃ l1 l2, l = l1 ++ (j, o) :: l2 ∧ ∀ i oi, (i, oi) ∈ l1 → i < j ∧ ops[i]? = some oi ∧ L.getD i true = false := by
  obtain ⟨l1, l2, rfl⟩ := List.append_of_mem hm
  refine ⟨l1, l2, rfl, fun i oi h => ?_⟩
  obtain ⟨h1, h2, h3⟩ := hR.mem i oi (List.mem_append.2 (Or.inl h))
  have hs := hR.sorted
  rw [List.pairwise_append] at hs
  have := hs.2.2 (i, oi) h (j, o) (by simp)
  exact ⟨by simpa using this, h2, h3⟩
theorem sound (hB : masksOk ops B = true) (hC : ∀ k w w', C w → Tr k w w' → C w') (hst : ∀ j k A v w w', j ≠ k → (B.getD j 0).testBit k = false → Tr k w w' → Ψ j A v w → Ψ j A v w')
    (hpre : ∀ j k w w', j ≠ k → (B.getD k 0).testBit j = false → C w → Tr k w w' → Pre j w → Pre j w') {n g : Nat} (hA : apartOk ops n = true) (hsel : Region.noSelect ops = true) (htail : n = ops.size ∨ (n < ops.size ∧ Region.sinkB .any ops n = true ∧ Region.chainB .any ops n = true))
    {Q : (Nat → World → Prop) → Act → Prop} {Q' : Exit → Act → World → Prop} (hQ : ∀ L F a w, Rest ops n [] L → Legit ops C Tr Pre L F w → Q F a → wpAny P .any ops Q' g L a w) :
    ∀ (m : Nat) (l : List (Nat × Oper)) (L : Array Bool) (F : Nat → World → Prop) (a : Act) (w : World), l.length = m → Rest ops n l L → Legit ops C Tr Pre L F w → tree P ops B C Tr Pre Ψ Q l F a → wpAny P .any ops Q' (m + g) L a w
  | 0, l, L, F, a, w, hl, hR, hL, hT => by
    have : l = [] := List.eq_nil_of_length_eq_zero hl
    subst this
    rw [Nat.zero_add]
    exact hQ L F a w hR hL hT
  | m + 1, l, L, F, a, w, hl, hR, hL, hT => by
    rw [show m + 1 + g = (m + g) + 1 by omega]
    have hne : ∃ k o l', l = (k, o) :: l' := by
      cases l with
      | nil => simp at hl
      | cons x l' => exact ⟨x.1, x.2, l', rfl⟩
    obtain ⟨k, o, l', rfl⟩ := hne
    have hk := hR.ready hA
    refine ⟨fun h0 => (by rw [h0] at hk; cases hk), fun j hj => ?_⟩
    obtain ⟨hju, oj, hoj, hall⟩ := mem_ready.1 hj
    have hjn : j < n := by
      rcases Nat.lt_or_ge j n with h | h
      · exact h
      · rcases htail with e | ⟨hn, hs, hcb⟩
        · have := (Array.getElem?_eq_some_iff.1 hoj).1; omega
        · have inv : HeadInv .any ops n L := ⟨hR.size, fun x ox hx hxl e he hb => hL.closed x hxl e.on (by
            simp only [direct, hx, Option.any_some, Array.any_eq_true', Bool.and_eq_true, beq_iff_eq]
            exact ⟨e, he, hb, rfl⟩), hR.tail⟩
          obtain ⟨hkn, _, hku⟩ := hR.mem k o (by simp)
          exact absurd hj (tail_waits hs hcb hn inv _ k rfl hkn hku j h)
    obtain ⟨o', hm⟩ := hR.all j hjn hju
    have : o' = oj := Option.some.inj ((hR.mem j o' hm).2.1.symm.trans hoj)
    subst this
    obtain ⟨l1, l2, he, hl1⟩ := rest_split hR hm
    have hres := residual hB hA hsel hL.closed hj hjn hoj l1 F a hl1 (he ▸ hT)
    have hR' : Rest ops n (l1 ++ l2) (L.setIfInBounds j true) := Rest.cut (o := o') (by rw [← he]; exact hR)
    have hlen : (l1 ++ l2).length = m := by
      have := congrArg List.length he
      simp only [List.length_append, List.length_cons] at this hl ⊢
      omega
    unfold wpOp
    simp only [hoj]
    split
    · rename_i hw
      have ho := extract hB hC hst hpre hA hsel ((k, o) :: l') L F a w hm hR hj hL hT hw
      refine .inl (wp_of_leaves (ho w hL.cls (hL.pre j hju) fun x _ => hL.all x) fun v w' ⟨h2, h3⟩ hg => ?_)
      have hL' := hL.step hB hC hst hpre hj (A := o'.op.operands.map a.eval) h2 h3
      exact sound hB hC hst hpre hA hsel htail hQ m (l1 ++ l2) _ _ _ w' hlen hR' hL' (hres.1 hw v ⟨⟨w, hL.cls, hL.pre j hju, fun x _ => hL.all x, hg⟩, w', hL'.cls, h3⟩)
    · rename_i hw
      exact sound hB hC hst hpre hA hsel htail hQ m (l1 ++ l2) _ _ _ w hlen hR' (hL.skip hj) (hres.2 (by simpa using hw))
/-- The walk, shut: nothing looks into it. -/
structure Wm (P : Program) (ops : Array Oper) (B : List Nat) (C : World → Prop) (Tr : Nat → World → World → Prop) (Pre : Nat → World → Prop) (Ψ : Nat → Array Value → Value → World → Prop) (Q : (Nat → World → Prop) → Act → Prop) (l : List Oper) (k : Nat) (F : Nat → World → Prop) (a : Act) : Prop where
  out : tree P ops B C Tr Pre Ψ Q (l.zipIdx k |>.map fun x => (x.2, x.1)) F a
/-- THE LAW: the first n operations in whatever order; the others, which come up in one order, are walked one behind the other. -/
theorem region {id : Nat} {Q : Exit → Act → World → Prop} {a : Act} {w : World} {l : List Oper} (n : Nat) (B : List Nat) (C : World → Prop) (Tr : Nat → World → World → Prop) (Pre : Nat → World → Prop) (Ψ : Nat → Array Value → Value → World → Prop)
    (hC0 : C w.drew) (hP0 : ∀ k, Pre k w.drew) (hC : ∀ k w w', C w → Tr k w w' → C w') (hst : ∀ j k A v w w', j ≠ k → (B.getD j 0).testBit k = false → Tr k w w' → Ψ j A v w → Ψ j A v w')
    (hpre : ∀ j k w w', j ≠ k → (B.getD k 0).testBit j = false → C w → Tr k w w' → Pre j w → Pre j w') (hm : P.follows .mixedOrders = true) (hX : okB l.toArray n B = true)
    (h : Wm P l.toArray B C Tr Pre Ψ (fun F a' => ∀ w', C w' → (∀ i, F i w') → (∀ k, n ≤ k → k < l.length → Pre k w') → wpList P l.toArray Q (l.drop n) a' w') (l.take n) 0 (fun _ _ => True) a) : (Code.region id l.toArray true).wp P Q a w := by
  simp only [okB, Bool.and_eq_true, Bool.or_eq_true, beq_iff_eq, decide_eq_true_eq] at hX
  obtain ⟨⟨⟨⟨hsel, hB⟩, hA⟩, htl⟩, hseq⟩ := hX
  have hnl : n ≤ l.length := by
    rcases htl with e | ⟨⟨h1, _⟩, _⟩
    · simpa using Nat.le_of_eq e
    · simpa using Nat.le_of_lt h1
  have htake : (l.take n).length = n := by simp; omega
  have hget : ∀ (k : Nat) (o : Oper), (k, o) ∈ ((l.take n).zipIdx 0 |>.map fun x => (x.2, x.1)) ↔ k < n ∧ l[k]? = some o := fun k o => by
    simp only [List.mem_map, Prod.mk.injEq, Prod.exists]
    constructor
    · rintro ⟨o', k', h1, rfl, rfl⟩
      have := List.mem_zipIdx_iff_getElem?.1 h1
      rw [List.getElem?_take] at this
      split at this
      · exact ⟨by assumption, this⟩
      · cases this
    · rintro ⟨h1, h2⟩
      refine ⟨o, k, List.mem_zipIdx_iff_getElem?.2 ?_, rfl, rfl⟩
      show (l.take n)[k]? = some o
      rw [List.getElem?_take, if_pos h1]
      exact h2
  have hR : Rest l.toArray n ((l.take n).zipIdx 0 |>.map fun x => (x.2, x.1)) (Array.replicate l.toArray.size false) := by
    refine ⟨by simp, fun k o hk => ?_, fun k hk hu => ?_, ?_, fun t ht hts => getD_in (by simpa using hts) (getD_replicate_false _ _)⟩
    · obtain ⟨h1, h2⟩ := (hget k o).1 hk
      exact ⟨h1, by simpa using h2, getD_in (by simp; omega) (getD_replicate_false _ _)⟩
    · have hkl : k < l.length := by omega
      exact ⟨l[k], (hget k _).2 ⟨hk, List.getElem?_eq_getElem hkl⟩⟩
    · rw [List.pairwise_map]
      exact (List.pairwise_iff_getElem.2 fun i j hi hj hij => by
        simp only [List.getElem_zipIdx]
        omega)
  have hL : Legit l.toArray C Tr Pre (Array.replicate l.toArray.size false) (fun _ _ => True) w.drew :=
    ⟨fun x hx => (by rw [getD_replicate_false] at hx; cases hx), fun _ _ _ _ _ _ h => h, hC0, fun _ => trivial, fun k _ => hP0 k⟩
  refine wp_region_any hm ?_
  have H := sound (P := P) (n := n) (g := l.toArray.size - n) (Q' := Q) hB hC hst hpre hA hsel (by
    rcases htl with e | ⟨⟨h1, h2⟩, h3⟩
    · exact Or.inl e
    · exact Or.inr ⟨h1, h2, h3⟩) (fun L F a' w' hRL hLL hq => by
    have hLe : L = done_ n l.toArray.size := by
      apply Array.ext_getElem?
      intro i
      rcases Nat.lt_or_ge i l.toArray.size with h1 | h1
      · have hi : i < L.size := by rw [hRL.size]; exact h1
        rw [Array.getElem?_eq_getElem hi]
        rcases Nat.lt_or_ge i n with h2 | h2
        · have : L[i] = true := by
            cases hx : L[i] with
            | true => rfl
            | false =>
              obtain ⟨o, ho⟩ := hRL.all i h2 (by simp [hi, hx])
              simp at ho
          rw [this]
          simp [done_, List.getElem?_append, h2]
        · have hx := hRL.tail i h2 h1
          have : L[i] = false := by simpa [hi] using hx
          rw [this]
          have h3 : ¬ i < n := by omega
          simp [done_, List.getElem?_append, h3]
          have hsz : l.toArray.size = l.length := by simp
          rw [List.getElem?_replicate, if_pos (by omega)]
      · rw [Array.getElem?_eq_none (by rw [hRL.size]; exact h1), Array.getElem?_eq_none (by simp [done_] at h1 ⊢; omega)]
    have := wpAny_of_seq (md := .any) (Q' := Q) (l.drop n) n L a' w' (fun j => by simp [List.getElem?_drop]) (by rw [hLe]; simpa using hseq) (hq w' hLL.cls hLL.all (fun k hk hkl => hLL.pre k (hRL.tail k hk (by simpa using hkl))))
    simpa using this) n _ _ _ _ w.drew (by simp; omega) hR hL h.out
  simpa [show n + (l.length - n) = l.length by omega] using H
variable {Q : (Nat → World → Prop) → Act → Prop} {o : Oper} {rest : List Oper} {k : Nat} {F : Nat → World → Prop} {a : Act}
theorem done (h : Q F a) : Wm P ops B C Tr Pre Ψ Q [] k F a := ⟨h⟩
theorem skip (hw : Region.wanted o (yielded ops a.tmps) = false) (h : Wm P ops B C Tr Pre Ψ Q rest (k + 1) F (a.put o.dst undef)) : Wm P ops B C Tr Pre Ψ Q (o :: rest) k F a := by
  constructor
  rw [List.zipIdx_cons, List.map_cons]
  unfold tree
  rw [if_neg (by rw [hw]; decide)]
  exact h.out
/-- An operation that gives one value, wherever it comes up, and leaves the world. -/
theorem val {v : Value} (hr : ∀ w, Tr k w w) (hw : Region.wanted o (yielded ops a.tmps) = true) (hΨ : ∀ A v w, Ψ k A v w)
    (h : ∀ w, C w → Pre k w → avail F (B.getD k 0) w → (execOp a.eval o).run P w = .ok (.value v) w) (hk : Wm P ops B C Tr Pre Ψ Q rest (k + 1) (upd F k fun _ => True) (a.put o.dst v)) : Wm P ops B C Tr Pre Ψ Q (o :: rest) k F a := by
  have hu : ∀ A u, upd F k (Ψ k A u) = upd F k fun _ => True := fun A u => by
    funext i w
    unfold upd
    split
    · exact propext ⟨fun _ => trivial, fun _ => hΨ _ _ _⟩
    · rfl
  constructor
  rw [List.zipIdx_cons, List.map_cons]
  unfold tree
  rw [if_pos hw]
  refine ⟨fun w h1 h2 h3 => by rw [h w h1 h2 h3]; exact ⟨hr w, hΨ _ _ _⟩, fun u ⟨⟨w, h1, h2, h3, h4⟩, _⟩ => ?_⟩
  rw [h w h1 h2 h3] at h4
  have : u = v := h4
  subst this
  rw [hu]
  exact hk.out
/-- An operation that says nothing and leaves the world. -/
theorem still (hr : ∀ w, Tr k w w) (hw : Region.wanted o (yielded ops a.tmps) = true) (hΨ : ∀ A v w, Ψ k A v w)
    (h : ∀ w, C w → Pre k w → avail F (B.getD k 0) w → (execOp a.eval o).run P w = .ok .skip w) (hk : Wm P ops B C Tr Pre Ψ Q rest (k + 1) (upd F k fun _ => True) (a.put o.dst undef)) : Wm P ops B C Tr Pre Ψ Q (o :: rest) k F a := by
  have hu : ∀ A u, upd F k (Ψ k A u) = upd F k fun _ => True := fun A u => by
    funext i w
    unfold upd
    split
    · exact propext ⟨fun _ => trivial, fun _ => hΨ _ _ _⟩
    · rfl
  constructor
  rw [List.zipIdx_cons, List.map_cons]
  unfold tree
  rw [if_pos hw]
  refine ⟨fun w h1 h2 h3 => by rw [h w h1 h2 h3]; exact ⟨hr w, hΨ _ _ _⟩, fun u ⟨⟨w, h1, h2, h3, h4⟩, _⟩ => ?_⟩
  rw [h w h1 h2 h3] at h4
  have : u = undef := h4
  subst this
  rw [hu]
  exact hk.out
/-- Any operation that leaves its fact. -/
theorem any (hw : Region.wanted o (yielded ops a.tmps) = true)
    (h : ∀ w, C w → Pre k w → avail F (B.getD k 0) w → leaves P (fun v w' => Tr k w w' ∧ Ψ k (o.op.operands.map a.eval) v w') ((execOp a.eval o).run P w))
    (hk : ∀ v, (∃ w, C w ∧ Ψ k (o.op.operands.map a.eval) v w) → Wm P ops B C Tr Pre Ψ Q rest (k + 1) (upd F k (Ψ k (o.op.operands.map a.eval) v)) (a.put o.dst v)) : Wm P ops B C Tr Pre Ψ Q (o :: rest) k F a := by
  constructor
  rw [List.zipIdx_cons, List.map_cons]
  unfold tree
  rw [if_pos hw]
  exact ⟨h, fun v sv => (hk v sv.2).out⟩
end
end Go.Proofs.Ytinhednmfldmbaa.Mo

namespace Go.Proofs.Ytinhednmfldmbaa.Ow
open Go
section
variable {P : Program} (w : World)
theorem run_append (base : Nat) (t ty e : TypeId) (i : TypeInfo) (z : Value) (size bytes : Nat) (ht : P.underlying t = some (.slice e)) (hi : P.info? e = some i) (hz : i.zero = some z)
    (hsize : i.size = size) (hby : i.bytes = bytes) (hzs : z.cells.size = size) (hsz : 0 < size)
    (v : Value) (n : Nat) (xs : List Value) (hown : w.ownsRow base e size v n xs)
    (a : Addr) (m c : Nat) (news : List Value) (hl : news.length = m * size) (hnews : ∀ j u, news[j]? = some u → w.cell? (a.add j) = some u) (h1 : ∀ u ∈ news, u.oneCell' = true)
    (h63 : n + m ≤ maxLen) (hbytes : (n + m) * bytes ≤ 140737488355328) (hbase : base ≤ w.heap.size) :
    ∃ v' w', (Builtin.append_ #[t, t] ty #[v, .slice (some a) m c]).run P w = .ok v' w' ∧ w'.ownsRow base e size v' (n + m) (xs ++ news) ∧ w.grownBy w' v.ownBlock ∧
      (v' = .slice none 0 0 ↔ v = .slice none 0 0 ∧ m = 0) ∧ ∀ k, v'.ownBlock = some k → v.ownBlock = some k ∨ w.heap.size ≤ k := by
  obtain ⟨v', w', hr, h2, h3, h4⟩ := run_append_own (P := P) w base t ty e i z size bytes ht hi hz hsize hby hzs hsz v n xs hown a m c news hl hnews h1 h63 hbytes hbase
  refine ⟨v', w', hr, h2, h3, h4, fun k hk => ?_⟩
  rcases hown.2 with ⟨rfl, rfl⟩ | ⟨g, cap, cur, rfl, hbg, hg, hnc, hcm, hcs, htake⟩
  · have hx : xs = [] := List.eq_nil_of_length_eq_zero (by simpa using hown.1)
    subst hx
    obtain ⟨v2, w2, hr2, h22, _, _⟩ := run_append_own (P := P) w w.heap.size t ty e i z size bytes ht hi hz hsize hby hzs hsz (.slice none 0 0) 0 [] (World.ownsRow_nil _ _ _ _) a m c news hl hnews h1 h63 hbytes (Nat.le_refl _)
    rw [hr] at hr2
    cases hr2
    exact Or.inr (h22.lt k hk).1
  · by_cases hroom : n + m ≤ cap
    · have hfit : n * i.size + news.length ≤ cur.size := by rw [hl, hcs, hsize, ← Nat.add_mul]; exact Nat.mul_le_mul_right _ hroom
      have hr2 := run_append_room (P := P) w t ty e i ht hi g n cap cur hg a m c news (by rw [hsize]; exact hl) hnews h1 hroom hfit
      rw [hr] at hr2
      cases hr2
      exact Or.inl hk
    · subst hsize
      subst hby
      have holds : ∀ j u, xs[j]? = some u → w.cell? ((⟨g, 0, none⟩ : Addr).add j) = some u := hown.cells (g := g) rfl
      have hr2 := run_append_grow (P := P) w t ty e i z ht hi hz ⟨g, 0, none⟩ n cap xs hown.1 holds a m c news hl hnews (by omega) (by unfold maxLen at h63; omega) (growslice_fits (by unfold maxLen at h63; omega) hbytes)
      rw [hr] at hr2
      cases hr2
      simp [Value.ownBlock] at hk
      exact Or.inr (by omega)
theorem wp_append {o : Oper} {a : Act} {K : Act → World → Prop} {Q : Exit → Act → World → Prop} (s x : Operand) (t : TypeId)
    (ho : o.op = .call { callee := .builtin .append, args := #[s, x], argTypes := #[t, t] })
    (base : Nat) (e : TypeId) (i : TypeInfo) (z : Value) (size bytes : Nat) (ht : P.underlying t = some (.slice e)) (hi : P.info? e = some i) (hz : i.zero = some z)
    (hsize : i.size = size) (hby : i.bytes = bytes) (hzs : z.cells.size = size) (hsz : 0 < size)
    (v : Value) (n : Nat) (xs : List Value) (hs : a.eval s = v) (hown : w.ownsRow base e size v n xs)
    (ad : Addr) (m c : Nat) (news : List Value) (hx : a.eval x = .slice (some ad) m c) (hl : news.length = m * size) (hnews : ∀ j u, news[j]? = some u → w.cell? (ad.add j) = some u) (h1 : ∀ u ∈ news, u.oneCell' = true)
    (h63 : n + m ≤ maxLen) (hbytes : (n + m) * bytes ≤ 140737488355328) (hbase : base ≤ w.heap.size)
    (h : ∀ v' w', w'.ownsRow base e size v' (n + m) (xs ++ news) → w.grownBy w' v.ownBlock → (v' = .slice none 0 0 ↔ v = .slice none 0 0 ∧ m = 0) → (∀ k, v'.ownBlock = some k → v.ownBlock = some k ∨ w.heap.size ≤ k) → K (a.put o.dst v') w') : o.wp P a w K Q := by
  obtain ⟨v', w', hr, h2, h3, h4, h5⟩ := run_append (P := P) w base t o.type e i z size bytes ht hi hz hsize hby hzs hsz v n xs hown ad m c news hl hnews h1 h63 hbytes hbase
  unfold Oper.wp execOp
  simp only [ho, resolve, invoke, builtin, Sem.run_bind, Sem.run_pure, Result.andThen_ok, List.map_toArray, List.map_cons, List.map_nil, hs, hx, hr]
  exact h v' w' h2 h3 h4 h5
theorem wpList_append {ops : Array Oper} {rest : List Oper} {o : Oper} {a : Act} {Q : Exit → Act → World → Prop} (hgd : o.guard = none) (s x : Operand) (t : TypeId)
    (ho : o.op = .call { callee := .builtin .append, args := #[s, x], argTypes := #[t, t] })
    (base : Nat) (e : TypeId) (i : TypeInfo) (z : Value) (size bytes : Nat) (ht : P.underlying t = some (.slice e)) (hi : P.info? e = some i) (hz : i.zero = some z)
    (hsize : i.size = size) (hby : i.bytes = bytes) (hzs : z.cells.size = size) (hsz : 0 < size)
    (v : Value) (n : Nat) (xs : List Value) (hs : a.eval s = v) (hown : w.ownsRow base e size v n xs)
    (ad : Addr) (m c : Nat) (news : List Value) (hx : a.eval x = .slice (some ad) m c) (hl : news.length = m * size) (hnews : ∀ j u, news[j]? = some u → w.cell? (ad.add j) = some u) (h1 : ∀ u ∈ news, u.oneCell' = true)
    (h63 : n + m ≤ maxLen) (hbytes : (n + m) * bytes ≤ 140737488355328) (hbase : base ≤ w.heap.size)
    (h : ∀ v' w', w'.ownsRow base e size v' (n + m) (xs ++ news) → w.grownBy w' v.ownBlock → (v' = .slice none 0 0 ↔ v = .slice none 0 0 ∧ m = 0) → (∀ k, v'.ownBlock = some k → v.ownBlock = some k ∨ w.heap.size ≤ k) → wpList P ops Q rest (a.put o.dst v') w') : wpList P ops Q (o :: rest) a w :=
  wpList_plain hgd fun _ hK => wp_append w s x t ho base e i z size bytes ht hi hz hsize hby hzs hsz v n xs hs hown ad m c news hx hl hnews h1 h63 hbytes hbase fun v' w' k1 k2 k3 k4 => hK _ _ (h v' w' k1 k2 k3 k4)
/-- A guard: the operation writes this slot. -/
theorem at_slot {w : World} (d : Nat) {op : Op} {type : TypeId} {pos : String} {after : Array Edge} {guard : Option (Nat × Bool)} {ops : Array Oper} {rest : List Oper} {a : Act} {Q : Exit → Act → World → Prop}
    (h : wpList P ops Q (⟨some d, op, type, pos, after, guard⟩ :: rest) a w) : wpList P ops Q (⟨some d, op, type, pos, after, guard⟩ :: rest) a w := h
end
end Go.Proofs.Ytinhednmfldmbaa.Ow

namespace Go.Proofs.Ytinhednmfldmbaa.Rd
open Go Go.WideShapes

/-- The cells read, at their type, and nothing in them is larger than the reach. -/
def Rd (P : Program) (w : World) (t : TypeId) (cs : List Value) : Prop :=
  ∃ (H : Type) (enc : TypeId × Value → H) (fuel : Nat) (d : DataW H) (ps : List MemPlace), DataW.trod enc P w 0 (fun _ => true) true fuel t cs = some (d, ps) ∧ ∀ n ∈ d.weights P t, n ≤ reachBytes
/-- An argument. -/
def Arg (P : Program) (w : World) (t : TypeId) (v : Value) : Prop := (∃ base, Value.okWide P w .any base t v) ∧ Rd P w t v.cells.toList
section
variable {P : Program} {w : World} {t : TypeId} {cs : List Value}
theorem rd_int {k : IntKind} (ht : P.underlying t = some (.int k)) (h : Rd P w t cs) : ∃ n, cs = [.int k n] ∧ (Lit.int k n).wf = true := by
  obtain ⟨H, enc, fuel, d, ps, h, _⟩ := h
  cases fuel with
  | zero => simp [DataW.trod] at h
  | succ fuel =>
    unfold DataW.trod at h
    rw [ht] at h
    match cs, h with
    | [.int k' n], h =>
      simp only at h
      split at h
      · rename_i hk
        obtain ⟨rfl, hw⟩ := hk
        exact ⟨n, rfl, hw⟩
      · cases h
theorem rd_bool (ht : P.underlying t = some .bool) (h : Rd P w t cs) : ∃ b, cs = [.bool b] := by
  obtain ⟨H, enc, fuel, d, ps, h, _⟩ := h
  cases fuel with
  | zero => simp [DataW.trod] at h
  | succ fuel =>
    unfold DataW.trod at h
    rw [ht] at h
    match cs, h with
    | [.bool b], h => exact ⟨b, rfl⟩
theorem rd_float {k : FloatKind} (ht : P.underlying t = some (.float k)) (h : Rd P w t cs) : ∃ b, cs = [.float k b] ∧ (Lit.float k b).wf = true := by
  obtain ⟨H, enc, fuel, d, ps, h, _⟩ := h
  cases fuel with
  | zero => simp [DataW.trod] at h
  | succ fuel =>
    unfold DataW.trod at h
    rw [ht] at h
    match cs, h with
    | [.float k' n], h =>
      simp only at h
      split at h
      · rename_i hk
        obtain ⟨rfl, hw⟩ := hk
        exact ⟨n, rfl, hw⟩
      · cases h
theorem rd_string (ht : P.underlying t = some .string) (h : Rd P w t cs) : ∃ s, cs = [.string s] ∧ s.size ≤ 140737488351232 := by
  obtain ⟨H, enc, fuel, d, ps, h, hs⟩ := h
  cases fuel with
  | zero => simp [DataW.trod] at h
  | succ fuel =>
    unfold DataW.trod at h
    rw [ht] at h
    match cs, h with
    | [.string s], h =>
      simp only at h
      split at h
      · obtain ⟨rfl, _⟩ := Prod.mk.inj (Option.some.inj h)
        refine ⟨s, rfl, ?_⟩
        have := hs s.data.toList.length (by simp [DataW.weights])
        simpa [reachBytes] using this
      · cases h
theorem mapM_some {α β : Type} {f : α → Option β} : ∀ {l : List α} {r : List β}, l.mapM f = some r → r.length = l.length ∧ ∀ (i : Nat) (x : α), l[i]? = some x → ∃ y, r[i]? = some y ∧ f x = some y
  | [], r, h => by
    simp at h
    subst h
    exact ⟨rfl, by simp⟩
  | a :: l, r, h => by
    simp only [List.mapM_cons, Option.bind_eq_bind, Option.bind_eq_some_iff] at h
    obtain ⟨y, hy, ys, hys, hr⟩ := h
    obtain rfl : y :: ys = r := by simpa using hr
    obtain ⟨h1, h2⟩ := mapM_some hys
    refine ⟨by simp [h1], fun i x hx => ?_⟩
    cases i with
    | zero =>
      simp at hx
      subst hx
      exact ⟨y, rfl, hy⟩
    | succ i => simpa using h2 i x (by simpa using hx)
theorem weightsAll_mem {H : Type} {e : TypeId} : ∀ {l : List (DataW H)} {d : DataW H} {n : Nat}, d ∈ l → n ∈ d.weights P e → n ∈ DataW.weightsAll P e l
  | x :: l, d, n, hd, hn => by
    simp only [DataW.weightsAll, List.mem_append]
    rcases List.mem_cons.1 hd with rfl | h
    · exact Or.inl hn
    · exact Or.inr (weightsAll_mem h hn)
theorem weightsEach_mem {H : Type} : ∀ {ts : List TypeId} {l : List (DataW H)} {i : Nat} {t : TypeId} {d : DataW H} {n : Nat}, ts[i]? = some t → l[i]? = some d → n ∈ d.weights P t → n ∈ DataW.weightsEach P ts l
  | t0 :: ts, d0 :: l, 0, t, d, n, ht, hd, hn => by
    simp at ht hd
    subst ht; subst hd
    simp only [DataW.weightsEach, List.mem_append]
    exact Or.inl hn
  | t0 :: ts, d0 :: l, i + 1, t, d, n, ht, hd, hn => by
    simp only [DataW.weightsEach, List.mem_append]
    exact Or.inr (weightsEach_mem (by simpa using ht) (by simpa using hd) hn)
  | [], _, _, _, _, _, ht, _, _ => by simp at ht
  | _ :: _, [], _, _, _, _, _, hd, _ => by simp at hd
/-- A slice: nil, or a row each of whose elements reads. -/
theorem rd_slice {e : TypeId} (ht : P.underlying t = some (.slice e)) (h : Rd P w t cs) : ∃ a len cap, cs = [.slice a len cap] ∧ ((a = none ∧ len = 0 ∧ cap = 0) ∨ ∃ ad, a = some ad ∧ len ≤ cap ∧ cap ≤ maxLen ∧ cap * P.bytesOf e ≤ 140737488351232 ∧
    ∀ i, i < cap → ∃ es, w.cells? 0 (ad.add (i * P.cellsOf e)) (P.cellsOf e) = some es ∧ Rd P w e es) := by
  obtain ⟨H, enc, fuel, d, ps, h, hs⟩ := h
  cases fuel with
  | zero => simp [DataW.trod] at h
  | succ fuel =>
    unfold DataW.trod at h
    rw [ht] at h
    match cs, h with
    | [.slice none 0 0], h => exact ⟨none, 0, 0, rfl, Or.inl ⟨rfl, rfl, rfl⟩⟩
    | [.slice (some ad) len cap], h =>
      refine ⟨some ad, len, cap, rfl, Or.inr ⟨ad, rfl, ?_⟩⟩
      simp only at h
      split at h
      case isFalse => cases h
      rename_i hc
      obtain ⟨_, hlc, hcm⟩ := hc
      simp only [if_true, Option.bind_eq_some_iff, Option.map_eq_some_iff] at h
      obtain ⟨es, hes, rs, hrs, heq⟩ := h
      obtain ⟨hd, _⟩ := Prod.mk.inj heq
      subst hd
      obtain ⟨l1, g1⟩ := mapM_some hes
      obtain ⟨l2, g2⟩ := mapM_some hrs
      simp only [List.length_range] at l1 l2
      have hw : ∀ n ∈ ((es.map (·.1)).length + (rs.map (·.1)).length) * P.bytesOf e :: (DataW.weightsAll P e (es.map (·.1)) ++ DataW.weightsAll P e (rs.map (·.1))), n ≤ reachBytes := by
        intro n hn
        exact hs n (by simp only [DataW.weights, ht]; exact hn)
      refine ⟨hlc, hcm, ?_, fun i hi => ?_⟩
      · have := hw _ (List.mem_cons.2 (Or.inl rfl))
        rw [List.length_map, List.length_map, l1, l2, show len + (cap - len) = cap by omega] at this
        simpa [reachBytes] using this
      · rcases Nat.lt_or_ge i len with h1 | h1
        · obtain ⟨y, hy, hf⟩ := g1 i i (by rw [List.getElem?_range h1])
          obtain ⟨cl, hcl, htr⟩ := Option.bind_eq_some_iff.1 hf
          exact ⟨cl, hcl, H, enc, fuel, y.1, y.2, htr, fun n hn => hw n (List.mem_cons.2 (Or.inr (List.mem_append.2 (Or.inl (weightsAll_mem (List.mem_map.2 ⟨y, List.mem_of_getElem? hy, rfl⟩) hn)))))⟩
        · obtain ⟨y, hy, hf⟩ := g2 (i - len) (i - len) (by rw [List.getElem?_range (by omega)])
          obtain ⟨cl, hcl, htr⟩ := Option.bind_eq_some_iff.1 hf
          rw [show len + (i - len) = i by omega] at hcl
          exact ⟨cl, hcl, H, enc, fuel, y.1, y.2, htr, fun n hn => hw n (List.mem_cons.2 (Or.inr (List.mem_append.2 (Or.inr (weightsAll_mem (List.mem_map.2 ⟨y, List.mem_of_getElem? hy, rfl⟩) hn)))))⟩
/-- A struct: each field reads. -/
theorem rd_struct {fs : Array Field} (ht : P.underlying t = some (.struct fs)) (h : Rd P w t cs) : cs.length = P.cellsOf t ∧ ∀ (i : Nat) (f : Field), fs.toList[i]? = some f → Rd P w f.type ((cs.drop f.offset).take (P.cellsOf f.type)) := by
  obtain ⟨H, enc, fuel, d, ps, h, hs⟩ := h
  cases fuel with
  | zero => simp [DataW.trod] at h
  | succ fuel =>
    unfold DataW.trod at h
    rw [ht] at h
    simp only at h
    split at h
    case isFalse => cases h
    rename_i hl
    obtain ⟨xs, hxs, heq⟩ := Option.map_eq_some_iff.1 h
    obtain ⟨hd, _⟩ := Prod.mk.inj heq
    subst hd
    obtain ⟨l1, g1⟩ := mapM_some hxs
    refine ⟨hl, fun i f hf => ?_⟩
    obtain ⟨y, hy, htr⟩ := g1 i f hf
    refine ⟨H, enc, fuel, y.1, y.2, htr, fun n hn => hs n ?_⟩
    simp only [DataW.weights, ht]
    exact weightsEach_mem (i := i) (by rw [List.getElem?_map, hf]; rfl) (by rw [List.getElem?_map, hy]; rfl) hn
/-- An array: each place reads. -/
theorem rd_array {e : TypeId} {m : Nat} (ht : P.underlying t = some (.array m e)) (h : Rd P w t cs) : cs.length = P.cellsOf t ∧ ∀ i, i < m → Rd P w e ((cs.drop (i * P.cellsOf e)).take (P.cellsOf e)) := by
  obtain ⟨H, enc, fuel, d, ps, h, hs⟩ := h
  cases fuel with
  | zero => simp [DataW.trod] at h
  | succ fuel =>
    unfold DataW.trod at h
    rw [ht] at h
    simp only at h
    split at h
    case isFalse => cases h
    rename_i hl
    obtain ⟨xs, hxs, heq⟩ := Option.map_eq_some_iff.1 h
    obtain ⟨hd, _⟩ := Prod.mk.inj heq
    subst hd
    obtain ⟨l1, g1⟩ := mapM_some hxs
    refine ⟨hl, fun i hi => ?_⟩
    obtain ⟨y, hy, htr⟩ := g1 i i (by rw [List.getElem?_range hi])
    refine ⟨H, enc, fuel, y.1, y.2, htr, fun n hn => hs n ?_⟩
    simp only [DataW.weights, ht]
    exact weightsAll_mem (List.mem_map.2 ⟨y, List.mem_of_getElem? hy, rfl⟩) hn
/-- Arguments out of the row's own words. -/
theorem arg_of {H : Type} {enc : TypeId × Value → H} {base : Nat} {v : Value} {d : DataW H} {p : List MemPlace} (ho : Value.okWide P w .any base t v) (h : DataW.Trod enc P w 0 (fun _ => true) true t v d p) (hs : ∀ n ∈ d.weights P t, n ≤ reachBytes) : Arg P w t v := by
  obtain ⟨fuel, h⟩ := h
  exact ⟨⟨base, ho⟩, H, enc, fuel, d, p, h, hs⟩
theorem weight_of {H : Type} {ts : List TypeId} {ds : List (DataW H)} (h : (DataW.weightsEach P ts ds).all (· ≤ reachBytes) = true) {i : Nat} {d : DataW H} (ht : ts[i]? = some t) (hd : ds[i]? = some d) : ∀ n ∈ d.weights P t, n ≤ reachBytes := fun n hn => by
  have := List.all_eq_true.1 h n (weightsEach_mem ht hd hn)
  simpa using this
theorem arg_int {k : IntKind} (ht : P.underlying t = some (.int k)) {v : Value} (h : Arg P w t v) : ∃ n, v = .int k n ∧ (Lit.int k n).wf = true := by
  obtain ⟨⟨b, ho⟩, hr⟩ := h
  obtain ⟨n, rfl⟩ := okWide_int ht ho
  obtain ⟨m, hm, hw⟩ := rd_int ht hr
  simp [Value.cells] at hm
  exact ⟨n, rfl, by rw [hm]; exact hw⟩
theorem arg_bool (ht : P.underlying t = some .bool) {v : Value} (h : Arg P w t v) : ∃ b, v = .bool b := by
  obtain ⟨⟨b, ho⟩, hr⟩ := h
  exact okWide_bool ht ho
theorem arg_string (ht : P.underlying t = some .string) {v : Value} (h : Arg P w t v) : ∃ s, v = .string s ∧ s.size ≤ 140737488351232 := by
  obtain ⟨⟨b, ho⟩, hr⟩ := h
  obtain ⟨n, rfl⟩ := okWide_string ht ho
  obtain ⟨m, hm, hw⟩ := rd_string ht hr
  simp [Value.cells] at hm
  exact ⟨n, rfl, by rw [hm]; exact hw⟩
theorem arg_struct {fs : Array Field} (ht : P.underlying t = some (.struct fs)) {v : Value} (h : Arg P w t v) : ∃ cs, v = .agg cs ∧ cs.toList.length = P.cellsOf t ∧ ∀ (i : Nat) (f : Field), fs.toList[i]? = some f → Rd P w f.type ((cs.toList.drop f.offset).take (P.cellsOf f.type)) := by
  obtain ⟨⟨b, ho⟩, hr⟩ := h
  obtain ⟨cs, rfl, _⟩ := okWide_struct ht ho
  exact ⟨cs, rfl, rd_struct ht hr⟩
theorem arg_array {m : Nat} {e : TypeId} (ht : P.underlying t = some (.array m e)) {v : Value} (h : Arg P w t v) : ∃ cs, v = .agg cs ∧ cs.toList.length = P.cellsOf t ∧ ∀ i, i < m → Rd P w e ((cs.toList.drop (i * P.cellsOf e)).take (P.cellsOf e)) := by
  obtain ⟨⟨b, ho⟩, hr⟩ := h
  have : ∃ cs, v = .agg cs := by
    unfold Value.okWide at ho
    rw [ht] at ho
    obtain ⟨cs, rfl, _⟩ := ho
    exact ⟨cs, rfl⟩
  obtain ⟨cs, rfl⟩ := this
  exact ⟨cs, rfl, rd_array ht hr⟩
theorem arg_slice {e : TypeId} (ht : P.underlying t = some (.slice e)) {v : Value} (h : Arg P w t v) : ∃ a len cap, v = .slice a len cap ∧ ((a = none ∧ len = 0 ∧ cap = 0) ∨ ∃ ad, a = some ad ∧ len ≤ cap ∧ cap ≤ maxLen ∧ cap * P.bytesOf e ≤ 140737488351232 ∧
    ∀ i, i < cap → ∃ es, w.cells? 0 (ad.add (i * P.cellsOf e)) (P.cellsOf e) = some es ∧ Rd P w e es) := by
  obtain ⟨⟨b, ho⟩, hr⟩ := h
  obtain ⟨a, len, cap, rfl⟩ := okWide_slice ht ho
  obtain ⟨a', len', cap', hm, hw⟩ := rd_slice ht hr
  simp [Value.cells] at hm
  obtain ⟨rfl, rfl, rfl⟩ := hm
  exact ⟨_, _, _, rfl, hw⟩
end
end Go.Proofs.Ytinhednmfldmbaa.Rd

namespace Go.Proofs.Ytinhednmfldmbaa.Rd
open Go Go.RowKit

/-- A slice of cells of one value each, read as a list. -/
def Row1 {α : Type} (w : World) (f : α → Value) (v : Value) (l : List α) : Prop := ∃ a cap, v = .slice a l.length cap ∧ (a = none → l = [] ∧ cap = 0) ∧ ∀ ad, a = some ad → l.length ≤ cap ∧ ∀ i x, l[i]? = some x → w.cell? (ad.add i) = some (f x)
theorem cells_one {w : World} {a : Addr} {es : List Value} (h : w.cells? 0 a 1 = some es) : ∃ v, es = [v] ∧ w.cell? a = some v := by
  unfold World.cells? at h
  split at h
  · simp only [List.range_succ, List.range_zero, List.nil_append, List.mapM_cons, List.mapM_nil, Option.bind_eq_bind, Option.bind_eq_some_iff] at h
    obtain ⟨v, hv, _, hx, hy⟩ := h
    simp at hx
    subst hx
    simp at hy
    refine ⟨v, hy.symm, ?_⟩
    rw [← hv]
    congr 1
  · cases h
theorem list_of {α : Type} {p : Nat → α → Prop} : ∀ (n : Nat), (∀ i, i < n → ∃ x, p i x) → ∃ l : List α, l.length = n ∧ ∀ i x, l[i]? = some x → p i x
  | 0, _ => ⟨[], rfl, by simp⟩
  | n + 1, h => by
    obtain ⟨l, hl, hp⟩ := list_of n (fun i hi => h i (by omega))
    obtain ⟨x, hx⟩ := h n (by omega)
    refine ⟨l ++ [x], by simp [hl], fun i y hy => ?_⟩
    rcases Nat.lt_trichotomy i n with h1 | h1 | h1
    · rw [List.getElem?_append_left (by omega)] at hy
      exact hp i y hy
    · subst h1
      rw [List.getElem?_append_right (by omega), hl, Nat.sub_self] at hy
      simp at hy
      subst hy
      exact hx
    · rw [List.getElem?_eq_none (by simp; omega)] at hy
      cases hy
theorem cells_bytes : Try.prog.cellsOf 5 = 1 := by kernel_rfl
theorem cells_bool : Try.prog.cellsOf 4 = 1 := by kernel_rfl
theorem bytes_u8 : Try.prog.bytesOf 5 = 1 := by kernel_rfl
theorem bytes_bool : Try.prog.bytesOf 4 = 1 := by kernel_rfl
theorem row_bytes {w : World} {cs : List Value} (h : Rd Try.prog w 31 cs) : ∃ v, cs = [v] ∧ ∃ l : List Int, Row1 w (Value.int .u8) v l ∧ l.length ≤ 140737488355328 ∧ ∀ x ∈ l, 0 ≤ x ∧ x ≤ 255 := by
  obtain ⟨a, len, cap, rfl, hh⟩ := rd_slice Try.underlying31 h
  refine ⟨_, rfl, ?_⟩
  rcases hh with ⟨rfl, rfl, rfl⟩ | ⟨ad, rfl, hlc, hcm, hby, hel⟩
  · exact ⟨[], ⟨none, 0, rfl, fun _ => ⟨rfl, rfl⟩, fun _ h => (by cases h)⟩, by simp, by simp⟩
  · rw [cells_bytes] at hel
    rw [bytes_u8] at hby
    obtain ⟨l, hl, hp⟩ := list_of (p := fun i (x : Int) => w.cell? (ad.add i) = some (.int .u8 x) ∧ (Lit.int .u8 x).wf = true) len (fun i hi => by
      obtain ⟨es, h1, h2⟩ := hel i (by omega)
      obtain ⟨v, rfl, hv⟩ := cells_one h1
      obtain ⟨n, hn, hw⟩ := rd_int Try.underlying5 h2
      simp at hn
      subst hn
      exact ⟨n, by rw [← hv, Nat.mul_one], hw⟩)
    refine ⟨l, ⟨some ad, cap, by rw [hl], fun h => (by cases h), fun ad' h => (by cases h; exact ⟨by omega, fun i x hx => (hp i x hx).1⟩)⟩, by omega, fun x hx => ?_⟩
    obtain ⟨i, hi⟩ := List.mem_iff_getElem?.1 hx
    have := (hp i x hi).2
    simp only [Lit.wf, IntKind.min, IntKind.max, IntKind.bits, IntKind.signed, Bool.and_eq_true] at this
    simpa using this
theorem row_bools {w : World} {cs : List Value} (h : Rd Try.prog w 32 cs) : ∃ v, cs = [v] ∧ ∃ l : List Bool, Row1 w Value.bool v l ∧ l.length ≤ 140737488355328 := by
  obtain ⟨a, len, cap, rfl, hh⟩ := rd_slice Try.underlying32 h
  refine ⟨_, rfl, ?_⟩
  rcases hh with ⟨rfl, rfl, rfl⟩ | ⟨ad, rfl, hlc, hcm, hby, hel⟩
  · exact ⟨[], ⟨none, 0, rfl, fun _ => ⟨rfl, rfl⟩, fun _ h => (by cases h)⟩, by simp⟩
  · rw [cells_bool] at hel
    rw [bytes_bool] at hby
    obtain ⟨l, hl, hp⟩ := list_of (p := fun i (x : Bool) => w.cell? (ad.add i) = some (.bool x)) len (fun i hi => by
      obtain ⟨es, h1, h2⟩ := hel i (by omega)
      obtain ⟨v, rfl, hv⟩ := cells_one h1
      obtain ⟨n, hn⟩ := rd_bool Try.underlying4 h2
      simp at hn
      subst hn
      exact ⟨n, by rw [← hv, Nat.mul_one]⟩)
    exact ⟨l, ⟨some ad, cap, by rw [hl], fun h => (by cases h), fun ad' h => (by cases h; exact ⟨by omega, fun i x hx => hp i x hx⟩)⟩, by omega⟩
/-- An operation of a script. -/
structure OpD where
  kind : Int
  n : Int
  b : List Int
  keep : List Bool
  torn : Int
structure OpD.Reads (w : World) (o : OpD) (cs : List Value) : Prop where
  is : ∃ vb vk, cs = [.int .i64 o.kind, .int .i64 o.n, vb, vk, .int .i64 o.torn] ∧ Row1 w (Value.int .u8) vb o.b ∧ Row1 w Value.bool vk o.keep
  len : o.b.length ≤ 140737488355328
  bytes : ∀ x ∈ o.b, 0 ≤ x ∧ x ≤ 255
  klen : o.keep.length ≤ 140737488355328
  wk : (Lit.int .i64 o.kind).wf = true
  wn : (Lit.int .i64 o.n).wf = true
  wt : (Lit.int .i64 o.torn).wf = true
theorem fields_op : ∃ fs, Try.prog.underlying 34 = some (.struct fs) ∧ (fs.toList.map fun f => (f.type, f.offset)) = [(3, 0), (3, 1), (31, 2), (32, 3), (3, 4)] := ⟨_, Try.underlying34, rfl⟩
theorem cells_op : Try.prog.cellsOf 34 = 5 := by kernel_rfl
theorem cells_of3 : Try.prog.cellsOf 3 = 1 ∧ Try.prog.cellsOf 31 = 1 ∧ Try.prog.cellsOf 32 = 1 := ⟨by kernel_rfl, by kernel_rfl, by kernel_rfl⟩
theorem rd_op {w : World} {cs : List Value} (h : Rd Try.prog w 34 cs) : ∃ o : OpD, o.Reads w cs := by
  obtain ⟨fs, hu, hfs⟩ := fields_op
  obtain ⟨hl, hf⟩ := rd_struct hu h
  rw [cells_op] at hl
  obtain ⟨k1, k2, k3⟩ := cells_of3
  have at_ : ∀ (i : Nat) (t o : Nat), (fs.toList.map fun f => (f.type, f.offset))[i]? = some (t, o) → Rd Try.prog w t ((cs.drop o).take (Try.prog.cellsOf t)) := fun i t o hi => by
    rw [List.getElem?_map] at hi
    obtain ⟨f, h1, h2⟩ := Option.map_eq_some_iff.1 hi
    cases h2
    exact hf i f h1
  rw [hfs] at at_
  have r0 := at_ 0 3 0 rfl
  have r1 := at_ 1 3 1 rfl
  have r2 := at_ 2 31 2 rfl
  have r3 := at_ 3 32 3 rfl
  have r4 := at_ 4 3 4 rfl
  rw [k1] at r0 r1 r4
  rw [k2] at r2
  rw [k3] at r3
  match cs, hl with
  | [c0, c1, c2, c3, c4], _ =>
    obtain ⟨x0, e0, w0⟩ := rd_int Try.underlying3 r0
    obtain ⟨x1, e1, w1⟩ := rd_int Try.underlying3 r1
    obtain ⟨v2, e2, l2, h2, g2, b2⟩ := row_bytes r2
    obtain ⟨v3, e3, l3, h3, g3⟩ := row_bools r3
    obtain ⟨x4, e4, w4⟩ := rd_int Try.underlying3 r4
    simp at e0 e1 e2 e3 e4
    subst e0 e1 e2 e3 e4
    exact ⟨⟨x0, x1, l2, l3, x4⟩, ⟨_, _, rfl, h2, h3⟩, g2, b2, g3, w0, w1, w4⟩
theorem arg_op {w : World} {v : Value} (h : Arg Try.prog w 34 v) : ∃ (o : OpD) (cs : List Value), v = .agg cs.toArray ∧ o.Reads w cs := by
  obtain ⟨fs, hu, hfs⟩ := fields_op
  obtain ⟨⟨b, ho⟩, hr⟩ := h
  obtain ⟨cs, rfl, _⟩ := Go.WideShapes.okWide_struct hu ho
  obtain ⟨o, h⟩ := rd_op hr
  exact ⟨o, cs.toList, by simp, h⟩
end Go.Proofs.Ytinhednmfldmbaa.Rd

namespace Go.Proofs.Ytinhednmfldmbaa.Dk
open Go Go.RowKit Hp

/-- A block's value. -/
def blk (l : List Int) : Value := .agg (l.map (.int .u8)).toArray
def zeros : List Int := List.replicate 32 0
def bmap (M : Int → Option (List Int)) : Int → Option Value := fun n => (M n).map blk
def upd (M : Int → Option (List Int)) (n : Int) (l : List Int) : Int → Option (List Int) := fun k => if k = n then some l else M k
theorem put_bmap (M : Int → Option (List Int)) (n : Int) (l : List Int) : put (bmap M) n (blk l) = bmap (upd M n l) := by
  funext k
  unfold put bmap upd
  by_cases h : k = n <;> simp [h]
theorem bmap_none : bmap (fun _ => none) = fun _ => none := rfl
/-- The cells of writes. -/
def wcells (l : List (Int × List Int)) : List Value := l.flatMap fun p => .int .i64 p.1 :: p.2.map (.int .u8)
/-- A disk's state. -/
structure St where
  size : Int
  first : Int → Option (List Int)
  now : Int → Option (List Int)
  calls : List (Int × List Int)
structure St.Ok (D : St) : Prop where
  pos : 1 ≤ D.size
  le : D.size ≤ 65536
  first : ∀ n l, D.first n = some l → l.length = 32
  now : ∀ n l, D.now n = some l → l.length = 32
  calls : ∀ p ∈ D.calls, p.2.length = 32
/-- A disk: its blocks are block b, the maps m1 and m2, and the row of its calls. -/
structure DiskIs (w : World) (b m1 m2 : Nat) (sv : Value) (D : St) : Prop where
  head : w.heap[b]? = some (.cells #[.int .i64 D.size, .map (some m1), .map (some m2), sv] 76 (0, 0))
  first : MapIs w m1 (bmap D.first)
  now : MapIs w m2 (bmap D.now)
  apart : m1 ≠ m2
  row : w.ownsRow 0 81 33 sv D.calls.length (wcells D.calls)
  far : sv.ownBlock ≠ some b
  ok : D.Ok
/-- The blocks of a disk. -/
def foot (b m1 m2 : Nat) (sv : Value) (k : Nat) : Prop := k = b ∨ k = m1 ∨ k = m2 ∨ sv.ownBlock = some k
theorem DiskIs.cells {w : World} {b m1 m2 : Nat} {sv : Value} {D : St} (h : DiskIs w b m1 m2 sv D) :
    w.cell? ⟨b, 0, none⟩ = some (.int .i64 D.size) ∧ w.cell? ⟨b, 1, none⟩ = some (.map (some m1)) ∧ w.cell? ⟨b, 2, none⟩ = some (.map (some m2)) ∧ w.cell? ⟨b, 3, none⟩ = some sv := by
  have := h.head
  simp [World.cell?, this]
theorem own_kept {S : Nat → Prop} {w w' : World} {base : Nat} {e : TypeId} {size : Nat} {v : Value} {n : Nat} {xs : List Value} (h : w.ownsRow base e size v n xs) (k : Kept S w w') (hv : ∀ i, v.ownBlock = some i → ¬ S i) : w'.ownsRow base e size v n xs := by
  obtain ⟨h1, h2⟩ := h
  refine ⟨h1, ?_⟩
  rcases h2 with h2 | ⟨g, cap, cur, hv', hg, hh, r⟩
  · exact .inl h2
  · exact .inr ⟨g, cap, cur, hv', hg, k.heap hh (hv g (by rw [hv']; rfl)), r⟩
theorem DiskIs.kept {S : Nat → Prop} {w w' : World} {b m1 m2 : Nat} {sv : Value} {D : St} (h : DiskIs w b m1 m2 sv D) (k : Kept S w w') (hS : ∀ i, foot b m1 m2 sv i → ¬ S i) : DiskIs w' b m1 m2 sv D :=
  ⟨k.heap h.head (hS b (.inl rfl)), h.first.kept k (hS m1 (.inr (.inl rfl))), h.now.kept k (hS m2 (.inr (.inr (.inl rfl)))), h.apart, own_kept h.row k (fun i hi => hS i (.inr (.inr (.inr hi)))), h.far, h.ok⟩
theorem DiskIs.below {w w' : World} {b m1 m2 : Nat} {sv : Value} {D : St} (h : DiskIs w b m1 m2 sv D) (k : Below w.heap.size w w') : DiskIs w' b m1 m2 sv D :=
  h.kept (Kept.of_below (S := fun _ => False) k) (fun _ _ e => e)
theorem DiskIs.lt {w : World} {b m1 m2 : Nat} {sv : Value} {D : St} (h : DiskIs w b m1 m2 sv D) : ∀ i, foot b m1 m2 sv i → i < w.heap.size := by
  rintro i (rfl | rfl | rfl | hi)
  · exact lt_of_heap h.head
  · exact h.first.lt
  · exact h.now.lt
  · exact (h.row.lt i hi).2
theorem new_calls (n : Int) (w : World) (h1 : 1 ≤ n) (h2 : n ≤ 65536) :
    Calls Try.prog 12 #[.int .i64 n] w fun e w' => ∃ b m1 m2, e = .returned (.tuple #[.pointer (some ⟨b, 0, none⟩), .int .i64 0]) ∧ Below w.heap.size w w' ∧ (∀ i, foot b m1 m2 (.slice none 0 0) i → w.heap.size ≤ i) ∧
      DiskIs w' b m1 m2 (.slice none 0 0) ⟨n, fun _ => none, fun _ => none, []⟩ := by
  have hmm := @run_makeMap Try.prog
  go_enter Try.func12, Try.ntmps12
  go_wp2
  go_ret2
  have k1 : Below w.heap.size w (w.alloc (.map #[] 0)) := (Below.refl _ _).alloc (Nat.le_refl _) _
  have k2 : Below (w.alloc (.map #[] 0)).heap.size (w.alloc (.map #[] 0)) ((w.alloc (.map #[] 0)).alloc (.map #[] 0)) := (Below.refl _ _).alloc (Nat.le_refl _) _
  have k3 := fun o => (Below.refl ((w.alloc (.map #[] 0)).alloc (.map #[] 0)).heap.size ((w.alloc (.map #[] 0)).alloc (.map #[] 0))).alloc (Nat.le_refl _) o
  have M1 := (MapIs.new w).kept (Kept.of_below (S := fun _ => False) k2) (fun e => e)
  have M2 := MapIs.new (w.alloc (.map #[] 0))
  have hh := fun o => heap_alloc_new ((w.alloc (.map #[] 0)).alloc (.map #[] 0)) o
  have hs1 : (w.alloc (.map #[] 0)).heap.size = w.heap.size + 1 := by simp
  have hs2 : ((w.alloc (.map #[] 0)).alloc (.map #[] 0)).heap.size = w.heap.size + 1 + 1 := by simp
  rw [hs1] at M2
  rw [hs2] at hh
  refine ⟨_, w.heap.size, w.heap.size + 1, rfl, (k1.trans (k2.mono (by simp))).trans ((k3 _).mono (by simp; omega)), ?_, ⟨hh _, ?_, ?_, ?_, World.ownsRow_nil _ _ _ _, by simp [Value.ownBlock], ⟨h1, h2, by simp, by simp, by simp⟩⟩⟩
  · rintro i (rfl | rfl | rfl | hi)
    · omega
    · exact Nat.le_refl _
    · omega
    · simp [Value.ownBlock] at hi
  · exact M1.kept (Kept.of_below (S := fun _ => False) (k3 _)) (fun e => e)
  · exact M2.kept (Kept.of_below (S := fun _ => False) (k3 _)) (fun e => e)
  · omega
theorem new_bad (n : Int) (w : World) (h : n < 1 ∨ 65536 < n) :
    Calls Try.prog 12 #[.int .i64 n] w fun e w' => e = .returned (.tuple #[.pointer none, .int .i64 1]) ∧ w = w' := by
  by_cases h1 : n < 1
  · go_enter Try.func12, Try.ntmps12
    go_wp2
    go_ret2
    exact ⟨rfl, rfl⟩
  · have h2 : 65536 < n := by omega
    go_enter Try.func12, Try.ntmps12
    go_wp2
    go_ret2
    exact ⟨rfl, rfl⟩
theorem check_nil (n : Int) (w : World) : Calls Try.prog 40 #[.pointer none, .int .i64 n] w fun e w' => e = .returned (.int .i64 1) ∧ w = w' := by
  go_enter Try.func40, Try.ntmps40
  go_wp2
  go_ret
  exact ⟨rfl, rfl⟩
theorem check_ok (b : Nat) (s n : Int) (w : World) (hc : w.cell? ⟨b, 0, none⟩ = some (.int .i64 s)) (h0 : 0 ≤ n) (h1 : n < s) : Calls Try.prog 40 #[.pointer (some ⟨b, 0, none⟩), .int .i64 n] w fun e w' => e = .returned (.int .i64 0) ∧ w = w' := by
  go_enter Try.func40, Try.ntmps40
  go_wp2
  go_ret
  exact ⟨rfl, rfl⟩
theorem check_bad (b : Nat) (s n : Int) (w : World) (hc : w.cell? ⟨b, 0, none⟩ = some (.int .i64 s)) (h : n < 0 ∨ s ≤ n) : Calls Try.prog 40 #[.pointer (some ⟨b, 0, none⟩), .int .i64 n] w fun e w' => e = .returned (.int .i64 21) ∧ w = w' := by
  by_cases h0 : n < 0
  · go_enter Try.func40, Try.ntmps40
    go_wp2
    go_ret
    exact ⟨rfl, rfl⟩
  · have h1 : s ≤ n := by omega
    go_enter Try.func40, Try.ntmps40
    go_wp2
    go_ret
    exact ⟨rfl, rfl⟩
theorem blocks_nil (w : World) : Calls Try.prog 23 #[.pointer none] w fun e w' => e = .returned (.int .i64 0) ∧ w = w' := by
  go_enter Try.func23, Try.ntmps23
  go_wp2
  go_ret
  exact ⟨rfl, rfl⟩
theorem blocks_calls (b : Nat) (s : Int) (w : World) (hc : w.cell? ⟨b, 0, none⟩ = some (.int .i64 s)) : Calls Try.prog 23 #[.pointer (some ⟨b, 0, none⟩)] w fun e w' => e = .returned (.int .i64 s) ∧ w = w' := by
  go_enter Try.func23, Try.ntmps23
  go_wp2
  go_ret
  exact ⟨rfl, rfl⟩
theorem sync_nil (w : World) : Calls Try.prog 16 #[.pointer none] w fun e w' => e = .returned (.int .i64 1) ∧ w = w' := by
  go_enter Try.func16, Try.ntmps16
  go_wp2
  go_ret
  exact ⟨rfl, rfl⟩
theorem calls_nil (w : World) : Calls Try.prog 21 #[.pointer none] w fun e w' => e = .returned (.int .i64 0) ∧ w = w' := by
  go_enter Try.func21, Try.ntmps21
  go_wp2
  go_ret
  exact ⟨rfl, rfl⟩
theorem calls_calls (b : Nat) (a : Option Addr) (n c : Nat) (w : World) (hc : w.cell? ⟨b, 3, none⟩ = some (.slice a n c)) : Calls Try.prog 21 #[.pointer (some ⟨b, 0, none⟩)] w fun e w' => e = .returned (.int .i64 n) ∧ w = w' := by
  go_enter Try.func21, Try.ntmps21
  go_wp2
  go_ret
  exact ⟨rfl, rfl⟩
theorem write_nil (n : Int) (v : Value) (w : World) : Calls Try.prog 14 #[.pointer none, .int .i64 n, v] w fun e w' => e = .returned (.int .i64 1) ∧ w = w' := by
  go_enter Try.func14, Try.ntmps14
  go_wp2_with (go_at_call 40; refine (check_nil _ _).mono ?_; rintro e w1 ⟨rfl, rfl⟩)
  go_ret
  exact ⟨rfl, rfl⟩
theorem write_bad (b : Nat) (s n : Int) (v : Value) (w : World) (hc : w.cell? ⟨b, 0, none⟩ = some (.int .i64 s)) (h : n < 0 ∨ s ≤ n) : Calls Try.prog 14 #[.pointer (some ⟨b, 0, none⟩), .int .i64 n, v] w fun e w' => e = .returned (.int .i64 21) ∧ w = w' := by
  go_enter Try.func14, Try.ntmps14
  go_wp2_with (go_at_call 40; refine (check_bad _ _ _ _ hc h).mono ?_; rintro e w1 ⟨rfl, rfl⟩)
  go_ret
  exact ⟨rfl, rfl⟩
theorem write_short (b : Nat) (s n : Int) (a : Option Addr) (k c : Nat) (w : World) (hc : w.cell? ⟨b, 0, none⟩ = some (.int .i64 s)) (h0 : 0 ≤ n) (h1 : n < s) (hk : k ≠ 32) : Calls Try.prog 14 #[.pointer (some ⟨b, 0, none⟩), .int .i64 n, .slice a k c] w fun e w' => e = .returned (.int .i64 1) ∧ w = w' := by
  have hk' : ((k : Int) != 32) = true := by simp; omega
  go_enter Try.func14, Try.ntmps14
  go_wp2_with (go_at_call 40; refine (check_ok _ _ _ _ hc h0 h1).mono ?_; rintro e w1 ⟨rfl, rfl⟩)
  go_ret
  exact ⟨rfl, rfl⟩
theorem read_nil (n : Int) (w : World) : Calls Try.prog 22 #[.pointer none, .int .i64 n] w fun e w' => e = .returned (.tuple #[.slice none 0 0, .int .i64 1]) ∧ w = w' := by
  go_enter Try.func22, Try.ntmps22
  go_wp2_with (go_at_call 40; refine (check_nil _ _).mono ?_; rintro e w1 ⟨rfl, rfl⟩)
  go_ret2
  exact ⟨rfl, rfl⟩
theorem read_bad (b : Nat) (s n : Int) (w : World) (hc : w.cell? ⟨b, 0, none⟩ = some (.int .i64 s)) (h : n < 0 ∨ s ≤ n) : Calls Try.prog 22 #[.pointer (some ⟨b, 0, none⟩), .int .i64 n] w fun e w' => e = .returned (.tuple #[.slice none 0 0, .int .i64 21]) ∧ w = w' := by
  go_enter Try.func22, Try.ntmps22
  go_wp2_with (go_at_call 40; refine (check_bad _ _ _ _ hc h).mono ?_; rintro e w1 ⟨rfl, rfl⟩)
  go_ret2
  exact ⟨rfl, rfl⟩
set_option maxRecDepth 100000 in
theorem cut_nil (x : Int) (k : Value) (y : Int) (w : World) : Calls Try.prog 18 #[.pointer none, .int .i64 x, k, .int .i64 y] w fun e w' => e = .returned (.pointer none) ∧ w = w' := by
  go_enter Try.func18, Try.ntmps18
  go_wp2
  go_ret
  exact ⟨rfl, rfl⟩
end Go.Proofs.Ytinhednmfldmbaa.Dk

namespace Go.Proofs.Ytinhednmfldmbaa.Dk
open Go Go.RowKit Hp

theorem one_u8 (l : List Int) : ∀ u ∈ l.map (Value.int .u8), u.oneCell' = true := by
  intro u hu
  obtain ⟨x, _, rfl⟩ := List.mem_map.1 hu
  rfl
theorem info_u8 : (Try.prog.info? 5).map (fun i => (i.zero, i.size, i.bytes)) = some (some (.int .u8 0), 1, 1) := by kernel_rfl
theorem size_blk : (Try.prog.info? 79).map (·.size) = some 32 := by kernel_rfl
theorem zero_blk (w : World) : (zeroValue 79).run Try.prog w = .ok (blk zeros) w := by kernel_rfl
/-- What stands in block n. -/
def St.at (D : St) (n : Int) : List Int := (D.now n).getD zeros
theorem St.at_length (D : St) (h : D.Ok) (n : Int) : (D.at n).length = 32 := by
  unfold St.at
  cases hn : D.now n with
  | none => rfl
  | some l => exact h.now n l hn
theorem look_now {w : World} {b m1 m2 : Nat} {sv : Value} {D : St} (h : DiskIs w b m1 m2 sv D) (n : Int) : (Instr.lookup 73 (.map (some m2)) (.int .i64 n) false).run Try.prog w = .ok (blk (D.at n)) w := by
  rw [run_look h.now Try.underlying73 Try.underlying3 (zero_blk w) n]
  unfold bmap St.at
  cases D.now n <;> rfl
set_option maxHeartbeats 1000000 in
set_option maxRecDepth 100000 in
theorem read_ok (b m1 m2 : Nat) (sv : Value) (D : St) (n : Int) (w : World) (h : DiskIs w b m1 m2 sv D) (h0 : 0 ≤ n) (h1 : n < D.size) :
    Calls Try.prog 22 #[.pointer (some ⟨b, 0, none⟩), .int .i64 n] w fun e w' => ∃ v, e = .returned (.tuple #[v, .int .i64 0]) ∧ Below w.heap.size w w' ∧ w'.ownsRow w.heap.size 5 1 v 32 ((D.at n).map (.int .u8)) := by
  obtain ⟨c0, c1, c2, c3⟩ := h.cells
  have hlk := look_now h n
  have hlen := h.ok
  obtain ⟨l, hl⟩ : ∃ l, D.at n = l := ⟨_, rfl⟩
  have hl32 := D.at_length h.ok n
  rw [hl] at hlk hl32 ⊢
  unfold blk at hlk
  have hst := fun (W : World) (c : Array Value) (hc : c.size = 32) => run_storeCells_new (P := Try.prog) W 79 c (l.map (Value.int .u8)).toArray (by rw [size_blk]; simp [hl32]) (by simp [hl32, hc]) (all_oneCell_toArray (one_u8 l))
  obtain ⟨i0, hi, hz⟩ := Option.map_eq_some_iff.1 info_u8
  simp only [Prod.mk.injEq] at hz
  obtain ⟨hz0, hz1, hz2⟩ := hz
  go_enter Try.func22, Try.ntmps22
  go_wp2_with (first | (go_at_call 40; refine (check_ok _ _ _ _ c0 h0 h1).mono ?_; rintro e w1 ⟨rfl, rfl⟩) | (at_builtin; refine wpList_append_own _ rfl _ _ 31 rfl w.heap.size 5 i0 (.int .u8 0) 1 1 Try.underlying31 hi hz0 hz1 hz2 rfl (by decide) _ _ _ rfl (World.ownsRow_nil _ _ _ _) ⟨w.heap.size, 0, none⟩ 32 32 (l.map (Value.int .u8)) rfl ?c1 ?c2 ?c3 ?c4 ?c5 ?c6 ?_))
  case c1 => simp [hl32]
  case c2 =>
    intro j u hu
    rw [Addr.add_mid, Nat.zero_add]
    simp only [World.cell?, heap_alloc_new]
    simpa using hu
  case c3 => exact one_u8 l
  case c4 => unfold maxLen; omega
  case c5 => omega
  case c6 => simp
  intro v' w' hown hgr _
  go_wp2
  go_ret2
  exact ⟨_, rfl, ((Below.refl _ _).alloc (Nat.le_refl _) _).grown hgr (by simp) (by intro k hk; simp [Value.ownBlock] at hk), hown⟩
theorem own_len {w : World} {base : Nat} {e : TypeId} {size : Nat} {v : Value} {n : Nat} {xs : List Value} (h : w.ownsRow base e size v n xs) : ∃ a c, v = .slice a n c := by
  rcases h.2 with ⟨h1, h2⟩ | ⟨g, cap, cur, h1, _⟩
  · subst h2; exact ⟨_, _, h1⟩
  · exact ⟨_, _, h1⟩
set_option maxHeartbeats 1000000 in
set_option maxRecDepth 100000 in
theorem alive_calls (w : World) : Calls Try.prog 11 #[] w fun e w' => e = .returned (.bool true) ∧ Below w.heap.size w w' := by
  go_enter Try.func11, Try.ntmps11
  go_wp2_with (fail)
  refine (new_calls 2 _ (by decide) (by decide)).mono ?_
  rintro e w1 ⟨b, m1, m2, rfl, hb1, -, hD⟩
  go_wp2_with (fail)
  refine (read_ok b m1 m2 _ _ 1 w1 hD (by decide) (by decide)).mono ?_
  rintro e w2 ⟨v, rfl, hb2, hown⟩
  obtain ⟨a, c, rfl⟩ := own_len hown
  have hD2 := hD.below hb2
  obtain ⟨c0, -⟩ := hD2.cells
  have hs1 := hb1.size
  go_wp2_with (fail)
  refine (read_bad b 2 2 w2 c0 (Or.inr (by decide))).mono ?_
  rintro e w3 ⟨rfl, rfl⟩
  go_wp2_with (fail)
  refine (blocks_calls b 2 w2 c0).mono ?_
  rintro e w3 ⟨rfl, rfl⟩
  go_wp2
  go_ret
  exact ⟨rfl, hb1.trans (hb2.mono hs1)⟩
end Go.Proofs.Ytinhednmfldmbaa.Dk

namespace Go.Proofs.Ytinhednmfldmbaa.Dk
open Go Go.RowKit Hp

theorem load_mid (w : World) (b o : Nat) (cs : List Value) (n : Nat) (hn : cs.length = n) (hc : w.rangeAt b o cs) : (loadCellsFrom ⟨b, o, none⟩ 0 n #[]).run Try.prog w = .ok cs.toArray w := by
  subst hn
  have := run_loadCells_list (P := Try.prog) w ⟨b, o, none⟩ cs (fun j v hv => by rw [Addr.add_mid]; exact hc j v hv)
  simpa [loadCells] using this
theorem array_at (g off c : Nat) (w : World) : (Instr.arrayAt 79 (.slice (some ⟨g, off, none⟩) 32 c)).run Try.prog w = .ok (.pointer (some ⟨g, off, none⟩)) w := by
  simp [Instr.arrayAt, run_underlying Try.underlying79]
theorem exec_load_mid {P : Program} {w : World} {o : Oper} {ρ : Operand → Value} (ty : TypeId) (x : Operand) {b off : Nat} {cs : List Value} {d : TypeDesc} (ho : o.op = .load ty x) (hx : ρ x = .pointer (some ⟨b, off, none⟩)) (hc : w.rangeAt b off cs) (hu : P.underlying ty = some d) (hd : d.isRow = true) (hi : (P.info? ty).map (·.size) = some cs.length) :
    (execOp ρ o).run P w = .ok (.value (.agg cs.toArray)) w := by
  unfold execOp
  simp only [ho, hx, Instr.loadAt, Instr.sureAddr, Sem.run_bind, Sem.run_pure, Result.andThen_ok, run_loadVar_mid w b off ty cs d hc hu hd hi]
theorem info_write : (Try.prog.info? 81).map (fun i => (i.zero, i.size, i.bytes)) = some (some (.agg (.int .i64 0 :: zeros.map (.int .u8)).toArray), 33, 40) := by kernel_rfl
theorem fold_set (o : Nat) : ∀ (vs : List Value) (k : Nat) (cs : Array Value), o + k + vs.length ≤ cs.size →
    (vs.zipIdx k).foldl (fun cs x => cs.setIfInBounds (o + x.snd) x.fst) cs = (cs.toList.take (o + k) ++ vs ++ cs.toList.drop (o + k + vs.length)).toArray
  | [], k, cs, h => by
    simp
  | v :: vs, k, cs, h => by
    simp only [List.length_cons] at h
    rw [List.zipIdx_cons, List.foldl_cons, fold_set o vs (k + 1) _ (by simp; omega)]
    congr 1
    have hlt : o + k < cs.toList.length := by simp; omega
    simp only [Array.toList_setIfInBounds]
    rw [← Nat.add_assoc o k 1, List.take_succ_eq_append_getElem (by simpa using hlt)]
    rw [List.getElem_set_self, List.take_set_of_le (Nat.le_refl _)]
    rw [List.drop_set_of_lt (by omega)]
    simp only [List.append_assoc, List.cons_append, List.nil_append, List.length_cons]
    rw [show o + k + 1 + vs.length = o + k + (vs.length + 1) by omega]
theorem fold_write (n : Int) (l : List Int) (hl : l.length = 32) : List.foldl (fun (cs : Array Value) (x : Value × Nat) => cs.setIfInBounds (1 + x.snd) x.fst) (.int .i64 n :: zeros.map (.int .u8)).toArray (l.map (Value.int .u8)).zipIdx = (.int .i64 n :: l.map (.int .u8)).toArray := by
  rw [fold_set 1 (l.map (Value.int .u8)) 0 _ (by simp [hl, zeros])]
  rw [List.drop_of_length_le (by simp [hl, zeros])]
  simp
theorem fold_write0 (n : Int) (l : List Int) (hl : l.length = 32) : List.foldl (fun (cs : Array Value) (x : Value × Nat) => cs.setIfInBounds x.snd x.fst) (.int .i64 n :: zeros.map (.int .u8)).toArray ((l.map (Value.int .u8)).zipIdx 1) = (.int .i64 n :: l.map (.int .u8)).toArray := by
  have := fold_set 0 (l.map (Value.int .u8)) 1 (.int .i64 n :: zeros.map (.int .u8)).toArray (by simp [hl, zeros])
  simp only [Nat.zero_add] at this
  rw [this]
  simp only [List.take_succ_cons, List.take_zero, List.length_map, hl]
  rw [List.drop_of_length_le (by simp [zeros])]
  simp
def St.write (D : St) (n : Int) (l : List Int) : St := { D with now := upd D.now n l, calls := D.calls ++ [(n, l)] }
theorem St.write_ok {D : St} (h : D.Ok) {n : Int} {l : List Int} (hl : l.length = 32) : (D.write n l).Ok := by
  refine ⟨h.pos, h.le, h.first, fun k l' hk => ?_, fun p hp => ?_⟩
  · simp only [St.write, upd] at hk
    split at hk
    · cases hk; exact hl
    · exact h.now k l' hk
  · simp only [St.write, List.mem_append, List.mem_singleton] at hp
    rcases hp with hp | rfl
    · exact h.calls p hp
    · exact hl
theorem wcells_snoc (l : List (Int × List Int)) (n : Int) (b : List Int) : wcells (l ++ [(n, b)]) = wcells l ++ (.int .i64 n :: b.map (.int .u8)) := by
  simp [wcells]
/-- What the two operations that make memory leave. -/
def PsiW (D : St) (n : Int) (l : List Int) (sv : Value) (w1 : World) (k : Nat) (_ : Array Value) (v : Value) (w : World) : Prop :=
  if k = 10 then ∃ x, v = .slice (some ⟨x, 0, none⟩) 1 1 ∧ w1.heap.size ≤ x ∧ w.heap[x]? = some (.cells (.int .i64 n :: l.map (.int .u8)).toArray 81 (0, 0))
  else if k = 11 then w.ownsRow 0 81 33 v (D.calls.length + 1) (wcells D.calls ++ (.int .i64 n :: l.map (.int .u8))) ∧ ∀ i, v.ownBlock = some i → sv.ownBlock = some i ∨ w1.heap.size ≤ i
  else True
theorem psiW_stays (D : St) (n : Int) (l : List Int) (sv : Value) (w1 : World) (R1 : w1.ownsRow 0 81 33 sv D.calls.length (wcells D.calls)) : ∀ (j k : Nat) (A : Array Value) (v : Value) (w w' : World), j ≠ k → (([0, 0, 2, 6, 14, 0, 0, 64, 192, 480, 992, 2046, 4095, 8191, 16383] : List Nat).getD j 0).testBit k = false →
    (if k = 10 then Below w.heap.size w w' else if k = 11 then Kept (fun k => sv.ownBlock = some k) w w' else w = w') → PsiW D n l sv w1 j A v w → PsiW D n l sv w1 j A v w' := by
  intro j k A v w w' hjk hb ht h
  unfold PsiW at *
  by_cases h10 : j = 10
  · subst h10
    simp only [if_true] at h ⊢
    obtain ⟨x, hv, hx, hh⟩ := h
    refine ⟨x, hv, hx, ?_⟩
    rw [if_neg (Ne.symm hjk)] at ht
    split at ht
    · exact ht.heap hh (fun e => by have := (R1.lt x e).2; omega)
    · exact ht ▸ hh
  · by_cases h11 : j = 11
    · subst h11
      simp only [if_true, h10, if_false] at h ⊢
      by_cases hk : k = 10
      · subst hk; exact absurd hb (by decide)
      · rw [if_neg hk, if_neg (Ne.symm hjk)] at ht
        exact ht ▸ h
    · simp only [h10, h11, if_false]
set_option maxHeartbeats 2000000 in
set_option maxRecDepth 100000 in
theorem write_ok (b m1 m2 : Nat) (sv : Value) (D : St) (n : Int) (g off c : Nat) (l : List Int) (w : World) (h : DiskIs w b m1 m2 sv D) (h0 : 0 ≤ n) (h1 : n < D.size) (hl : l.length = 32) (hr : w.rangeAt g off (l.map (.int .u8))) (hg : sv.ownBlock ≠ some g) (hn : D.calls.length < 1000000000000) :
    Calls Try.prog 14 #[.pointer (some ⟨b, 0, none⟩), .int .i64 n, .slice (some ⟨g, off, none⟩) 32 c] w fun e w' => ∃ sv', e = .returned (.int .i64 0) ∧ DiskIs w' b m1 m2 sv' (D.write n l) ∧ Kept (foot b m1 m2 sv) w w' ∧ ∀ i, sv'.ownBlock = some i → sv.ownBlock = some i ∨ w.heap.size ≤ i := by
  have mixed : Try.prog.follows Departure.mixedOrders = true := by kernel_rfl
  obtain ⟨c0, c1, c2, c3⟩ := h.cells
  have hap := array_at g off c
  obtain ⟨es, ck, hup, hes⟩ := run_put (P := Try.prog) (w := w.drew) (m := m2) (M := bmap D.now) h.now Try.underlying73 Try.underlying3 n (blk l)
  have hup' := hup
  unfold blk at hup'
  go_enter Try.func14, Try.ntmps14
  go_wp2_with (go_at_call 40; refine (check_ok _ _ _ _ c0 h0 h1).mono ?_; rintro e w1 ⟨rfl, rfl⟩)
  refine Mo.region 8 [0, 1, 3, 7, 0, 0, 32, 96, 255] (fun w' => w' = w.drew) (fun _ => Eq) (fun _ _ => True) (fun _ _ _ _ => True) rfl (fun _ => trivial) (fun _ _ _ h k => k ▸ h) (fun _ _ _ _ _ _ _ _ _ _ => trivial) (fun _ _ _ _ _ _ _ _ _ => trivial) mixed (by kernel_rfl) ?_
  simp only [List.take_succ_cons, List.take_zero, List.drop_succ_cons, List.drop_zero]
  refine Mo.val (v := ?_) (fun _ => rfl) (by rfl) (fun _ _ _ => trivial) ?_ ?_
  rotate_left
  · (intro w' hT hP hF; cases hT; go_simp; with_reducible rfl)
  simp only [Act.put, List.setIfInBounds_toArray, List.set_cons_zero, List.set_cons_succ]
  refine Mo.val (v := ?_) (fun _ => rfl) (by rfl) (fun _ _ _ => trivial) ?_ ?_
  rotate_left
  · (intro w' hT hP hF; cases hT; go_simp; with_reducible rfl)
  simp only [Act.put, List.setIfInBounds_toArray, List.set_cons_zero, List.set_cons_succ]
  refine Mo.val (v := ?_) (fun _ => rfl) (by rfl) (fun _ _ _ => trivial) ?_ ?_
  rotate_left
  · (intro w' hT hP hF; cases hT; go_simp; with_reducible rfl)
  simp only [Act.put, List.setIfInBounds_toArray, List.set_cons_zero, List.set_cons_succ]
  refine Mo.val (v := ?_) (fun _ => rfl) (by rfl) (fun _ _ _ => trivial) ?_ ?_
  rotate_left
  · (intro w' hT hP hF; cases hT; go_simp; with_reducible rfl)
  simp only [Act.put, List.setIfInBounds_toArray, List.set_cons_zero, List.set_cons_succ]
  refine Mo.val (v := ?_) (fun _ => rfl) (by rfl) (fun _ _ _ => trivial) ?_ ?_
  rotate_left
  · (intro w' hT hP hF; cases hT; go_simp; with_reducible rfl)
  simp only [Act.put, List.setIfInBounds_toArray, List.set_cons_zero, List.set_cons_succ]
  refine Mo.val (v := ?_) (fun _ => rfl) (by rfl) (fun _ _ _ => trivial) ?_ ?_
  rotate_left
  · (intro w' hT hP hF; cases hT; go_simp; with_reducible rfl)
  simp only [Act.put, List.setIfInBounds_toArray, List.set_cons_zero, List.set_cons_succ]
  refine Mo.val (v := ?_) (fun _ => rfl) (by rfl) (fun _ _ _ => trivial) ?_ ?_
  rotate_left
  · (intro w' hT hP hF; cases hT; go_simp; with_reducible rfl)
  simp only [Act.put, List.setIfInBounds_toArray, List.set_cons_zero, List.set_cons_succ]
  refine Mo.val (v := ?_) (fun _ => rfl) (by rfl) (fun _ _ _ => trivial) ?_ ?_
  rotate_left
  · (intro w' hT hP hF; refine exec_load_mid (P := Try.prog) 79 (.tmp 23) ?_ ?_ (show w'.rangeAt g off (l.map (.int .u8)) by cases hT; exact hr) Try.underlying79 rfl (by rw [size_blk]; simp [hl]) <;> rfl)
  simp only [Act.put, List.setIfInBounds_toArray, List.set_cons_zero, List.set_cons_succ]
  refine Mo.done ?_
  rintro w' rfl - -
  go_wp2
  obtain ⟨w1, hw1⟩ : ∃ w1, ChangeMaps.setBlock w.drew m2 (Obj.map es ck) = w1 := ⟨_, rfl⟩
  rw [hw1]
  have K1 : Kept (fun k => k = m2) w w1 := by
    rw [← hw1]
    exact ((Kept.refl (fun k => k = m2) w).drew).setBlock (Or.inr rfl) _
  have M1 : MapIs w1 m2 (bmap (upd D.now n l)) := by
    rw [← hw1, ← put_bmap]
    exact (MapIs.put (w := w.drew) h.now hes)
  have hbm : b ≠ m2 := fun e => by
    obtain ⟨es, ck, hx, _⟩ := h.now
    rw [← e, h.head] at hx
    cases hx
  have hgm : ∀ {g' : Nat} {cs : Array Value} {t : TypeId} {fr : Nat × Nat}, w.heap[g']? = some (.cells cs t fr) → g' ≠ m2 := fun hx e => by
    obtain ⟨es, ck, hy, _⟩ := h.now
    rw [← e, hx] at hy
    cases hy
  have H1 := K1.heap h.head hbm
  have A1 := h.first.kept K1 h.apart
  have R1 : w1.ownsRow 0 81 33 sv D.calls.length (wcells D.calls) := own_kept h.row K1 (fun i hi e => by
    subst e
    rcases h.row.2 with ⟨hv, _⟩ | ⟨x, cap, cur, hv, _, hx, _⟩
    · rw [hv] at hi; cases hi
    · rw [hv] at hi
      have hxi : x = i := by simpa [Value.ownBlock] using hi
      exact hgm hx hxi)
  have hr1 : w1.rangeAt g off (l.map (.int .u8)) := fun j v hj => by
    have hv := hr j v hj
    have : w1.heap[g]? = w.heap[g]? := by
      rcases hg : w.heap[g]? with _ | o
      · simp [World.cell?, hg] at hv
      · cases o with
        | cells cs t fr => exact K1.heap hg (hgm hg)
        | _ => simp [World.cell?, hg] at hv
    rw [← hv]
    simp [World.cell?, this]
  clear hup hup' hes hw1 hr c0 c1 c2 c3
  have hfo := fold_write n l hl
  have hfo2 := fold_write0 n l hl
  simp only [zeros, List.reduceReplicate, List.map_cons, List.map_nil] at hfo hfo2
  have c3 : w1.cell? ⟨b, 3, none⟩ = some sv := by simp [World.cell?, H1]
  refine Mo.region 12 [0, 0, 2, 6, 14, 0, 0, 64, 192, 480, 992, 2046, 4095, 8191, 16383] (fun w' => Kept (fun k => sv.ownBlock = some k) w1 w') (fun k u u' => if k = 10 then Below u.heap.size u u' else if k = 11 then Kept (fun k => sv.ownBlock = some k) u u' else u = u') (fun k w' => k = 11 → w'.ownsRow 0 81 33 sv D.calls.length (wcells D.calls)) (PsiW D n l sv w1) (Kept.refl _ _).drew (fun _ _ => own_kept R1 (Kept.refl (fun _ => False) w1).drew (fun _ _ e => e)) ?ht ?hst ?hpre mixed (by kernel_rfl) ?_
  case ht =>
    intro k u u' hu ht
    split at ht
    · exact hu.then ht
    · split at ht
      · exact hu.trans ht (fun _ _ e => e)
      · exact ht ▸ hu
  case hst => exact psiW_stays D n l sv w1 R1
  case hpre =>
    intro j k u u' hjk hb hu ht hp e
    subst e
    rw [if_neg (Ne.symm hjk)] at ht
    split at ht
    · exact own_kept (hp rfl) (Kept.of_below (S := fun _ => False) ht) (fun _ _ e => e)
    · exact ht ▸ hp rfl
  simp only [List.take_succ_cons, List.take_zero, List.drop_succ_cons, List.drop_zero]
  have c3' : ∀ w', Kept (fun k => sv.ownBlock = some k) w1 w' → w'.cell? ⟨b, 3, none⟩ = some sv := fun w' k => by
    have := k.heap H1 h.far
    simp [World.cell?, this]
  have hr' : ∀ w', Kept (fun k => sv.ownBlock = some k) w1 w' → w'.rangeAt g off (l.map (.int .u8)) := fun w' k j v hj => by
    have hv := hr1 j v hj
    have hlt : g < w1.heap.size := World.block_lt_of_cell? w1 _ hv
    rw [← hv]
    simp [World.cell?, k.block g hlt hg]
  refine Mo.val (v := ?_) (fun _ => rfl) (by rfl) (fun _ _ _ => trivial) ?_ ?_
  rotate_left
  · (intro w' hT hP hF; skip; go_simp; with_reducible rfl)
  simp only [Act.put, List.setIfInBounds_toArray, List.set_cons_zero, List.set_cons_succ]
  refine Mo.val (v := ?_) (fun _ => rfl) (by rfl) (fun _ _ _ => trivial) ?_ ?_
  rotate_left
  · (intro w' hT hP hF; skip; go_simp; with_reducible rfl)
  simp only [Act.put, List.setIfInBounds_toArray, List.set_cons_zero, List.set_cons_succ]
  refine Mo.val (v := ?_) (fun _ => rfl) (by rfl) (fun _ _ _ => trivial) ?_ ?_
  rotate_left
  · (intro w' hT hP hF; skip; go_simp; with_reducible rfl)
  simp only [Act.put, List.setIfInBounds_toArray, List.set_cons_zero, List.set_cons_succ]
  refine Mo.val (v := ?_) (fun _ => rfl) (by rfl) (fun _ _ _ => trivial) ?_ ?_
  rotate_left
  · (intro w' hT hP hF; skip; go_simp; with_reducible rfl)
  simp only [Act.put, List.setIfInBounds_toArray, List.set_cons_zero, List.set_cons_succ]
  refine Mo.val (v := ?_) (fun _ => rfl) (by rfl) (fun _ _ _ => trivial) ?_ ?_
  rotate_left
  · (intro w' hT hP hF; have hc := c3' w' hT; go_simp; with_reducible rfl)
  simp only [Act.put, List.setIfInBounds_toArray, List.set_cons_zero, List.set_cons_succ]
  refine Mo.val (v := ?_) (fun _ => rfl) (by rfl) (fun _ _ _ => trivial) ?_ ?_
  rotate_left
  · (intro w' hT hP hF; skip; go_simp; with_reducible rfl)
  simp only [Act.put, List.setIfInBounds_toArray, List.set_cons_zero, List.set_cons_succ]
  refine Mo.val (v := ?_) (fun _ => rfl) (by rfl) (fun _ _ _ => trivial) ?_ ?_
  rotate_left
  · (intro w' hT hP hF; skip; go_simp; with_reducible rfl)
  simp only [Act.put, List.setIfInBounds_toArray, List.set_cons_zero, List.set_cons_succ]
  refine Mo.val (v := ?_) (fun _ => rfl) (by rfl) (fun _ _ _ => trivial) ?_ ?_
  rotate_left
  · (intro w' hT hP hF; skip; go_simp; with_reducible rfl)
  simp only [Act.put, List.setIfInBounds_toArray, List.set_cons_zero, List.set_cons_succ]
  refine Mo.val (v := ?_) (fun _ => rfl) (by rfl) (fun _ _ _ => trivial) ?_ ?_
  rotate_left
  · (intro w' hT hP hF; refine exec_load_mid (P := Try.prog) 79 (.tmp 32) ?_ ?_ (hr' w' hT) Try.underlying79 rfl (by rw [size_blk]; simp [hl]) <;> rfl)
  simp only [Act.put, List.setIfInBounds_toArray, List.set_cons_zero, List.set_cons_succ]
  refine Mo.val (v := ?_) (fun _ => rfl) (by rfl) (fun _ _ _ => trivial) ?_ ?_
  rotate_left
  · (intro w' hT hP hF; skip; go_simp; with_reducible rfl)
  simp only [Act.put, List.setIfInBounds_toArray, List.set_cons_zero, List.set_cons_succ]
  refine Mo.any (by rfl) ?_ ?_
  · intro w' hT hP hF
    go_simp
    refine ⟨(Below.refl _ _).alloc (Nat.le_refl _) _, ?_⟩
    unfold PsiW
    rw [if_pos rfl]
    exact ⟨_, rfl, hT.size, heap_alloc_new _ _⟩
  simp only [Act.put, List.setIfInBounds_toArray, List.set_cons_zero, List.set_cons_succ]
  rintro v10 ⟨wx, -, hx⟩
  unfold PsiW at hx
  rw [if_pos rfl] at hx
  obtain ⟨x, rfl, hxs, -⟩ := hx
  refine Mo.any (by rfl) ?_ ?_
  · intro w' hT hP hF
    have hF10 := hF 10 (by decide)
    rw [Mo.upd_same] at hF10
    unfold PsiW at hF10
    rw [if_pos rfl] at hF10
    obtain ⟨x', hx', -, hh⟩ := hF10
    have ex : x = x' := by simpa using hx'
    rw [← ex] at hh
    have hw1w := hT.size
    refine Mo.leaves_of_wp (d := 36) rfl (by simp) fun K Q hK => ?_
    obtain ⟨i0, hi, hz⟩ := Option.map_eq_some_iff.1 info_write
    simp only [Prod.mk.injEq] at hz
    obtain ⟨hz0, hz1, hz2⟩ := hz
    have hrow : w'.ownsRow 0 81 33 sv D.calls.length (wcells D.calls) := hP rfl
    refine Ow.wp_append (P := Try.prog) w' (.tmp 29) (.tmp 35) 74 rfl 0 81 i0 _ 33 40 Try.underlying74 hi hz0 hz1 hz2 rfl (by decide) sv D.calls.length (wcells D.calls) rfl hrow ⟨x, 0, none⟩ 1 1 (.int .i64 n :: l.map (.int .u8)) rfl ?_ ?_ ?_ ?_ ?_ (Nat.zero_le _) ?_
    · simp [hl]
    · intro j u hu
      rw [Addr.add_mid, Nat.zero_add]
      simp only [World.cell?, hh]
      simpa using hu
    · intro u hu
      rcases List.mem_cons.1 hu with rfl | hu
      · rfl
      · exact one_u8 l u hu
    · unfold maxLen; omega
    · omega
    · intro v' w2 hown hgr _ hnb
      refine hK v' w2 ⟨?_, ?_⟩
      · exact (Kept.refl (fun k => sv.ownBlock = some k) w').grown hgr (fun k hk => Or.inr hk)
      · unfold PsiW
        rw [if_neg (by decide), if_pos rfl]
        refine ⟨hown, fun i hi => ?_⟩
        rcases hnb i hi with h5 | h5
        · exact Or.inl h5
        · exact Or.inr (by omega)
  simp only [Act.put, List.setIfInBounds_toArray, List.set_cons_zero, List.set_cons_succ]
  rintro v11 ⟨wx, -, hx⟩
  unfold PsiW at hx
  rw [if_neg (by decide), if_pos rfl] at hx
  obtain ⟨a11, c11, rfl⟩ := own_len hx.1
  refine Mo.done ?_
  intro w' hT hF _
  have hF11 := hF 11
  rw [Mo.upd_same] at hF11
  unfold PsiW at hF11
  rw [if_neg (by decide), if_pos rfl] at hF11
  obtain ⟨O1, O2⟩ := hF11
  have H2 := hT.heap H1 h.far
  have c3w := c3' w' hT
  have fzw : w'.frozen? ⟨b, 3, none⟩ = false := by simp [World.frozen?, H2]
  clear hF hx hxs hr' c3' hr1 hap
  go_wp2
  go_ret
  have hm2S : ¬ sv.ownBlock = some m2 := fun e => by
    rcases R1.2 with ⟨hv, _⟩ | ⟨x, cap, cur, hv, _, hx, _⟩
    · rw [hv] at e; cases e
    · rw [hv] at e
      have hxi : x = m2 := by simpa [Value.ownBlock] using e
      obtain ⟨es', ck', hy, _⟩ := M1
      rw [← hxi, hx] at hy
      cases hy
  have hm1S : ¬ sv.ownBlock = some m1 := fun e => by
    rcases R1.2 with ⟨hv, _⟩ | ⟨x, cap, cur, hv, _, hx, _⟩
    · rw [hv] at e; cases e
    · rw [hv] at e
      have hxi : x = m1 := by simpa [Value.ownBlock] using e
      obtain ⟨es', ck', hy, _⟩ := A1
      rw [← hxi, hx] at hy
      cases hy
  have A2 := A1.kept hT hm1S
  have M2 := M1.kept hT hm2S
  have hfar : (Value.slice a11 (D.calls.length + 1) c11).ownBlock ≠ some b := fun e => by
    rcases O2 b e with h5 | h5
    · exact h.far h5
    · have := lt_of_heap H1; omega
  have hset : ∀ (k : Nat) , k ≠ b → (w'.setCell ⟨b, 3, none⟩ (Value.slice a11 (D.calls.length + 1) c11)).heap[k]? = w'.heap[k]? := fun k hk => Below.heap_setCell _ _ _ _ hk
  have KS : Kept (fun k => k = b) w' (w'.setCell ⟨b, 3, none⟩ (Value.slice a11 (D.calls.length + 1) c11)) := (Kept.refl (fun k => k = b) w').setCell (p := ⟨b, 3, none⟩) (Or.inr rfl) _
  have hb1 : m1 ≠ b := fun e => by
    obtain ⟨es', ck', hy, _⟩ := A2
    rw [e, H2] at hy
    cases hy
  have hb2 : m2 ≠ b := fun e => hbm e.symm
  refine ⟨_, rfl, ⟨?_, A2.kept KS hb1, M2.kept KS hb2, h.apart, ?_, hfar, St.write_ok h.ok hl⟩, ?_, fun i hi => ?_⟩
  · simp [World.setCell, Array.getElem?_modify, H2, St.write]
  · have := own_kept O1 KS (fun i hi e => by subst e; exact hfar hi)
    simp only [St.write, wcells_snoc, List.length_append, List.length_cons, List.length_nil]
    exact this
  · refine ((K1.mono (S' := foot b m1 m2 sv) (fun i _ e => Or.inr (Or.inr (Or.inl e)))).trans (S' := fun k => sv.ownBlock = some k) hT (fun i _ e => Or.inr (Or.inr (Or.inr e)))).trans (S' := fun k => k = b) KS (fun i _ e => Or.inl e)
  · rcases O2 i hi with h5 | h5
    · exact Or.inl h5
    · exact Or.inr (Nat.le_trans K1.size h5)
end Go.Proofs.Ytinhednmfldmbaa.Dk

namespace Go.Proofs.Ytinhednmfldmbaa.Dk
open Go Go.RowKit Hp

def St.sync (D : St) : St := { D with calls := D.calls ++ [(-1, zeros)] }
theorem St.sync_ok {D : St} (h : D.Ok) : D.sync.Ok := by
  refine ⟨h.pos, h.le, h.first, h.now, fun p hp => ?_⟩
  simp only [St.sync, List.mem_append, List.mem_singleton] at hp
  rcases hp with hp | rfl
  · exact h.calls p hp
  · rfl
set_option maxHeartbeats 2000000 in
set_option maxRecDepth 100000 in
theorem sync_ok (b m1 m2 : Nat) (sv : Value) (D : St) (w : World) (h : DiskIs w b m1 m2 sv D) (hn : D.calls.length < 1000000000000) :
    Calls Try.prog 16 #[.pointer (some ⟨b, 0, none⟩)] w fun e w' => ∃ sv', e = .returned (.int .i64 0) ∧ DiskIs w' b m1 m2 sv' D.sync ∧ Kept (foot b m1 m2 sv) w w' ∧ ∀ i, sv'.ownBlock = some i → sv.ownBlock = some i ∨ w.heap.size ≤ i := by
  obtain ⟨c0, c1, c2, c3⟩ := h.cells
  obtain ⟨i0, hi, hz⟩ := Option.map_eq_some_iff.1 info_write
  simp only [Prod.mk.injEq] at hz
  obtain ⟨hz0, hz1, hz2⟩ := hz
  have hrow := h.row.alloc (.cells (.int .i64 (-1) :: zeros.map (.int .u8)).toArray 81)
  go_enter Try.func16, Try.ntmps16
  go_wp2_with (at_builtin; refine Ow.wpList_append _ rfl _ _ 74 rfl 0 81 i0 _ 33 40 Try.underlying74 hi hz0 hz1 hz2 rfl (by decide) _ D.calls.length (wcells D.calls) rfl hrow ⟨w.heap.size, 0, none⟩ 1 1 (.int .i64 (-1) :: zeros.map (.int .u8)) rfl ?c1 ?c2 ?c3 ?c4 ?c5 (Nat.zero_le _) ?_)
  case c1 => rfl
  case c2 =>
    intro j u hu
    rw [Addr.add_mid, Nat.zero_add]
    simp only [World.cell?, heap_alloc_new]
    simpa [zeros] using hu
  case c3 =>
    intro u hu
    rcases List.mem_cons.1 hu with rfl | hu
    · rfl
    · exact one_u8 zeros u hu
  case c4 => unfold maxLen; omega
  case c5 => omega
  intro v' w2 O1 hgr _ O2
  have KA : Kept (fun k => sv.ownBlock = some k) w w2 := ((Kept.refl (fun k => sv.ownBlock = some k) w).alloc _).grown hgr (fun k hk => Or.inr hk)
  have H2 := KA.heap h.head h.far
  have c3w : w2.cell? ⟨b, 3, none⟩ = some sv := by simp [World.cell?, H2]
  have fzw : w2.frozen? ⟨b, 3, none⟩ = false := by simp [World.frozen?, H2]
  obtain ⟨a11, c11, rfl⟩ := own_len O1
  clear hrow
  go_wp2
  go_ret
  have hmS : ∀ (m : Nat) (M : Int → Option Value), MapIs w m M → ¬ sv.ownBlock = some m := fun m M hM e => by
    rcases h.row.2 with ⟨hv, _⟩ | ⟨x, cap, cur, hv, _, hx, _⟩
    · rw [hv] at e; cases e
    · rw [hv] at e
      have hxi : x = m := by simpa [Value.ownBlock] using e
      obtain ⟨es', ck', hy, _⟩ := hM
      rw [← hxi, hx] at hy
      cases hy
  have A2 := h.first.kept KA (hmS m1 _ h.first)
  have M2 := h.now.kept KA (hmS m2 _ h.now)
  have hbl := lt_of_heap h.head
  have hfar : (Value.slice a11 (D.calls.length + 1) c11).ownBlock ≠ some b := fun e => by
    rcases O2 b e with h5 | h5
    · exact h.far h5
    · omega
  have KS : Kept (fun k => k = b) w2 (w2.setCell ⟨b, 3, none⟩ (Value.slice a11 (D.calls.length + 1) c11)) := (Kept.refl (fun k => k = b) w2).setCell (p := ⟨b, 3, none⟩) (Or.inr rfl) _
  have hmb : ∀ (m : Nat) (M : Int → Option Value), MapIs w2 m M → m ≠ b := fun m M hM e => by
    obtain ⟨es', ck', hy, _⟩ := hM
    rw [e, H2] at hy
    cases hy
  refine ⟨_, rfl, ⟨?_, A2.kept KS (hmb m1 _ A2), M2.kept KS (hmb m2 _ M2), h.apart, ?_, hfar, St.sync_ok h.ok⟩, ?_, fun i hi => ?_⟩
  · simp [World.setCell, Array.getElem?_modify, H2, St.sync]
  · have := own_kept O1 KS (fun i hi e => by subst e; exact hfar hi)
    simp only [St.sync, wcells_snoc, List.length_append, List.length_cons, List.length_nil]
    exact this
  · refine (KA.mono (S' := foot b m1 m2 sv) (fun i _ e => Or.inr (Or.inr (Or.inr e)))).trans (S' := fun k => k = b) KS (fun i _ e => Or.inl e)
  · rcases O2 i hi with h5 | h5
    · exact Or.inl h5
    · refine Or.inr ?_
      omega
/-- A number counted round. -/
def pick (c n : Int) : Int := (if c < 0 then -(c + 1) else c) % n
theorem pick_lt (c n : Int) (hn : 0 < n) : 0 ≤ pick c n ∧ pick c n < n := ⟨Int.emod_nonneg _ (by omega), Int.emod_lt_of_pos _ hn⟩
theorem round_calls (c n : Int) (w : World) (hc : (Lit.int .i64 c).wf = true) (hn : 0 < n) (hn' : n ≤ 9223372036854775807) : Calls Try.prog 41 #[.int .i64 c, .int .i64 n] w fun e w' => e = .returned (.int .i64 (pick c n)) ∧ w = w' := by
  have hw : -9223372036854775808 ≤ c ∧ c ≤ 9223372036854775807 := by
    simp only [Lit.wf, IntKind.min, IntKind.max, IntKind.bits, IntKind.signed, Bool.and_eq_true] at hc
    simpa using hc
  obtain ⟨hw1, hw2⟩ := hw
  clear hc
  unfold pick
  by_cases h : c < 0
  · have e1 : wrap64 (c + 1) = c + 1 := by unfold wrap64; omega
    have e2 : wrap64 (-(c + 1)) = -(c + 1) := by unfold wrap64; omega
    go_enter Try.func41, Try.ntmps41
    go_wp2
    go_ret
    refine ⟨?_, rfl⟩
    have e3 : -((c + 1).tmod n) = -(c + 1) % n := by rw [← Int.neg_tmod, Int.tmod_eq_emod_of_nonneg (by omega)]
    rw [← e3]
    rfl
  · have h' : 0 ≤ c := by omega
    go_enter Try.func41, Try.ntmps41
    go_wp2
    go_ret
    refine ⟨?_, rfl⟩
    rfl
end Go.Proofs.Ytinhednmfldmbaa.Dk

namespace Go.Proofs.Ytinhednmfldmbaa.Dk
open Go Go.RowKit Hp

abbrev BM := Int → Option (List Int)
abbrev Wr := Int × List Int
def apply (M : BM) (wt : List Wr) : BM := wt.foldl (fun M c => upd M c.1 c.2) M
def step1 (s : BM × List Wr) (c : Wr) : BM × List Wr := if c.1 = -1 then (apply s.1 s.2, []) else (s.1, s.2 ++ [c])
def drain (cs : List Wr) (M : BM) : BM × List Wr := cs.foldl step1 (M, [])
theorem drain_succ (cs : List Wr) (M : BM) (j : Nat) (c : Wr) (h : cs[j]? = some c) : drain (cs.take (j + 1)) M = step1 (drain (cs.take j) M) c := by
  obtain ⟨hl, he⟩ := List.getElem?_eq_some_iff.1 h
  unfold drain
  rw [List.take_succ_eq_append_getElem hl, List.foldl_append, he]
  rfl
theorem step1_len (s : BM × List Wr) (c : Wr) : (step1 s c).2.length ≤ s.2.length + 1 := by
  unfold step1
  split <;> simp
theorem drain_len : ∀ (cs : List Wr) (s : BM × List Wr), (cs.foldl step1 s).2.length ≤ s.2.length + cs.length
  | [], s => by simp
  | c :: cs, s => by
    have h1 := drain_len cs (step1 s c)
    have h2 := step1_len s c
    simp only [List.foldl_cons, List.length_cons]
    omega
theorem apply_succ (wt : List Wr) (M : BM) (j : Nat) (c : Wr) (h : wt[j]? = some c) : apply M (wt.take (j + 1)) = upd (apply M (wt.take j)) c.1 c.2 := by
  obtain ⟨hl, he⟩ := List.getElem?_eq_some_iff.1 h
  unfold apply
  rw [List.take_succ_eq_append_getElem hl, List.foldl_append, he]
  rfl
def keepOf (keep : List Bool) (wt : List Wr) : List Wr := (wt.zipIdx.filter fun x => keep.getD x.2 false).map (·.1)
theorem keep_succ (keep : List Bool) (wt : List Wr) (j : Nat) (c : Wr) (h : wt[j]? = some c) : keepOf keep (wt.take (j + 1)) = keepOf keep (wt.take j) ++ (if keep.getD j false then [c] else []) := by
  obtain ⟨hl, he⟩ := List.getElem?_eq_some_iff.1 h
  unfold keepOf
  rw [List.take_succ_eq_append_getElem hl, List.zipIdx_append, List.filter_append, List.map_append, he]
  congr 1
  simp only [List.length_take, Nat.min_eq_left (Nat.le_of_lt hl), Nat.zero_add, List.zipIdx_cons, List.zipIdx_nil]
  rw [List.filter_cons]
  by_cases hk : keep.getD j false = true
  · rw [if_pos hk, if_pos hk]; rfl
  · rw [if_neg hk, if_neg hk]; rfl
def tornOf (t : Nat) (M : BM) (c : Wr) : List Int := c.2.take t ++ ((M c.1).getD zeros).drop t
def layN (t : Nat) (kept : List Wr) (M : BM) : Nat → BM
  | 0 => M
  | j + 1 => match kept[j]? with
    | none => layN t kept M j
    | some c => upd (layN t kept M j) c.1 (if j + 1 = kept.length then tornOf t (layN t kept M j) c else c.2)
def St.cutM (D : St) (at_ : Int) (keep : List Bool) (torn : Int) : BM :=
  let s := drain (D.calls.take (pick at_ (D.calls.length + 1)).toNat) D.first
  let kept := keepOf keep s.2
  layN (pick torn 33).toNat kept s.1 kept.length
def St.cut (D : St) (at_ : Int) (keep : List Bool) (torn : Int) : St := ⟨D.size, D.cutM at_ keep torn, D.cutM at_ keep torn, []⟩
def Fine (M : BM) : Prop := ∀ n l, M n = some l → l.length = 32
theorem fine_upd {M : BM} (h : Fine M) {n : Int} {l : List Int} (hl : l.length = 32) : Fine (upd M n l) := by
  intro k l' hk
  simp only [upd] at hk
  split at hk
  · cases hk; exact hl
  · exact h k l' hk
theorem fine_apply {wt : List Wr} (hw : ∀ p ∈ wt, p.2.length = 32) : ∀ {M : BM}, Fine M → Fine (apply M wt) := by
  induction wt with
  | nil => intro M h; exact h
  | cons c wt ih =>
    intro M h
    exact ih (fun p hp => hw p (List.mem_cons.2 (Or.inr hp))) (fine_upd h (hw c (List.mem_cons.2 (Or.inl rfl))))
theorem fine_drain {cs : List Wr} (hw : ∀ p ∈ cs, p.2.length = 32) {M : BM} (h : Fine M) : Fine (drain cs M).1 ∧ ∀ p ∈ (drain cs M).2, p.2.length = 32 := by
  unfold drain
  have : ∀ (cs : List Wr) (s : BM × List Wr), (∀ p ∈ cs, p.2.length = 32) → Fine s.1 → (∀ p ∈ s.2, p.2.length = 32) → Fine (cs.foldl step1 s).1 ∧ ∀ p ∈ (cs.foldl step1 s).2, p.2.length = 32 := by
    intro cs
    induction cs with
    | nil => intro s _ h1 h2; exact ⟨h1, h2⟩
    | cons c cs ih =>
      intro s hw h1 h2
      refine ih (step1 s c) (fun p hp => hw p (List.mem_cons.2 (Or.inr hp))) ?_ ?_
      · unfold step1
        split
        · exact fine_apply h2 h1
        · exact h1
      · unfold step1
        split
        · simp
        · intro p hp
          rcases List.mem_append.1 hp with hp | hp
          · exact h2 p hp
          · rw [List.mem_singleton.1 hp]; exact hw c (List.mem_cons.2 (Or.inl rfl))
  exact this cs (M, []) hw h (by simp)
theorem keep_mem {keep : List Bool} {wt : List Wr} {p : Wr} (h : p ∈ keepOf keep wt) : p ∈ wt := by
  unfold keepOf at h
  obtain ⟨x, hx, rfl⟩ := List.mem_map.1 h
  have := (List.mem_filter.1 hx).1
  obtain ⟨i, hi⟩ := List.mem_iff_getElem?.1 this
  rw [List.getElem?_zipIdx] at hi
  obtain ⟨y, hy, rfl⟩ := Option.map_eq_some_iff.1 hi
  exact List.mem_of_getElem? hy
theorem torn_length {t : Nat} (ht : t ≤ 32) {M : BM} (h : Fine M) {c : Wr} (hc : c.2.length = 32) : (tornOf t M c).length = 32 := by
  unfold tornOf
  have : ((M c.1).getD zeros).length = 32 := by
    cases hm : M c.1 with
    | none => rfl
    | some l => exact h _ _ hm
  rw [List.length_append, List.length_take, List.length_drop, this, hc]
  omega
theorem fine_lay {t : Nat} (ht : t ≤ 32) {kept : List Wr} (hw : ∀ p ∈ kept, p.2.length = 32) {M : BM} (h : Fine M) : ∀ j, Fine (layN t kept M j)
  | 0 => h
  | j + 1 => by
    have ih := fine_lay ht hw h j
    unfold layN
    split
    · exact ih
    · rename_i c hc
      have hcl := hw c (List.mem_of_getElem? hc)
      refine fine_upd ih ?_
      split
      · exact torn_length ht ih hcl
      · exact hcl
theorem St.cut_ok {D : St} (h : D.Ok) (at_ : Int) (keep : List Bool) (torn : Int) : (D.cut at_ keep torn).Ok := by
  have h1 := fine_drain (cs := D.calls.take (pick at_ (D.calls.length + 1)).toNat) (fun p hp => h.calls p (List.mem_of_mem_take hp)) h.first
  have hp := pick_lt torn 33 (by decide)
  have h2 : Fine (D.cutM at_ keep torn) := fine_lay (by omega) (fun p hp => h1.2 p (keep_mem hp)) h1.1 _
  exact ⟨h.pos, h.le, h2, h2, by simp [St.cut]⟩
theorem wcells_length {l : List Wr} (h : ∀ p ∈ l, p.2.length = 32) : (wcells l).length = l.length * 33 := by
  induction l with
  | nil => rfl
  | cons c l ih =>
    have := ih (fun p hp => h p (List.mem_cons.2 (Or.inr hp)))
    have hc := h c (List.mem_cons.2 (Or.inl rfl))
    simp only [wcells, List.flatMap_cons, List.length_append, List.length_cons, List.length_map, hc] at this ⊢
    omega
theorem wcells_at : ∀ {l : List Wr} (_ : ∀ p ∈ l, p.2.length = 32) {j : Nat} {n : Int} {b : List Int}, l[j]? = some (n, b) → ∀ (i : Nat) (v : Value), (Value.int .i64 n :: b.map (.int .u8))[i]? = some v → (wcells l)[33 * j + i]? = some v
  | [], _, _, _, _, hj, _, _, _ => by simp at hj
  | c :: l, h, 0, n, b, hj, i, v, hv => by
    have e : c = (n, b) := by simpa using hj
    subst e
    have hi := (List.getElem?_eq_some_iff.1 hv).1
    simp only [wcells, List.flatMap_cons, Nat.mul_zero, Nat.zero_add]
    rw [List.getElem?_append_left hi]
    exact hv
  | c :: l, h, j + 1, n, b, hj, i, v, hv => by
    have hc := h c (List.mem_cons.2 (Or.inl rfl))
    have := wcells_at (l := l) (fun p hp => h p (List.mem_cons.2 (Or.inr hp))) (j := j) (by simpa using hj) i v hv
    simp only [wcells, List.flatMap_cons]
    rw [List.getElem?_append_right (by simp [hc]; omega)]
    simp only [List.length_cons, List.length_map, hc]
    rw [show 33 * (j + 1) + i - (32 + 1) = 33 * j + i by omega]
    exact this
theorem size_write : (Try.prog.info? 81).map (·.size) = some 33 := by kernel_rfl
/-- A write's cells. -/
theorem one_write (n : Int) (l : List Int) : ∀ u ∈ (Value.int .i64 n :: l.map (Value.int .u8)), u.oneCell' = true := by
  intro u hu
  rcases List.mem_cons.1 hu with rfl | hu
  · rfl
  · exact one_u8 l u hu
/-- A write appended to a row that is the call's own. -/
theorem append_write {w : World} {ops : Array Oper} {rest : List Oper} {o : Oper} {a : Act} {Q : Exit → Act → World → Prop} (hgd : o.guard = none) (s x : Operand)
    (ho : o.op = .call { callee := .builtin .append, args := #[s, x], argTypes := #[74, 74] }) (base : Nat) (v : Value) (n : Nat) (xs : List Value) (hs : a.eval s = v) (hown : w.ownsRow base 81 33 v n xs)
    (g : Nat) (c : Nat) (news : List Value) (hx : a.eval x = .slice (some ⟨g, 0, none⟩) 1 c) (hl : news.length = 33) (hnews : w.rangeAt g 0 news) (h1 : ∀ u ∈ news, u.oneCell' = true) (hn : n < 2000000000000) (hbase : base ≤ w.heap.size)
    (h : ∀ v' w', w'.ownsRow base 81 33 v' (n + 1) (xs ++ news) → w.grownBy w' v.ownBlock → (∀ k, v'.ownBlock = some k → v.ownBlock = some k ∨ w.heap.size ≤ k) → wpList Try.prog ops Q rest (a.put o.dst v') w') : wpList Try.prog ops Q (o :: rest) a w := by
  obtain ⟨i0, hi, hz⟩ := Option.map_eq_some_iff.1 info_write
  simp only [Prod.mk.injEq] at hz
  obtain ⟨hz0, hz1, hz2⟩ := hz
  exact Ow.wpList_append w hgd s x 74 ho base 81 i0 _ 33 40 Try.underlying74 hi hz0 hz1 hz2 rfl (by decide) v n xs hs hown ⟨g, 0, none⟩ 1 c news hx (by rw [hl]) (fun j u hu => by rw [Addr.add_mid]; exact hnews j u hu) h1 (by unfold maxLen; omega) (by omega) hbase (fun v' w' k1 k2 _ k4 => h v' w' k1 k2 k4)
theorem fold_all (cs : List Value) (z : Array Value) (hl : cs.length = 33) (hz : z.size = 33) : List.foldl (fun (cs : Array Value) (x : Value × Nat) => cs.setIfInBounds x.snd x.fst) z cs.zipIdx = cs.toArray := by
  have := fold_set 0 cs 0 z (by omega)
  simp only [Nat.zero_add] at this
  rw [this, List.take_zero, List.nil_append, hl, List.drop_of_length_le (by simp [hz]), List.append_nil]
/-- The j-th of the writes of a row. -/
theorem own_range {w : World} {base : Nat} {v : Value} {l : List Wr} (h : w.ownsRow base 81 33 v l.length (wcells l)) (hl : ∀ p ∈ l, p.2.length = 32) {j : Nat} {n : Int} {b : List Int} (hj : l[j]? = some (n, b)) :
    ∃ g cap, v = .slice (some ⟨g, 0, none⟩) l.length cap ∧ base ≤ g ∧ w.rangeAt g (j * 33) (.int .i64 n :: b.map (.int .u8)) := by
  rw [Nat.mul_comm j 33]
  have hlt := (List.getElem?_eq_some_iff.1 hj).1
  rcases h.2 with ⟨_, h2⟩ | ⟨g, cap, cur, hv, hb, hg, _⟩
  · omega
  · refine ⟨g, cap, hv, hb, fun i u hu => ?_⟩
    have := h.cells (g := g) (by rw [hv]; rfl) (33 * j + i) u (wcells_at hl hj i u hu)
    rwa [Addr.add_mid, Nat.zero_add] at this
end Go.Proofs.Ytinhednmfldmbaa.Dk

namespace Go.Proofs.Ytinhednmfldmbaa.Dk
open Go Go.RowKit Hp Rd

theorem size_u8 : (Try.prog.info? 5).map (·.size) = some 1 := by kernel_rfl
/-- A new disk in the making: its blocks are the call's own. -/
structure Making (w0 w : World) (b x1 x2 : Nat) (size : Int) (N : BM) : Prop where
  head : w.heap[b]? = some (.cells #[.int .i64 size, .map (some x1), .map (some x2), .slice none 0 0] 76 (0, 0))
  first : MapIs w x1 (bmap fun _ => none)
  now : MapIs w x2 (bmap N)
  newb : w0.heap.size ≤ b
  new1 : w0.heap.size ≤ x1
  new2 : w0.heap.size ≤ x2
  apart : x1 ≠ x2
  below : Below w0.heap.size w0 w
theorem Making.kept' {S : Nat → Prop} {w0 w w' : World} {b x1 x2 : Nat} {size : Int} {N : BM} (h : Making w0 w b x1 x2 size N) (k : Kept S w w') (hS : ∀ i, (i < w0.heap.size ∨ i = b ∨ i = x1 ∨ i = x2) → ¬ S i) : Making w0 w' b x1 x2 size N :=
  ⟨k.heap h.head (hS _ (.inr (.inl rfl))), h.first.kept k (hS _ (.inr (.inr (.inl rfl)))), h.now.kept k (hS _ (.inr (.inr (.inr rfl)))), h.newb, h.new1, h.new2, h.apart, h.below.trans (k.below h.below.size (fun i hi => hS i (.inl hi)))⟩
theorem Making.lt {w0 w : World} {b x1 x2 : Nat} {size : Int} {N : BM} (h : Making w0 w b x1 x2 size N) : b < w.heap.size ∧ x1 < w.heap.size ∧ x2 < w.heap.size := ⟨lt_of_heap h.head, h.first.lt, h.now.lt⟩
theorem Making.put {w0 w : World} {b x1 x2 : Nat} {size : Int} {N : BM} (h : Making w0 w b x1 x2 size N) {es : Array MapEntry} {ck : Nat} {n : Int} {l : List Int} (he : Ents es ck (put (bmap N) n (blk l))) : Making w0 (ChangeMaps.setBlock w x2 (.map es ck)) b x1 x2 size (upd N n l) := by
  have K : Kept (fun k => k = x2) w (ChangeMaps.setBlock w x2 (.map es ck)) := (Kept.refl (fun k => k = x2) w).setBlock (Or.inr rfl) _
  have hb : b ≠ x2 := fun e => by
    obtain ⟨es, ck, hx, _⟩ := h.now
    rw [← e, h.head] at hx
    cases hx
  refine ⟨K.heap h.head hb, h.first.kept K h.apart, ?_, h.newb, h.new1, h.new2, h.apart, h.below.trans (K.below h.below.size (fun i hi e => by have := h.new2; omega))⟩
  rw [← put_bmap]
  exact h.now.put he
theorem own_not {w0 w : World} {b x1 x2 : Nat} {size : Int} {N : BM} {base : Nat} {v : Value} {n : Nat} {xs : List Value} (h : w.ownsRow base 81 33 v n xs) (hm : Making w0 w b x1 x2 size N) (k : Nat) (hk : v.ownBlock = some k) : base ≤ k ∧ k ≠ b ∧ k ≠ x1 ∧ k ≠ x2 := by
  rcases h.2 with ⟨rfl, _⟩ | ⟨g, cap, cur, rfl, hb, hg, _⟩
  · simp [Value.ownBlock] at hk
  · simp [Value.ownBlock] at hk
    subst hk
    refine ⟨hb, fun e => ?_, fun e => ?_, fun e => ?_⟩
    · rw [e, hm.head] at hg
      cases hg
    · obtain ⟨es, ck, hx, _⟩ := hm.first
      rw [← e, hg] at hx
      cases hx
    · obtain ⟨es, ck, hx, _⟩ := hm.now
      rw [← e, hg] at hx
      cases hx
theorem Making.drew {w0 w : World} {b x1 x2 : Nat} {size : Int} {N : BM} (h : Making w0 w b x1 x2 size N) : Making w0 w.drew b x1 x2 size N := h.kept' (S := fun _ => False) (Kept.refl _ _).drew (fun _ _ e => e)
/-- As Making, the first map filling. -/
structure Filling (w0 w : World) (b x1 x2 : Nat) (size : Int) (F N : BM) : Prop where
  head : w.heap[b]? = some (.cells #[.int .i64 size, .map (some x1), .map (some x2), .slice none 0 0] 76 (0, 0))
  first : MapIs w x1 (bmap F)
  now : MapIs w x2 (bmap N)
  newb : w0.heap.size ≤ b
  new1 : w0.heap.size ≤ x1
  new2 : w0.heap.size ≤ x2
  apart : x1 ≠ x2
  below : Below w0.heap.size w0 w
theorem Making.fill {w0 w : World} {b x1 x2 : Nat} {size : Int} {N : BM} (h : Making w0 w b x1 x2 size N) : Filling w0 w b x1 x2 size (fun _ => none) N := ⟨h.head, h.first, h.now, h.newb, h.new1, h.new2, h.apart, h.below⟩
theorem Filling.kept' {S : Nat → Prop} {w0 w w' : World} {b x1 x2 : Nat} {size : Int} {F N : BM} (h : Filling w0 w b x1 x2 size F N) (k : Kept S w w') (hS : ∀ i, (i < w0.heap.size ∨ i = b ∨ i = x1 ∨ i = x2) → ¬ S i) : Filling w0 w' b x1 x2 size F N :=
  ⟨k.heap h.head (hS _ (.inr (.inl rfl))), h.first.kept k (hS _ (.inr (.inr (.inl rfl)))), h.now.kept k (hS _ (.inr (.inr (.inr rfl)))), h.newb, h.new1, h.new2, h.apart, h.below.trans (k.below h.below.size (fun i hi => hS i (.inl hi)))⟩
theorem Filling.lt {w0 w : World} {b x1 x2 : Nat} {size : Int} {F N : BM} (h : Filling w0 w b x1 x2 size F N) : b < w.heap.size ∧ x1 < w.heap.size ∧ x2 < w.heap.size := ⟨lt_of_heap h.head, h.first.lt, h.now.lt⟩
theorem Filling.put {w0 w : World} {b x1 x2 : Nat} {size : Int} {F N : BM} (h : Filling w0 w b x1 x2 size F N) {es : Array MapEntry} {ck : Nat} {n : Int} {l : List Int} (he : Ents es ck (put (bmap F) n (blk l))) : Filling w0 (ChangeMaps.setBlock w x1 (.map es ck)) b x1 x2 size (upd F n l) N := by
  have K : Kept (fun k => k = x1) w (ChangeMaps.setBlock w x1 (.map es ck)) := (Kept.refl (fun k => k = x1) w).setBlock (Or.inr rfl) _
  have hb : b ≠ x1 := fun e => by
    obtain ⟨es, ck, hx, _⟩ := h.first
    rw [← e, h.head] at hx
    cases hx
  refine ⟨K.heap h.head hb, ?_, h.now.kept K (fun e => h.apart e.symm), h.newb, h.new1, h.new2, h.apart, h.below.trans (K.below h.below.size (fun i hi e => by have := h.new1; omega))⟩
  rw [← put_bmap]
  exact h.first.put he
theorem Filling.drew {w0 w : World} {b x1 x2 : Nat} {size : Int} {F N : BM} (h : Filling w0 w b x1 x2 size F N) : Filling w0 w.drew b x1 x2 size F N := h.kept' (S := fun _ => False) (Kept.refl _ _).drew (fun _ _ e => e)
theorem Filling.made {w0 w : World} {b x1 x2 : Nat} {size : Int} {F : BM} (h : Filling w0 w b x1 x2 size F F) (D : St) (hD : D.Ok) (hs : D.size = size) (hf : D.first = F) (hn : D.now = F) (hc : D.calls = []) : DiskIs w b x1 x2 (.slice none 0 0) D :=
  ⟨by rw [hs]; exact h.head, by rw [hf]; exact h.first, by rw [hn]; exact h.now, h.apart, by rw [hc]; exact World.ownsRow_nil _ _ _ _, (by intro e; cases e), hD⟩
theorem lay_succ (t : Nat) (kept : List Wr) (M : BM) (j : Nat) (c : Wr) (h : kept[j]? = some c) : layN t kept M (j + 1) = upd (layN t kept M j) c.1 (if j + 1 = kept.length then tornOf t (layN t kept M j) c else c.2) := by
  conv => lhs; unfold layN
  rw [h]
set_option maxHeartbeats 4000000 in
set_option maxRecDepth 100000 in
theorem cut_ok (b m1 m2 : Nat) (sv : Value) (D : St) (at_ torn : Int) (keep : List Bool) (vk : Value) (w : World) (h : DiskIs w b m1 m2 sv D) (hat : (Lit.int .i64 at_).wf = true) (htn : (Lit.int .i64 torn).wf = true) (hk : Row1 w Value.bool vk keep) (hn : D.calls.length < 1000000000000) :
    Calls Try.prog 18 #[.pointer (some ⟨b, 0, none⟩), .int .i64 at_, vk, .int .i64 torn] w fun e w' => ∃ b' m1' m2', e = .returned (.pointer (some ⟨b', 0, none⟩)) ∧ DiskIs w' b' m1' m2' (.slice none 0 0) (D.cut at_ keep torn) ∧ Below w.heap.size w w' ∧ ∀ i, foot b' m1' m2' (.slice none 0 0) i → w.heap.size ≤ i := by
  have mixed : Try.prog.follows Departure.mixedOrders = true := by kernel_rfl
  have hmm := @run_makeMap Try.prog
  obtain ⟨c0, c1, c2, c3⟩ := h.cells
  obtain ⟨a, c, rfl⟩ := own_len h.row
  have hcap : D.calls.length ≤ c := by
    rcases h.row.2 with ⟨hv, h0⟩ | ⟨g, cap, cur, hv, _, _, hle, _⟩
    · omega
    · cases hv; exact hle
  obtain ⟨hp0, hp1⟩ := pick_lt at_ (D.calls.length + 1) (by omega)
  obtain ⟨p, hp⟩ : ∃ p : Nat, pick at_ (D.calls.length + 1) = (p : Int) := Int.eq_ofNat_of_zero_le hp0
  have hpl : p ≤ D.calls.length := by omega
  go_enter Try.func18, Try.ntmps18
  go_wp2
  refine Mo.region 13 [0, 1, 3, 7, 0, 0, 32, 96, 224, 480, 992, 2032, 4095] (fun w' => w' = w.drew) (fun _ => Eq) (fun _ _ => True) (fun k _ v _ => k = 11 → v = .int .i64 p) rfl (fun _ => trivial) (fun _ _ _ h k => k ▸ h) (fun _ _ _ _ _ _ _ _ _ h => h) (fun _ _ _ _ _ _ _ _ _ => trivial) mixed (by kernel_rfl) ?_
  simp only [List.take_succ_cons, List.take_zero, List.drop_succ_cons, List.drop_zero]
  refine Mo.val (v := ?_) (fun _ => rfl) (by rfl) (fun _ _ _ hk_ => (by cases hk_)) ?_ ?_
  rotate_left
  · (intro w' hT hP hF; cases hT; go_simp; with_reducible rfl)
  simp only [Act.put, List.setIfInBounds_toArray, List.set_cons_zero, List.set_cons_succ]
  refine Mo.val (v := ?_) (fun _ => rfl) (by rfl) (fun _ _ _ hk_ => (by cases hk_)) ?_ ?_
  rotate_left
  · (intro w' hT hP hF; cases hT; go_simp; with_reducible rfl)
  simp only [Act.put, List.setIfInBounds_toArray, List.set_cons_zero, List.set_cons_succ]
  refine Mo.val (v := ?_) (fun _ => rfl) (by rfl) (fun _ _ _ hk_ => (by cases hk_)) ?_ ?_
  rotate_left
  · (intro w' hT hP hF; cases hT; go_simp; with_reducible rfl)
  simp only [Act.put, List.setIfInBounds_toArray, List.set_cons_zero, List.set_cons_succ]
  refine Mo.val (v := ?_) (fun _ => rfl) (by rfl) (fun _ _ _ hk_ => (by cases hk_)) ?_ ?_
  rotate_left
  · (intro w' hT hP hF; cases hT; go_simp; with_reducible rfl)
  simp only [Act.put, List.setIfInBounds_toArray, List.set_cons_zero, List.set_cons_succ]
  refine Mo.val (v := ?_) (fun _ => rfl) (by rfl) (fun _ _ _ hk_ => (by cases hk_)) ?_ ?_
  rotate_left
  · (intro w' hT hP hF; cases hT; go_simp; with_reducible rfl)
  simp only [Act.put, List.setIfInBounds_toArray, List.set_cons_zero, List.set_cons_succ]
  refine Mo.val (v := ?_) (fun _ => rfl) (by rfl) (fun _ _ _ hk_ => (by cases hk_)) ?_ ?_
  rotate_left
  · (intro w' hT hP hF; cases hT; go_simp; with_reducible rfl)
  simp only [Act.put, List.setIfInBounds_toArray, List.set_cons_zero, List.set_cons_succ]
  refine Mo.val (v := ?_) (fun _ => rfl) (by rfl) (fun _ _ _ hk_ => (by cases hk_)) ?_ ?_
  rotate_left
  · (intro w' hT hP hF; cases hT; go_simp; with_reducible rfl)
  simp only [Act.put, List.setIfInBounds_toArray, List.set_cons_zero, List.set_cons_succ]
  refine Mo.val (v := ?_) (fun _ => rfl) (by rfl) (fun _ _ _ hk_ => (by cases hk_)) ?_ ?_
  rotate_left
  · (intro w' hT hP hF; cases hT; go_simp; with_reducible rfl)
  simp only [Act.put, List.setIfInBounds_toArray, List.set_cons_zero, List.set_cons_succ]
  refine Mo.val (v := ?_) (fun _ => rfl) (by rfl) (fun _ _ _ hk_ => (by cases hk_)) ?_ ?_
  rotate_left
  · (intro w' hT hP hF; cases hT; go_simp; with_reducible rfl)
  simp only [Act.put, List.setIfInBounds_toArray, List.set_cons_zero, List.set_cons_succ]
  refine Mo.val (v := ?_) (fun _ => rfl) (by rfl) (fun _ _ _ hk_ => (by cases hk_)) ?_ ?_
  rotate_left
  · (intro w' hT hP hF; cases hT; go_simp; with_reducible rfl)
  simp only [Act.put, List.setIfInBounds_toArray, List.set_cons_zero, List.set_cons_succ]
  refine Mo.val (v := ?_) (fun _ => rfl) (by rfl) (fun _ _ _ hk_ => (by cases hk_)) ?_ ?_
  rotate_left
  · (intro w' hT hP hF; cases hT; go_simp; with_reducible rfl)
  simp only [Act.put, List.setIfInBounds_toArray, List.set_cons_zero, List.set_cons_succ]
  rw [IntWalk.i64_in ((D.calls.length : Int) + 1) (by omega)]
  refine Mo.any (by rfl) ?_ ?_
  · intro w' hT hP hF
    cases hT
    go_simp
    show Calls _ _ _ _ _
    refine (round_calls at_ (D.calls.length + 1) w.drew hat (by omega) (by omega)).mono ?_
    rintro e w1 ⟨rfl, rfl⟩
    exact ⟨_, rfl, rfl, by rw [hp]⟩
  simp only [Act.put, List.setIfInBounds_toArray, List.set_cons_zero, List.set_cons_succ]
  rintro v11 ⟨_, _, hv11⟩
  obtain rfl := hv11 trivial
  have g1 : (p : Int) ≤ (c : Int) := by omega
  have g0 : (0 : Int) ≤ (p : Int) := by omega
  refine Mo.val (v := ?_) (fun _ => rfl) (by rfl) (fun _ _ _ hk_ => (by cases hk_)) ?_ ?_
  rotate_left
  · (intro w' hT hP hF; cases hT; go_simp; with_reducible rfl)
  simp only [Act.put, List.setIfInBounds_toArray, List.set_cons_zero, List.set_cons_succ]
  refine Mo.done ?_
  rintro w' rfl - -
  go_upto_region 5 with (fail)
  have k1 : Below w.drew.heap.size w.drew (w.drew.alloc (.map #[] 0)) := (Below.refl _ _).alloc (Nat.le_refl _) _
  have k2 : Below (w.drew.alloc (.map #[] 0)).heap.size (w.drew.alloc (.map #[] 0)) ((w.drew.alloc (.map #[] 0)).alloc (.map #[] 0)) := (Below.refl _ _).alloc (Nat.le_refl _) _
  have k3 := fun o => (Below.refl ((w.drew.alloc (.map #[] 0)).alloc (.map #[] 0)).heap.size ((w.drew.alloc (.map #[] 0)).alloc (.map #[] 0))).alloc (Nat.le_refl _) o
  have N1 := (MapIs.new w.drew).kept (Kept.of_below (S := fun _ => False) k2) (fun e => e)
  have N2 := MapIs.new (w.drew.alloc (.map #[] 0))
  have hh := fun o => heap_alloc_new ((w.drew.alloc (.map #[] 0)).alloc (.map #[] 0)) o
  have hs0 : w.drew.heap.size = w.heap.size := rfl
  have hs1 : (w.drew.alloc (.map #[] 0)).heap.size = w.heap.size + 1 := by simp
  have hs2 : ((w.drew.alloc (.map #[] 0)).alloc (.map #[] 0)).heap.size = w.heap.size + 1 + 1 := by simp
  rw [hs1] at N2
  rw [hs2] at hh
  have HM : Making w (((w.drew.alloc (.map #[] 0)).alloc (.map #[] 0)).alloc (.cells #[.int .i64 D.size, .map (some w.heap.size), .map (some (w.heap.size + 1)), .slice none 0 0] 76)) (w.heap.size + 1 + 1) w.heap.size (w.heap.size + 1) D.size (fun _ => none) := by
    refine ⟨hh _, N1.kept (Kept.of_below (S := fun _ => False) (k3 _)) (fun e => e), N2.kept (Kept.of_below (S := fun _ => False) (k3 _)) (fun e => e), by omega, by omega, by omega, by omega, ?_⟩
    exact (((Below.refl w.heap.size w).drew.trans (k1.mono (by simp))).trans (k2.mono (by simp))).trans ((k3 _).mono (by simp; omega))
  have HM' : Making w ((((w.alloc (.map #[] 0)).alloc (.map #[] 0)).alloc (.cells #[.int .i64 D.size, .map (some w.heap.size), .map (some (w.heap.size + 1)), .slice none 0 0] 76)).drew) (w.heap.size + 1 + 1) w.heap.size (w.heap.size + 1) D.size (fun _ => none) := HM
  obtain ⟨w2, hw2⟩ : ∃ w2, (((w.alloc (.map #[] 0)).alloc (.map #[] 0)).alloc (.cells #[.int .i64 D.size, .map (some w.heap.size), .map (some (w.heap.size + 1)), .slice none 0 0] 76)).drew = w2 := ⟨_, rfl⟩
  rw [hw2] at HM' ⊢
  obtain ⟨xb, hxb⟩ : ∃ xb, w.heap.size + 1 + 1 = xb := ⟨_, rfl⟩
  obtain ⟨x2, hx2⟩ : ∃ x2, w.heap.size + 1 = x2 := ⟨_, rfl⟩
  obtain ⟨x1, hx1⟩ : ∃ x1, w.heap.size = x1 := ⟨_, rfl⟩
  clear HM k1 k2 k3 N1 N2 hh hs0 hs1 hs2 hw2
  rw [hxb, hx2, hx1] at HM'
  rw [hxb]
  have hD2 := h.below HM'.below
  obtain ⟨-, c1w, -, -⟩ := hD2.cells
  obtain ⟨o, cnt, hrun, hgo⟩ := run_range (P := Try.prog) hD2.first Try.underlying73
  have hbl := HM'.below.size
  obtain ⟨lt1, lt2, lt3⟩ := HM'.lt
  have hm1l : m1 < w.heap.size := h.first.lt
  have HM3 : Making w (w2.alloc o) xb x1 x2 D.size (fun _ => none) := HM'.kept' (S := fun _ => False) ((Kept.refl _ _).alloc o) (fun _ _ e => e)
  clear c0 c1 c2 c3 HM' hxb hx2 hx1
  go_upto_block 0 with (fail)
  obtain ⟨w3, hw3⟩ : ∃ w3, w2.alloc o = w3 := ⟨_, rfl⟩
  obtain ⟨r, hr⟩ : ∃ r, w2.heap.size = r := ⟨_, rfl⟩
  rw [hr] at hgo ⊢
  rw [hw3] at hgo HM3 ⊢
  have hrw : w.heap.size ≤ r := by omega
  rw [hr] at lt1 lt2 lt3
  clear hrun hw3 hr hD2 c1w hbl
  go_cut [] (fun wx => Making w wx xb x1 x2 D.size D.first)
  case first =>
    go_wp2_with fail
    go_loopg [] cnt (fun kq w' => ∃ left N c, Sh (Goes w' r m1 (bmap D.first) left c ∧ Making w w' xb x1 x2 D.size N ∧ (∀ n, N n = if left n = true then none else D.first n)) ∧ c ≤ kq)
    case atStart => exact ⟨_, _, _, ⟨hgo, HM3, fun n => by cases hn_ : D.first n <;> simp [bmap, hn_]⟩, Nat.le_refl _⟩
    case round =>
      obtain ⟨left, N, c, ⟨hg, hm, hN⟩, hc⟩ := hrel
      rcases run_next (P := Try.prog) hg 0 with ⟨hl, hx⟩ | ⟨n, v, w4, c', hl, hv, hx, he, hg', hc', hk⟩
      · go_wp2_with fail
        go_meet
        case rel =>
          have : N = D.first := by funext k; rw [hN k, hl k]; rfl
          exact this ▸ hm
      · have hmM := hm.kept' hk (fun i hi e => by rcases hi with hi | hi | hi | hi <;> omega)
        obtain ⟨l, hl1, rfl⟩ := Option.map_eq_some_iff.1 hv
        have hl32 := h.ok.first n l hl1
        have hst := fun (W : World) (c : Array Value) (hc : c.size = 32) => run_storeCells_new (P := Try.prog) W 79 c (l.map (Value.int .u8)).toArray (by rw [size_blk]; simp [hl32]) (by simp [hl32, hc]) (all_oneCell_toArray (one_u8 l))
        unfold blk at hx he
        go_upto_region 8 with (fail)
        obtain ⟨w5, hw5⟩ : ∃ w5, w4.alloc (.cells (l.map (Value.int .u8)).toArray 79) = w5 := ⟨_, rfl⟩
        have hb5 : Below w4.heap.size w4 w5 := by rw [← hw5]; exact (Below.refl _ _).alloc (Nat.le_refl _) _
        have hg5 := hg'.kept (Kept.of_below (S := fun _ => False) hb5) (fun e => e) (fun e => e)
        have hm5 := hmM.kept' (Kept.of_below (S := fun _ => False) hb5) (fun _ _ e => e)
        have hr5 : w5.drew.rangeAt w4.heap.size 0 (l.map (.int .u8)) := fun j u hu => by
          rw [← hw5, Nat.zero_add]
          simp only [World.drew, World.cell?, heap_alloc_new]
          simpa using hu
        have c2x : w5.cell? ⟨xb, 2, none⟩ = some (.map (some x2)) := by simp [World.cell?, hm5.head]
        rw [hw5]
        clear hx he hst hw5 hg hm hg' hmM hv
        refine Mo.region 6 [0, 1, 3, 7, 0, 0, 63] (fun w' => w' = w5.drew) (fun _ => Eq) (fun _ _ => True) (fun _ _ _ _ => True) rfl (fun _ => trivial) (fun _ _ _ h k => k ▸ h) (fun _ _ _ _ _ _ _ _ _ _ => trivial) (fun _ _ _ _ _ _ _ _ _ => trivial) mixed (by kernel_rfl) ?_
        simp only [List.take_succ_cons, List.take_zero, List.drop_succ_cons, List.drop_zero]
        refine Mo.val (v := ?_) (fun _ => rfl) (by rfl) (fun _ _ _ => trivial) ?_ ?_
        rotate_left
        · (intro w' hT hP hF; cases hT; go_simp; with_reducible rfl)
        simp only [Act.put, List.setIfInBounds_toArray, List.set_cons_zero, List.set_cons_succ]
        refine Mo.val (v := ?_) (fun _ => rfl) (by rfl) (fun _ _ _ => trivial) ?_ ?_
        rotate_left
        · (intro w' hT hP hF; cases hT; go_simp; with_reducible rfl)
        simp only [Act.put, List.setIfInBounds_toArray, List.set_cons_zero, List.set_cons_succ]
        refine Mo.val (v := ?_) (fun _ => rfl) (by rfl) (fun _ _ _ => trivial) ?_ ?_
        rotate_left
        · (intro w' hT hP hF; cases hT; go_simp; with_reducible rfl)
        simp only [Act.put, List.setIfInBounds_toArray, List.set_cons_zero, List.set_cons_succ]
        refine Mo.val (v := ?_) (fun _ => rfl) (by rfl) (fun _ _ _ => trivial) ?_ ?_
        rotate_left
        · (intro w' hT hP hF; cases hT; go_simp; with_reducible rfl)
        simp only [Act.put, List.setIfInBounds_toArray, List.set_cons_zero, List.set_cons_succ]
        refine Mo.val (v := ?_) (fun _ => rfl) (by rfl) (fun _ _ _ => trivial) ?_ ?_
        rotate_left
        · (intro w' hT hP hF; cases hT; go_simp; with_reducible rfl)
        simp only [Act.put, List.setIfInBounds_toArray, List.set_cons_zero, List.set_cons_succ]
        refine Mo.val (v := ?_) (fun _ => rfl) (by rfl) (fun _ _ _ => trivial) ?_ ?_
        rotate_left
        · (intro w' hT hP hF; refine exec_load_mid (P := Try.prog) 79 (.tmp 12) ?_ ?_ (show w'.rangeAt w4.heap.size 0 (l.map (.int .u8)) by cases hT; exact hr5) Try.underlying79 rfl (by rw [size_blk]; simp [hl32]) <;> rfl)
        simp only [Act.put, List.setIfInBounds_toArray, List.set_cons_zero, List.set_cons_succ]
        refine Mo.done ?_
        rintro w' rfl - -
        obtain ⟨es, ck, hup, hes⟩ := run_put (P := Try.prog) (w := w5.drew) (m := x2) (M := bmap N) hm5.now Try.underlying73 Try.underlying3 n (blk l)
        unfold blk at hup
        go_wp2_with fail
        obtain ⟨g1_, rfl⟩ : ∃ z, gk = z + 1 := ⟨gk - 1, by omega⟩
        go_roundg g1_
        case measure => omega
        case rel =>
          have hm6 := hm5.drew.put (n := n) (l := l) hes
          refine ⟨fun k => if k = n then false else left k, upd N n l, c', ⟨?_, hm6, fun k => ?_⟩, by omega⟩
          · refine hg5.kept (S := fun k => k = x2) ((Kept.refl (fun k => k = x2) w5).drew.setBlock (Or.inr rfl) _) (fun e => ?_) (fun e => by omega)
            have := hm5.new2
            omega
          · show upd N n l k = if (if k = n then false else left k) = true then none else D.first k
            unfold upd
            by_cases hkn : k = n
            · subst hkn
              rw [if_pos rfl, if_pos rfl, hl1]
              rfl
            · rw [if_neg hkn, if_neg hkn]
              exact hN k
  case rest =>
    clear hgo HM3 hrw lt1 lt2 lt3
    go_upto_block 2 with (fail)
    have hDw := h.below hcut.below
    go_cut [13] (fun v13 wx => ∃ N wt, Sh ((N, wt) = drain (D.calls.take p) D.first ∧ Making w wx xb x1 x2 D.size N ∧ wx.ownsRow w.heap.size 81 33 v13 wt.length (wcells wt)))
    case first =>
      go_wp2_with fail
      go_loopg [13, 67] p (fun kq v13 v67 w' => ∃ (j : Nat) (N : BM) (wt : List Wr), v67 = .int .i64 (j : Int) ∧ j + kq = p ∧ Sh ((N, wt) = drain (D.calls.take j) D.first ∧ Making w w' xb x1 x2 D.size N ∧ w'.ownsRow w.heap.size 81 33 v13 wt.length (wcells wt)))
      case atStart => exact ⟨0, D.first, [], rfl, by omega, ⟨rfl, hcut, World.ownsRow_nil _ _ _ _⟩⟩
      case round =>
        obtain ⟨j, N, wt, rfl, hj, ⟨hdr, hm, how⟩⟩ := hrel
        cases gk with
        | zero =>
          have q3 : ¬ ((j : Int) < (p : Int)) := by omega
          obtain rfl : j = p := by omega
          go_wp2_with fail
          go_meet
          case rel => exact ⟨N, wt, ⟨hdr, hm, how⟩⟩
        | succ g1_ =>
          have hjl : j < D.calls.length := by omega
          have q1 : (j : Int) < (p : Int) := by omega
          have q0 : (0 : Int) ≤ (j : Int) := by omega
          obtain ⟨cm, cb, hcj⟩ : ∃ cm cb, D.calls[j]? = some (cm, cb) := ⟨_, _, List.getElem?_eq_getElem hjl⟩
          have hcb : cb.length = 32 := h.ok.calls _ (List.mem_of_getElem? hcj)
          obtain ⟨g, cap, hae, -, hrg⟩ := own_range (own_kept h.row (Kept.of_below (S := fun _ => False) hm.below) (fun _ _ e => e)) h.ok.calls hcj
          obtain ⟨rfl, rfl⟩ : a = some ⟨g, 0, none⟩ ∧ c = cap := by simpa using hae
          obtain ⟨cs, hcs⟩ : ∃ cs, (Value.int .i64 cm :: cb.map (Value.int .u8)) = cs := ⟨_, rfl⟩
          have hcl : cs.length = 33 := by rw [← hcs]; simp [hcb]
          have hone : ∀ u ∈ cs, u.oneCell' = true := by rw [← hcs]; exact one_write cm cb
          have HR : Sh (wr.rangeAt g (j * 33) cs) := ⟨by rw [← hcs]; exact hrg⟩
          have hst := fun (W : World) (c : Array Value) (hc : c.size = 33) => run_storeCells_new (P := Try.prog) W 81 c cs.toArray (by rw [size_write]; simp [hcl]) (by simp [hcl, hc]) (all_oneCell_toArray hone)
          have hc0 : ∀ h, cs[0]'h = .int .i64 cm := by rw [← hcs]; intro h; rfl
          have hca : ∀ i, i < 32 → cs[1 + i]? = some (.int .u8 (cb.getD i 0)) := fun i hi => by
            rw [← hcs, Nat.add_comm, List.getElem?_cons_succ, List.getElem?_map, List.getElem?_eq_getElem (by omega), List.getD_eq_getElem?_getD, List.getElem?_eq_getElem (by omega)]
            rfl
          have HC := Sh.mk hcs
          have HA := Sh.mk hca
          clear hca
          clear hrg hcs
          go_upto_region 12 with (fail)
          go_upto_region 13 with (with_reducible refine Ow.at_slot 70 ?_; refine wpList_load_mid rfl 81 (.tmp 69) rfl g (j * 33) rfl cs _ HR.out Try.underlying81 rfl ?hsz ?_)
          case hsz => exact Option.map_eq_some_iff.1 size_write
          obtain ⟨w5, hw5⟩ : ∃ w5, wr.alloc (.cells cs.toArray 81) = w5 := ⟨_, rfl⟩
          obtain ⟨q, hq⟩ : ∃ q, wr.heap.size = q := ⟨_, rfl⟩
          have hb5 : Below wr.heap.size wr w5 := by rw [← hw5]; exact (Below.refl _ _).alloc (Nat.le_refl _) _
          have hm5 := hm.kept' (Kept.of_below (S := fun _ => False) hb5) (fun _ _ e => e)
          have how5 := own_kept how (Kept.of_below (S := fun _ => False) hb5) (fun _ _ e => e)
          have hq5 : q < w5.heap.size := by rw [← hw5, ← hq]; simp
          have hwq : w.heap.size ≤ q := by rw [← hq]; exact hm.below.size
          have HB5 : Sh (w5.heap[q]? = some (.cells cs.toArray 81 (0, 0))) := ⟨by rw [← hw5, ← hq]; exact heap_alloc_new _ _⟩
          have HR5 : Sh (w5.rangeAt q 0 cs) := ⟨fun i u hu => by rw [Nat.zero_add]; simp only [World.cell?, HB5.out]; simpa using hu⟩
          have hF0 : w5.cell? ⟨q, 0, none⟩ = some (.int .i64 cm) := by have := HR5.out 0 _ (by rw [List.getElem?_eq_getElem (by omega), hc0]); simpa using this
          rw [hw5, hq]
          have hfo := fun (z : Array Value) (hz : z.size = 33) => fold_all cs z hcl hz
          clear hw5 hb5 hst hc0 HR hm how hq
          by_cases hcm : cm = -1
          · subst hcm
            have hne : ((-1 : Int) != -1) = false := by decide
            have hwl : ∀ p ∈ wt, p.2.length = 32 := by
              have := (fine_drain (cs := D.calls.take j) (fun p hp => h.ok.calls p (List.mem_of_mem_take hp)) h.ok.first).2
              rw [← hdr] at this
              exact this
            have hwn : wt.length < 2000000000000 := by
              have := drain_len (D.calls.take j) (D.first, [])
              rw [show (D.calls.take j).foldl step1 (D.first, []) = (N, wt) from hdr.symm] at this
              have := List.length_take_le j D.calls
              simp at *
              omega
            obtain ⟨a13, c13, rfl⟩ := own_len how5
            clear HR5 hfo hone hcl HC HA
            go_upto_block 4 with (fail)
            go_wp2_with fail
            go_loopg [80] wt.length (fun kq v80 w' => ∃ (k : Nat) (N' : BM), v80 = .int .i64 (k : Int) ∧ k + kq = wt.length ∧ Sh (N' = apply N (wt.take k) ∧ Making w w' xb x1 x2 D.size N' ∧ w'.ownsRow w.heap.size 81 33 (.slice a13 wt.length c13) wt.length (wcells wt)))
            case atStart => exact ⟨0, N, rfl, by omega, ⟨rfl, hm5, how5⟩⟩
            case round =>
              obtain ⟨k, N', rfl, hk, ⟨hap, hmk, howk⟩⟩ := hrel
              cases gk with
              | zero =>
                have q3 : ¬ ((k : Int) < (wt.length : Int)) := by omega
                obtain rfl : k = wt.length := by omega
                go_wp2_with fail
                go_roundg g1_
                case measure => omega
                case rel =>
                  refine ⟨j + 1, N', [], by go_num, by omega, ⟨?_, hmk, World.ownsRow_nil _ _ _ _⟩⟩
                  rw [drain_succ _ _ _ _ hcj, ← hdr, hap, List.take_length]
                  rfl
              | succ g2_ =>
                have q2 : (k : Int) < (wt.length : Int) := by omega
                have q3 : (0 : Int) ≤ (k : Int) := by omega
                obtain ⟨dm, db, hck⟩ : ∃ dm db, wt[k]? = some (dm, db) := ⟨_, _, List.getElem?_eq_getElem (by omega)⟩
                have hdb : db.length = 32 := hwl _ (List.mem_of_getElem? hck)
                obtain ⟨g', cap', hae', hg', hrg'⟩ := own_range howk hwl hck
                obtain ⟨rfl, rfl⟩ : a13 = some ⟨g', 0, none⟩ ∧ c13 = cap' := by simpa using hae'
                obtain ⟨cs2, hcs2⟩ : ∃ cs2, (Value.int .i64 dm :: db.map (Value.int .u8)) = cs2 := ⟨_, rfl⟩
                have hcl2 : cs2.length = 33 := by rw [← hcs2]; simp [hdb]
                have hone2 : ∀ u ∈ cs2, u.oneCell' = true := by rw [← hcs2]; exact one_write dm db
                have HR2 : Sh (wr.rangeAt g' (k * 33) cs2) := ⟨by rw [← hcs2]; exact hrg'⟩
                have hst2 := fun (W : World) (c : Array Value) (hc : c.size = 33) => run_storeCells_new (P := Try.prog) W 81 c cs2.toArray (by rw [size_write]; simp [hcl2]) (by simp [hcl2, hc]) (all_oneCell_toArray hone2)
                have HC2 := Sh.mk hcs2
                clear hrg' hcs2
                go_upto_region 17 with (fail)
                go_upto_region 18 with (with_reducible refine Ow.at_slot 83 ?_; refine wpList_load_mid rfl 81 (.tmp 82) rfl g' (k * 33) rfl cs2 _ HR2.out Try.underlying81 rfl ?hsz ?_)
                case hsz => exact Option.map_eq_some_iff.1 size_write
                obtain ⟨w7, hw7⟩ : ∃ w7, wr.alloc (.cells cs2.toArray 81) = w7 := ⟨_, rfl⟩
                obtain ⟨q2, hq2⟩ : ∃ q2, wr.heap.size = q2 := ⟨_, rfl⟩
                have hb7 : Below wr.heap.size wr w7 := by rw [← hw7]; exact (Below.refl _ _).alloc (Nat.le_refl _) _
                have hm7 := hmk.kept' (Kept.of_below (S := fun _ => False) hb7) (fun _ _ e => e)
                have ho7 := own_kept howk (Kept.of_below (S := fun _ => False) hb7) (fun _ _ e => e)
                have HB7 : w7.heap[q2]? = some (.cells cs2.toArray 81 (0, 0)) := by rw [← hw7, ← hq2]; exact heap_alloc_new _ _
                have hF2 : w7.cell? ⟨q2, 0, none⟩ = some (.int .i64 dm) := by rw [← HC2.out] at HB7; simp [World.cell?, HB7]
                have hR7 : w7.drew.rangeAt q2 1 (db.map (.int .u8)) := fun i u hu => by
                  rw [← HC2.out] at HB7
                  simp only [World.drew, World.cell?, HB7]
                  rw [Nat.add_comm]
                  simpa using hu
                have c2x : w7.cell? ⟨xb, 2, none⟩ = some (.map (some x2)) := by simp [World.cell?, hm7.head]
                rw [hw7, hq2]
                clear hw7 hb7 hst2 HR2 hmk howk hq2 HB7
                refine Mo.region 8 [0, 1, 3, 7, 0, 16, 0, 64, 255] (fun w' => w' = w7.drew) (fun _ => Eq) (fun _ _ => True) (fun _ _ _ _ => True) rfl (fun _ => trivial) (fun _ _ _ h k => k ▸ h) (fun _ _ _ _ _ _ _ _ _ _ => trivial) (fun _ _ _ _ _ _ _ _ _ => trivial) mixed (by kernel_rfl) ?_
                simp only [List.take_succ_cons, List.take_zero, List.drop_succ_cons, List.drop_zero]
                refine Mo.val (v := ?_) (fun _ => rfl) (by rfl) (fun _ _ _ => trivial) ?_ ?_
                rotate_left
                · (intro w' hT hP hF; cases hT; go_simp; with_reducible rfl)
                simp only [Act.put, List.setIfInBounds_toArray, List.set_cons_zero, List.set_cons_succ]
                refine Mo.val (v := ?_) (fun _ => rfl) (by rfl) (fun _ _ _ => trivial) ?_ ?_
                rotate_left
                · (intro w' hT hP hF; cases hT; go_simp; with_reducible rfl)
                simp only [Act.put, List.setIfInBounds_toArray, List.set_cons_zero, List.set_cons_succ]
                refine Mo.val (v := ?_) (fun _ => rfl) (by rfl) (fun _ _ _ => trivial) ?_ ?_
                rotate_left
                · (intro w' hT hP hF; cases hT; go_simp; with_reducible rfl)
                simp only [Act.put, List.setIfInBounds_toArray, List.set_cons_zero, List.set_cons_succ]
                refine Mo.val (v := ?_) (fun _ => rfl) (by rfl) (fun _ _ _ => trivial) ?_ ?_
                rotate_left
                · (intro w' hT hP hF; cases hT; go_simp; with_reducible rfl)
                simp only [Act.put, List.setIfInBounds_toArray, List.set_cons_zero, List.set_cons_succ]
                refine Mo.val (v := ?_) (fun _ => rfl) (by rfl) (fun _ _ _ => trivial) ?_ ?_
                rotate_left
                · (intro w' hT hP hF; cases hT; go_simp; with_reducible rfl)
                simp only [Act.put, List.setIfInBounds_toArray, List.set_cons_zero, List.set_cons_succ]
                refine Mo.val (v := ?_) (fun _ => rfl) (by rfl) (fun _ _ _ => trivial) ?_ ?_
                rotate_left
                · (intro w' hT hP hF; cases hT; go_simp; with_reducible rfl)
                simp only [Act.put, List.setIfInBounds_toArray, List.set_cons_zero, List.set_cons_succ]
                refine Mo.val (v := ?_) (fun _ => rfl) (by rfl) (fun _ _ _ => trivial) ?_ ?_
                rotate_left
                · (intro w' hT hP hF; cases hT; go_simp; with_reducible rfl)
                simp only [Act.put, List.setIfInBounds_toArray, List.set_cons_zero, List.set_cons_succ]
                refine Mo.val (v := ?_) (fun _ => rfl) (by rfl) (fun _ _ _ => trivial) ?_ ?_
                rotate_left
                · (intro w' hT hP hF; refine exec_load_mid (P := Try.prog) 79 (.tmp 90) ?_ ?_ (show w'.rangeAt q2 1 (db.map (.int .u8)) by cases hT; exact hR7) Try.underlying79 rfl (by rw [size_blk]; simp [hdb]) <;> rfl)
                simp only [Act.put, List.setIfInBounds_toArray, List.set_cons_zero, List.set_cons_succ]
                refine Mo.done ?_
                rintro w' rfl - -
                obtain ⟨es, ck, hup, hes⟩ := run_put (P := Try.prog) (w := w7.drew) (m := x2) (M := bmap N') hm7.now Try.underlying73 Try.underlying3 dm (blk db)
                unfold blk at hup
                go_wp2_with fail
                go_roundg g2_
                case measure => omega
                case rel =>
                  refine ⟨k + 1, upd N' dm db, by go_num, by omega, ⟨?_, hm7.drew.put (n := dm) (l := db) hes, ?_⟩⟩
                  · rw [apply_succ _ _ _ _ hck, ← hap]
                  · have hK : Kept (fun i => i = x2) w7 (ChangeMaps.setBlock w7.drew x2 (.map es ck)) := (Kept.refl (fun i => i = x2) w7).drew.setBlock (Or.inr rfl) _
                    exact own_kept ho7 hK (fun i hi e => (own_not ho7 hm7 i hi).2.2.2 e)
          · have hne : ((cm : Int) != -1) = true := by simpa using hcm
            go_upto_region 14 with (fail)
            go_wp2_with (first | (with_reducible refine Ow.at_slot 75 ?_; refine wpList_load_mid rfl 81 (.tmp 15) rfl q 0 rfl cs _ HR5.out Try.underlying81 rfl ?hsz ?_) | (at_builtin; refine append_write rfl (.tmp 74) (.tmp 76) rfl w.heap.size _ wt.length (wcells wt) rfl (how5.alloc _) w5.heap.size 1 cs rfl ?c1 ?c2 hone ?c5 ?c6 ?_))
            case hsz => rw [size_write, hcl]
            case c1 => exact hcl
            case c2 =>
              intro i u hu
              rw [Nat.zero_add]
              simp only [World.cell?, heap_alloc_new]
              simpa using hu
            case c5 =>
              have := drain_len (D.calls.take j) (D.first, [])
              rw [show (D.calls.take j).foldl step1 (D.first, []) = (N, wt) from hdr.symm] at this
              have := List.length_take_le j D.calls
              simp at *
              omega
            case c6 => simp; omega
            intro v' w6 ho6 hgr hnb
            have hK6 : Kept (fun k => u13.ownBlock = some k) w5 w6 := ((Kept.refl (fun k => u13.ownBlock = some k) w5).alloc _).grown hgr (fun k hk => Or.inr hk)
            have hm6 := hm5.kept' hK6 (fun i hi e => by
              obtain ⟨n1, n2, n3, n4⟩ := own_not how5 hm5 i e
              rcases hi with hi | hi | hi | hi <;> omega)
            clear hgr hnb
            go_wp2_with fail
            go_roundg g1_
            case measure => omega
            case rel =>
              refine ⟨j + 1, N, wt ++ [(cm, cb)], by go_num, by omega, ⟨?_, hm6, ?_⟩⟩
              · rw [drain_succ _ _ _ _ hcj, ← hdr]
                simp [step1, hcm]
              · rw [wcells_snoc, List.length_append]
                have := HC.out
                rw [this]
                exact ho6
    case rest =>
      obtain ⟨N, wt, ⟨hdr, hm0, how0⟩⟩ := hcut
      have hwl : ∀ p ∈ wt, p.2.length = 32 := by
        have := (fine_drain (cs := D.calls.take p) (fun p hp => h.ok.calls p (List.mem_of_mem_take hp)) h.ok.first).2
        rw [← hdr] at this
        exact this
      have hwn : wt.length < 2000000000000 := by
        have := drain_len (D.calls.take p) (D.first, [])
        rw [show (D.calls.take p).foldl step1 (D.first, []) = (N, wt) from hdr.symm] at this
        have := List.length_take_le p D.calls
        simp at *
        omega
      obtain ⟨a13, c13, rfl⟩ := own_len how0
      obtain ⟨ak, ck, rfl, hk0, hk1⟩ := hk
      go_upto_block 6 with (fail)
      go_cut [18] (fun v18 wx => Sh (Making w wx xb x1 x2 D.size N ∧ wx.ownsRow w.heap.size 81 33 v18 (keepOf keep wt).length (wcells (keepOf keep wt))))
      case first =>
        go_wp2_with fail
        go_loopg [18, 96] wt.length (fun kq v18 v96 w' => ∃ (k : Nat), v96 = .int .i64 (k : Int) ∧ k + kq = wt.length ∧ Sh (Making w w' xb x1 x2 D.size N ∧ w'.ownsRow w.heap.size 81 33 (.slice a13 wt.length c13) wt.length (wcells wt) ∧ w'.ownsRow w.heap.size 81 33 v18 (keepOf keep (wt.take k)).length (wcells (keepOf keep (wt.take k))) ∧ ∀ i, v18.ownBlock = some i → (Value.slice a13 wt.length c13).ownBlock ≠ some i))
        case atStart => exact ⟨0, rfl, by omega, ⟨hm0, how0, World.ownsRow_nil _ _ _ _, fun i hi => by cases hi⟩⟩
        case round =>
          obtain ⟨k, rfl, hkk, ⟨hm, how, hok, hap⟩⟩ := hrel
          cases gk with
          | zero =>
            have q3 : ¬ ((k : Int) < (wt.length : Int)) := by omega
            obtain rfl : k = wt.length := by omega
            rw [List.take_length] at hok
            go_wp2_with fail
            go_meet
            case rel => exact ⟨hm, hok⟩
          | succ g1_ =>
            have q2 : (k : Int) < (wt.length : Int) := by omega
            have q3 : (0 : Int) ≤ (k : Int) := by omega
            obtain ⟨dm, db, hck⟩ : ∃ dm db, wt[k]? = some (dm, db) := ⟨_, _, List.getElem?_eq_getElem (by omega)⟩
            have hdb : db.length = 32 := hwl _ (List.mem_of_getElem? hck)
            obtain ⟨g', cap', hae', hg', hrg'⟩ := own_range how hwl hck
            obtain ⟨rfl, rfl⟩ : a13 = some ⟨g', 0, none⟩ ∧ c13 = cap' := by simpa using hae'
            obtain ⟨cs2, hcs2⟩ : ∃ cs2, (Value.int .i64 dm :: db.map (Value.int .u8)) = cs2 := ⟨_, rfl⟩
            have hcl2 : cs2.length = 33 := by rw [← hcs2]; simp [hdb]
            have hone2 : ∀ u ∈ cs2, u.oneCell' = true := by rw [← hcs2]; exact one_write dm db
            have HR2 : Sh (wr.rangeAt g' (k * 33) cs2) := ⟨by rw [← hcs2]; exact hrg'⟩
            have hst2 := fun (W : World) (c : Array Value) (hc : c.size = 33) => run_storeCells_new (P := Try.prog) W 81 c cs2.toArray (by rw [size_write]; simp [hcl2]) (by simp [hcl2, hc]) (all_oneCell_toArray hone2)
            have HC2 := Sh.mk hcs2
            clear hrg' hcs2
            go_upto_region 25 with (fail)
            go_upto_region 26 with (with_reducible refine Ow.at_slot 100 ?_; refine wpList_load_mid rfl 81 (.tmp 99) rfl g' (k * 33) rfl cs2 _ HR2.out Try.underlying81 rfl ?hsz ?_)
            case hsz => exact Option.map_eq_some_iff.1 size_write
            obtain ⟨w7, hw7⟩ : ∃ w7, wr.alloc (.cells cs2.toArray 81) = w7 := ⟨_, rfl⟩
            obtain ⟨q2', hq2⟩ : ∃ q2, wr.heap.size = q2 := ⟨_, rfl⟩
            have hb7 : Below wr.heap.size wr w7 := by rw [← hw7]; exact (Below.refl _ _).alloc (Nat.le_refl _) _
            have hm7 := hm.kept' (Kept.of_below (S := fun _ => False) hb7) (fun _ _ e => e)
            have ho7 := own_kept how (Kept.of_below (S := fun _ => False) hb7) (fun _ _ e => e)
            have hk7 := own_kept hok (Kept.of_below (S := fun _ => False) hb7) (fun _ _ e => e)
            have hk8 := keep_succ keep wt k _ hck
            have HR7 : Sh (w7.rangeAt q2' 0 cs2) := ⟨fun i u hu => by
              rw [Nat.zero_add, ← hw7, ← hq2]
              simp only [World.cell?, heap_alloc_new]
              simpa using hu⟩
            rw [hw7, hq2]
            have hs7 := hm7.below.size
            clear hw7 hb7 hst2 HR2 hm how hok hq2
            by_cases hkl : k < keep.length
            · have q4 : ((k : Int) < (keep.length : Int)) := by omega
              cases ak with
              | none => have := (hk0 rfl).1; subst this; simp at hkl
              | some ad =>
                obtain ⟨hkc, hkx⟩ := hk1 ad rfl
                obtain ⟨kb, hkb⟩ : ∃ kb, keep[k]? = some kb := ⟨_, List.getElem?_eq_getElem hkl⟩
                have hcell0 := hkx k kb hkb
                have hcell : w7.cell? (ad.add k) = some (.bool kb) := by
                  rw [hm7.below.cell (World.block_lt_of_cell? w _ hcell0)]
                  exact hcell0
                have hgd : keep.getD k false = kb := by rw [List.getD_eq_getElem?_getD, hkb]; rfl
                rw [hgd] at hk8
                clear hcell0 hkx hgd
                cases kb with
                | false =>
                  go_wp2_with fail
                  go_roundg g1_
                  case measure => omega
                  case rel =>
                    refine ⟨k + 1, by go_num, by omega, ⟨hm7, ho7, ?_, hap⟩⟩
                    rw [hk8]
                    simpa using hk7
                | true =>
                  have hfo := fun (z : Array Value) (hz : z.size = 33) => fold_all cs2 z hcl2 hz
                  go_upto_region 27 with (fail)
                  go_wp2_with (first | (with_reducible refine Ow.at_slot 112 ?_; refine wpList_load_mid rfl 81 (.tmp 20) rfl q2' 0 rfl cs2 _ HR7.out Try.underlying81 rfl ?hsz ?_) | (at_builtin; refine append_write rfl (.tmp 111) (.tmp 113) rfl w.heap.size _ (keepOf keep (wt.take k)).length (wcells (keepOf keep (wt.take k))) rfl (hk7.alloc _) w7.heap.size 1 cs2 rfl ?c1 ?c2 hone2 ?c5 ?c6 ?_))
                  case hsz => exact Option.map_eq_some_iff.1 size_write
                  case c2 =>
                    intro i u hu
                    rw [Nat.zero_add]
                    simp only [World.cell?, heap_alloc_new]
                    simpa using hu
                  case c5 =>
                    have h1 : (keepOf keep (wt.take k)).length ≤ (wt.take k).length := by
                      unfold keepOf
                      rw [List.length_map]
                      exact Nat.le_trans (List.length_filter_le _ _) (by simp)
                    have h2 := List.length_take_le k wt
                    omega
                  case c6 => (try simp); omega
                  intro v' w8 ho8 hgr hnb
                  have hK8 : Kept (fun i => u18.ownBlock = some i) w7 w8 := ((Kept.refl (fun i => u18.ownBlock = some i) w7).alloc _).grown hgr (fun i hi => Or.inr hi)
                  have hm8 := hm7.kept' hK8 (fun i hi e => by
                    obtain ⟨n1, n2, n3, n4⟩ := own_not hk7 hm7 i e
                    rcases hi with hi | hi | hi | hi <;> omega)
                  have ho9 := own_kept ho7 hK8 (fun i hi e => hap i e hi)
                  clear hgr
                  go_wp2_with fail
                  go_roundg g1_
                  case measure => omega
                  case rel =>
                    refine ⟨k + 1, by go_num, by omega, ⟨hm8, ho9, ?_, fun i hi e => ?_⟩⟩
                    · rw [hk8]
                      simp only [if_true]
                      rw [wcells_snoc, List.length_append]
                      have := HC2.out
                      rw [this]
                      exact ho8
                    · rcases hnb i hi with h5 | h5
                      · exact hap i h5 e
                      · have := (ho7.lt i e).2
                        (try simp at h5)
                        omega
            · have q4 : ¬ ((k : Int) < (keep.length : Int)) := by omega
              have hkf : keep.getD k false = false := by rw [List.getD_eq_getElem?_getD, List.getElem?_eq_none (by omega)]; rfl
              rw [hkf] at hk8
              go_wp2_with fail
              go_roundg g1_
              case measure => omega
              case rel =>
                refine ⟨k + 1, by go_num, by omega, ⟨hm7, ho7, ?_, hap⟩⟩
                rw [hk8]
                simpa using hk7
      case rest =>
        obtain ⟨hm3, hok3⟩ := hcut
        obtain ⟨kw, hkw⟩ : ∃ kw, keepOf keep wt = kw := ⟨_, rfl⟩
        rw [hkw] at hok3
        have hkl : ∀ p ∈ kw, p.2.length = 32 := fun p hp => hwl p (keep_mem (hkw ▸ hp))
        have hkn : kw.length < 2000000000000 := by
          have h1 : kw.length ≤ wt.length := by
            rw [← hkw]
            unfold keepOf
            rw [List.length_map]
            exact Nat.le_trans (List.length_filter_le _ _) (by simp)
          omega
        obtain ⟨a18, c18, rfl⟩ := own_len hok3
        have hfN : Fine N := by
          have := (fine_drain (cs := D.calls.take p) (fun p hp => h.ok.calls p (List.mem_of_mem_take hp)) h.ok.first).1
          rw [← hdr] at this
          exact this
        clear how0 hm0
        obtain ⟨ht0, ht1⟩ := pick_lt torn 33 (by decide)
        obtain ⟨t, ht⟩ : ∃ t : Nat, pick torn 33 = (t : Int) := Int.eq_ofNat_of_zero_le ht0
        have ht32 : t ≤ 32 := by omega
        go_upto_block 8 with (fail)
        go_cut [] (fun wx => Making w wx xb x1 x2 D.size (layN t kw N kw.length))
        case first =>
          go_wp2_with fail
          go_loopg [118] kw.length (fun kq v118 w' => ∃ k : Nat, v118 = .int .i64 (k : Int) ∧ k + kq = kw.length ∧ Sh (Making w w' xb x1 x2 D.size (layN t kw N k) ∧ w'.ownsRow w.heap.size 81 33 (.slice a18 kw.length c18) kw.length (wcells kw)))
          case atStart => exact ⟨0, rfl, by omega, ⟨hm3, hok3⟩⟩
          case round =>
            obtain ⟨k, rfl, hkk, ⟨hm, how⟩⟩ := hrel
            cases gk with
            | zero =>
              have q3 : ¬ ((k : Int) < (kw.length : Int)) := by omega
              obtain rfl : k = kw.length := by omega
              go_wp2_with fail
              go_meet
              case rel => exact hm
            | succ g1_ =>
              have q2 : (k : Int) < (kw.length : Int) := by omega
              have q3 : (0 : Int) ≤ (k : Int) := by omega
              obtain ⟨dm, db, hck⟩ : ∃ dm db, kw[k]? = some (dm, db) := ⟨_, _, List.getElem?_eq_getElem (by omega)⟩
              have hdb : db.length = 32 := hkl _ (List.mem_of_getElem? hck)
              obtain ⟨g', cap', hae', hg', hrg'⟩ := own_range how hkl hck
              obtain ⟨rfl, rfl⟩ : a18 = some ⟨g', 0, none⟩ ∧ c18 = cap' := by simpa using hae'
              obtain ⟨cs2, hcs2⟩ : ∃ cs2, (Value.int .i64 dm :: db.map (Value.int .u8)) = cs2 := ⟨_, rfl⟩
              have hcl2 : cs2.length = 33 := by rw [← hcs2]; simp [hdb]
              have hone2 : ∀ u ∈ cs2, u.oneCell' = true := by rw [← hcs2]; exact one_write dm db
              have HR2 : Sh (wr.rangeAt g' (k * 33) cs2) := ⟨by rw [← hcs2]; exact hrg'⟩
              have hst2 := fun (W : World) (c : Array Value) (hc : c.size = 33) => run_storeCells_new (P := Try.prog) W 81 c cs2.toArray (by rw [size_write]; simp [hcl2]) (by simp [hcl2, hc]) (all_oneCell_toArray hone2)
              have HC2 := Sh.mk hcs2
              clear hrg' hcs2
              go_upto_region 31 with (fail)
              go_upto_region 32 with (with_reducible refine Ow.at_slot 122 ?_; refine wpList_load_mid rfl 81 (.tmp 121) rfl g' (k * 33) rfl cs2 _ HR2.out Try.underlying81 rfl ?hsz ?_)
              case hsz => exact Option.map_eq_some_iff.1 size_write
              obtain ⟨w7, hw7⟩ : ∃ w7, wr.alloc (.cells cs2.toArray 81) = w7 := ⟨_, rfl⟩
              obtain ⟨q2', hq2⟩ : ∃ q2, wr.heap.size = q2 := ⟨_, rfl⟩
              have hb7 : Below wr.heap.size wr w7 := by rw [← hw7]; exact (Below.refl _ _).alloc (Nat.le_refl _) _
              have hm7 := hm.kept' (Kept.of_below (S := fun _ => False) hb7) (fun _ _ e => e)
              have ho7 := own_kept how (Kept.of_below (S := fun _ => False) hb7) (fun _ _ e => e)
              have HB7 : w7.heap[q2']? = some (.cells cs2.toArray 81 (0, 0)) := by rw [← hw7, ← hq2]; exact heap_alloc_new _ _
              have HF7 : Sh (w7.cell? ⟨q2', 0, none⟩ = some (.int .i64 dm)) := ⟨by rw [← HC2.out] at HB7; simp [World.cell?, HB7]⟩
              have HR7 : Sh (w7.rangeAt q2' 1 (db.map (.int .u8))) := ⟨fun i u hu => by
                rw [← HC2.out] at HB7
                simp only [World.cell?, HB7]
                rw [Nat.add_comm]
                simpa using hu⟩
              rw [hw7, hq2]
              clear hw7 hb7 hst2 HR2 hm how hq2 HB7
              have hst := fun (W : World) (c : Array Value) (hc : c.size = 32) => run_storeCells_new (P := Try.prog) W 79 c (db.map (Value.int .u8)).toArray (by rw [size_blk]; simp [hdb]) (by simp [hdb, hc]) (all_oneCell_toArray (one_u8 db))
              go_upto_region 33 with (with_reducible refine Ow.at_slot 124 ?_; refine wpList_load_mid rfl 79 (.tmp 123) rfl q2' 1 rfl (db.map (.int .u8)) _ HR7.out Try.underlying79 rfl ?hsz ?_)
              case hsz => exact Option.map_eq_some_iff.1 size_blk
              obtain ⟨w8, hw8⟩ : ∃ w8, w7.alloc (.cells (db.map (Value.int .u8)).toArray 79) = w8 := ⟨_, rfl⟩
              obtain ⟨q3', hq3'⟩ : ∃ q3, w7.heap.size = q3 := ⟨_, rfl⟩
              have hb8 : Below q3' w7 w8 := by rw [← hw8, ← hq3']; exact (Below.refl _ _).alloc (Nat.le_refl _) _
              have hH8 : Sh (w8.heap[q3']? = some (.cells (db.map (Value.int .u8)).toArray 79 (0, 0))) := ⟨by rw [← hw8, ← hq3']; exact heap_alloc_new _ _⟩
              have hq23 : q2' < q3' := by
                have := World.block_lt_of_cell? w7 _ HF7.out
                rw [← hq3']
                exact this
              rw [hw8, hq3']
              clear hw8 hst
              by_cases hlast : k + 1 = kw.length
              · have q5 : (k : Int) = (kw.length : Int) - 1 := by omega
                have q6 : IntKind.i64.wrap ((kw.length : Int) - 1) = (k : Int) := by rw [← q5]; exact IntWalk.i64_in (k : Int) (by omega)
                go_upto_region 34 with (fail)
                have hm8 := hm7.kept' (Kept.of_below (S := fun _ => False) (hq3' ▸ hb8)) (fun _ _ e => e)
                obtain ⟨zl, hzl⟩ : ∃ zl, (layN t kw N k dm).getD zeros = zl := ⟨_, rfl⟩
                have hzl32 : zl.length = 32 := by
                  rw [← hzl]
                  cases hc : layN t kw N k dm with
                  | none => rfl
                  | some l => exact fine_lay ht32 hkl hfN k _ _ hc
                have hlk : (Instr.lookup 73 (.map (some x2)) (.int .i64 dm) false).run Try.prog w8.drew = .ok (blk zl) w8.drew := by
                  rw [run_look hm8.drew.now Try.underlying73 Try.underlying3 (zero_blk _) dm, ← hzl]
                  unfold bmap
                  cases layN t kw N k dm <;> rfl
                unfold blk at hlk
                have hF8 : w8.cell? ⟨q2', 0, none⟩ = some (.int .i64 dm) := by rw [hb8.cell hq23]; exact HF7.out
                have c2x : w8.cell? ⟨xb, 2, none⟩ = some (.map (some x2)) := by simp [World.cell?, hm8.head]
                refine Mo.region 7 [0, 1, 3, 7, 0, 16, 63, 127] (fun w' => w' = w8.drew) (fun _ => Eq) (fun _ _ => True) (fun _ _ _ _ => True) rfl (fun _ => trivial) (fun _ _ _ h k => k ▸ h) (fun _ _ _ _ _ _ _ _ _ _ => trivial) (fun _ _ _ _ _ _ _ _ _ => trivial) mixed (by kernel_rfl) ?_
                simp only [List.take_succ_cons, List.take_zero, List.drop_succ_cons, List.drop_zero]
                refine Mo.val (v := ?_) (fun _ => rfl) (by rfl) (fun _ _ _ => trivial) ?_ ?_
                rotate_left
                · (intro w' hT hP hF; cases hT; go_simp; with_reducible rfl)
                simp only [Act.put, List.setIfInBounds_toArray, List.set_cons_zero, List.set_cons_succ]
                refine Mo.val (v := ?_) (fun _ => rfl) (by rfl) (fun _ _ _ => trivial) ?_ ?_
                rotate_left
                · (intro w' hT hP hF; cases hT; go_simp; with_reducible rfl)
                simp only [Act.put, List.setIfInBounds_toArray, List.set_cons_zero, List.set_cons_succ]
                refine Mo.val (v := ?_) (fun _ => rfl) (by rfl) (fun _ _ _ => trivial) ?_ ?_
                rotate_left
                · (intro w' hT hP hF; cases hT; go_simp; with_reducible rfl)
                simp only [Act.put, List.setIfInBounds_toArray, List.set_cons_zero, List.set_cons_succ]
                refine Mo.val (v := ?_) (fun _ => rfl) (by rfl) (fun _ _ _ => trivial) ?_ ?_
                rotate_left
                · (intro w' hT hP hF; cases hT; go_simp; with_reducible rfl)
                simp only [Act.put, List.setIfInBounds_toArray, List.set_cons_zero, List.set_cons_succ]
                refine Mo.val (v := ?_) (fun _ => rfl) (by rfl) (fun _ _ _ => trivial) ?_ ?_
                rotate_left
                · (intro w' hT hP hF; cases hT; go_simp; with_reducible rfl)
                simp only [Act.put, List.setIfInBounds_toArray, List.set_cons_zero, List.set_cons_succ]
                refine Mo.val (v := ?_) (fun _ => rfl) (by rfl) (fun _ _ _ => trivial) ?_ ?_
                rotate_left
                · (intro w' hT hP hF; cases hT; go_simp; with_reducible rfl)
                simp only [Act.put, List.setIfInBounds_toArray, List.set_cons_zero, List.set_cons_succ]
                refine Mo.val (v := ?_) (fun _ => rfl) (by rfl) (fun _ _ _ => trivial) ?_ ?_
                rotate_left
                · (intro w' hT hP hF; cases hT; go_simp; with_reducible rfl)
                simp only [Act.put, List.setIfInBounds_toArray, List.set_cons_zero, List.set_cons_succ]
                refine Mo.done ?_
                rintro w' rfl - -
                have hst3 : (storeCells ⟨q3', 0, none⟩ (zl.map (Value.int .u8)) 0).run Try.prog w8.drew = .ok () (w8.drew.setRow q3' (zl.map (Value.int .u8)).toArray) := by
                  rw [run_storeCells_at (P := Try.prog) q3' 0 79 (zl.map (Value.int .u8)) 0 _ w8.drew hH8.out (by simp [hdb, hzl32]) (one_u8 zl)]
                  simp [hzl32]
                  rw [List.drop_of_length_le (by simp [hdb]), List.append_nil]
                go_upto_region 35 with (fail)
                obtain ⟨w9, hw9⟩ : ∃ w9, w8.drew.setRow q3' (zl.map (Value.int .u8)).toArray = w9 := ⟨_, rfl⟩
                have hb9 : Below q3' w7 w9 := by rw [← hw9]; exact below_setRow hb8.drew (Nat.le_refl _) _
                have hH9 : w9.heap[q3']? = some (.cells (zl.map (Value.int .u8)).toArray 79 (0, 0)) := by rw [← hw9]; exact setRow_heap _ _ _ _ _ _ hH8.out
                rw [hw9]
                clear hw9 hst3 hlk c2x hm8 hF8
                have g0 : (0 : Int) ≤ (t : Int) := by omega
                have g1 : (t : Int) ≤ 32 := by omega
                refine Mo.region 5 [0, 0, 0, 4, 14, 31] (fun w' => w' = w9.drew) (fun _ => Eq) (fun _ _ => True) (fun k _ v _ => k = 3 → v = .int .i64 t) rfl (fun _ => trivial) (fun _ _ _ h k => k ▸ h) (fun _ _ _ _ _ _ _ _ _ h => h) (fun _ _ _ _ _ _ _ _ _ => trivial) mixed (by kernel_rfl) ?_
                simp only [List.take_succ_cons, List.take_zero, List.drop_succ_cons, List.drop_zero]
                refine Mo.val (v := ?_) (fun _ => rfl) (by rfl) (fun _ _ _ hk_ => (by cases hk_)) ?_ ?_
                rotate_left
                · (intro w' hT hP hF; cases hT; go_simp; with_reducible rfl)
                simp only [Act.put, List.setIfInBounds_toArray, List.set_cons_zero, List.set_cons_succ]
                refine Mo.val (v := ?_) (fun _ => rfl) (by rfl) (fun _ _ _ hk_ => (by cases hk_)) ?_ ?_
                rotate_left
                · (intro w' hT hP hF; cases hT; go_simp; with_reducible rfl)
                simp only [Act.put, List.setIfInBounds_toArray, List.set_cons_zero, List.set_cons_succ]
                refine Mo.val (v := ?_) (fun _ => rfl) (by rfl) (fun _ _ _ hk_ => (by cases hk_)) ?_ ?_
                rotate_left
                · (intro w' hT hP hF; cases hT; go_simp; with_reducible rfl)
                simp only [Act.put, List.setIfInBounds_toArray, List.set_cons_zero, List.set_cons_succ]
                refine Mo.any (by rfl) ?_ ?_
                · intro w' hT hP hF
                  cases hT
                  go_simp
                  show Calls _ _ _ _ _
                  refine (round_calls torn 33 w9.drew htn (by omega) (by omega)).mono ?_
                  rintro e w1 ⟨rfl, rfl⟩
                  exact ⟨_, rfl, rfl, by rw [ht]⟩
                simp only [Act.put, List.setIfInBounds_toArray, List.set_cons_zero, List.set_cons_succ]
                rintro v140 ⟨_, _, hv140⟩
                obtain rfl := hv140 trivial
                refine Mo.val (v := ?_) (fun _ => rfl) (by rfl) (fun _ _ _ hk_ => (by cases hk_)) ?_ ?_
                rotate_left
                · (intro w' hT hP hF; cases hT; go_simp; with_reducible rfl)
                simp only [Act.put, List.setIfInBounds_toArray, List.set_cons_zero, List.set_cons_succ]
                refine Mo.done ?_
                rintro w' rfl - -
                have hb9d : Below q3' w7 w9.drew := hb9.drew
                have hR9 : w9.drew.rangeAt q2' 1 (db.map (.int .u8)) := fun i u hu => by
                  have h1 := HR7.out i u hu
                  rw [hb9d.cell (p := ⟨q2', _, none⟩) hq23]
                  exact h1
                obtain ⟨tl, htl⟩ : ∃ tl, db.take t = tl := ⟨_, rfl⟩
                have htll : tl.length = t := by rw [← htl]; simp [hdb]; omega
                obtain ⟨bl, hbl_⟩ : ∃ bl, tl ++ zl.drop t = bl := ⟨_, rfl⟩
                have hbl : bl.length = 32 := by rw [← hbl_]; simp [htll, hzl32]; omega
                have htk : ∀ (i : Nat) (u : Value), (tl.map (Value.int .u8))[i]? = some u → (db.map (Value.int .u8))[i]? = some u := fun i u hu => by
                  rw [← htl, List.map_take, List.getElem?_take] at hu
                  split at hu
                  · exact hu
                  · cases hu
                have hcp : (Builtin.copy_ #[31, 31] 3 #[.slice (some ⟨q3', 0, none⟩) 32 32, .slice (some ⟨q2', 1, none⟩) t 32]).run Try.prog w9.drew = .ok (.int .i64 t) (w9.drew.setRow q3' (bl.map (Value.int .u8)).toArray) := by
                  rw [run_copy_row (P := Try.prog) w9.drew 31 31 3 5 q3' 0 32 32 ⟨q2', 1, none⟩ t 32 _ 79 (tl.map (Value.int .u8)) Try.underlying31 size_u8 hH9 (by rw [List.length_map, htll]; exact (Nat.min_eq_left ht32).symm) (fun i u hu => by rw [Addr.add_mid]; exact hR9 i u (htk i u hu)) (by simp [htll, hzl32]; omega) (one_u8 _), ← hbl_]
                  simp [htll, goInt]
                go_upto_region 36 with (fail)
                obtain ⟨w10, hw10⟩ : ∃ w10, w9.drew.setRow q3' (bl.map (Value.int .u8)).toArray = w10 := ⟨_, rfl⟩
                have hb10 : Below q3' w7 w10 := by rw [← hw10]; exact below_setRow hb9d (Nat.le_refl _) _
                have hH10 : Sh (w10.heap[q3']? = some (.cells (bl.map (Value.int .u8)).toArray 79 (0, 0))) := ⟨by rw [← hw10]; exact setRow_heap _ _ _ _ _ _ hH9⟩
                have htorn : tornOf t (layN t kw N k) (dm, db) = bl := by
                  unfold tornOf
                  rw [hzl, htl, hbl_]
                rw [hw10]
                clear hw10 hcp hH9 hb9 hb9d hR9
                have hm10 := hm7.kept' (Kept.of_below (S := fun _ => False) (hq3' ▸ hb10)) (fun _ _ e => e)
                have ho10 := own_kept ho7 (Kept.of_below (S := fun _ => False) (hq3' ▸ hb10)) (fun _ _ e => e)
                have hF10 : w10.cell? ⟨q2', 0, none⟩ = some (.int .i64 dm) := by rw [hb10.cell hq23]; exact HF7.out
                have hR10 : w10.drew.rangeAt q3' 0 (bl.map (.int .u8)) := fun i u hu => by
                  rw [Nat.zero_add]
                  simp only [World.drew, World.cell?, hH10.out]
                  simpa using hu
                have c2x : w10.cell? ⟨xb, 2, none⟩ = some (.map (some x2)) := by simp [World.cell?, hm10.head]
                refine Mo.region 7 [0, 1, 3, 7, 0, 16, 0, 127] (fun w' => w' = w10.drew) (fun _ => Eq) (fun _ _ => True) (fun _ _ _ _ => True) rfl (fun _ => trivial) (fun _ _ _ h k => k ▸ h) (fun _ _ _ _ _ _ _ _ _ _ => trivial) (fun _ _ _ _ _ _ _ _ _ => trivial) mixed (by kernel_rfl) ?_
                simp only [List.take_succ_cons, List.take_zero, List.drop_succ_cons, List.drop_zero]
                refine Mo.val (v := ?_) (fun _ => rfl) (by rfl) (fun _ _ _ => trivial) ?_ ?_
                rotate_left
                · (intro w' hT hP hF; cases hT; go_simp; with_reducible rfl)
                simp only [Act.put, List.setIfInBounds_toArray, List.set_cons_zero, List.set_cons_succ]
                refine Mo.val (v := ?_) (fun _ => rfl) (by rfl) (fun _ _ _ => trivial) ?_ ?_
                rotate_left
                · (intro w' hT hP hF; cases hT; go_simp; with_reducible rfl)
                simp only [Act.put, List.setIfInBounds_toArray, List.set_cons_zero, List.set_cons_succ]
                refine Mo.val (v := ?_) (fun _ => rfl) (by rfl) (fun _ _ _ => trivial) ?_ ?_
                rotate_left
                · (intro w' hT hP hF; cases hT; go_simp; with_reducible rfl)
                simp only [Act.put, List.setIfInBounds_toArray, List.set_cons_zero, List.set_cons_succ]
                refine Mo.val (v := ?_) (fun _ => rfl) (by rfl) (fun _ _ _ => trivial) ?_ ?_
                rotate_left
                · (intro w' hT hP hF; cases hT; go_simp; with_reducible rfl)
                simp only [Act.put, List.setIfInBounds_toArray, List.set_cons_zero, List.set_cons_succ]
                refine Mo.val (v := ?_) (fun _ => rfl) (by rfl) (fun _ _ _ => trivial) ?_ ?_
                rotate_left
                · (intro w' hT hP hF; cases hT; go_simp; with_reducible rfl)
                simp only [Act.put, List.setIfInBounds_toArray, List.set_cons_zero, List.set_cons_succ]
                refine Mo.val (v := ?_) (fun _ => rfl) (by rfl) (fun _ _ _ => trivial) ?_ ?_
                rotate_left
                · (intro w' hT hP hF; cases hT; go_simp; with_reducible rfl)
                simp only [Act.put, List.setIfInBounds_toArray, List.set_cons_zero, List.set_cons_succ]
                refine Mo.val (v := ?_) (fun _ => rfl) (by rfl) (fun _ _ _ => trivial) ?_ ?_
                rotate_left
                · (intro w' hT hP hF; refine exec_load_mid (P := Try.prog) 79 (.tmp 23) ?_ ?_ (show w'.rangeAt q3' 0 (bl.map (.int .u8)) by cases hT; exact hR10) Try.underlying79 rfl (by rw [size_blk]; simp [hbl]) <;> rfl)
                simp only [Act.put, List.setIfInBounds_toArray, List.set_cons_zero, List.set_cons_succ]
                refine Mo.done ?_
                rintro w' rfl - -
                obtain ⟨es, ck, hup, hes⟩ := run_put (P := Try.prog) (w := w10.drew) (m := x2) (M := bmap (layN t kw N k)) hm10.now Try.underlying73 Try.underlying3 dm (blk bl)
                unfold blk at hup
                go_wp2_with fail
                go_roundg g1_
                case measure => omega
                case rel =>
                  refine ⟨k + 1, by go_num, by omega, ⟨?_, ?_⟩⟩
                  · rw [lay_succ t kw N k _ hck]
                    simp only [if_pos hlast, htorn]
                    exact hm10.drew.put (n := dm) (l := bl) hes
                  · have hK : Kept (fun i => i = x2) w10 (ChangeMaps.setBlock w10.drew x2 (.map es ck)) := (Kept.refl (fun i => i = x2) w10).drew.setBlock (Or.inr rfl) _
                    exact own_kept ho10 hK (fun i hi e => (own_not ho10 hm10 i hi).2.2.2 e)
              · have q5 : ¬ ((k : Int) = (kw.length : Int) - 1) := by omega
                have q6 : IntKind.i64.wrap ((kw.length : Int) - 1) = (kw.length : Int) - 1 := IntWalk.i64_in _ (by omega)
                go_upto_region 36 with (fail)
                have hm10 := hm7.kept' (Kept.of_below (S := fun _ => False) (hq3' ▸ hb8)) (fun _ _ e => e)
                have ho10 := own_kept ho7 (Kept.of_below (S := fun _ => False) (hq3' ▸ hb8)) (fun _ _ e => e)
                have hF10 : w8.cell? ⟨q2', 0, none⟩ = some (.int .i64 dm) := by rw [hb8.cell hq23]; exact HF7.out
                have hR10 : w8.drew.rangeAt q3' 0 (db.map (.int .u8)) := fun i u hu => by
                  rw [Nat.zero_add]
                  simp only [World.drew, World.cell?, hH8.out]
                  simpa using hu
                have c2x : w8.cell? ⟨xb, 2, none⟩ = some (.map (some x2)) := by simp [World.cell?, hm10.head]
                refine Mo.region 7 [0, 1, 3, 7, 0, 16, 0, 127] (fun w' => w' = w8.drew) (fun _ => Eq) (fun _ _ => True) (fun _ _ _ _ => True) rfl (fun _ => trivial) (fun _ _ _ h k => k ▸ h) (fun _ _ _ _ _ _ _ _ _ _ => trivial) (fun _ _ _ _ _ _ _ _ _ => trivial) mixed (by kernel_rfl) ?_
                simp only [List.take_succ_cons, List.take_zero, List.drop_succ_cons, List.drop_zero]
                refine Mo.val (v := ?_) (fun _ => rfl) (by rfl) (fun _ _ _ => trivial) ?_ ?_
                rotate_left
                · (intro w' hT hP hF; cases hT; go_simp; with_reducible rfl)
                simp only [Act.put, List.setIfInBounds_toArray, List.set_cons_zero, List.set_cons_succ]
                refine Mo.val (v := ?_) (fun _ => rfl) (by rfl) (fun _ _ _ => trivial) ?_ ?_
                rotate_left
                · (intro w' hT hP hF; cases hT; go_simp; with_reducible rfl)
                simp only [Act.put, List.setIfInBounds_toArray, List.set_cons_zero, List.set_cons_succ]
                refine Mo.val (v := ?_) (fun _ => rfl) (by rfl) (fun _ _ _ => trivial) ?_ ?_
                rotate_left
                · (intro w' hT hP hF; cases hT; go_simp; with_reducible rfl)
                simp only [Act.put, List.setIfInBounds_toArray, List.set_cons_zero, List.set_cons_succ]
                refine Mo.val (v := ?_) (fun _ => rfl) (by rfl) (fun _ _ _ => trivial) ?_ ?_
                rotate_left
                · (intro w' hT hP hF; cases hT; go_simp; with_reducible rfl)
                simp only [Act.put, List.setIfInBounds_toArray, List.set_cons_zero, List.set_cons_succ]
                refine Mo.val (v := ?_) (fun _ => rfl) (by rfl) (fun _ _ _ => trivial) ?_ ?_
                rotate_left
                · (intro w' hT hP hF; cases hT; go_simp; with_reducible rfl)
                simp only [Act.put, List.setIfInBounds_toArray, List.set_cons_zero, List.set_cons_succ]
                refine Mo.val (v := ?_) (fun _ => rfl) (by rfl) (fun _ _ _ => trivial) ?_ ?_
                rotate_left
                · (intro w' hT hP hF; cases hT; go_simp; with_reducible rfl)
                simp only [Act.put, List.setIfInBounds_toArray, List.set_cons_zero, List.set_cons_succ]
                refine Mo.val (v := ?_) (fun _ => rfl) (by rfl) (fun _ _ _ => trivial) ?_ ?_
                rotate_left
                · (intro w' hT hP hF; refine exec_load_mid (P := Try.prog) 79 (.tmp 23) ?_ ?_ (show w'.rangeAt q3' 0 (db.map (.int .u8)) by cases hT; exact hR10) Try.underlying79 rfl (by rw [size_blk]; simp [hdb]) <;> rfl)
                simp only [Act.put, List.setIfInBounds_toArray, List.set_cons_zero, List.set_cons_succ]
                refine Mo.done ?_
                rintro w' rfl - -
                obtain ⟨es, ck, hup, hes⟩ := run_put (P := Try.prog) (w := w8.drew) (m := x2) (M := bmap (layN t kw N k)) hm10.now Try.underlying73 Try.underlying3 dm (blk db)
                unfold blk at hup
                go_wp2_with fail
                go_roundg g1_
                case measure => omega
                case rel =>
                  refine ⟨k + 1, by go_num, by omega, ⟨?_, ?_⟩⟩
                  · rw [lay_succ t kw N k _ hck]
                    simp only [if_neg hlast]
                    exact hm10.drew.put (n := dm) (l := db) hes
                  · have hK : Kept (fun i => i = x2) w8 (ChangeMaps.setBlock w8.drew x2 (.map es ck)) := (Kept.refl (fun i => i = x2) w8).drew.setBlock (Or.inr rfl) _
                    exact own_kept ho10 hK (fun i hi e => (own_not ho10 hm10 i hi).2.2.2 e)
        case rest =>
          have hfin : layN t kw N kw.length = D.cutM at_ keep torn := by
            unfold St.cutM
            rw [hp, ht]
            simp only [Int.toNat_natCast]
            rw [← hdr, hkw]
          obtain ⟨FF, hFF⟩ : ∃ FF, D.cutM at_ keep torn = FF := ⟨_, rfl⟩
          rw [hfin, hFF] at hcut
          have hcok := St.cut_ok h.ok at_ keep torn
          have hfine : ∀ n l, FF n = some l → l.length = 32 := fun n l hl => hcok.now n l (by show D.cutM at_ keep torn n = some l; rw [hFF]; exact hl)
          obtain ⟨o, cnt, hrun, hgo⟩ := run_range (P := Try.prog) hcut.now Try.underlying73
          have hbl := hcut.below.size
          obtain ⟨lt1, lt2, lt3⟩ := hcut.lt
          have HM3 : Filling w (wc.alloc o) xb x1 x2 D.size (fun _ => none) FF := (hcut.kept' (S := fun _ => False) ((Kept.refl _ _).alloc o) (fun _ _ e => e)).fill
          have c2x : wc.cell? ⟨xb, 2, none⟩ = some (.map (some x2)) := by simp [World.cell?, hcut.head]
          clear hok3 hm3
          go_upto_block 10 with (fail)
          obtain ⟨w3, hw3⟩ : ∃ w3, wc.alloc o = w3 := ⟨_, rfl⟩
          obtain ⟨r, hr⟩ : ∃ r, wc.heap.size = r := ⟨_, rfl⟩
          rw [hr] at hgo ⊢
          rw [hw3] at hgo HM3 ⊢
          have hrw : w.heap.size ≤ r := by omega
          rw [hr] at lt1 lt2 lt3
          clear hrun hw3 hr hbl c2x
          go_cut [] (fun wx => Filling w wx xb x1 x2 D.size FF FF)
          case first =>
            go_wp2_with fail
            go_loopg [] cnt (fun kq w' => ∃ left F c, Sh (Goes w' r x2 (bmap FF) left c ∧ Filling w w' xb x1 x2 D.size F FF ∧ (∀ n, F n = if left n = true then none else FF n)) ∧ c ≤ kq)
            case atStart => exact ⟨_, _, _, ⟨hgo, HM3, fun n => by cases hn_ : FF n <;> simp [bmap, hn_]⟩, Nat.le_refl _⟩
            case round =>
              obtain ⟨left, F, c, ⟨hg, hm, hN⟩, hc⟩ := hrel
              rcases run_next (P := Try.prog) hg 0 with ⟨hl, hx⟩ | ⟨n, v, w4, c', hl, hv, hx, he, hg', hc', hk⟩
              · go_wp2_with fail
                go_meet
                case rel =>
                  have : F = FF := by funext k; rw [hN k, hl k]; rfl
                  exact this ▸ hm
              · have hmM := hm.kept' hk (fun i hi e => by rcases hi with hi | hi | hi | hi <;> omega)
                obtain ⟨l, hl1, rfl⟩ := Option.map_eq_some_iff.1 hv
                have hl32 := hfine n l hl1
                have hst := fun (W : World) (c : Array Value) (hc : c.size = 32) => run_storeCells_new (P := Try.prog) W 79 c (l.map (Value.int .u8)).toArray (by rw [size_blk]; simp [hl32]) (by simp [hl32, hc]) (all_oneCell_toArray (one_u8 l))
                unfold blk at hx he
                go_upto_region 41 with (fail)
                obtain ⟨w5, hw5⟩ : ∃ w5, w4.alloc (.cells (l.map (Value.int .u8)).toArray 79) = w5 := ⟨_, rfl⟩
                have hb5 : Below w4.heap.size w4 w5 := by rw [← hw5]; exact (Below.refl _ _).alloc (Nat.le_refl _) _
                have hg5 := hg'.kept (Kept.of_below (S := fun _ => False) hb5) (fun e => e) (fun e => e)
                have hm5 := hmM.kept' (Kept.of_below (S := fun _ => False) hb5) (fun _ _ e => e)
                have hr5 : w5.drew.rangeAt w4.heap.size 0 (l.map (.int .u8)) := fun j u hu => by
                  rw [← hw5, Nat.zero_add]
                  simp only [World.drew, World.cell?, heap_alloc_new]
                  simpa using hu
                have c1x : w5.cell? ⟨xb, 1, none⟩ = some (.map (some x1)) := by simp [World.cell?, hm5.head]
                rw [hw5]
                clear hx he hst hw5 hg hm hg' hmM hv
                refine Mo.region 6 [0, 1, 3, 7, 0, 0, 63] (fun w' => w' = w5.drew) (fun _ => Eq) (fun _ _ => True) (fun _ _ _ _ => True) rfl (fun _ => trivial) (fun _ _ _ h k => k ▸ h) (fun _ _ _ _ _ _ _ _ _ _ => trivial) (fun _ _ _ _ _ _ _ _ _ => trivial) mixed (by kernel_rfl) ?_
                simp only [List.take_succ_cons, List.take_zero, List.drop_succ_cons, List.drop_zero]
                refine Mo.val (v := ?_) (fun _ => rfl) (by rfl) (fun _ _ _ => trivial) ?_ ?_
                rotate_left
                · (intro w' hT hP hF; cases hT; go_simp; with_reducible rfl)
                simp only [Act.put, List.setIfInBounds_toArray, List.set_cons_zero, List.set_cons_succ]
                refine Mo.val (v := ?_) (fun _ => rfl) (by rfl) (fun _ _ _ => trivial) ?_ ?_
                rotate_left
                · (intro w' hT hP hF; cases hT; go_simp; with_reducible rfl)
                simp only [Act.put, List.setIfInBounds_toArray, List.set_cons_zero, List.set_cons_succ]
                refine Mo.val (v := ?_) (fun _ => rfl) (by rfl) (fun _ _ _ => trivial) ?_ ?_
                rotate_left
                · (intro w' hT hP hF; cases hT; go_simp; with_reducible rfl)
                simp only [Act.put, List.setIfInBounds_toArray, List.set_cons_zero, List.set_cons_succ]
                refine Mo.val (v := ?_) (fun _ => rfl) (by rfl) (fun _ _ _ => trivial) ?_ ?_
                rotate_left
                · (intro w' hT hP hF; cases hT; go_simp; with_reducible rfl)
                simp only [Act.put, List.setIfInBounds_toArray, List.set_cons_zero, List.set_cons_succ]
                refine Mo.val (v := ?_) (fun _ => rfl) (by rfl) (fun _ _ _ => trivial) ?_ ?_
                rotate_left
                · (intro w' hT hP hF; cases hT; go_simp; with_reducible rfl)
                simp only [Act.put, List.setIfInBounds_toArray, List.set_cons_zero, List.set_cons_succ]
                refine Mo.val (v := ?_) (fun _ => rfl) (by rfl) (fun _ _ _ => trivial) ?_ ?_
                rotate_left
                · (intro w' hT hP hF; refine exec_load_mid (P := Try.prog) 79 (.tmp 25) ?_ ?_ (show w'.rangeAt w4.heap.size 0 (l.map (.int .u8)) by cases hT; exact hr5) Try.underlying79 rfl (by rw [size_blk]; simp [hl32]) <;> rfl)
                simp only [Act.put, List.setIfInBounds_toArray, List.set_cons_zero, List.set_cons_succ]
                refine Mo.done ?_
                rintro w' rfl - -
                obtain ⟨es, ck, hup, hes⟩ := run_put (P := Try.prog) (w := w5.drew) (m := x1) (M := bmap F) hm5.first Try.underlying73 Try.underlying3 n (blk l)
                unfold blk at hup
                go_wp2_with fail
                obtain ⟨g1_, rfl⟩ : ∃ z, gk = z + 1 := ⟨gk - 1, by omega⟩
                go_roundg g1_
                case measure => omega
                case rel =>
                  have hm6 := hm5.drew.put (n := n) (l := l) hes
                  refine ⟨fun k => if k = n then false else left k, upd F n l, c', ⟨?_, hm6, fun k => ?_⟩, by omega⟩
                  · refine hg5.kept (S := fun k => k = x1) ((Kept.refl (fun k => k = x1) w5).drew.setBlock (Or.inr rfl) _) (fun e => ?_) (fun e => by omega)
                    exact hm5.apart e.symm
                  · show upd F n l k = if (if k = n then false else left k) = true then none else FF k
                    unfold upd
                    by_cases hkn : k = n
                    · subst hkn
                      rw [if_pos rfl, if_pos rfl, hl1]
                      rfl
                    · rw [if_neg hkn, if_neg hkn]
                      exact hN k
          case rest =>
            go_wp2_with fail
            go_ret
            refine ⟨xb, rfl, x1, x2, hcut.made _ hcok rfl hFF hFF rfl, hcut.below, fun i hi => ?_⟩
            rcases hi with hi | hi | hi | hi
            · have := hcut.newb; omega
            · have := hcut.new1; omega
            · have := hcut.new2; omega
            · cases hi
end Go.Proofs.Ytinhednmfldmbaa.Dk

namespace Go.Proofs.Ytinhednmfldmbaa.Dk
open Go Go.RowKit Hp Rd

/-- A row of 32 bytes. -/
def Row32 (w : World) (v : Value) (l : List Int) : Prop := l.length = 32 ∧ ∃ g off cap, v = .slice (some ⟨g, off, none⟩) 32 cap ∧ w.rangeAt g off (l.map (Value.int .u8))
theorem Row32.block {w : World} {v : Value} {l : List Int} (h : Row32 w v l) : ∃ g off cap, v = .slice (some ⟨g, off, none⟩) 32 cap ∧ g < w.heap.size ∧ w.rangeAt g off (l.map (Value.int .u8)) := by
  obtain ⟨h1, g, off, cap, rfl, h2⟩ := h
  refine ⟨g, off, cap, rfl, ?_, h2⟩
  have := h2 0 (.int .u8 (l[0]'(by omega))) (by rw [List.getElem?_map, List.getElem?_eq_getElem (by omega)]; rfl)
  exact World.block_lt_of_cell? w _ this
theorem Row32.below {w w' : World} {v : Value} {l : List Int} (h : Row32 w v l) (k : Below w.heap.size w w') : Row32 w' v l := by
  obtain ⟨g, off, cap, rfl, hg, h2⟩ := h.block
  exact ⟨h.1, g, off, cap, rfl, fun j u hu => by rw [k.cell hg]; exact h2 j u hu⟩
theorem Row32.conv {w : World} {v : Value} {l : List Int} (h : Row32 w v l) : (convert 31 9 v).run Try.prog w = .ok (.string (strOfNums l)) w := by
  obtain ⟨h1, g, off, cap, rfl, h2⟩ := h
  exact run_convert_bytes_arg (P := Try.prog) w 31 5 Try.underlying31 Try.underlying5 g off 32 cap l h1 (fun i hi => by
    rw [h2 i (.int .u8 (l.getD i 0)) (by rw [List.getElem?_map, List.getElem?_eq_getElem (by omega), List.getD_eq_getElem?_getD, List.getElem?_eq_getElem (by omega)]; rfl)]) 9 Try.underlying9
theorem Row32.own {w : World} {base : Nat} {v : Value} {l : List Int} (h : w.ownsRow base 5 1 v 32 (l.map (Value.int .u8))) (hl : l.length = 32) : Row32 w v l := by
  refine ⟨hl, ?_⟩
  rcases h.2 with ⟨h1, h2⟩ | ⟨g, cap, cur, h1, _⟩
  · omega
  · exact ⟨g, 0, cap, h1, fun j u hu => by have := h.cells (g := g) (by rw [h1]; rfl) j u hu; rwa [Addr.add_mid] at this⟩
theorem Row32.of_row {w : World} {v : Value} {l : List Int} (h : Row1 w (Value.int .u8) v l) (hl : l.length = 32) : Row32 w v l := by
  obtain ⟨a, cap, rfl, h0, h1⟩ := h
  cases a with
  | none => rw [(h0 rfl).1] at hl; simp at hl
  | some ad =>
    obtain ⟨_, hc⟩ := h1 ad rfl
    obtain ⟨b, off, sp⟩ := ad
    have h2 := hc 0 (l[0]'(by omega)) (List.getElem?_eq_getElem _)
    have : sp = none := by
      cases sp with
      | none => rfl
      | some x => simp [World.cell?, Addr.add] at h2; split at h2 <;> simp_all
    subst this
    refine ⟨hl, b, off, cap, by rw [hl], fun j u hu => ?_⟩
    rw [List.getElem?_map] at hu
    obtain ⟨x, hx, rfl⟩ := Option.map_eq_some_iff.1 hu
    have := hc j x hx
    rwa [Addr.add_mid] at this
/-- What a script's operation asks of its bytes. -/
structure OpAt (w : World) (o : OpD) (g off : Nat) : Prop where
  n : w.cell? ⟨g, off + 1, none⟩ = some (.int .i64 o.n)
  bytes : ∃ vb, w.cell? ⟨g, off + 2, none⟩ = some vb ∧ Row1 w (Value.int .u8) vb o.b
  len : o.b.length ≤ 140737488355328
  wn : (Lit.int .i64 o.n).wf = true
/-- A script. -/
def OpsAt (w : World) (v : Value) (l : List OpD) : Prop := l.length ≤ maxLen ∧ ∃ a cap, v = .slice a l.length cap ∧ ∀ (i : Nat) (o : OpD), l[i]? = some o → ∃ g off, a = some ⟨g, off, none⟩ ∧ OpAt w o g (off + i * 5)
theorem cells_five {w : World} {a : Addr} {c0 c1 c2 c3 c4 : Value} (h : w.cells? 0 a 5 = some [c0, c1, c2, c3, c4]) : a.spot = none ∧ w.cell? (a.add 1) = some c1 ∧ w.cell? (a.add 2) = some c2 := by
  unfold World.cells? at h
  split at h
  · have : List.range 5 = [0, 1, 2, 3, 4] := rfl
    rw [this] at h
    simp only [List.mapM_cons, List.mapM_nil, Option.bind_eq_bind, Option.bind_eq_some_iff, Option.pure_def, Option.some.injEq] at h
    obtain ⟨v0, h0, x1, ⟨v1, h1, x2, ⟨v2, h2, x3, ⟨v3, h3, x4, ⟨v4, h4, x5, rfl, rfl⟩, rfl⟩, rfl⟩, rfl⟩, e⟩ := h
    simp only [List.cons.injEq] at e
    obtain ⟨rfl, rfl, rfl, rfl, rfl, _⟩ := e
    refine ⟨?_, h1, h2⟩
    obtain ⟨b, off, sp⟩ := a
    cases sp with
    | none => rfl
    | some x => simp [World.cell?, Addr.add] at h0; split at h0 <;> simp_all
  · cases h
theorem arg_ops {w : World} {v : Value} (h : Arg Try.prog w 22 v) : ∃ l, OpsAt w v l := by
  obtain ⟨a, len, cap, rfl, hh⟩ := arg_slice Try.underlying22 h
  rcases hh with ⟨rfl, rfl, rfl⟩ | ⟨ad, rfl, hlc, hcm, _, hel⟩
  · exact ⟨[], by unfold maxLen; simp, none, 0, rfl, fun i o hi => by simp at hi⟩
  · rw [cells_op] at hel
    obtain ⟨l, hl, hp⟩ := list_of (p := fun i (o : OpD) => ∃ cs, w.cells? 0 (ad.add (i * 5)) 5 = some cs ∧ o.Reads w cs) len (fun i hi => by
      obtain ⟨es, h1, h2⟩ := hel i (by omega)
      obtain ⟨o, ho⟩ := rd_op h2
      exact ⟨o, es, h1, ho⟩)
    refine ⟨l, by omega, some ad, cap, by rw [hl], fun i o hi => ?_⟩
    obtain ⟨cs, h1, h2⟩ := hp i o hi
    obtain ⟨vb, vk, rfl, hb, _⟩ := h2.is
    obtain ⟨s0, h3, h4⟩ := cells_five h1
    have hsp : ad.spot = none := by
      have hl0 : 0 < l.length := by have := (List.getElem?_eq_some_iff.1 hi).1; omega
      obtain ⟨cs', k1, k2⟩ := hp 0 l[0] (List.getElem?_eq_getElem hl0)
      obtain ⟨vb', vk', rfl, _, _⟩ := k2.is
      have := (cells_five k1).1
      simpa [Addr.add] using this
    obtain ⟨b, off, sp⟩ := ad
    simp only at hsp
    subst hsp
    rw [Addr.add_mid, Addr.add_mid] at h3 h4
    exact ⟨b, off, rfl, h3, ⟨vb, h4, hb⟩, h2.len, h2.wn⟩
theorem row1_below {α : Type} {w w' : World} {f : α → Value} {v : Value} {l : List α} (h : Row1 w f v l) (k : Below w.heap.size w w') : Row1 w' f v l := by
  obtain ⟨a, cap, rfl, h0, h1⟩ := h
  refine ⟨a, cap, rfl, h0, fun ad ha => ?_⟩
  obtain ⟨h2, h3⟩ := h1 ad ha
  refine ⟨h2, fun i x hx => ?_⟩
  have := h3 i x hx
  rw [k.cell (World.block_lt_of_cell? w _ this)]
  exact this
theorem OpAt.below {w w' : World} {o : OpD} {g off : Nat} (h : OpAt w o g off) (k : Below w.heap.size w w') : OpAt w' o g off := by
  obtain ⟨vb, h1, h2⟩ := h.bytes
  refine ⟨?_, ⟨vb, ?_, row1_below h2 k⟩, h.len, h.wn⟩
  · rw [k.cell (World.block_lt_of_cell? w _ h.n)]; exact h.n
  · rw [k.cell (World.block_lt_of_cell? w _ h1)]; exact h1
/-- The calls, laid over the first blocks, are the blocks as they stand. -/
def Inv (D : St) : Prop := apply (drain D.calls D.first).1 (drain D.calls D.first).2 = D.now
theorem drain_snoc (cs : List Wr) (M : BM) (c : Wr) : drain (cs ++ [c]) M = step1 (drain cs M) c := by
  unfold drain
  rw [List.foldl_append]
  rfl
theorem inv_write {D : St} (h : Inv D) {n : Int} (l : List Int) (hn : 0 ≤ n) : Inv (D.write n l) := by
  unfold Inv St.write at *
  simp only
  rw [drain_snoc]
  have : ¬ (n = -1) := by omega
  simp only [step1, this, if_false]
  unfold apply at *
  rw [List.foldl_append, h]
  rfl
theorem drain_sync {D : St} (h : Inv D) : drain D.sync.calls D.first = (D.now, []) := by
  unfold St.sync
  simp only
  rw [drain_snoc]
  simp only [step1, if_true]
  rw [h]
theorem keep_nil (keep : List Bool) : keepOf keep [] = [] := rfl
/-- A disk synced and cut at its last call stands as it stood. -/
theorem cut_synced {D : St} (h : Inv D) (keep : List Bool) (torn : Int) : D.sync.cutM D.sync.calls.length keep torn = D.now := by
  unfold St.cutM
  have : pick (D.sync.calls.length : Int) (D.sync.calls.length + 1) = D.sync.calls.length := by
    unfold pick
    rw [if_neg (by omega)]
    exact Int.emod_eq_of_lt (by omega) (by omega)
  rw [this, Int.toNat_natCast, List.take_length]
  show layN _ (keepOf keep (drain D.sync.calls D.first).2) (drain D.sync.calls D.first).1 (keepOf keep (drain D.sync.calls D.first).2).length = _
  rw [drain_sync h]
  rfl
theorem cut_none (D : St) (keep : List Bool) (torn : Int) : D.cutM 0 keep torn = D.first := by
  unfold St.cutM
  have : pick 0 (D.calls.length + 1) = 0 := by
    unfold pick
    rw [if_neg (by omega)]
    exact Int.emod_eq_of_lt (by omega) (by omega)
  rw [this]
  rfl
end Go.Proofs.Ytinhednmfldmbaa.Dk

namespace Go.Proofs.Ytinhednmfldmbaa.Dk
open Go Go.RowKit Hp Rd

theorem drain_append {cs : List Wr} {M M' : BM} {r : List Wr} (h : drain cs M = (M', r)) : ∀ {W : List Wr} (_ : ∀ c ∈ W, 0 ≤ c.1), drain (cs ++ W) M = (M', r ++ W) := by
  intro W
  induction W generalizing cs r with
  | nil => intro _; simpa using h
  | cons c W ih =>
    intro hW
    have hc : ¬ (c.1 = -1) := by have := hW c (List.mem_cons.2 (Or.inl rfl)); omega
    have h1 : drain (cs ++ [c]) M = (M', r ++ [c]) := by
      rw [drain_snoc, h]
      simp [step1, hc]
    have := ih h1 (fun x hx => hW x (List.mem_cons.2 (Or.inr hx)))
    simpa using this
theorem lay_byte {t : Nat} (ht : t ≤ 32) {M0 : BM} (hM : Fine M0) {W kept : List Wr} (hk : ∀ c ∈ kept, c ∈ W) (hl : ∀ c ∈ W, c.2.length = 32) (n : Int) (k : Nat) (hk32 : k < 32) : ∀ j, ((layN t kept M0 j n).getD zeros).getD k 0 = ((M0 n).getD zeros).getD k 0 ∨ ∃ c ∈ W, c.1 = n ∧ c.2.getD k 0 = ((layN t kept M0 j n).getD zeros).getD k 0
  | 0 => Or.inl rfl
  | j + 1 => by
    have ih := lay_byte ht hM hk hl n k hk32 j
    cases hc : kept[j]? with
    | none =>
      have : layN t kept M0 (j + 1) = layN t kept M0 j := by
        conv => lhs; unfold layN
        rw [hc]
      rw [this]
      exact ih
    | some c =>
      have hcW := hk c (List.mem_of_getElem? hc)
      have hc32 := hl c hcW
      rw [lay_succ t kept M0 j c hc]
      by_cases hn : n = c.1
      · subst hn
        have hu : ∀ l, upd (layN t kept M0 j) c.1 l c.1 = some l := fun l => by simp [upd]
        rw [hu, Option.getD_some]
        split
        · unfold tornOf
          by_cases hkt : k < t
          · refine Or.inr ⟨c, hcW, rfl, ?_⟩
            rw [List.getD_eq_getElem?_getD, List.getD_eq_getElem?_getD, List.getElem?_append_left (by rw [List.length_take, hc32]; omega), List.getElem?_take, if_pos hkt]
          · have : (c.2.take t ++ ((layN t kept M0 j c.1).getD zeros).drop t).getD k 0 = ((layN t kept M0 j c.1).getD zeros).getD k 0 := by
              have htl : (c.2.take t).length = t := by rw [List.length_take, hc32]; omega
              rw [List.getD_eq_getElem?_getD, List.getD_eq_getElem?_getD, List.getElem?_append_right (by omega), htl, List.getElem?_drop]
              congr 2
              omega
            rw [this]
            exact ih
        · exact Or.inr ⟨c, hcW, rfl, rfl⟩
      · have hu : ∀ l, upd (layN t kept M0 j) c.1 l n = layN t kept M0 j n := fun l => by simp [upd, hn]
        rw [hu]
        exact ih
/-- Each byte of a block after a loss of power stood there at the last sync, or was written since. -/
theorem safe_byte {D1 D2 : St} {W : List Wr} {N0 : BM} (h1 : drain D1.calls D1.first = (N0, [])) (hN : Fine N0) (hc : D2.calls = D1.calls ++ W) (hf : D2.first = D1.first) (hW : ∀ c ∈ W, 0 ≤ c.1) (hl : ∀ c ∈ W, c.2.length = 32) (p : Nat) (hp1 : D1.calls.length ≤ p) (hp2 : p ≤ D2.calls.length) (keep : List Bool) (torn : Int) (n : Int) (k : Nat) (hk : k < 32) :
    ((D2.cutM p keep torn n).getD zeros).getD k 0 = ((N0 n).getD zeros).getD k 0 ∨ ∃ c ∈ W, c.1 = n ∧ c.2.getD k 0 = ((D2.cutM p keep torn n).getD zeros).getD k 0 := by
  have hpk : pick (p : Int) (D2.calls.length + 1) = (p : Int) := by
    unfold pick
    rw [if_neg (by omega)]
    exact Int.emod_eq_of_lt (by omega) (by omega)
  have htk : D2.calls.take p = D1.calls ++ W.take (p - D1.calls.length) := by
    rw [hc, List.take_append, List.take_of_length_le hp1]
  have hd : drain (D2.calls.take p) D2.first = (N0, W.take (p - D1.calls.length)) := by
    rw [htk, hf]
    have := drain_append h1 (W := W.take (p - D1.calls.length)) (fun c hc => hW c (List.mem_of_mem_take hc))
    simpa using this
  have hcut : D2.cutM p keep torn = layN (pick torn 33).toNat (keepOf keep (W.take (p - D1.calls.length))) N0 (keepOf keep (W.take (p - D1.calls.length))).length := by
    unfold St.cutM
    rw [hpk, Int.toNat_natCast, hd]
  rw [hcut]
  have ht := pick_lt torn 33 (by decide)
  exact lay_byte (by omega) hN (fun c hc => List.mem_of_mem_take (keep_mem hc)) hl n k hk _
theorem bcell' {w w' : World} {p : Addr} {v : Value} (k : Below w.heap.size w w') (h : w.cell? p = some v) : w'.cell? p = some v := (k.cell (World.block_lt_of_cell? w p h)).trans h
theorem kept_cell' {S : Nat → Prop} {w w' : World} {p : Addr} {v : Value} (k : Kept S w w') (h : w.cell? p = some v) (hS : ¬ S p.block) : w'.cell? p = some v := by
  have := k.block p.block (World.block_lt_of_cell? w p h) hS
  unfold World.cell? at h ⊢
  rw [this]
  exact h
theorem lit_small' {x : Int} (h0 : 0 ≤ x) (h1 : x < 1000000000000) : (Lit.int .i64 x).wf = true := by
  simp only [Lit.wf, IntKind.min, IntKind.max, IntKind.bits, IntKind.signed, Bool.and_eq_true]
  simp
  omega
theorem lit_range {x : Int} (h : (Lit.int .i64 x).wf = true) : -9223372036854775808 ≤ x ∧ x ≤ 9223372036854775807 := by
  simp only [Lit.wf, IntKind.min, IntKind.max, IntKind.bits, IntKind.signed, Bool.and_eq_true] at h
  simpa using h
theorem Row32.kept {S : Nat → Prop} {w w' : World} {v : Value} {l : List Int} (h : Row32 w v l) (k : Kept S w w') (hS : ∀ g off cap, v = .slice (some ⟨g, off, none⟩) 32 cap → ¬ S g) : Row32 w' v l := by
  obtain ⟨h1, g, off, cap, rfl, h2⟩ := h
  exact ⟨h1, g, off, cap, rfl, fun j u hu => kept_cell' k (h2 j u hu) (hS _ _ _ rfl)⟩
/-- The disk, and the last operation's cells, of a script. -/
structure Sst (w w' : World) (b m1 m2 : Nat) (o : OpD) (vk : Value) (sv : Value) (D : St) : Prop where
  disk : DiskIs w' b m1 m2 sv D
  size : D.size = 12
  below : Below w.heap.size w w'
  nn : w'.cell? ⟨w.heap.size, 1, none⟩ = some (.int .i64 o.n)
  keep : w'.cell? ⟨w.heap.size, 3, none⟩ = some vk
  torn : w'.cell? ⟨w.heap.size, 4, none⟩ = some (.int .i64 o.torn)
  far : ∀ i, foot b m1 m2 sv i → w.heap.size < i
theorem Sst.step {S : Nat → Prop} {w w' w'' : World} {b m1 m2 : Nat} {o : OpD} {vk sv : Value} {D : St} (h : Sst w w' b m1 m2 o vk sv D) (K : Kept S w' w'') (hS : ∀ i, foot b m1 m2 sv i ∨ i ≤ w.heap.size → ¬ S i) : Sst w w'' b m1 m2 o vk sv D :=
  ⟨h.disk.kept K (fun i hi => hS i (.inl hi)), h.size, h.below.trans (K.below h.below.size (fun i hi => hS i (.inr (Nat.le_of_lt hi)))), kept_cell' K h.nn (hS _ (.inr (Nat.le_refl _))), kept_cell' K h.keep (hS _ (.inr (Nat.le_refl _))), kept_cell' K h.torn (hS _ (.inr (Nat.le_refl _))), h.far⟩
theorem Sst.next {w w' w'' : World} {b m1 m2 : Nat} {o : OpD} {vk sv sv' : Value} {D D' : St} (h : Sst w w' b m1 m2 o vk sv D) (hd : DiskIs w'' b m1 m2 sv' D') (hs : D'.size = D.size) (K : Kept (foot b m1 m2 sv) w' w'') (hsv : ∀ i, sv'.ownBlock = some i → sv.ownBlock = some i ∨ w'.heap.size ≤ i) : Sst w w'' b m1 m2 o vk sv' D' := by
  have hk : ¬ foot b m1 m2 sv w.heap.size := fun hf => by have := h.far _ hf; omega
  have hb2 : Below w.heap.size w w'' := h.below.trans (K.below h.below.size (fun i hi hf => by have := h.far _ hf; omega))
  have h2 : w.heap.size < w'.heap.size := World.block_lt_of_cell? w' _ h.nn
  refine ⟨hd, hs.trans h.size, hb2, kept_cell' K h.nn hk, kept_cell' K h.keep hk, kept_cell' K h.torn hk, fun i hi => ?_⟩
  rcases hi with hi | hi | hi | hi
  · exact h.far i (.inl hi)
  · exact h.far i (.inr (.inl hi))
  · exact h.far i (.inr (.inr (.inl hi)))
  · rcases hsv i hi with h7 | h7
    · exact h.far i (.inr (.inr (.inr h7)))
    · omega
theorem own_base {w : World} {base base' : Nat} {e : TypeId} {size : Nat} {v : Value} {n : Nat} {xs : List Value} (h : w.ownsRow base e size v n xs) (hb : base' ≤ base) : w.ownsRow base' e size v n xs := by
  refine ⟨h.1, ?_⟩
  rcases h.2 with h2 | ⟨g, cap, cur, h1, h2, h3⟩
  · exact .inl h2
  · exact .inr ⟨g, cap, cur, h1, Nat.le_trans hb h2, h3⟩
theorem info_row' : (Try.prog.info? 31).map (fun i => (i.zero, i.size, i.bytes)) = some (some (.slice none 0 0), 1, 24) := by kernel_rfl
end Go.Proofs.Ytinhednmfldmbaa.Dk
