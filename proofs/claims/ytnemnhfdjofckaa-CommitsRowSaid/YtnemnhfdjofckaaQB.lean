/- Maps keyed by int, told as functions; which blocks of a world have turned. Appends to a row that is the call's own, and where the new row lies. What came in, read type by type: what the reader's word says of the cells. Bytes that can be read. A whole struct in its block: stored, loaded, returned. Numbers out of bytes, the lowest first. Numbers' bytes, the lowest first. Files in rows; are they right? commits.Commit.right, plainly. -/
import Derived.Maps.RangeRun
import Derived.MapKept
import Derived.Below
import Derived.LaidMore
import Derived.Laws.AppendOwn
import Derived.Laws.OwnMore
import GoSem.ClaimJoined
import Derived.WideShapes
import Derived.RowKit
import Derived.Deep.MidRow
import Derived.Laws.Cover2
import Derived.Test.YtnemnhfdjofckaaPrint0
import Derived.WalkKit
import Derived.Laws.ResultCell
import Derived.Laws.BitsAllLaws
import Derived.Laws.BitsLemmas
import Derived.Test.YtnemnhfdjofckaaQA
import Derived.Test.YtnemnhfdjofckaaRightP
import Derived.Test.YtnemnhfdjofckaaPrintF20
namespace Go.Proofs.Ytnemnhfdjofckaa.Hp
open Go Go.RowKit Go.ChangeMaps Go.MapKept
/-- A fact, shut: the walk does not look into it. -/
structure Sh (p : Prop) : Prop where
  out : p
/-- Of what was there, nothing but the blocks of S has turned. -/
structure Kept (S : Nat → Prop) (w w' : World) : Prop where
  os : w'.os = w.os
  tape : w'.tape = w.tape
  output : w'.output = w.output
  size : w.heap.size ≤ w'.heap.size
  block : ∀ k, k < w.heap.size → ¬ S k → w'.heap[k]? = w.heap[k]?
theorem Kept.refl (S : Nat → Prop) (w : World) : Kept S w w := ⟨rfl, rfl, rfl, Nat.le_refl _, fun _ _ _ => rfl⟩
theorem Kept.trans {S S' : Nat → Prop} {a b c : World} (h : Kept S a b) (k : Kept S' b c) (hS : ∀ i, i < a.heap.size → S' i → S i) : Kept S a c :=
  ⟨k.os.trans h.os, k.tape.trans h.tape, k.output.trans h.output, Nat.le_trans h.size k.size, fun i hi hn => (k.block i (Nat.lt_of_lt_of_le hi h.size) (fun e => hn (hS i hi e))).trans (h.block i hi hn)⟩
theorem Kept.mono {S S' : Nat → Prop} {a b : World} (h : Kept S a b) (hS : ∀ i, i < a.heap.size → S i → S' i) : Kept S' a b :=
  ⟨h.os, h.tape, h.output, h.size, fun i hi hn => h.block i hi (fun e => hn (hS i hi e))⟩
theorem Kept.of_below {S : Nat → Prop} {a b : World} (h : Below a.heap.size a b) : Kept S a b := ⟨h.os, h.tape, h.output, h.size, fun i hi _ => h.block i hi⟩
theorem Kept.below {S : Nat → Prop} {B : Nat} {a b : World} (h : Kept S a b) (hB : B ≤ a.heap.size) (hS : ∀ i, i < B → ¬ S i) : Below B a b := ⟨h.os, h.tape, h.output, h.size, fun i hi => h.block i (by omega) (hS i hi)⟩
/-- Then a step that leaves what stands. -/
theorem Kept.then {S : Nat → Prop} {a b c : World} (h : Kept S a b) (k : Below b.heap.size b c) : Kept S a c := h.trans (S' := fun _ => False) (Kept.of_below k) (fun _ _ e => e.elim)
theorem Kept.after {S : Nat → Prop} {a b c : World} (h : Below a.heap.size a b) (k : Kept S b c) : Kept S a c := (Kept.of_below (S := S) h).trans k (fun _ _ e => e)
theorem Kept.drew {S : Nat → Prop} {a b : World} (h : Kept S a b) : Kept S a b.drew := ⟨h.os, h.tape, h.output, h.size, h.block⟩
theorem Kept.alloc {S : Nat → Prop} {a b : World} (h : Kept S a b) (o : Obj) : Kept S a (b.alloc o) := h.then ((Below.refl _ _).alloc (Nat.le_refl _) o)
theorem Kept.setCell {S : Nat → Prop} {a b : World} (h : Kept S a b) {p : Addr} (hp : a.heap.size ≤ p.block ∨ S p.block) (u : Value) : Kept S a (b.setCell p u) :=
  ⟨h.os, h.tape, h.output, by simpa [World.setCell] using h.size, fun i hi hn => (Below.heap_setCell b p u i (fun e => by subst e; rcases hp with hp | hp; omega; exact hn hp)).trans (h.block i hi hn)⟩
theorem Kept.setBlock {S : Nat → Prop} {a b : World} (h : Kept S a b) {m : Nat} (hm : a.heap.size ≤ m ∨ S m) (o : Obj) : Kept S a (setBlock b m o) :=
  ⟨h.os, h.tape, h.output, by simpa [Go.ChangeMaps.setBlock] using h.size, fun i hi hn => by
    have hne : m ≠ i := fun e => by subst e; rcases hm with hm | hm; omega; exact hn hm
    rw [← h.block i hi hn]
    simp [Go.ChangeMaps.setBlock, Array.getElem?_setIfInBounds_ne hne]⟩
theorem Kept.grown {S : Nat → Prop} {a b c : World} {row : Option Nat} (h : Kept S a b) (hg : b.grownBy c row) (hr : ∀ k, row = some k → a.heap.size ≤ k ∨ S k) : Kept S a c :=
  ⟨hg.os.trans h.os, hg.tape.trans h.tape, hg.output.trans h.output, Nat.le_trans h.size hg.size, fun i hi hn =>
    (hg.block i (Nat.lt_of_lt_of_le hi h.size) (fun e => by rcases hr i e.symm with h1 | h1; omega; exact hn h1)).trans (h.block i hi hn)⟩
theorem lt_of_heap {w : World} {b : Nat} {o : Obj} (h : w.heap[b]? = some o) : b < w.heap.size := (Array.getElem?_eq_some_iff.1 h).1
theorem Kept.heap {S : Nat → Prop} {a b : World} (h : Kept S a b) {k : Nat} {o : Obj} (hk : a.heap[k]? = some o) (hn : ¬ S k) : b.heap[k]? = some o := (h.block k (lt_of_heap hk) hn).trans hk
/-- A map's entries, told as a function. -/
def Ents (es : Array MapEntry) (clock : Nat) (M : Int → Option Value) : Prop :=
  Stamped es clock ∧ (∀ e ∈ es.toList, ∃ n, e.key = .int .i64 n ∧ M n = some e.val) ∧ ∀ n v, M n = some v → ∃ e ∈ es.toList, e.key = .int .i64 n
def MapIs (w : World) (m : Nat) (M : Int → Option Value) : Prop := ∃ es clock, w.heap[m]? = some (.map es clock) ∧ Ents es clock M
def put (M : Int → Option Value) (n : Int) (v : Value) : Int → Option Value := fun k => if k = n then some v else M k
theorem Ents.keys {es : Array MapEntry} {clock : Nat} {M : Int → Option Value} (h : Ents es clock M) : ∀ x ∈ es.toList, IsKey (.int .i64) x.key := fun x hx => by
  obtain ⟨n, hn, _⟩ := h.2.1 x hx
  rw [hn]
  exact rfl
theorem ents_empty (c : Nat) : Ents #[] c (fun _ => none) := ⟨stamped_empty c, by simp, by simp⟩
theorem MapIs.lt {w : World} {m : Nat} {M : Int → Option Value} (h : MapIs w m M) : m < w.heap.size := by
  obtain ⟨es, clock, hb, _⟩ := h
  exact lt_of_heap hb
theorem MapIs.kept {S : Nat → Prop} {w w' : World} {m : Nat} {M : Int → Option Value} (h : MapIs w m M) (k : Kept S w w') (hm : ¬ S m) : MapIs w' m M := by
  obtain ⟨es, clock, hb, he⟩ := h
  exact ⟨es, clock, k.heap hb hm, he⟩
theorem MapIs.new (w : World) : MapIs (w.alloc (.map #[] 0)) w.heap.size (fun _ => none) := ⟨#[], 0, (heap_alloc w _).1, ents_empty 0⟩
section
variable {P : Program}
theorem MapIs.put {w : World} {m : Nat} {M M' : Int → Option Value} (h : MapIs w m M) {es : Array MapEntry} {clock : Nat} (he : Ents es clock M') : MapIs (setBlock w m (.map es clock)) m M' := by
  obtain ⟨es0, clock0, hb, _⟩ := h
  exact ⟨es, clock, (heap_set hb).1, he⟩
/-- 'for n, v := range m' under way: 'left' says which keys are to come. -/
def Goes (w : World) (r m : Nat) (M : Int → Option Value) (left : Int → Bool) (cnt : Nat) : Prop :=
  ∃ es clock since seen c0, w.heap[m]? = some (.map es clock) ∧ Ents es clock M ∧ w.heap[r]? = some (.mapIter (some m) since seen c0) ∧ (∀ x ∈ es.toList, x.born < since) ∧ since ≤ c0 ∧ since ≤ clock ∧ (leftOf es seen).size = cnt ∧
    (∀ x ∈ es.toList, ∀ n, x.key = .int .i64 n → left n = !seen.contains x.born) ∧ ∀ n, left n = true → ∃ v, M n = some v
theorem Goes.map {w : World} {r m : Nat} {M : Int → Option Value} {left : Int → Bool} {cnt : Nat} (h : Goes w r m M left cnt) : MapIs w m M := by
  obtain ⟨es, clock, _, _, _, hb, he, _⟩ := h
  exact ⟨es, clock, hb, he⟩
theorem Goes.kept {S : Nat → Prop} {w w' : World} {r m : Nat} {M : Int → Option Value} {left : Int → Bool} {cnt : Nat} (h : Goes w r m M left cnt) (k : Kept S w w') (hm : ¬ S m) (hr : ¬ S r) : Goes w' r m M left cnt := by
  obtain ⟨es, clock, since, seen, c0, hb, he, hi, rest⟩ := h
  exact ⟨es, clock, since, seen, c0, k.heap hb hm, he, k.heap hi hr, rest⟩
end
end Go.Proofs.Ytnemnhfdjofckaa.Hp
namespace Go.Proofs.Ytnemnhfdjofckaa.Ow
open Go
section
variable {P : Program} (w : World)
theorem run_append (base : Nat) (t ty e : TypeId) (i : TypeInfo) (z : Value) (size bytes : Nat) (ht : P.underlying t = some (.slice e)) (hi : P.info? e = some i) (hz : i.zero = some z)
    (hsize : i.size = size) (hby : i.bytes = bytes) (hzs : z.cells.size = size) (hsz : 0 < size)
    (v : Value) (n : Nat) (xs : List Value) (hown : w.ownsRow base e size v n xs)
    (a : Addr) (m c : Nat) (news : List Value) (hl : news.length = m * size) (hnews : ∀ j u, news[j]? = some u → w.cell? (a.add j) = some u) (h1 : ∀ u ∈ news, u.oneCell' = true)
    (h63 : n + m ≤ maxLen) (hbytes : (n + m) * bytes ≤ 140737488355328) (hbase : base ≤ w.heap.size) :
    ∃ v' w', (Builtin.append_ #[t, t] ty #[v, .slice (some a) m c]).run P w = .ok v' w' ∧ w'.ownsRow base e size v' (n + m) (xs ++ news) ∧ w.grownBy w' v.ownBlock ∧
      (v' = .slice none 0 0 ↔ v = .slice none 0 0 ∧ m = 0) ∧ ∀ k, v'.ownBlock = some k → v.ownBlock = some k ∨ w.heap.size ≤ k := by
  obtain ⟨v', w', hr, h2, h3, h4⟩ := run_append_own (P := P) w base t ty e i z size bytes ht hi hz hsize hby hzs hsz v n xs hown a m c news hl hnews h1 h63 hbytes hbase
  refine ⟨v', w', hr, h2, h3, h4, fun k hk => ?_⟩
  rcases hown.2 with ⟨rfl, rfl⟩ | ⟨g, cap, cur, rfl, hbg, hg, hnc, hcm, hcs, htake⟩
  · have hx : xs = [] := List.eq_nil_of_length_eq_zero (by simpa using hown.1)
    subst hx
    obtain ⟨v2, w2, hr2, h22, _, _⟩ := run_append_own (P := P) w w.heap.size t ty e i z size bytes ht hi hz hsize hby hzs hsz (.slice none 0 0) 0 [] (World.ownsRow_nil _ _ _ _) a m c news hl hnews h1 h63 hbytes (Nat.le_refl _)
    rw [hr] at hr2
    cases hr2
    exact Or.inr (h22.lt k hk).1
  · by_cases hroom : n + m ≤ cap
    · have hfit : n * i.size + news.length ≤ cur.size := by rw [hl, hcs, hsize, ← Nat.add_mul]; exact Nat.mul_le_mul_right _ hroom
      have hr2 := run_append_room (P := P) w t ty e i ht hi g n cap cur hg a m c news (by rw [hsize]; exact hl) hnews h1 hroom hfit
      rw [hr] at hr2
      cases hr2
      exact Or.inl hk
    · subst hsize
      subst hby
      have holds : ∀ j u, xs[j]? = some u → w.cell? ((⟨g, 0, none⟩ : Addr).add j) = some u := hown.cells (g := g) rfl
      have hr2 := run_append_grow (P := P) w t ty e i z ht hi hz ⟨g, 0, none⟩ n cap xs hown.1 holds a m c news hl hnews (by omega) (by unfold maxLen at h63; omega) (growslice_fits (by unfold maxLen at h63; omega) hbytes)
      rw [hr] at hr2
      cases hr2
      simp [Value.ownBlock] at hk
      exact Or.inr (by omega)
theorem wp_append {o : Oper} {a : Act} {K : Act → World → Prop} {Q : Exit → Act → World → Prop} (s x : Operand) (t : TypeId)
    (ho : o.op = .call { callee := .builtin .append, args := #[s, x], argTypes := #[t, t] })
    (base : Nat) (e : TypeId) (i : TypeInfo) (z : Value) (size bytes : Nat) (ht : P.underlying t = some (.slice e)) (hi : P.info? e = some i) (hz : i.zero = some z)
    (hsize : i.size = size) (hby : i.bytes = bytes) (hzs : z.cells.size = size) (hsz : 0 < size)
    (v : Value) (n : Nat) (xs : List Value) (hs : a.eval s = v) (hown : w.ownsRow base e size v n xs)
    (ad : Addr) (m c : Nat) (news : List Value) (hx : a.eval x = .slice (some ad) m c) (hl : news.length = m * size) (hnews : ∀ j u, news[j]? = some u → w.cell? (ad.add j) = some u) (h1 : ∀ u ∈ news, u.oneCell' = true)
    (h63 : n + m ≤ maxLen) (hbytes : (n + m) * bytes ≤ 140737488355328) (hbase : base ≤ w.heap.size)
    (h : ∀ v' w', w'.ownsRow base e size v' (n + m) (xs ++ news) → w.grownBy w' v.ownBlock → (v' = .slice none 0 0 ↔ v = .slice none 0 0 ∧ m = 0) → (∀ k, v'.ownBlock = some k → v.ownBlock = some k ∨ w.heap.size ≤ k) → K (a.put o.dst v') w') : o.wp P a w K Q := by
  obtain ⟨v', w', hr, h2, h3, h4, h5⟩ := run_append (P := P) w base t o.type e i z size bytes ht hi hz hsize hby hzs hsz v n xs hown ad m c news hl hnews h1 h63 hbytes hbase
  unfold Oper.wp execOp
  simp only [ho, resolve, invoke, builtin, Sem.run_bind, Sem.run_pure, Result.andThen_ok, List.map_toArray, List.map_cons, List.map_nil, hs, hx, hr]
  exact h v' w' h2 h3 h4 h5
theorem wpList_append {ops : Array Oper} {rest : List Oper} {o : Oper} {a : Act} {Q : Exit → Act → World → Prop} (hgd : o.guard = none) (s x : Operand) (t : TypeId)
    (ho : o.op = .call { callee := .builtin .append, args := #[s, x], argTypes := #[t, t] })
    (base : Nat) (e : TypeId) (i : TypeInfo) (z : Value) (size bytes : Nat) (ht : P.underlying t = some (.slice e)) (hi : P.info? e = some i) (hz : i.zero = some z)
    (hsize : i.size = size) (hby : i.bytes = bytes) (hzs : z.cells.size = size) (hsz : 0 < size)
    (v : Value) (n : Nat) (xs : List Value) (hs : a.eval s = v) (hown : w.ownsRow base e size v n xs)
    (ad : Addr) (m c : Nat) (news : List Value) (hx : a.eval x = .slice (some ad) m c) (hl : news.length = m * size) (hnews : ∀ j u, news[j]? = some u → w.cell? (ad.add j) = some u) (h1 : ∀ u ∈ news, u.oneCell' = true)
    (h63 : n + m ≤ maxLen) (hbytes : (n + m) * bytes ≤ 140737488355328) (hbase : base ≤ w.heap.size)
    (h : ∀ v' w', w'.ownsRow base e size v' (n + m) (xs ++ news) → w.grownBy w' v.ownBlock → (v' = .slice none 0 0 ↔ v = .slice none 0 0 ∧ m = 0) → (∀ k, v'.ownBlock = some k → v.ownBlock = some k ∨ w.heap.size ≤ k) → wpList P ops Q rest (a.put o.dst v') w') : wpList P ops Q (o :: rest) a w :=
  wpList_plain hgd fun _ hK => wp_append w s x t ho base e i z size bytes ht hi hz hsize hby hzs hsz v n xs hs hown ad m c news hx hl hnews h1 h63 hbytes hbase fun v' w' k1 k2 k3 k4 => hK _ _ (h v' w' k1 k2 k3 k4)
/-- A guard: the operation writes this slot. -/
theorem at_slot {w : World} (d : Nat) {op : Op} {type : TypeId} {pos : String} {after : Array Edge} {guard : Option (Nat × Bool)} {ops : Array Oper} {rest : List Oper} {a : Act} {Q : Exit → Act → World → Prop}
    (h : wpList P ops Q (⟨some d, op, type, pos, after, guard⟩ :: rest) a w) : wpList P ops Q (⟨some d, op, type, pos, after, guard⟩ :: rest) a w := h
end
end Go.Proofs.Ytnemnhfdjofckaa.Ow
namespace Go.Proofs.Ytnemnhfdjofckaa.Rd
open Go Go.WideShapes
/-- The cells read, at their type, and nothing in them is larger than the reach. -/
def Rd (P : Program) (w : World) (t : TypeId) (cs : List Value) : Prop :=
  ∃ (H : Type) (enc : TypeId × Value → H) (fuel : Nat) (d : DataW H) (ps : List MemPlace), DataW.trod enc P w 0 (fun _ => true) true fuel t cs = some (d, ps) ∧ ∀ n ∈ d.weights P t, n ≤ reachBytes
/-- An argument. -/
def Arg (P : Program) (w : World) (t : TypeId) (v : Value) : Prop := (∃ base, Value.okWide P w .any base t v) ∧ Rd P w t v.cells.toList
section
variable {P : Program} {w : World} {t : TypeId} {cs : List Value}
theorem rd_int {k : IntKind} (ht : P.underlying t = some (.int k)) (h : Rd P w t cs) : ∃ n, cs = [.int k n] ∧ (Lit.int k n).wf = true := by
  obtain ⟨H, enc, fuel, d, ps, h, _⟩ := h
  cases fuel with
  | zero => simp [DataW.trod] at h
  | succ fuel =>
    unfold DataW.trod at h
    rw [ht] at h
    match cs, h with
    | [.int k' n], h =>
      simp only at h
      split at h
      · rename_i hk
        obtain ⟨rfl, hw⟩ := hk
        exact ⟨n, rfl, hw⟩
      · cases h
theorem rd_string (ht : P.underlying t = some .string) (h : Rd P w t cs) : ∃ s, cs = [.string s] ∧ s.size ≤ 140737488351232 := by
  obtain ⟨H, enc, fuel, d, ps, h, hs⟩ := h
  cases fuel with
  | zero => simp [DataW.trod] at h
  | succ fuel =>
    unfold DataW.trod at h
    rw [ht] at h
    match cs, h with
    | [.string s], h =>
      simp only at h
      split at h
      · obtain ⟨rfl, _⟩ := Prod.mk.inj (Option.some.inj h)
        refine ⟨s, rfl, ?_⟩
        have := hs s.data.toList.length (by simp [DataW.weights])
        simpa [reachBytes] using this
      · cases h
theorem mapM_some {α β : Type} {f : α → Option β} : ∀ {l : List α} {r : List β}, l.mapM f = some r → r.length = l.length ∧ ∀ (i : Nat) (x : α), l[i]? = some x → ∃ y, r[i]? = some y ∧ f x = some y
  | [], r, h => by
    simp at h
    subst h
    exact ⟨rfl, by simp⟩
  | a :: l, r, h => by
    simp only [List.mapM_cons, Option.bind_eq_bind, Option.bind_eq_some_iff] at h
    obtain ⟨y, hy, ys, hys, hr⟩ := h
    obtain rfl : y :: ys = r := by simpa using hr
    obtain ⟨h1, h2⟩ := mapM_some hys
    refine ⟨by simp [h1], fun i x hx => ?_⟩
    cases i with
    | zero =>
      simp at hx
      subst hx
      exact ⟨y, rfl, hy⟩
    | succ i => simpa using h2 i x (by simpa using hx)
theorem weightsAll_mem {H : Type} {e : TypeId} : ∀ {l : List (DataW H)} {d : DataW H} {n : Nat}, d ∈ l → n ∈ d.weights P e → n ∈ DataW.weightsAll P e l
  | x :: l, d, n, hd, hn => by
    simp only [DataW.weightsAll, List.mem_append]
    rcases List.mem_cons.1 hd with rfl | h
    · exact Or.inl hn
    · exact Or.inr (weightsAll_mem h hn)
theorem weightsEach_mem {H : Type} : ∀ {ts : List TypeId} {l : List (DataW H)} {i : Nat} {t : TypeId} {d : DataW H} {n : Nat}, ts[i]? = some t → l[i]? = some d → n ∈ d.weights P t → n ∈ DataW.weightsEach P ts l
  | t0 :: ts, d0 :: l, 0, t, d, n, ht, hd, hn => by
    simp at ht hd
    subst ht; subst hd
    simp only [DataW.weightsEach, List.mem_append]
    exact Or.inl hn
  | t0 :: ts, d0 :: l, i + 1, t, d, n, ht, hd, hn => by
    simp only [DataW.weightsEach, List.mem_append]
    exact Or.inr (weightsEach_mem (by simpa using ht) (by simpa using hd) hn)
  | [], _, _, _, _, _, ht, _, _ => by simp at ht
  | _ :: _, [], _, _, _, _, _, hd, _ => by simp at hd
/-- A slice: nil, or a row each of whose elements reads. -/
theorem rd_slice {e : TypeId} (ht : P.underlying t = some (.slice e)) (h : Rd P w t cs) : ∃ a len cap, cs = [.slice a len cap] ∧ ((a = none ∧ len = 0 ∧ cap = 0) ∨ ∃ ad, a = some ad ∧ len ≤ cap ∧ cap ≤ maxLen ∧ cap * P.bytesOf e ≤ 140737488351232 ∧
    ∀ i, i < cap → ∃ es, w.cells? 0 (ad.add (i * P.cellsOf e)) (P.cellsOf e) = some es ∧ Rd P w e es) := by
  obtain ⟨H, enc, fuel, d, ps, h, hs⟩ := h
  cases fuel with
  | zero => simp [DataW.trod] at h
  | succ fuel =>
    unfold DataW.trod at h
    rw [ht] at h
    match cs, h with
    | [.slice none 0 0], h => exact ⟨none, 0, 0, rfl, Or.inl ⟨rfl, rfl, rfl⟩⟩
    | [.slice (some ad) len cap], h =>
      refine ⟨some ad, len, cap, rfl, Or.inr ⟨ad, rfl, ?_⟩⟩
      simp only at h
      split at h
      case isFalse => cases h
      rename_i hc
      obtain ⟨_, hlc, hcm⟩ := hc
      simp only [if_true, Option.bind_eq_some_iff, Option.map_eq_some_iff] at h
      obtain ⟨es, hes, rs, hrs, heq⟩ := h
      obtain ⟨hd, _⟩ := Prod.mk.inj heq
      subst hd
      obtain ⟨l1, g1⟩ := mapM_some hes
      obtain ⟨l2, g2⟩ := mapM_some hrs
      simp only [List.length_range] at l1 l2
      have hw : ∀ n ∈ ((es.map (·.1)).length + (rs.map (·.1)).length) * P.bytesOf e :: (DataW.weightsAll P e (es.map (·.1)) ++ DataW.weightsAll P e (rs.map (·.1))), n ≤ reachBytes := by
        intro n hn
        exact hs n (by simp only [DataW.weights, ht]; exact hn)
      refine ⟨hlc, hcm, ?_, fun i hi => ?_⟩
      · have := hw _ (List.mem_cons.2 (Or.inl rfl))
        rw [List.length_map, List.length_map, l1, l2, show len + (cap - len) = cap by omega] at this
        simpa [reachBytes] using this
      · rcases Nat.lt_or_ge i len with h1 | h1
        · obtain ⟨y, hy, hf⟩ := g1 i i (by rw [List.getElem?_range h1])
          obtain ⟨cl, hcl, htr⟩ := Option.bind_eq_some_iff.1 hf
          exact ⟨cl, hcl, H, enc, fuel, y.1, y.2, htr, fun n hn => hw n (List.mem_cons.2 (Or.inr (List.mem_append.2 (Or.inl (weightsAll_mem (List.mem_map.2 ⟨y, List.mem_of_getElem? hy, rfl⟩) hn)))))⟩
        · obtain ⟨y, hy, hf⟩ := g2 (i - len) (i - len) (by rw [List.getElem?_range (by omega)])
          obtain ⟨cl, hcl, htr⟩ := Option.bind_eq_some_iff.1 hf
          rw [show len + (i - len) = i by omega] at hcl
          exact ⟨cl, hcl, H, enc, fuel, y.1, y.2, htr, fun n hn => hw n (List.mem_cons.2 (Or.inr (List.mem_append.2 (Or.inr (weightsAll_mem (List.mem_map.2 ⟨y, List.mem_of_getElem? hy, rfl⟩) hn)))))⟩
/-- A struct: each field reads. -/
theorem rd_struct {fs : Array Field} (ht : P.underlying t = some (.struct fs)) (h : Rd P w t cs) : cs.length = P.cellsOf t ∧ ∀ (i : Nat) (f : Field), fs.toList[i]? = some f → Rd P w f.type ((cs.drop f.offset).take (P.cellsOf f.type)) := by
  obtain ⟨H, enc, fuel, d, ps, h, hs⟩ := h
  cases fuel with
  | zero => simp [DataW.trod] at h
  | succ fuel =>
    unfold DataW.trod at h
    rw [ht] at h
    simp only at h
    split at h
    case isFalse => cases h
    rename_i hl
    obtain ⟨xs, hxs, heq⟩ := Option.map_eq_some_iff.1 h
    obtain ⟨hd, _⟩ := Prod.mk.inj heq
    subst hd
    obtain ⟨l1, g1⟩ := mapM_some hxs
    refine ⟨hl, fun i f hf => ?_⟩
    obtain ⟨y, hy, htr⟩ := g1 i f hf
    refine ⟨H, enc, fuel, y.1, y.2, htr, fun n hn => hs n ?_⟩
    simp only [DataW.weights, ht]
    exact weightsEach_mem (i := i) (by rw [List.getElem?_map, hf]; rfl) (by rw [List.getElem?_map, hy]; rfl) hn
/-- Arguments out of the row's own words. -/
theorem arg_of {H : Type} {enc : TypeId × Value → H} {base : Nat} {v : Value} {d : DataW H} {p : List MemPlace} (ho : Value.okWide P w .any base t v) (h : DataW.Trod enc P w 0 (fun _ => true) true t v d p) (hs : ∀ n ∈ d.weights P t, n ≤ reachBytes) : Arg P w t v := by
  obtain ⟨fuel, h⟩ := h
  exact ⟨⟨base, ho⟩, H, enc, fuel, d, p, h, hs⟩
theorem weight_of {H : Type} {ts : List TypeId} {ds : List (DataW H)} (h : (DataW.weightsEach P ts ds).all (· ≤ reachBytes) = true) {i : Nat} {d : DataW H} (ht : ts[i]? = some t) (hd : ds[i]? = some d) : ∀ n ∈ d.weights P t, n ≤ reachBytes := fun n hn => by
  have := List.all_eq_true.1 h n (weightsEach_mem ht hd hn)
  simpa using this
theorem arg_int {k : IntKind} (ht : P.underlying t = some (.int k)) {v : Value} (h : Arg P w t v) : ∃ n, v = .int k n ∧ (Lit.int k n).wf = true := by
  obtain ⟨⟨b, ho⟩, hr⟩ := h
  obtain ⟨n, rfl⟩ := okWide_int ht ho
  obtain ⟨m, hm, hw⟩ := rd_int ht hr
  simp [Value.cells] at hm
  exact ⟨n, rfl, by rw [hm]; exact hw⟩
theorem arg_slice {e : TypeId} (ht : P.underlying t = some (.slice e)) {v : Value} (h : Arg P w t v) : ∃ a len cap, v = .slice a len cap ∧ ((a = none ∧ len = 0 ∧ cap = 0) ∨ ∃ ad, a = some ad ∧ len ≤ cap ∧ cap ≤ maxLen ∧ cap * P.bytesOf e ≤ 140737488351232 ∧
    ∀ i, i < cap → ∃ es, w.cells? 0 (ad.add (i * P.cellsOf e)) (P.cellsOf e) = some es ∧ Rd P w e es) := by
  obtain ⟨⟨b, ho⟩, hr⟩ := h
  obtain ⟨a, len, cap, rfl⟩ := okWide_slice ht ho
  obtain ⟨a', len', cap', hm, hw⟩ := rd_slice ht hr
  simp [Value.cells] at hm
  obtain ⟨rfl, rfl, rfl⟩ := hm
  exact ⟨_, _, _, rfl, hw⟩
end
end Go.Proofs.Ytnemnhfdjofckaa.Rd
namespace Go.Proofs.Ytnemnhfdjofckaa.Fr
open Go Go.RowKit Hp Rd Go.Proofs.YtnemnhfdjofckaaW.PrintWords Go.Proofs.Ytnemnhfdjofckaa.Print
/-- Bytes that can be read at an address. -/
def Bytes (w : World) (A : Option Addr) (l : List Int) : Prop := 0 < l.length → ∃ ad, A = some ad ∧ ∀ (j : Nat) (x : Int), l[j]? = some x → w.cell? (ad.add j) = some (.int .u8 x)
theorem Bytes.C {w : World} {A : Option Addr} {l : List Int} (h : Bytes w A l) (hl : l.length ≤ 9223372036854775807) : Kd.C (Kd.int .u8) w A l.length l :=
  ⟨rfl, hl, fun h0 => by
    obtain ⟨ad, e, hc⟩ := h h0
    refine ⟨ad, e, fun j p hj => ⟨[.int .u8 p], rfl, rfl, fun i u hu => ?_⟩⟩
    cases i with
    | zero =>
      simp at hu
      subst hu
      show w.cell? (ad.add (j * 1 + 0)) = _
      rw [Nat.mul_one, Nat.add_zero]
      exact hc j p hj
    | succ i => simp at hu⟩
theorem Bytes.own {w : World} {base : Nat} {a : Option Addr} {n c : Nat} {l : List Int} (h : w.ownsRow base 5 1 (.slice a n c) n (l.map (Value.int .u8))) : Bytes w a l := fun h0 => by
  have hl := h.1
  simp at hl
  rcases h.2 with ⟨_, h2⟩ | ⟨g, cap, cur, hv, _⟩
  · omega
  · obtain ⟨rfl, rfl⟩ : a = some ⟨g, 0, none⟩ ∧ c = cap := by simpa using hv
    exact ⟨_, rfl, fun j x hj => h.cells (g := g) rfl j _ (by rw [List.getElem?_map, hj]; rfl)⟩
theorem reps_ints {l : List Int} {cs : List Value} (h : Reps (fun x (c : List Value) => c = [Value.int .u8 x]) 1 l cs) : cs = l.map (Value.int .u8) := by
  obtain ⟨h1, h2⟩ := h
  apply List.ext_getElem?
  intro j
  rw [List.getElem?_map]
  rcases Nat.lt_or_ge j l.length with hj | hj
  · have := h2 j l[j] (List.getElem?_eq_getElem hj)
    rw [Nat.mul_one] at this
    have h3 : ((cs.drop j).take 1)[0]? = some (Value.int .u8 l[j]) := by rw [this]; rfl
    rw [List.getElem?_take_of_lt (by omega), List.getElem?_drop, Nat.add_zero] at h3
    rw [h3, List.getElem?_eq_getElem hj]
    rfl
  · rw [List.getElem?_eq_none (by omega), List.getElem?_eq_none hj]
    rfl
theorem R_row {w : World} {base : Nat} {ok : Nat → Prop} {v : Value} {l : List Int} (h : Kd.R (Kd.int .u8) 5 w base ok v l) : w.ownsRow base 5 1 v l.length (l.map (Value.int .u8)) ∧ ∀ k, v.ownBlock = some k → ok k := by
  obtain ⟨h0, inner, ho, hr⟩ := h
  have := reps_ints hr
  subst this
  exact ⟨ho, h0⟩
theorem Bytes.nil (w : World) (A : Option Addr) : Bytes w A [] := fun h => absurd h (by simp)
theorem Bytes.take {w : World} {A : Option Addr} {l : List Int} (h : Bytes w A l) (n : Nat) : Bytes w A (l.take n) := fun h0 => by
  have hl : 0 < l.length := by simp at h0; omega
  obtain ⟨ad, e, hc⟩ := h hl
  refine ⟨ad, e, fun j x hj => hc j x ?_⟩
  rw [List.getElem?_take] at hj
  split at hj
  · exact hj
  · cases hj
theorem add_add (a : Addr) (i j : Nat) : (a.add i).add j = a.add (i + j) := by
  unfold Addr.add
  by_cases h1 : i = 0
  · subst h1; simp
  · by_cases h2 : j = 0
    · subst h2; simp [h1]
    · simp [h1, h2, Nat.add_assoc]
theorem Bytes.drop {w : World} {A : Option Addr} {l : List Int} {c : Nat} (h : Bytes w A l) (n : Nat) (hc : l.length ≤ c) : Bytes w (if c = n then A else A.map (·.add (n * 1))) (l.drop n) := fun h0 => by
  simp at h0
  obtain ⟨ad, rfl, hx⟩ := h (by omega)
  rw [if_neg (by omega)]
  refine ⟨_, rfl, fun j x hj => ?_⟩
  rw [List.getElem?_drop] at hj
  rw [add_add, Nat.mul_one]
  exact hx _ _ hj
theorem Bytes.kept {S : Nat → Prop} {w w' : World} {A : Option Addr} {l : List Int} (h : Bytes w A l) (k : Kept S w w') (hS : 0 < l.length → ∀ ad, A = some ad → ¬ S ad.block) : Bytes w' A l := fun h0 => by
  obtain ⟨ad, e, hc⟩ := h h0
  refine ⟨ad, e, fun j x hj => ?_⟩
  have h1 := hc j x hj
  have hb : (ad.add j).block = ad.block := by unfold Addr.add; split <;> rfl
  have hn := hS h0 ad e
  unfold World.cell? at h1 ⊢
  cases ho : w.heap[(ad.add j).block]? with
  | none => rw [ho] at h1; cases h1
  | some o =>
    rw [k.heap ho (by rw [hb]; exact hn)]
    rw [ho] at h1
    exact h1
theorem Bytes.below {w w' : World} {A : Option Addr} {l : List Int} (h : Bytes w A l) (k : Below w.heap.size w w') : Bytes w' A l := h.kept (S := fun _ => False) (Kept.of_below k) (fun _ _ _ e => e)
theorem Bytes.at {w : World} {ad : Addr} {l : List Int} (h : Bytes w (some ad) l) (j : Nat) (hj : j < l.length) : w.cell? (ad.add j) = some (.int .u8 l[j]) := by
  obtain ⟨a, e, hc⟩ := h (by omega)
  cases e
  exact hc j _ (List.getElem?_eq_getElem hj)
/-- The text of bytes. -/
theorem Bytes.str {w : World} {A : Option Addr} {l : List Int} (h : Bytes w A l) (hl : l.length ≤ 9223372036854775807) (c : Nat) : Sem.run Try.prog (convert 38 9 (.slice A l.length c)) w = .ok (.string (strOfNums l)) w :=
  Kd.C_string (P := Try.prog) (A := A) (c := c) Try.underlying38 Try.underlying5 Try.underlying9 (h.C hl)
end Go.Proofs.Ytnemnhfdjofckaa.Fr
namespace Go.Proofs.Ytnemnhfdjofckaa.Rw
open Go Go.RowKit Go.Proofs.Ytnemnhfdjofckaa.Hp
section
variable {P : Program}
theorem blk_cell {w : World} {b : Nat} {cs : Array Value} {t : TypeId} {fr : Nat × Nat} (h : w.heap[b]? = some (.cells cs t fr)) (j : Nat) : w.cell? ⟨b, j, none⟩ = cs[j]? := by
  unfold World.cell?
  simp [h]
theorem blk_frozen {w : World} {b : Nat} {cs : Array Value} {t : TypeId} (h : w.heap[b]? = some (.cells cs t (0, 0))) (j : Nat) : w.frozen? ⟨b, j, none⟩ = false := by
  unfold World.frozen?
  simp only [h]
  simp
theorem blk_there {w : World} {b : Nat} {old : Array Value} {t : TypeId} (h : w.heap[b]? = some (.cells old t (0, 0))) : w.there b 0 old.size := fun j hj => by
  rw [Nat.zero_add]
  exact ⟨by rw [blk_cell h j]; simp [hj], blk_frozen h j⟩
theorem blk_range {w : World} {b : Nat} {cs : List Value} {t : TypeId} (h : w.heap[b]? = some (.cells cs.toArray t (0, 0))) : w.rangeAt b 0 cs := fun j v hv => by
  rw [Nat.zero_add, blk_cell h j]
  simpa using hv
theorem kept_setCells (b : Nat) : ∀ (vs : List Value) (o : Nat) (w : World), Kept (fun i => i = b) w (w.setCells b o vs)
  | [], _, w => Kept.refl _ w
  | v :: r, o, w => ((Kept.refl (fun i => i = b) w).setCell (p := ⟨b, o, none⟩) (.inr rfl) v).trans (kept_setCells b r (o + 1) _) (fun _ _ e => e)
theorem heap_set (w : World) (b j : Nat) (v : Value) {cs : Array Value} {t : TypeId} {fr : Nat × Nat} (h : w.heap[b]? = some (.cells cs t fr)) : (w.setCell ⟨b, j, none⟩ v).heap[b]? = some (.cells (cs.setIfInBounds j v) t fr) := by
  have hb := lt_of_heap h
  have hb' := (Array.getElem?_eq_some_iff.1 h).2
  rw [Array.getElem?_eq_getElem (by simpa [World.setCell] using hb)]
  simp only [World.setCell, Array.getElem_modify, if_true]
  rw [hb']
  rfl
theorem heap_setCells (b : Nat) : ∀ (vs : List Value) (o : Nat) (w : World) {cs : Array Value} {t : TypeId} {fr : Nat × Nat}, w.heap[b]? = some (.cells cs t fr) → ∃ X, (w.setCells b o vs).heap[b]? = some (.cells X t fr) ∧ X.size = cs.size
  | [], _, _, cs, _, _, h => ⟨cs, h, rfl⟩
  | v :: r, o, w, cs, t, fr, h => by
    obtain ⟨X, h1, h2⟩ := heap_setCells b r (o + 1) _ (heap_set w b o v h)
    exact ⟨X, h1, h2.trans (by simp)⟩
/-- A whole struct is stored in its block. -/
theorem put_row {w : World} {b : Nat} {old : Array Value} {ty : TypeId} {cs : List Value} {d : TypeDesc} (h : w.heap[b]? = some (.cells old ty (0, 0))) (hs : old.size = cs.length) (h1 : ∀ v ∈ cs, v.oneCell' = true) (hu : P.underlying ty = some d) (hd : d.isRow = true) (hi : (P.info? ty).map (·.size) = some cs.length) :
    ∃ w', (Instr.storeAt ty (.pointer (some ⟨b, 0, none⟩)) (.agg cs.toArray)).run P w = .ok () w' ∧ (loadVar ty ⟨b, 0, none⟩).run P w' = .ok (.agg cs.toArray) w' ∧ Kept (fun i => i = b) w w' ∧ w'.heap[b]? = some (.cells cs.toArray ty (0, 0)) := by
  have ht : w.there b 0 cs.length := by rw [← hs]; exact blk_there h
  exact ⟨_, run_storeAt_mid w b 0 ty cs.toArray (by simpa using ht) (by simpa using hi) (all_oneCell_toArray h1), run_loadVar_mid _ b 0 ty cs d (World.rangeAt_setCells_same w b 0 cs ht) hu hd hi, kept_setCells b cs 0 w, by
    obtain ⟨X, h2, h3⟩ := heap_setCells b cs 0 w h
    have hX : X = cs.toArray := by
      apply Array.ext_getElem?
      intro j
      rcases Nat.lt_or_ge j cs.length with hj | hj
      · have h4 := World.rangeAt_setCells_same w b 0 cs ht j cs[j] (List.getElem?_eq_getElem hj)
        rw [Nat.zero_add, blk_cell h2 j] at h4
        rw [h4]
        simp [hj]
      · rw [Array.getElem?_eq_none (by omega), Array.getElem?_eq_none (by simpa using hj)]
    rw [h2, hX]⟩
theorem wpList_put {ops : Array Oper} {rest : List Oper} {op : Oper} {a : Act} {w w' : World} {Q : Exit → Act → World → Prop} (hgd : op.guard = none) (ty : TypeId) (x y : Operand) (ho : op.op = .store ty x y) {p v : Value} (hx : a.eval x = p) (hy : a.eval y = v)
    (hr : (Instr.storeAt ty p v).run P w = .ok () w') (h : wpList P ops Q rest (a.put op.dst undef) w') : wpList P ops Q (op :: rest) a w :=
  wpList_plain hgd fun K hK => by
    unfold Oper.wp execOp
    simp only [ho, hx, hy, hr, Sem.run_bind, Sem.run_pure, Result.andThen_ok]
    exact hK _ _ h
theorem wpList_get {ops : Array Oper} {rest : List Oper} {op : Oper} {a : Act} {w : World} {Q : Exit → Act → World → Prop} (hgd : op.guard = none) (ty : TypeId) (x : Operand) (ho : op.op = .load ty x) {p v : Value} (hx : a.eval x = p)
    (hr : (Instr.loadAt ty p).run P w = .ok v w) (h : wpList P ops Q rest (a.put op.dst v) w) : wpList P ops Q (op :: rest) a w :=
  wpList_plain hgd fun K hK => by
    unfold Oper.wp execOp
    simp only [ho, hx, hr, Sem.run_bind, Sem.run_pure, Result.andThen_ok]
    exact hK _ _ h
/-- An operation whose run is known. -/
theorem wpList_run {ops : Array Oper} {rest : List Oper} {op : Oper} {a : Act} {w w' : World} {v : Value} {Q : Exit → Act → World → Prop} (hgd : op.guard = none) (hr : (execOp a.eval op).run P w = .ok (.value v) w')
    (h : wpList P ops Q rest (a.put op.dst v) w') : wpList P ops Q (op :: rest) a w :=
  wpList_plain hgd fun K hK => by
    unfold Oper.wp
    rw [hr]
    exact hK _ _ h
/-- Guards: the operation is this store; it writes this slot. -/
theorem at_store {w : World} (x y : Nat) {ty : TypeId} {d : Option Tmp} {type : TypeId} {pos : String} {after : Array Edge} {guard : Option (Nat × Bool)} {ops : Array Oper} {rest : List Oper} {a : Act} {Q : Exit → Act → World → Prop}
    (h : wpList P ops Q (⟨d, .store ty (.tmp x) (.tmp y), type, pos, after, guard⟩ :: rest) a w) : wpList P ops Q (⟨d, .store ty (.tmp x) (.tmp y), type, pos, after, guard⟩ :: rest) a w := h
theorem at_slot {w : World} (d : Nat) {op : Op} {type : TypeId} {pos : String} {after : Array Edge} {guard : Option (Nat × Bool)} {ops : Array Oper} {rest : List Oper} {a : Act} {Q : Exit → Act → World → Prop}
    (h : wpList P ops Q (⟨some d, op, type, pos, after, guard⟩ :: rest) a w) : wpList P ops Q (⟨some d, op, type, pos, after, guard⟩ :: rest) a w := h
end
end Go.Proofs.Ytnemnhfdjofckaa.Rw
namespace Go.Proofs.Ytnemnhfdjofckaa.Co
open Go Go.RowKit Go.Proofs.YtnemnhfdjofckaaW.PrintWords Go.Proofs.Ytnemnhfdjofckaa.Print
/-- Bytes. -/
def Byt (l : List Int) : Prop := ∀ x ∈ l, 0 ≤ x ∧ x < 256
instance (l : List Int) : Decidable (Byt l) := by unfold Byt; infer_instance
theorem Byt.take {l : List Int} (h : Byt l) (n : Nat) : Byt (l.take n) := fun x hx => h x (List.mem_of_mem_take hx)
theorem Byt.drop {l : List Int} (h : Byt l) (n : Nat) : Byt (l.drop n) := fun x hx => h x (List.mem_of_mem_drop hx)
theorem Byt.append {a b : List Int} (h : Byt a) (k : Byt b) : Byt (a ++ b) := fun x hx => (List.mem_append.1 hx).elim (h x) (k x)
theorem Byt.nil : Byt [] := fun x hx => by simp at hx
/-- The number that bytes are. -/
def numd : List Int → Int
  | [] => 0
  | b :: r => b + 256 * numd r
theorem numd_append : ∀ (a b : List Int), numd (a ++ b) = numd a + 256 ^ a.length * numd b
  | [], b => by simp [numd]
  | x :: a, b => by
    simp only [List.cons_append, numd, numd_append a b, List.length_cons, Int.pow_succ]
    rw [Int.mul_add, Int.mul_comm (256 ^ a.length) 256, Int.mul_assoc, Int.add_assoc]
theorem numd_range : ∀ (l : List Int), Byt l → 0 ≤ numd l ∧ numd l < 256 ^ l.length
  | [], _ => by simp [numd]
  | b :: r, h => by
    have h1 := h b (by simp)
    obtain ⟨h2, h3⟩ := numd_range r (fun x hx => h x (by simp [hx]))
    rw [numd, List.length_cons, Int.pow_succ]
    constructor
    · omega
    · omega
theorem or_low64 (x y : Int) (i : Nat) (hx : 0 ≤ x) (hx1 : x < 2 ^ i) (hy : 0 ≤ y) (hy1 : y < 18446744073709551616) (hy2 : y % 2 ^ i = 0) (hx2 : x < 18446744073709551616) : Go.bits .or .u64 x y = x + y := by
  have e2 : (2 : Int) ^ 64 = 18446744073709551616 := by decide
  have h := bits_join .u64 64 (by decide) (fun n h0 h1 => by rw [IntKind.wrap_u64]; rw [e2] at h1; omega) i y x hy hy2 (by rw [e2]; exact hy1) hx hx1 (by rw [e2]; exact hx2)
  rw [u64_or y x hy hy1 hx hx2] at h
  rw [u64_or x y hx hx2 hy hy1, Nat.or_comm, h]
  omega
theorem pow_8 (i : Nat) : (2 : Int) ^ (8 * i) = 256 ^ i := by rw [Int.pow_mul]; rfl
theorem pow_le (i : Nat) (h : i ≤ 7) : (256 : Int) ^ i ≤ 72057594037927936 ∧ 0 < (256 : Int) ^ i := by
  obtain h | h | h | h | h | h | h | h : i = 0 ∨ i = 1 ∨ i = 2 ∨ i = 3 ∨ i = 4 ∨ i = 5 ∨ i = 6 ∨ i = 7 := by omega
  all_goals (subst h; decide)
theorem numd_snoc {l : List Int} {i : Nat} {b : Int} (hb : l[i]? = some b) : numd (l.take (i + 1)) = numd (l.take i) + 256 ^ i * b := by
  have hi := (List.getElem?_eq_some_iff.1 hb).1
  have e : l.take (i + 1) = l.take i ++ [b] := by rw [List.take_add_one, hb]; rfl
  rw [e, numd_append, List.length_take, Nat.min_eq_left (by omega)]
  simp [numd]
theorem number_l0 (l : List Int) (hl : Byt l) (h8 : l.length ≤ 8) : ∀ m i : Nat, i + m = l.length → commits_number.l0 (m + 1) (numd (l.take i)) l (l.length : Int) (i : Int) = some (numd l) := by
  intro m
  induction m with
  | zero =>
    intro i hi
    unfold commits_number.l0
    rw [if_neg (by omega), List.take_of_length_le (by omega)]
  | succ m ih =>
    intro i hi
    obtain ⟨b, hb⟩ : ∃ b, l[i]? = some b := ⟨_, List.getElem?_eq_getElem (by omega)⟩
    have hr : rd l (i : Int) = b := by
      unfold rd
      rw [Int.toNat_natCast, List.getD_eq_getElem?_getD, hb]
      rfl
    have hb0 := hl b (List.mem_of_getElem? hb)
    have e1 : wrap64 (8 * (i : Int)) = 8 * (i : Int) := by unfold wrap64; omega
    have e2 : wrap64 ((i : Int) + 1) = ((i + 1 : Nat) : Int) := by unfold wrap64; omega
    have e3 : IntKind.u64.wrap b = b := by rw [IntKind.wrap_u64]; omega
    obtain ⟨hp1, hp2⟩ := pow_le i (by omega)
    have hn := numd_range (l.take i) (hl.take i)
    rw [List.length_take, Nat.min_eq_left (by omega)] at hn
    obtain ⟨n0, n1⟩ := hn
    obtain ⟨p, hp⟩ : ∃ p : Int, (256 : Int) ^ i = p := ⟨_, rfl⟩
    have hbp : b * p ≤ 255 * p := Int.mul_le_mul_of_nonneg_right (by omega) (by omega)
    have hbp0 : 0 ≤ b * p := Int.mul_nonneg hb0.1 (by omega)
    have e4 : shl .u64 b (8 * (i : Int)) = b * p := by
      unfold shl
      rw [show (8 * (i : Int)).toNat = 8 * i by omega, show IntKind.u64.bits = 64 from rfl, Nat.min_eq_left (by omega), pow_8, hp, IntKind.wrap_u64]
      omega
    have e5 : Go.bits .or .u64 (numd (l.take i)) (b * p) = numd (l.take (i + 1)) := by
      rw [or_low64 _ _ (8 * i) n0 (by rw [pow_8]; exact n1) hbp0 (by omega) (by rw [pow_8, hp]; exact Int.mul_emod_left b p) (by omega), numd_snoc hb, hp, Int.mul_comm]
    unfold commits_number.l0
    rw [if_pos (by omega), if_pos (by omega), if_pos (by omega), e1, if_pos (by omega), hr, e3, e4, e5, e2]
    exact ih (i + 1) (by omega)
theorem number_f (l : List Int) (hl : Byt l) (h8 : l.length ≤ 8) : commits_number.f (l.length + 1) l = some (numd l) := by
  unfold commits_number.f
  exact number_l0 l hl h8 l.length 0 (by omega)
theorem rnumber_l0 (l : List Int) (hl : Byt l) (h8 : l.length ≤ 8) : ∀ i : Nat, i ≤ l.length → headgateref20_number.l0 (i + 1) l (numd (l.drop i)) ((i : Int) - 1) = some (wrap64 (numd l)) := by
  intro i
  induction i with
  | zero =>
    intro _
    unfold headgateref20_number.l0
    rw [if_neg (by omega), List.drop_zero]
  | succ i ih =>
    intro hi
    obtain ⟨b, hb⟩ : ∃ b, l[i]? = some b := ⟨_, List.getElem?_eq_getElem (by omega)⟩
    have hr : rd l (i : Int) = b := by
      unfold rd
      rw [Int.toNat_natCast, List.getD_eq_getElem?_getD, hb]
      rfl
    have hb0 := hl b (List.mem_of_getElem? hb)
    have hd : l.drop i = b :: l.drop (i + 1) := by
      rw [List.drop_eq_getElem_cons (by omega)]
      congr 1
      rw [List.getElem?_eq_getElem (by omega)] at hb
      exact Option.some.inj hb
    obtain ⟨n0, n1⟩ := numd_range (l.drop (i + 1)) (hl.drop _)
    obtain ⟨p1, p2⟩ := pow_le (l.drop (i + 1)).length (by rw [List.length_drop]; omega)
    have e1 : IntKind.u64.wrap (256 * numd (l.drop (i + 1))) = 256 * numd (l.drop (i + 1)) := by rw [IntKind.wrap_u64]; omega
    have e2 : IntKind.u64.wrap b = b := by rw [IntKind.wrap_u64]; omega
    have e3 : IntKind.u64.wrap (256 * numd (l.drop (i + 1)) + b) = numd (l.drop i) := by
      rw [IntKind.wrap_u64, hd, numd]
      omega
    unfold headgateref20_number.l0
    rw [show ((i + 1 : Nat) : Int) - 1 = (i : Int) by omega, if_pos (by omega), if_pos (by omega), if_pos (by omega), hr, e1, e2, e3, show wrap64 ((i : Int) - 1) = (i : Int) - 1 by unfold wrap64; omega]
    exact ih (by omega)
theorem rnumber_f (l : List Int) (hl : Byt l) (h8 : l.length ≤ 8) : headgateref20_number.f (l.length + 1) l = some (wrap64 (numd l)) := by
  unfold headgateref20_number.f
  have h := rnumber_l0 l hl h8 l.length (Nat.le_refl _)
  rw [List.drop_length] at h
  rw [show wrap64 ((l.length : Int) - 1) = (l.length : Int) - 1 by unfold wrap64; omega]
  exact h
end Go.Proofs.Ytnemnhfdjofckaa.Co
namespace Go.Proofs.Ytnemnhfdjofckaa.Co
open Go Go.RowKit Go.Proofs.YtnemnhfdjofckaaW.PrintWords Go.Proofs.Ytnemnhfdjofckaa.Print
/-- A number's bytes from the i-th on. -/
def lowd (a : Int) : Nat → Nat → List Int
  | _, 0 => []
  | i, n + 1 => (a / 256 ^ i) % 256 :: lowd a (i + 1) n
theorem lowd_length (a : Int) : ∀ n i, (lowd a i n).length = n
  | 0, _ => rfl
  | n + 1, i => by simp [lowd, lowd_length a n (i + 1)]
theorem lowd_byte (a : Int) : ∀ n i, ∀ x ∈ lowd a i n, 0 ≤ x ∧ x ≤ 255
  | 0, _, x, h => by simp [lowd] at h
  | n + 1, i, x, h => by
    rcases List.mem_cons.1 h with rfl | h
    · omega
    · exact lowd_byte a n (i + 1) x h
theorem shr_eq (k : IntKind) (hk : k.bits = 64) (a y : Int) (i : Nat) (hi : i ≤ 7) (hy : y = 8 * (i : Int)) : shr k a y = a / 256 ^ i := by
  unfold shr
  rw [hk, hy, show (8 * (i : Int)).toNat = 8 * i by omega, Nat.min_eq_left (by omega), Int.pow_mul]
  rfl
theorem low_l0 (a : Int) (n : Nat) (hn : n ≤ 8) : ∀ (m i : Nat) (l : List Int), i + m = n → l.length + m ≤ 1000000000 → commits_low.l0 (m + 1) l a (n : Int) (i : Int) = some (l ++ lowd a i m) := by
  intro m
  induction m with
  | zero =>
    intro i l hi _
    unfold commits_low.l0
    rw [if_neg (by omega)]
    simp [lowd]
  | succ m ih =>
    intro i l hi hl
    unfold commits_low.l0
    have e1 : wrap64 (8 * (i : Int)) = 8 * (i : Int) := by unfold wrap64; omega
    have e2 : wrap64 ((i : Int) + 1) = ((i + 1 : Nat) : Int) := by unfold wrap64; omega
    rw [if_pos (by omega), e1, if_pos (by omega), if_pos (by omega), e2, shr_eq .u64 rfl a _ i (by omega) rfl, ih (i + 1) _ (by omega) (by simp; omega)]
    simp [lowd]
theorem low_f (a : Int) (n : Nat) (hn : n ≤ 8) (l : List Int) (hl : l.length ≤ 999999000) : commits_low.f (n + 1) l a (n : Int) = some (l ++ lowd a 0 n) := by
  unfold commits_low.f
  exact low_l0 a n hn n 0 l (by omega) (by omega)
theorem rlow_l0 (a : Int) (n : Nat) (hn : n ≤ 8) : ∀ (m i : Nat) (l : List Int), i + m = n → l.length + m ≤ 1000000000 → headgateref20_low.l0 (m + 1) a (n : Int) l (i : Int) = some (l ++ lowd a i m) := by
  intro m
  induction m with
  | zero =>
    intro i l hi _
    unfold headgateref20_low.l0
    rw [if_neg (by omega)]
    simp [lowd]
  | succ m ih =>
    intro i l hi hl
    unfold headgateref20_low.l0
    have e1 : wrap64 (8 * (i : Int)) = 8 * (i : Int) := by unfold wrap64; omega
    have e3 : IntKind.u64.wrap (8 * (i : Int)) = 8 * (i : Int) := by rw [IntKind.wrap_u64]; omega
    have e2 : wrap64 ((i : Int) + 1) = ((i + 1 : Nat) : Int) := by unfold wrap64; omega
    rw [if_pos (by omega), e1, e3, if_pos (by omega), if_pos (by omega), e2, shr_eq .i64 rfl a _ i (by omega) rfl, ih (i + 1) _ (by omega) (by simp; omega)]
    simp [lowd]
theorem rlow_f (a : Int) (n : Nat) (hn : n ≤ 8) : headgateref20_low.f (n + 1) a (n : Int) = some (lowd a 0 n) := by
  unfold headgateref20_low.f
  exact rlow_l0 a n hn n 0 [] (by omega) (by simp; omega)
end Go.Proofs.Ytnemnhfdjofckaa.Co
namespace Go.Proofs.Ytnemnhfdjofckaa.Co
open Go Go.RowKit Hp Go.Proofs.YtnemnhfdjofckaaW.PrintWords Go.Proofs.Ytnemnhfdjofckaa.Print Go.Proofs.Ytnemnhfdjofckaa.Rt
structure FlAt (w : World) (f : S56) (g off : Nat) : Prop where
  c0 : w.cell? ⟨g, off, none⟩ = some (.string f.f0)
  c1 : w.cell? ⟨g, off + 1, none⟩ = some (.int .i64 f.f1)
  c2 : w.cell? ⟨g, off + 2, none⟩ = some (.string f.f2)
theorem FlAt.lt {w : World} {f : S56} {g off : Nat} (h : FlAt w f g off) : g < w.heap.size := World.block_lt_of_cell? w ⟨g, off, none⟩ h.c0
theorem FlAt.below {w w' : World} {f : S56} {g off : Nat} (h : FlAt w f g off) (k : Below w.heap.size w w') : FlAt w' f g off := by
  have hb : w'.heap[g]? = w.heap[g]? := k.block g h.lt
  exact ⟨(World.cell?_of_block (a := ⟨g, off, none⟩) hb).trans h.c0, (World.cell?_of_block (a := ⟨g, off + 1, none⟩) hb).trans h.c1, (World.cell?_of_block (a := ⟨g, off + 2, none⟩) hb).trans h.c2⟩
theorem FlAt.range {w : World} {f : S56} {g off : Nat} (h : FlAt w f g off) : w.rangeAt g off [.string f.f0, .int .i64 f.f1, .string f.f2] := fun j v hj => by
  match j, hj with
  | 0, hj => cases hj; exact h.c0
  | 1, hj => cases hj; exact h.c1
  | 2, hj => cases hj; exact h.c2
theorem spot_none {w : World} {a : Addr} {v : Value} (h : w.cell? a = some v) : a.spot = none := by
  obtain ⟨b, off, sp⟩ := a
  cases sp with
  | none => rfl
  | some x =>
    unfold World.cell? at h
    simp at h
    split at h <;> simp_all
theorem fls_at {w : World} {A : Option Addr} {n : Nat} {fl : List S56} (h : Kd.C k56 w A n fl) : fl = [] ∨ ∃ g off, A = some ⟨g, off, none⟩ ∧ ∀ (i : Nat) (f : S56), fl[i]? = some f → FlAt w f g (off + i * 3) := by
  cases hfl : fl with
  | nil => exact .inl rfl
  | cons x r =>
    rw [← hfl]
    have hn : fl.length = n := h.1
    have hpos : 0 < n := by rw [← hn, hfl]; simp
    obtain ⟨ad, e, h0, -, -⟩ := at_T56 h 0 (by omega) (by omega)
    have h0' : w.cell? ad = some (.string (rd_T56 fl 0).f0) := by simpa [Addr.add] using h0
    have hs := spot_none h0'
    obtain ⟨g, off, sp⟩ := ad
    simp only at hs
    subst hs
    refine .inr ⟨g, off, e, fun i f hf => ?_⟩
    have hi := (List.getElem?_eq_some_iff.1 hf).1
    obtain ⟨ad', e', k0, k1, k2⟩ := at_T56 h (i : Int) (by omega) (by omega)
    rw [e] at e'
    cases e'
    have hrd : rd_T56 fl (i : Int) = f := by
      unfold rd_T56
      rw [Int.toNat_natCast, List.getD_eq_getElem?_getD, hf]
      rfl
    rw [hrd, Int.toNat_natCast] at k0 k1 k2
    rw [Addr.add_mid] at k0 k1 k2
    exact ⟨k0, k1, k2⟩
/-- Is the i-th file right? -/
def fokd (fl : List S56) (i : Nat) (f : S56) : Prop := rgt f.f0 = true ∧ 0 ≤ f.f1 ∧ f.f1 ≤ 1099511627776 ∧ f.f2.size ≤ 65536 ∧ (i = 0 ∨ Op.bytesLess ((rd_T56 fl ((i - 1 : Nat) : Int)).f0).toList f.f0.toList = true)
instance (fl : List S56) (i : Nat) (f : S56) : Decidable (fokd fl i f) := by unfold fokd; infer_instance
def allok (fl : List S56) : Prop := ∀ (i : Nat) (f : S56), fl[i]? = some f → fokd fl i f
def rightd (n : Int) (fl : List S56) : Bool := decide (0 ≤ n ∧ n ≤ 1099511627776 ∧ fl.length ≤ 1024) && (List.range fl.length).all fun i => decide (fokd fl i (rd_T56 fl (i : Int)))
theorem rd_of {fl : List S56} {i : Nat} {f : S56} (hf : fl[i]? = some f) : rd_T56 fl (i : Int) = f := by
  unfold rd_T56
  rw [Int.toNat_natCast, List.getD_eq_getElem?_getD, hf]
  rfl
theorem rightd_iff (n : Int) (fl : List S56) : rightd n fl = true ↔ (0 ≤ n ∧ n ≤ 1099511627776 ∧ fl.length ≤ 1024 ∧ allok fl) := by
  unfold rightd
  rw [Bool.and_eq_true, decide_eq_true_iff, List.all_eq_true]
  constructor
  · rintro ⟨⟨h1, h2, h3⟩, h4⟩
    refine ⟨h1, h2, h3, fun i f hf => ?_⟩
    have := h4 i (List.mem_range.2 (List.getElem?_eq_some_iff.1 hf).1)
    rw [decide_eq_true_iff, rd_of hf] at this
    exact this
  · rintro ⟨h1, h2, h3, h4⟩
    refine ⟨⟨h1, h2, h3⟩, fun i hi => ?_⟩
    have hf := List.getElem?_eq_getElem (List.mem_range.1 hi)
    rw [decide_eq_true_iff, rd_of hf]
    exact h4 i _ hf
theorem rright_l0 (p : ByteArray) (hp : p.size ≤ 1000000000) : ∀ (m i : Nat), i + m = p.size → headgateref07_Right.l0 (m + 1) p (i : Int) = some ((p.data.toList.drop i).all okb && (decide (1 ≤ p.size) && decide (p.size ≤ 32))) := by
  intro m
  induction m with
  | zero =>
    intro i hi
    unfold headgateref07_Right.l0
    rw [if_neg (by omega), List.drop_eq_nil_of_le (by rw [Array.length_toList]; show p.size ≤ i; omega)]
    by_cases h1 : 1 ≤ p.size
    · rw [if_pos (by omega)]
      simp [h1]
      omega
    · rw [if_neg (by omega)]
      simp [h1]
  | succ m ih =>
    intro i hi
    have hip : i < p.data.size := by show i < p.size; omega
    obtain ⟨b, hb⟩ : ∃ b, p.data[i]? = some b := ⟨_, Array.getElem?_eq_getElem hip⟩
    have hbt : bt p (i : Int) = (b.toNat : Int) := by
      unfold bt
      rw [dif_pos (show (i : Int).toNat < p.size by omega)]
      have h2 : p.data[i] = b := by
        rw [Array.getElem?_eq_getElem hip] at hb
        exact Option.some.inj hb
      show ((p.data[i].toNat : Nat) : Int) = _
      rw [h2]
    unfold headgateref07_Right.l0
    rw [if_pos (by omega), if_pos (by omega), hbt, all_from p i b hb]
    have hl := b.toNat_lt
    by_cases c1 : (b.toNat : Int) < 33
    · rw [if_pos c1]
      unfold okb
      rw [decide_eq_false (show ¬ 33 ≤ b.toNat by omega)]
      rfl
    · rw [if_neg c1]
      by_cases c2 : (b.toNat : Int) > 126
      · rw [if_pos c2]
        unfold okb
        rw [decide_eq_false (show ¬ b.toNat ≤ 126 by omega), Bool.and_false]
        rfl
      · rw [if_neg c2, show wrap64 ((i : Int) + 1) = ((i + 1 : Nat) : Int) by unfold wrap64; omega, ih (i + 1) (by omega)]
        unfold okb
        rw [decide_eq_true (show 33 ≤ b.toNat by omega), decide_eq_true (show b.toNat ≤ 126 by omega)]
        rfl
theorem rright_f (p : ByteArray) (hp : p.size ≤ 1000000000) : headgateref07_Right.f (p.size + 1) p = some (rgt p) := by
  unfold headgateref07_Right.f rgt
  exact rright_l0 p hp p.size 0 (by omega)
theorem rightd_false {n : Int} {fl : List S56} (h : ¬ (0 ≤ n ∧ n ≤ 1099511627776 ∧ fl.length ≤ 1024 ∧ allok fl)) : rightd n fl = false := by
  cases hr : rightd n fl with
  | false => rfl
  | true => exact absurd ((rightd_iff n fl).1 hr) h
theorem rightd_true {n : Int} {fl : List S56} (h : 0 ≤ n ∧ n ≤ 1099511627776 ∧ fl.length ≤ 1024 ∧ allok fl) : rightd n fl = true := (rightd_iff n fl).2 h
set_option maxRecDepth 100000 in
theorem ge_run (W : World) (a b : ByteArray) : Sem.run Try.prog (binOp .geq 9 (.string a) (.string b)) W = .ok (.bool (!Op.bytesLess a.toList b.toList)) W := by rfl
theorem big_no {s : ByteArray} (h : (65536 : Int) < (s.size : Int)) : ¬ s.size ≤ 65536 := by omega
theorem big_ok {s : ByteArray} (h : ¬ (65536 : Int) < (s.size : Int)) : s.size ≤ 65536 := by omega
theorem sizeFile : (Try.prog.info? 56).map (·.size) = some 3 := by kernel_rfl
set_option maxHeartbeats 4000000 in
set_option maxRecDepth 100000 in
/-- The document's right. -/
theorem refright_ok (n : Int) (A : Option Addr) (c : Nat) (fl : List S56) (w : World) (hC : Kd.C k56 w A fl.length fl) (hp : ∀ f ∈ fl, f.f0.size ≤ 1000000000) (hlen : fl.length ≤ 1000000000) :
    Calls Try.prog 25 #[.agg #[.int .i64 n, .slice A fl.length c]] w fun e w' => e = .returned (.bool (rightd n fl)) ∧ Below w.heap.size w w' := by
  have hfls := fls_at hC
  obtain ⟨r, hr⟩ : ∃ r, rightd n fl = r := ⟨_, rfl⟩
  rw [hr]
  have HR := Sh.mk hr
  have HP := Sh.mk hp
  clear hr hC hp
  go_enter Try.func25, Try.ntmps25
  go_upto_region 1 with (fail)
  obtain ⟨w1, hw1⟩ : ∃ w1, w.alloc (.cells #[.int .i64 n, .slice A fl.length c] 34) = w1 := ⟨_, rfl⟩
  obtain ⟨b0, hb0⟩ : ∃ b0, w.heap.size = b0 := ⟨_, rfl⟩
  have hB1 : Below w.heap.size w w1 := by rw [← hw1]; exact (Below.refl _ _).alloc (Nat.le_refl _) _
  have g0 : w1.heap[b0]? = some (.cells #[.int .i64 n, .slice A fl.length c] 34 (0, 0)) := by rw [← hw1, ← hb0]; exact heap_alloc_new _ _
  rw [hw1, hb0]
  clear hw1 hb0
  have n0_ : w1.cell? ⟨b0, 0, none⟩ = some (.int .i64 n) := (Rw.blk_cell g0 0).trans rfl
  have n1_ : w1.cell? ⟨b0, 1, none⟩ = some (.slice A fl.length c) := (Rw.blk_cell g0 1).trans rfl
  have HG0 := Sh.mk g0
  have HB1 := Sh.mk hB1
  clear g0 hB1
  by_cases c1 : n < 0
  · obtain rfl : r = false := by rw [← HR.out]; exact rightd_false (fun h => by omega)
    go_wp2_with fail
    go_ret
    exact ⟨rfl, HB1.out⟩
  by_cases c2 : (1099511627776 : Int) < n
  · obtain rfl : r = false := by rw [← HR.out]; exact rightd_false (fun h => by omega)
    go_wp2_with fail
    go_ret
    exact ⟨rfl, HB1.out⟩
  by_cases c3 : (1024 : Int) < (fl.length : Int)
  · obtain rfl : r = false := by rw [← HR.out]; exact rightd_false (fun h => by omega)
    go_wp2_with fail
    go_ret
    exact ⟨rfl, HB1.out⟩
  have HN := Sh.mk (And.intro c1 (And.intro c2 c3))
  go_wp2_with fail
  clear n0_ c1 c2 c3
  go_loopg [3] fl.length (fun kq v3 w' => ∃ i : Nat, i + kq = fl.length ∧ v3 = .int .i64 (i : Int) ∧ Sh ((∀ j f, j < i → fl[j]? = some f → fokd fl j f) ∧ Below w1.heap.size w1 w'))
  case atStart => exact ⟨0, by omega, rfl, ⟨fun j f h => by omega, Below.refl _ _⟩⟩
  case round =>
    obtain ⟨i, hik, rfl, ⟨hall, hB⟩⟩ := hrel
    have q1_ : wr.cell? ⟨b0, 1, none⟩ = some (.slice A fl.length c) := (hB.cell (p := ⟨b0, 1, none⟩) (lt_of_heap HG0.out)).trans n1_
    cases gk with
    | zero =>
      obtain rfl : i = fl.length := by omega
      have kk : ¬ (fl.length : Int) < (fl.length : Int) := by omega
      obtain rfl : r = true := by
        rw [← HR.out]
        obtain ⟨d1, d2, d3⟩ := HN.out
        exact rightd_true ⟨by omega, by omega, by omega, fun j f hj => hall j f (List.getElem?_eq_some_iff.1 hj).1 hj⟩
      clear hall
      go_wp2_with fail
      go_ret
      exact ⟨rfl, HB1.out.trans (hB.mono HB1.out.size)⟩
    | succ g1_ =>
      have hil : i < fl.length := by omega
      have kk : (i : Int) < (fl.length : Int) := by omega
      obtain ⟨f, hf⟩ : ∃ f, fl[i]? = some f := ⟨_, List.getElem?_eq_getElem hil⟩
      rcases hfls with rfl | ⟨g, off, rfl, hfl⟩
      · exact absurd hil (by simp)
      have hfa := ((hfl i f hf).below HB1.out).below hB
      have hld := run_loadAt_mid (P := Try.prog) wr g (off + i * 3) 56 [.string f.f0, .int .i64 f.f1, .string f.f2] _ hfa.range Try.underlying56 rfl sizeFile
      obtain ⟨b4, hb4⟩ : ∃ b4, wr.heap.size = b4 := ⟨_, rfl⟩
      obtain ⟨w5, hw5⟩ : ∃ w5, wr.alloc (.cells #[.string ⟨#[]⟩, .int .i64 0, .string ⟨#[]⟩] 56) = w5 := ⟨_, rfl⟩
      have h5 : w5.heap[b4]? = some (.cells #[.string ⟨#[]⟩, .int .i64 0, .string ⟨#[]⟩] 56 (0, 0)) := by rw [← hw5, ← hb4]; exact heap_alloc_new _ _
      have hB5 : Below wr.heap.size wr w5 := by rw [← hw5]; exact (Below.refl _ _).alloc (Nat.le_refl _) _
      obtain ⟨w6, z1, -, z3, z4⟩ := Rw.put_row (P := Try.prog) (cs := [.string f.f0, .int .i64 f.f1, .string f.f2]) h5 rfl (by simp [Value.oneCell']) Try.underlying56 rfl sizeFile
      have hB6 : Below wr.heap.size wr w6 := hB5.trans (z3.below (B := wr.heap.size) hB5.size (fun k hk e => by omega))
      have HF := Sh.mk hf
      have HALL := Sh.mk hall
      have HI := Sh.mk hik
      have HZ4 := Sh.mk z4
      have HBA := Sh.mk (hB.trans (hB6.mono hB.size))
      have HQ1 := Sh.mk ((hB6.cell (p := ⟨b0, 1, none⟩) (World.block_lt_of_cell? wr ⟨b0, 1, none⟩ q1_)).trans q1_)
      have HPREV : Sh (∀ f', 0 < i → fl[i - 1]? = some f' → w6.cell? ⟨g, off + (i - 1) * 3, none⟩ = some (.string f'.f0)) := ⟨fun f' _ hf' => ((((hfl (i - 1) f' hf').below HB1.out).below hB).below hB6).c0⟩
      have HFL := Sh.mk hfl
      clear hf hall hik z3 z4 hB hB6 hB5 h5 hfa hfl
      go_upto_region 7 with (first | ((with_reducible refine Rw.at_slot 31 ?_); refine Rw.wpList_get rfl 56 (.tmp 30) rfl rfl hld ?_) | ((with_reducible refine Rw.at_store 4 31 ?_); (try simp only [hw5, hb4]); refine Rw.wpList_put rfl 56 (.tmp 4) (.tmp 31) rfl rfl rfl z1 ?_))
      clear hld z1 hw5 hb4 q1_ hil
      have p0_ : w6.cell? ⟨b4, 0, none⟩ = some (.string f.f0) := (Rw.blk_cell HZ4.out 0).trans rfl
      have p1_ : w6.cell? ⟨b4, 1, none⟩ = some (.int .i64 f.f1) := (Rw.blk_cell HZ4.out 1).trans rfl
      have p2_ : w6.cell? ⟨b4, 2, none⟩ = some (.string f.f2) := (Rw.blk_cell HZ4.out 2).trans rfl
      have q1_ := HQ1.out
      go_wp2_with fail
      refine (headgateref07_Right.calls (f.f0.size + 1) f.f0 (rgt f.f0) w6 (rright_f f.f0 (HP.out f (List.mem_of_getElem? HF.out)))).mono ?_
      rintro e w7' ⟨rfl, ⟨nd, hw7⟩⟩
      obtain ⟨w7, hw7'⟩ : ∃ w7, w6.drewN nd = w7 := ⟨_, rfl⟩
      rw [hw7, hw7']
      have HBF : Sh (∀ nq, Below w.heap.size w (w7.drewN nq)) := ⟨fun nq => by
        have h := HB1.out.trans (HBA.out.mono HB1.out.size)
        rw [← hw7']
        exact ⟨h.os, h.tape, h.output, h.size, h.block⟩⟩
      have HBW : Sh (∀ nq, Below w1.heap.size w1 (w7.drewN nq)) := ⟨fun nq => by
        have h := HBA.out
        rw [← hw7']
        exact ⟨h.os, h.tape, h.output, h.size, h.block⟩⟩
      replace p0_ : w7.cell? ⟨b4, 0, none⟩ = some (.string f.f0) := by rw [← hw7']; exact p0_
      replace p1_ : w7.cell? ⟨b4, 1, none⟩ = some (.int .i64 f.f1) := by rw [← hw7']; exact p1_
      replace p2_ : w7.cell? ⟨b4, 2, none⟩ = some (.string f.f2) := by rw [← hw7']; exact p2_
      replace q1_ : w7.cell? ⟨b0, 1, none⟩ = some (.slice (some ⟨g, off, none⟩) fl.length c) := by rw [← hw7']; exact q1_
      have HPRV : Sh (∀ f', 0 < i → fl[i - 1]? = some f' → w7.cell? ⟨g, off + (i - 1) * 3, none⟩ = some (.string f'.f0)) := ⟨fun f' h0 hf' => by rw [← hw7']; exact HPREV.out f' h0 hf'⟩
      have W3 : Sh (wrap64 ((i : Int) + 1) = ((i + 1 : Nat) : Int)) := ⟨by have := HI.out; unfold wrap64; omega⟩
      have HLEN := Sh.mk hlen
      clear hw7 hw7' w7' hlen HPREV
      by_cases k1 : rgt f.f0 = true
      rotate_left
      · have k1' : rgt f.f0 = false := by simpa using k1
        clear k1
        obtain rfl : r = false := by rw [← HR.out]; exact rightd_false (fun h => by have h2 := h.2.2.2 i f HF.out; unfold fokd at h2; rw [k1'] at h2; exact absurd h2.1 (by simp))
        go_upto_region 8 with (fail)
        go_quiet (fail)
        clear p0_ p1_ p2_ q1_ n1_ kk
        go_wp2_with fail
        go_ret
        exact ⟨rfl, HBF.out nq⟩
      by_cases k2 : f.f1 < 0
      · skip
        obtain rfl : r = false := by rw [← HR.out]; exact rightd_false (fun h => by have h2 := h.2.2.2 i f HF.out; unfold fokd at h2; exact absurd h2.2.1 (Int.not_le.2 k2))
        go_upto_region 8 with (fail)
        go_quiet (fail)
        clear p0_ p1_ p2_ q1_ n1_ kk
        go_wp2_with fail
        go_ret
        exact ⟨rfl, HBF.out nq⟩
      by_cases k3 : (1099511627776 : Int) < f.f1
      · skip
        obtain rfl : r = false := by rw [← HR.out]; exact rightd_false (fun h => by have h2 := h.2.2.2 i f HF.out; unfold fokd at h2; exact absurd h2.2.2.1 (Int.not_le.2 k3))
        have K2 := decide_eq_false k2
        have K3 := decide_eq_true k3
        clear q1_ n1_ kk p0_ p2_ k2 k3
        go_upto_region 8 with (fail)
        go_quiet (fail)
        clear p1_
        go_wp2_with fail
        go_ret
        exact ⟨rfl, HBF.out nq⟩
      by_cases k4 : (65536 : Int) < (f.f2.size : Int)
      · skip
        obtain rfl : r = false := by rw [← HR.out]; exact rightd_false (fun h => by have h2 := h.2.2.2 i f HF.out; unfold fokd at h2; exact big_no k4 h2.2.2.2.1)
        have K2 := decide_eq_false k2
        have K3 := decide_eq_false k3
        have K4 := decide_eq_true k4
        clear q1_ n1_ kk p0_ k2 k3 k4
        go_upto_region 8 with (fail)
        go_quiet (fail)
        clear p1_ p2_
        go_wp2_with fail
        go_ret
        exact ⟨rfl, HBF.out nq⟩
      by_cases k5 : i = 0
      · have k5' : ¬ (0 : Int) < (i : Int) := by omega
        have HNEW : Sh (∀ j f', j < i + 1 → fl[j]? = some f' → fokd fl j f') := ⟨fun j f' hj hf' => by
          rcases Nat.lt_or_ge j i with h | h
          · exact HALL.out j f' h hf'
          · obtain rfl : j = i := by omega
            have := hf'.symm.trans HF.out
            cases this
            exact ⟨k1, Int.not_lt.1 k2, Int.not_lt.1 k3, big_ok k4, .inl k5⟩⟩
        have K2 := decide_eq_false k2
        have K3 := decide_eq_false k3
        have K4 := decide_eq_false k4
        have K5 := decide_eq_false k5'
        clear q1_ n1_ kk p0_ k2 k3 k4 k5'
        go_upto_region 8 with (fail)
        go_quiet (fail)
        have HBN := Sh.mk (HBW.out nq)
        clear p1_ p2_
        generalize w7.drewN nq = wn at HBN ⊢
        go_wp2_with fail
        go_roundg g1_
        case measure => have := HI.out; omega
        case rel => exact ⟨i + 1, by have := HI.out; omega, (by first | rfl | (rw [W3.out]) | (rw [k5]; rfl)), ⟨HNEW.out, HBN.out⟩⟩
      obtain ⟨f', hf'⟩ : ∃ f', fl[i - 1]? = some f' := ⟨_, List.getElem?_eq_getElem (by have := HI.out; omega)⟩
      have pv_ := HPRV.out f' (by omega) hf'
      have hrd := rd_of hf'
      have HRD := Sh.mk hrd
      obtain ⟨j, hj⟩ : ∃ j, i - 1 = j := ⟨_, rfl⟩
      have k5' : (0 : Int) < (i : Int) := by omega
      have HJ := Sh.mk hj
      have hjl : j < fl.length := by have := HI.out; omega
      have j5_ : (i : Int) - 1 = (j : Int) := by omega
      have jw1 : IntKind.i64.wrap (j : Int) = (j : Int) := by rw [IntKind.wrap_i64]; have := HLEN.out; omega
      have jw2 : wrap64 (j : Int) = (j : Int) := by unfold wrap64; have := HLEN.out; omega
      have j3_ : (j : Int) < (fl.length : Int) := by omega
      have j4_ : (0 : Int) ≤ (j : Int) := by omega
      rw [hj] at pv_
      clear hf' hrd hj hjl
      obtain ⟨lt, hlt⟩ : ∃ lt, Op.bytesLess f'.f0.toList f.f0.toList = lt := ⟨_, rfl⟩
      have HLT := Sh.mk hlt
      have hge : ∀ W : World, Sem.run Try.prog (binOp .geq 9 (.string f'.f0) (.string f.f0)) W = .ok (.bool (!lt)) W := fun W => by
        rw [← hlt]
        exact ge_run W f'.f0 f.f0
      cases lt with
      | false =>
        obtain rfl : r = false := by rw [← HR.out]; exact rightd_false (fun h => by have h2 := h.2.2.2 i f HF.out; unfold fokd at h2; rw [HRD.out, HLT.out] at h2; exact h2.2.2.2.2.elim k5 (by simp))
        have K2 := decide_eq_false k2
        have K3 := decide_eq_false k3
        have K4 := decide_eq_false k4
        have K5 := decide_eq_true k5'
        have K5n := decide_eq_true (Int.natCast_pos.1 k5')
        clear n1_ kk k2 k3 k4 k5'
        go_upto_region 8 with (fail)
        go_quiet (fail)
        clear p0_ p1_ p2_ q1_
        go_wp2_with fail
        go_ret
        exact ⟨rfl, HBF.out nq⟩
      | true =>
        have HNEW : Sh (∀ j f', j < i + 1 → fl[j]? = some f' → fokd fl j f') := ⟨fun j f' hj hf' => by
          rcases Nat.lt_or_ge j i with h | h
          · exact HALL.out j f' h hf'
          · obtain rfl : j = i := by omega
            have := hf'.symm.trans HF.out
            cases this
            exact ⟨k1, Int.not_lt.1 k2, Int.not_lt.1 k3, big_ok k4, .inr (by rw [HRD.out]; exact HLT.out)⟩⟩
        have K2 := decide_eq_false k2
        have K3 := decide_eq_false k3
        have K4 := decide_eq_false k4
        have K5 := decide_eq_true k5'
        have K5n := decide_eq_true (Int.natCast_pos.1 k5')
        clear n1_ kk k2 k3 k4 k5'
        go_upto_region 8 with (fail)
        go_quiet (fail)
        have HBN := Sh.mk (HBW.out nq)
        clear p0_ p1_ p2_ q1_
        generalize w7.drewN nq = wn at HBN ⊢
        go_wp2_with fail
        go_roundg g1_
        case measure => have := HI.out; omega
        case rel => exact ⟨i + 1, by have := HI.out; omega, (by first | rfl | (rw [W3.out]) | (rw [k5]; rfl)), ⟨HNEW.out, HBN.out⟩⟩
end Go.Proofs.Ytnemnhfdjofckaa.Co
namespace Go.Proofs.Ytnemnhfdjofckaa.Co
open Go Go.RowKit Go.Proofs.YtnemnhfdjofckaaW.PrintWords Go.Proofs.Ytnemnhfdjofckaa.Print Go.Proofs.Ytnemnhfdjofckaa.Rt
def oks (fl : List S56) : Nat → Nat → Bool
  | _, 0 => true
  | i, m + 1 => decide (fokd fl i (rd_T56 fl (i : Int))) && oks fl (i + 1) m
theorem tright_f {p : ByteArray} (hp : p.size ≤ 1000000000) : tree_Right.f p = some (rgt p) := by
  unfold tree_Right.f
  rw [if_pos hp]
theorem rd_path {fl : List S56} (hp : ∀ f ∈ fl, f.f0.size ≤ 1000000000) (i : Nat) (hi : i < fl.length) : (rd_T56 fl (i : Int)).f0.size ≤ 1000000000 := by
  rw [rd_of (List.getElem?_eq_getElem hi)]
  exact hp _ (List.getElem_mem hi)
theorem cright_l0 (n : Int) (fl : List S56) (hp : ∀ f ∈ fl, f.f0.size ≤ 1000000000) (hlen : fl.length ≤ 1000000000) : ∀ (m i : Nat) (ok : Bool), i + m = fl.length → commits_Commit_right.l0 (m + 1) ok fl (fl.length : Int) (i : Int) n fl = some (ok && oks fl i m) := by
  intro m
  induction m with
  | zero =>
    intro i ok hi
    unfold commits_Commit_right.l0 oks
    rw [if_neg (by omega), Bool.and_true]
  | succ m ih =>
    intro i ok hi
    have e2 : wrap64 ((i : Int) + 1) = ((i + 1 : Nat) : Int) := by unfold wrap64; omega
    have hr := tright_f (rd_path hp i (by omega))
    unfold commits_Commit_right.l0 oks
    rw [if_pos (by omega), if_pos (by omega), if_pos (by omega), e2, hr, Option.bind_some]
    generalize hf : rd_T56 fl (i : Int) = f
    have hF := ih (i + 1) false (by omega)
    have hT := ih (i + 1) true (by omega)
    rw [Bool.false_and] at hF
    rw [Bool.true_and] at hT
    cases ok with
    | false => rw [if_neg (by simp), hF, Bool.false_and]
    | true =>
      rw [if_pos rfl, Bool.true_and]
      by_cases c1 : rgt f.f0 = true
      rotate_left
      · rw [if_neg c1, hF, decide_eq_false (fun h => c1 h.1), Bool.false_and]
      rw [if_pos c1]
      by_cases c2 : f.f1 ≥ 0
      rotate_left
      · rw [if_neg c2, hF, decide_eq_false (fun h => c2 h.2.1), Bool.false_and]
      rw [if_pos c2]
      by_cases c3 : f.f1 ≤ 1099511627776
      rotate_left
      · rw [if_neg c3, hF, decide_eq_false (fun h => c3 h.2.2.1), Bool.false_and]
      rw [if_pos c3]
      by_cases c4 : (f.f2.size : Int) ≤ 65536
      rotate_left
      · rw [if_neg c4, hF, decide_eq_false (fun h => c4 (by have := h.2.2.2.1; omega)), Bool.false_and]
      rw [if_pos c4]
      have c4n : f.f2.size ≤ 65536 := by omega
      by_cases c5 : (i : Int) = 0
      · rw [if_pos c5, hT, decide_eq_true ⟨c1, c2, c3, c4n, .inl (by omega)⟩, Bool.true_and]
      · have e3 : wrap64 ((i : Int) - 1) = ((i - 1 : Nat) : Int) := by unfold wrap64; omega
        rw [if_neg c5, e3, if_pos (by omega), if_pos (by omega)]
        rw [ih (i + 1) _ (by omega)]
        congr 1
        congr 1
        cases hb : Op.bytesLess ((rd_T56 fl ((i - 1 : Nat) : Int)).f0).toList f.f0.toList with
        | true => exact (decide_eq_true ⟨c1, c2, c3, c4n, .inr hb⟩).symm
        | false => exact (decide_eq_false (fun h => h.2.2.2.2.elim (fun h2 => c5 (by omega)) (fun h2 => by rw [hb] at h2; cases h2))).symm
theorem oks_all (fl : List S56) : ∀ (m i : Nat), oks fl i m = (List.range' i m).all fun j => decide (fokd fl j (rd_T56 fl (j : Int)))
  | 0, _ => rfl
  | m + 1, i => by
    unfold oks
    rw [oks_all fl m (i + 1)]
    rfl
theorem cright_f (n : Int) (fl : List S56) (hp : ∀ f ∈ fl, f.f0.size ≤ 1000000000) (hlen : fl.length ≤ 1000000000) : commits_Commit_right.f (fl.length + 2) n fl = some (rightd n fl) := by
  have hl := fun ok => cright_l0 n fl hp hlen fl.length 0 ok (by omega)
  have hj : ∀ ok, commits_Commit_right.j0 (fl.length + 2) ok n fl = some (ok && oks fl 0 fl.length) := fun ok => by
    unfold commits_Commit_right.j0
    exact hl ok
  have hr : rightd n fl = (decide (0 ≤ n ∧ n ≤ 1099511627776 ∧ fl.length ≤ 1024) && oks fl 0 fl.length) := by
    unfold rightd
    rw [oks_all, List.range_eq_range']
  unfold commits_Commit_right.f
  rw [hj, hj, hr]
  by_cases c1 : n ≥ 0
  · rw [if_pos c1]
    by_cases c2 : n ≤ 1099511627776
    · rw [if_pos c2]
      congr 2
      rw [decide_eq_decide]
      omega
    · rw [if_neg c2, decide_eq_false (fun h => c2 h.2.1)]
  · rw [if_neg c1, decide_eq_false (fun h => c1 h.1)]
end Go.Proofs.Ytnemnhfdjofckaa.Co
