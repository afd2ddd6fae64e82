/- The two disks side by side. -/
import Derived.Test.YtinhednmfldmbaaRef8
namespace Go.Proofs.Ytinhednmfldmbaa.Dk
open Go Go.RowKit Hp Rd

/-- An operation of a script, all its cells. -/
structure OpF (w : World) (o : OpD) (g off : Nat) (vb vk : Value) : Prop where
  c0 : w.cell? ⟨g, off, none⟩ = some (.int .i64 o.kind)
  c1 : w.cell? ⟨g, off + 1, none⟩ = some (.int .i64 o.n)
  c2 : w.cell? ⟨g, off + 2, none⟩ = some vb
  c3 : w.cell? ⟨g, off + 3, none⟩ = some vk
  c4 : w.cell? ⟨g, off + 4, none⟩ = some (.int .i64 o.torn)
  rb : Row1 w (Value.int .u8) vb o.b
  rk : Row1 w Value.bool vk o.keep
  len : o.b.length ≤ 140737488355328
  wn : (Lit.int .i64 o.n).wf = true
  wt : (Lit.int .i64 o.torn).wf = true
def OpsF (w : World) (v : Value) (l : List OpD) : Prop := l.length ≤ maxLen ∧ ∃ a cap, v = .slice a l.length cap ∧ ∀ (i : Nat) (o : OpD), l[i]? = some o → ∃ g off vb vk, a = some ⟨g, off, none⟩ ∧ OpF w o g (off + i * 5) vb vk
theorem cells_all {w : World} {a : Addr} {c0 c1 c2 c3 c4 : Value} (h : w.cells? 0 a 5 = some [c0, c1, c2, c3, c4]) : a.spot = none ∧ w.cell? a = some c0 ∧ w.cell? (a.add 1) = some c1 ∧ w.cell? (a.add 2) = some c2 ∧ w.cell? (a.add 3) = some c3 ∧ w.cell? (a.add 4) = some c4 := by
  have hs := (cells_five h).1
  unfold World.cells? at h
  split at h
  · have : List.range 5 = [0, 1, 2, 3, 4] := rfl
    rw [this] at h
    simp only [List.mapM_cons, List.mapM_nil, Option.bind_eq_bind, Option.bind_eq_some_iff, Option.pure_def, Option.some.injEq] at h
    obtain ⟨v0, h0, x1, ⟨v1, h1, x2, ⟨v2, h2, x3, ⟨v3, h3, x4, ⟨v4, h4, x5, rfl, rfl⟩, rfl⟩, rfl⟩, rfl⟩, e⟩ := h
    simp only [List.cons.injEq] at e
    obtain ⟨rfl, rfl, rfl, rfl, rfl, _⟩ := e
    refine ⟨hs, ?_, h1, h2, h3, h4⟩
    obtain ⟨b, off, sp⟩ := a
    simp only at hs
    subst hs
    rw [Addr.add_mid, Nat.add_zero] at h0
    exact h0
  · cases h
theorem arg_opsF {w : World} {v : Value} (h : Arg Try.prog w 22 v) : ∃ l, OpsF w v l := by
  obtain ⟨a, len, cap, rfl, hh⟩ := arg_slice Try.underlying22 h
  rcases hh with ⟨rfl, rfl, rfl⟩ | ⟨ad, rfl, hlc, hcm, _, hel⟩
  · exact ⟨[], by unfold maxLen; simp, none, 0, rfl, fun i o hi => by simp at hi⟩
  · rw [cells_op] at hel
    obtain ⟨l, hl, hp⟩ := list_of (p := fun i (o : OpD) => ∃ cs, w.cells? 0 (ad.add (i * 5)) 5 = some cs ∧ o.Reads w cs) len (fun i hi => by
      obtain ⟨es, h1, h2⟩ := hel i (by omega)
      obtain ⟨o, ho⟩ := rd_op h2
      exact ⟨o, es, h1, ho⟩)
    refine ⟨l, by omega, some ad, cap, by rw [hl], fun i o hi => ?_⟩
    obtain ⟨cs, h1, h2⟩ := hp i o hi
    obtain ⟨vb, vk, rfl, hb, hk⟩ := h2.is
    obtain ⟨s0, g0, g1, g2, g3, g4⟩ := cells_all h1
    have hsp : ad.spot = none := by
      have hl0 : 0 < l.length := by have := (List.getElem?_eq_some_iff.1 hi).1; omega
      obtain ⟨cs', k1, k2⟩ := hp 0 l[0] (List.getElem?_eq_getElem hl0)
      obtain ⟨vb', vk', rfl, _, _⟩ := k2.is
      have := (cells_five k1).1
      simpa [Addr.add] using this
    obtain ⟨b, off, sp⟩ := ad
    simp only at hsp
    subst hsp
    rw [Addr.add_mid] at g0 g1 g2 g3 g4
    rw [Addr.add_mid] at g1 g2 g3 g4
    exact ⟨b, off, vb, vk, rfl, g0, g1, g2, g3, g4, hb, hk, h2.len, h2.wn, h2.wt⟩
theorem row1_kept {α : Type} {S : Nat → Prop} {w w' : World} {f : α → Value} {v : Value} {l : List α} (h : Row1 w f v l) (k : Kept S w w') (hS : ∀ i, i < w.heap.size → ¬ S i) : Row1 w' f v l := by
  obtain ⟨a, cap, rfl, h0, h1⟩ := h
  refine ⟨a, cap, rfl, h0, fun ad ha => ?_⟩
  obtain ⟨h2, h3⟩ := h1 ad ha
  exact ⟨h2, fun i x hx => kept_cell' k (h3 i x hx) (hS _ (World.block_lt_of_cell? w _ (h3 i x hx)))⟩
/-- The two disks. -/
structure Both (w w' : World) (b m1 m2 : Nat) (sv : Value) (D : St) (F : Nat → Prop) (rb gf cf : Nat) (vc : Value) (fs vs : List Value) (R : RSt) : Prop where
  disk : DiskIs w' b m1 m2 sv D
  ref : RefIs w' F rb gf cf vc fs vs R
  alike : Alike D R
  below : Below w.heap.size w w'
  newD : ∀ i, foot b m1 m2 sv i → w.heap.size ≤ i
  newR : ∀ i, F i → w.heap.size ≤ i
  apart : ∀ i, F i → ¬ foot b m1 m2 sv i
  cs : ∀ c ∈ R.calls, c.1 < R.size
theorem Both.step {S : Nat → Prop} {w w' w'' : World} {b m1 m2 : Nat} {sv : Value} {D : St} {F : Nat → Prop} {rb gf cf : Nat} {vc : Value} {fs vs : List Value} {R : RSt} (h : Both w w' b m1 m2 sv D F rb gf cf vc fs vs R) (K : Kept S w' w'') (hS : ∀ i, foot b m1 m2 sv i ∨ F i ∨ i < w.heap.size → ¬ S i) : Both w w'' b m1 m2 sv D F rb gf cf vc fs vs R :=
  ⟨h.disk.kept K (fun i hi => hS i (.inl hi)), h.ref.kept K (fun i hi => hS i (.inr (.inl hi))), h.alike, h.below.trans (K.below h.below.size (fun i hi => hS i (.inr (.inr hi)))), h.newD, h.newR, h.apart, h.cs⟩
/-- A call of each: the disk's first, then the reference's. -/
theorem Both.next {w w' w1 w2 : World} {b m1 m2 : Nat} {sv sv' : Value} {D D' : St} {F : Nat → Prop} {rb gf cf : Nat} {vc vc' : Value} {fs vs vs' : List Value} {R R' : RSt} (h : Both w w' b m1 m2 sv D F rb gf cf vc fs vs R)
    (hd : DiskIs w1 b m1 m2 sv' D') (K1 : Kept (foot b m1 m2 sv) w' w1) (hsv : ∀ i, sv'.ownBlock = some i → sv.ownBlock = some i ∨ w'.heap.size ≤ i)
    (hr : RefIs w2 (fun i => F i ∨ (w1.heap.size ≤ i ∧ i < w2.heap.size)) rb gf cf vc' fs vs' R') (K2 : Kept F w1 w2) (ha : Alike D' R') (hc : ∀ c ∈ R'.calls, c.1 < R'.size) :
    Both w w2 b m1 m2 sv' D' (fun i => F i ∨ (w1.heap.size ≤ i ∧ i < w2.heap.size)) rb gf cf vc' fs vs' R' := by
  have s0 := h.below.size
  have s1 := K1.size
  have hfo : ∀ i, F i → ¬ foot b m1 m2 sv' i := fun i hi hf => by
    have hlt := h.ref.lt i hi
    rcases hf with hf | hf | hf | hf
    · exact h.apart i hi (.inl hf)
    · exact h.apart i hi (.inr (.inl hf))
    · exact h.apart i hi (.inr (.inr (.inl hf)))
    · rcases hsv i hf with h5 | h5
      · exact h.apart i hi (.inr (.inr (.inr h5)))
      · omega
  refine ⟨hd.kept K2 (fun i hi hF => hfo i hF hi), hr, ha, (h.below.trans (K1.below s0 (fun i hi hf => by have := h.newD i hf; omega))).trans (K2.below (Nat.le_trans s0 s1) (fun i hi hf => by have := h.newR i hf; omega)), fun i hi => ?_, fun i hi => ?_, fun i hi hf => ?_, hc⟩
  · rcases hi with hf | hf | hf | hf
    · exact h.newD i (.inl hf)
    · exact h.newD i (.inr (.inl hf))
    · exact h.newD i (.inr (.inr (.inl hf)))
    · rcases hsv i hf with h5 | h5
      · exact h.newD i (.inr (.inr (.inr h5)))
      · omega
  · rcases hi with hi | hi
    · exact h.newR i hi
    · omega
  · rcases hi with hi | hi
    · exact hfo i hi hf
    · have := hd.lt i hf
      omega
theorem alike_both {w w' : World} {b m1 m2 : Nat} {sv : Value} {D : St} {F : Nat → Prop} {rb gf cf : Nat} {vc : Value} {fs vs : List Value} {R : RSt} (h : Both w w' b m1 m2 sv D F rb gf cf vc fs vs R) (hl : D.calls.length < 1000000000000) :
    Calls Try.prog 20 #[.pointer (some ⟨b, 0, none⟩), .pointer (some ⟨rb, 0, none⟩)] w' fun e w2 => e = .returned (.bool true) ∧ Below w'.heap.size w' w2 :=
  alike_calls h.disk h.ref h.alike.size (by rw [h.alike.calls]) (fun n _ => h.alike.at n (by omega)) (by rw [h.alike.calls]; exact hl)
theorem Alike.cut' {D : St} {R : RSt} (h : Alike D R) (at_ torn : Int) (keep : List Bool) :
    Alike (D.cut at_ keep torn) ⟨R.size, (xdisk (pick torn 33).toNat (doneOf keep (R.calls.take (pick at_ (R.calls.length + 1)).toNat)).2.2 (doneOf keep (R.calls.take (pick at_ (R.calls.length + 1)).toNat)).1 ⟨R.size, R.first, []⟩ (doneOf keep (R.calls.take (pick at_ (R.calls.length + 1)).toNat)).1.length).at, []⟩ := by
  obtain ⟨pre, post, hp⟩ := parted _ (D.calls.take (pick at_ (D.calls.length + 1)).toNat) rfl (fun c hc => h.good c (List.mem_of_mem_take hc))
  refine h.cut at_ torn keep _ fun n => ?_
  rw [h.calls, doneOf_eq hp keep]
  exact xdisk_cut (R0 := ⟨R.size, R.first, []⟩) hp h.first n
theorem wpList_all {w : World} {ops : Array Oper} {rest : List Oper} {o : Oper} {a : Act} {Q : Exit → Act → World → Prop} (hgd : o.guard = none) (s x : Operand) (ho : o.op = .call { callee := .builtin .append, args := #[s, x], argTypes := #[31, 31] }) (hty : o.type = 31)
    (b : Nat) (hb : w.heap[b]? = some (.cells #[] 5 (0, 0))) (ad : Addr) (c : Nat) (l : List Int) (hs : a.eval s = .slice (some ⟨b, 0, none⟩) 0 0) (hx : a.eval x = .slice (some ad) l.length c) (hR : ∀ (j : Nat) (u : Int), l[j]? = some u → w.cell? (ad.add j) = some (.int .u8 u)) (hk : l.length ≤ 140737488355328)
    (h : ∀ v' W', Below w.heap.size w W' → W'.ownsRow b 5 1 v' l.length (l.map (Value.int .u8)) → wpList Try.prog ops Q rest (a.put o.dst v') W') : wpList Try.prog ops Q (o :: rest) a w := by
  refine wpList_plain hgd fun K hK => ?_
  obtain ⟨v', W', hr, h1, h2⟩ := clone_part w b hb ad l.length c l rfl hk (fun j u hu => by
    rw [List.getElem?_map] at hu
    obtain ⟨y, hy, rfl⟩ := Option.map_eq_some_iff.1 hu
    exact hR j y hy)
  unfold Oper.wp execOp
  simp only [ho, resolve, invoke, builtin, Sem.run_bind, Sem.run_pure, Result.andThen_ok, List.map_toArray, List.map_cons, List.map_nil, hs, hx, hty, hr]
  exact hK _ _ (h v' W' h1 h2)
/-- What d.Write leaves in the drawn region. -/
def TrP (b m1 m2 : Nat) (sv : Value) (k : Nat) (u u' : World) : Prop := if k = 4 then Kept (foot b m1 m2 sv) u u' else u = u'
def PsiP (b m1 m2 : Nat) (sv : Value) (D' : St) (w0 : World) (k : Nat) (_ : Array Value) (v : Value) (w : World) : Prop :=
  if k = 4 then v = .int .i64 0 ∧ ∃ sv', DiskIs w b m1 m2 sv' D' ∧ ∀ i, sv'.ownBlock = some i → sv.ownBlock = some i ∨ w0.heap.size ≤ i else True
theorem TrP.kept {b m1 m2 : Nat} {sv : Value} {k : Nat} {u u' : World} (h : TrP b m1 m2 sv k u u') : Kept (foot b m1 m2 sv) u u' := by
  unfold TrP at h
  split at h
  · exact h
  · exact h ▸ Kept.refl _ _
theorem psiP_stays {b m1 m2 : Nat} {sv : Value} {D' : St} {w0 : World} {j k : Nat} {A : Array Value} {v : Value} {w w' : World} (hjk : j ≠ k) (ht : TrP b m1 m2 sv k w w') (h : PsiP b m1 m2 sv D' w0 j A v w) : PsiP b m1 m2 sv D' w0 j A v w' := by
  unfold PsiP at *
  split at h
  · rename_i h4
    rw [if_pos h4]
    unfold TrP at ht
    rw [if_neg (by omega)] at ht
    exact ht ▸ h
  · rename_i h4
    rw [if_neg h4]
    trivial
/-- A row of bytes whose block is known, whatever the bytes are. -/
def OwnB (w : World) (v : Value) (n : Nat) : Prop := n = 0 ∨ ∃ g c cur, v = .slice (some ⟨g, 0, none⟩) n c ∧ w.heap[g]? = some (.cells cur 5 (0, 0)) ∧ ∀ j, j < n → ∃ x, cur[j]? = some (.int .u8 x)
theorem OwnB.of {w : World} {base : Nat} {v : Value} {n : Nat} {l : List Int} (h : w.ownsRow base 5 1 v n (l.map (Value.int .u8))) : OwnB w v n := by
  rcases h.2 with ⟨_, h0⟩ | ⟨g, cap, cur, hv, _, hh, hle, _, hcs, ht⟩
  · exact .inl h0
  · refine .inr ⟨g, cap, cur, hv, hh, fun j hj => ?_⟩
    have h1 : (l.map (Value.int .u8))[j]? = cur[j]? := by
      rw [← ht, List.getElem?_take, if_pos (by omega)]
      simp
    have hl := h.1
    simp at hl
    rw [← h1, List.getElem?_map]
    exact ⟨l[j]'(by omega), by rw [List.getElem?_eq_getElem (by omega)]; rfl⟩
theorem OwnB.kept {S : Nat → Prop} {w w' : World} {v : Value} {n : Nat} (h : OwnB w v n) (K : Kept S w w') (hS : ∀ i, v.ownBlock = some i → ¬ S i) : OwnB w' v n := by
  rcases h with h | ⟨g, c, cur, rfl, hh, hc⟩
  · exact .inl h
  · exact .inr ⟨g, c, cur, rfl, K.heap hh (hS g rfl), hc⟩
theorem OwnB.set {w : World} {g c n k : Nat} {y : Int} {cur : Array Value} (hh : w.heap[g]? = some (.cells cur 5 (0, 0))) (hc : ∀ j, j < n → ∃ x, cur[j]? = some (.int .u8 x)) : OwnB (w.setCell ⟨g, k, none⟩ (.int .u8 y)) (.slice (some ⟨g, 0, none⟩) n c) n := by
  refine .inr ⟨g, c, cur.setIfInBounds k (.int .u8 y), rfl, by simp [World.setCell, Array.getElem?_modify, hh], fun j hj => ?_⟩
  obtain ⟨x, hx⟩ := hc j hj
  by_cases hjk : k = j
  · subst hjk
    have := (Array.getElem?_eq_some_iff.1 hx).1
    exact ⟨y, by simp [this]⟩
  · exact ⟨x, by rw [Array.getElem?_setIfInBounds_ne hjk]; exact hx⟩
theorem Both.cut {w w3 w4 w5 w6 : World} {b m1 m2 b' m1' m2' : Nat} {sv : Value} {D : St} {F : Nat → Prop} {rb gf cf rb' gf' cf' : Nat} {vc : Value} {fs vs fs' : List Value} {R R' : RSt} (h : Both w w3 b m1 m2 sv D F rb gf cf vc fs vs R) {D' : St}
    (hd : DiskIs w4 b' m1' m2' (.slice none 0 0) D') (k4 : Below w3.heap.size w3 w4) (hft : ∀ i, foot b' m1' m2' (.slice none 0 0) i → w3.heap.size ≤ i) (k5 : Below w4.heap.size w4 w5)
    (hr : RefIs w5 (fun i => F i ∨ (w4.heap.size ≤ i ∧ i < w5.heap.size)) rb' gf' cf' (.slice none 0 0) fs' [] R') (k6 : Below w5.heap.size w5 w6) (ha : Alike D' R') (hc : R'.calls = []) :
    Both w w6 b' m1' m2' (.slice none 0 0) D' (fun i => F i ∨ (w4.heap.size ≤ i ∧ i < w5.heap.size)) rb' gf' cf' (.slice none 0 0) fs' [] R' := by
  have s0 := h.below.size
  have s4 := k4.size
  have s5 := k5.size
  refine ⟨(hd.below k5).below k6, hr.kept (Kept.of_below (S := fun _ => False) k6) (fun _ _ e => e), ha, ((h.below.trans (k4.mono s0)).trans (k5.mono (by omega))).trans (k6.mono (by omega)), fun i hi => Nat.le_trans s0 (hft i hi), fun i hi => ?_, fun i hi hf => ?_, fun c hcc => by rw [hc] at hcc; cases hcc⟩
  · rcases hi with hi | hi
    · exact h.newR i hi
    · omega
  · have h8 := hft i hf
    have h9 := hd.lt i hf
    rcases hi with hi | hi
    · have := h.ref.lt i hi
      omega
    · omega
end Go.Proofs.Ytinhednmfldmbaa.Dk
