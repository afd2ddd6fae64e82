/- The reference's loss of power: what its drawn regions leave; a part of a block cloned. -/
import Derived.Test.YtinhednmfldmbaaPureRef2
namespace Go.Proofs.Ytinhednmfldmbaa.Dk
open Go Go.RowKit Hp Rd

theorem clone_part (w : World) (x : Nat) (hx : w.heap[x]? = some (.cells #[] 5 (0, 0))) (a : Addr) (k c : Nat) (l : List Int) (hl : l.length = k) (hk : k ≤ 140737488355328) (hc : ∀ (j : Nat) (u : Value), (l.map (Value.int .u8))[j]? = some u → w.cell? (a.add j) = some u) :
    ∃ v W', (Builtin.append_ #[31, 31] 31 #[.slice (some ⟨x, 0, none⟩) 0 0, .slice (some a) k c]).run Try.prog w = .ok v W' ∧ Below w.heap.size w W' ∧ W'.ownsRow x 5 1 v k (l.map (Value.int .u8)) := by
  obtain ⟨i0, hi, hz⟩ := Option.map_eq_some_iff.1 info_u8
  simp only [Prod.mk.injEq] at hz
  obtain ⟨hz0, hz1, hz2⟩ := hz
  have hxl := lt_of_heap hx
  rcases Nat.eq_zero_or_pos k with h0 | h0
  · obtain rfl : l = [] := List.eq_nil_of_length_eq_zero (by omega)
    subst h0
    have hr := run_append_room (P := Try.prog) w 31 31 5 i0 Try.underlying31 hi x 0 0 #[] hx a 0 c [] (by simp) (fun j u hu => by simp at hu) (fun u hu => by cases hu) (Nat.le_refl _) (by simp)
    have he : (List.take (0 * i0.size) (#[] : Array Value).toList ++ [] ++ List.drop (0 * i0.size + ([] : List Value).length) (#[] : Array Value).toList).toArray = #[] := by simp
    rw [he] at hr
    refine ⟨_, _, hr, ⟨rfl, rfl, rfl, by simp, fun i hi => ?_⟩, by simp, .inr ⟨x, 0, #[], rfl, Nat.le_refl _, ?_, Nat.le_refl _, by unfold maxLen; omega, by simp, by simp⟩⟩
    · by_cases hix : i = x
      · subst hix
        rw [setRow_heap w i #[] _ 5 (0, 0) hx, hx]
      · exact setRow_other w x i _ (fun e => hix e)
    · exact setRow_heap w x #[] _ 5 (0, 0) hx
  · have hrun := run_append_grow (P := Try.prog) w 31 31 5 i0 _ Try.underlying31 hi hz0 ⟨x, 0, none⟩ 0 0 [] (by simp) (fun j u hu => by simp at hu) a k c (l.map (.int .u8)) (by rw [hz1]; simp [hl]) hc (by omega) (by omega) (growslice_fits (by omega) (by rw [hz2]; omega))
    obtain ⟨v', w', hr, h2, h3, -⟩ := run_append_own (P := Try.prog) w x 31 31 5 i0 _ 1 1 Try.underlying31 hi hz0 hz1 hz2 rfl (by decide) (.slice (some ⟨x, 0, none⟩) 0 0) 0 [] ⟨rfl, .inr ⟨x, 0, #[], rfl, Nat.le_refl _, hx, Nat.le_refl _, by unfold maxLen; omega, by simp, by simp⟩⟩ a k c (l.map (.int .u8)) (by simp [hl]) hc (one_u8 l) (by unfold maxLen; omega) (by omega) (by omega)
    rw [hrun] at hr
    cases hr
    rw [Nat.zero_add, List.nil_append] at h2
    rw [Nat.zero_add] at hrun
    exact ⟨_, _, hrun, (Below.refl w.heap.size w).drew.alloc (Nat.le_refl _) _, h2⟩
theorem own_base {w : World} {base base' : Nat} {e : TypeId} {size : Nat} {v : Value} {n : Nat} {xs : List Value} (h : w.ownsRow base e size v n xs) (hb : base' ≤ base) : w.ownsRow base' e size v n xs := by
  refine ⟨h.1, ?_⟩
  rcases h.2 with h2 | ⟨g, cap, cur, h1, h2, h3⟩
  · exact .inl h2
  · exact .inr ⟨g, cap, cur, h1, Nat.le_trans hb h2, h3⟩
theorem wp_part {w : World} {o : Oper} {a : Act} {K : Act → World → Prop} {Q : Exit → Act → World → Prop} (s x : Operand) (ho : o.op = .call { callee := .builtin .append, args := #[s, x], argTypes := #[31, 31] }) (hty : o.type = 31)
    (b : Nat) (hb : w.heap[b]? = some (.cells #[] 5 (0, 0))) (g o1 : Nat) (k c : Nat) (l : List Int) (hs : a.eval s = .slice (some ⟨b, 0, none⟩) 0 0) (hx : a.eval x = .slice (some ⟨g, o1, none⟩) k c) (hR : w.rangeAt g o1 (l.map (Value.int .u8))) (hk : k ≤ l.length) (hk' : k ≤ 140737488355328)
    (h : ∀ v' W', Below w.heap.size w W' → W'.ownsRow b 5 1 v' k ((l.take k).map (Value.int .u8)) → K (a.put o.dst v') W') : o.wp Try.prog a w K Q := by
  obtain ⟨v', W', hr, h1, h2⟩ := clone_part w b hb ⟨g, o1, none⟩ k c (l.take k) (by simp; omega) hk' (fun j u hu => by
    rw [Addr.add_mid]
    refine hR j u ?_
    rw [List.map_take, List.getElem?_take] at hu
    split at hu
    · exact hu
    · cases hu)
  unfold Oper.wp execOp
  simp only [ho, resolve, invoke, builtin, Sem.run_bind, Sem.run_pure, Result.andThen_ok, List.map_toArray, List.map_cons, List.map_nil, hs, hx, hty, hr]
  exact h v' W' h1 h2
/-- The torn block's region: what is left. -/
def PsiC (l : List Int) (n : Nat) (w1 : World) (k : Nat) (_ : Array Value) (v : Value) (w : World) : Prop :=
  if k = 0 then ∃ x, v = .slice (some ⟨x, 0, none⟩) 0 0 ∧ w1.heap.size ≤ x ∧ w.heap[x]? = some (.cells #[] 5 (0, 0))
  else if k = 4 then w.ownsRow w1.heap.size 5 1 v n ((l.take n).map (Value.int .u8))
  else True
def TrC (k : Nat) (u u' : World) : Prop := if k = 0 ∨ k = 4 then Below u.heap.size u u' else u = u'
theorem TrC.below {k : Nat} {u u' : World} (h : TrC k u u') : Below u.heap.size u u' := by
  unfold TrC at h
  split at h
  · exact h
  · exact h ▸ Below.refl _ _
theorem psiC_stays {l : List Int} {n : Nat} {w1 : World} {j k : Nat} {A : Array Value} {v : Value} {w w' : World} (ht : TrC k w w') (h : PsiC l n w1 j A v w) : PsiC l n w1 j A v w' := by
  have K := Kept.of_below (S := fun _ => False) ht.below
  unfold PsiC at *
  split at h
  · rename_i h0
    rw [if_pos h0]
    obtain ⟨x, rfl, hx, hh⟩ := h
    exact ⟨x, rfl, hx, K.heap hh (fun e => e)⟩
  · rename_i h0
    rw [if_neg h0]
    split at h
    · rename_i h4
      rw [if_pos h4]
      exact own_kept h K (fun _ _ e => e)
    · rename_i h4
      rw [if_neg h4]
      trivial
/-- A call laid on a row of calls: what is left. -/
def PsiL (cs : List Wr) (vs : List Value) (n : Int) (vb vc : Value) (w1 : World) (k : Nat) (_ : Array Value) (v : Value) (w : World) : Prop :=
  if k = 12 then ∃ x, v = .slice (some ⟨x, 0, none⟩) 1 1 ∧ w1.heap.size ≤ x ∧ w.heap[x]? = some (.cells #[.int .i64 n, vb] 83 (0, 0))
  else if k = 13 then (∀ i, v.ownBlock = some i → vc.ownBlock = some i ∨ w1.heap.size ≤ i) ∧ w.ownsRow 0 83 2 v (cs.length + 1) (ccells cs vs ++ [.int .i64 n, vb])
  else True
def TrL (vc : Value) (k : Nat) (u u' : World) : Prop := if k = 12 then Below u.heap.size u u' else if k = 13 then Kept (fun k => vc.ownBlock = some k) u u' else u = u'
theorem TrL.kept {vc : Value} {k : Nat} {u u' : World} (h : TrL vc k u u') : Kept (fun k => vc.ownBlock = some k) u u' := by
  unfold TrL at h
  split at h
  · exact Kept.of_below h
  · split at h
    · exact h
    · exact h ▸ Kept.refl _ _
theorem psiL_stays (cs : List Wr) (vs : List Value) (n : Int) (vb vc : Value) (w1 : World) (hlt : ∀ i, vc.ownBlock = some i → i < w1.heap.size) : ∀ (j k : Nat) (A : Array Value) (v : Value) (w w' : World), j ≠ k → (([0, 0, 2, 6, 14, 0, 0, 96, 224, 480, 0, 2016, 4064, 8190, 16383] : List Nat).getD j 0).testBit k = false →
    TrL vc k w w' → PsiL cs vs n vb vc w1 j A v w → PsiL cs vs n vb vc w1 j A v w' := by
  intro j k A v w w' hjk hb ht h
  have K := ht.kept
  unfold PsiL at *
  split at h
  · rename_i h0
    rw [if_pos h0]
    obtain ⟨x, rfl, hx, hh⟩ := h
    exact ⟨x, rfl, hx, K.heap hh (fun e => by have := hlt x e; omega)⟩
  · rename_i h0
    rw [if_neg h0]
    split at h
    · rename_i h4
      subst h4
      rw [if_pos rfl]
      have h12 : k ≠ 12 := fun e => by subst e; exact absurd hb (by decide)
      have he : w = w' := by
        unfold TrL at ht
        rw [if_neg h12, if_neg (by omega)] at ht
        exact ht
      exact he ▸ h
    · rename_i h4
      rw [if_neg h4]
      trivial
/-- The reference's disk x, its calls being laid. -/
structure LaySt (F : Nat → Prop) (B : Nat) (w2 w : World) (xb gf cf : Nat) (vc : Value) (fs vs : List Value) (X : RSt) : Prop where
  is : RefIs w (fun i => F i ∨ (B ≤ i ∧ i < w.heap.size)) xb gf cf vc fs vs X
  below : Below w2.heap.size w2 w
  own : ∀ k, vc.ownBlock = some k → w2.heap.size ≤ k
  new : w2.heap.size ≤ xb
theorem RefIs.share {F : Nat → Prop} {w : World} {rb gf cf : Nat} {vc : Value} {fs vs : List Value} {R : RSt} (h : RefIs w F rb gf cf vc fs vs R) (B : Nat) (hB : B ≤ w.heap.size) :
    LaySt F B w (w.drew.alloc (.cells #[.int .i64 R.size, .slice (some ⟨gf, 0, none⟩) R.size.toNat cf, .slice none 0 0] 68)) w.heap.size gf cf (.slice none 0 0) fs [] ⟨R.size, R.first, []⟩ := by
  have K : Kept (fun _ => False) w (w.drew.alloc (.cells #[.int .i64 R.size, .slice (some ⟨gf, 0, none⟩) R.size.toNat cf, .slice none 0 0] 68)) := (Kept.refl _ _).drew.alloc _
  have hgf := h.lt _ h.inF.2.1
  have hs : (w.drew.alloc (.cells #[.int .i64 R.size, .slice (some ⟨gf, 0, none⟩) R.size.toNat cf, .slice none 0 0] 68)).heap.size = w.heap.size + 1 := by simp
  refine ⟨⟨h.pos, heap_alloc_new w.drew _, fun j u hu => kept_cell' K (h.frow j u hu) (fun e => e), h.fcap, h.flen, fun n v hv => ?_, World.ownsRow_nil _ _ _ _, rfl, fun j c v hc => by simp at hc, ⟨.inr ⟨hB, by omega⟩, .inl h.inF.2.1, fun k hk => by cases hk⟩, ⟨by omega, by simp [Value.ownBlock], by simp [Value.ownBlock]⟩, fun i hi => ?_⟩, (Below.refl _ _).drew.alloc (Nat.le_refl _) _, fun k hk => (by cases hk), Nat.le_refl _⟩
  · obtain ⟨k1, k2⟩ := h.firsts n v hv
    refine ⟨k1.kept K (fun g off cap he e => e), fun g off cap he => ?_⟩
    obtain ⟨j1, j2, j3, j4, j5⟩ := k2 g off cap he
    have := h.lt g j1
    exact ⟨.inl j1, by omega, j3, (by simp [Value.ownBlock]), j5⟩
  · rcases hi with hi | hi
    · have := h.lt i hi
      omega
    · exact hi.2
/-- What a call that is laid holds, apart from x's own blocks. -/
def Laid (F : Nat → Prop) (gf : Nat) (w2 wr w : World) (v : Value) (b : List Int) : Prop :=
  Row32 w v b ∧ Below wr.heap.size wr w ∧ ∀ g off cap, v = .slice (some ⟨g, off, none⟩) 32 cap → ((F g ∧ g < w2.heap.size ∧ g ≠ gf) ∨ wr.heap.size ≤ g) ∧ 32 ≤ cap
theorem LaySt.add {F : Nat → Prop} {B : Nat} {w2 wr wx w' : World} {xb gf cf : Nat} {vc vc' vb : Value} {fs vs : List Value} {X : RSt} (h : LaySt F B w2 wr xb gf cf vc fs vs X) (hB : B ≤ w2.heap.size) (n : Int) (b : List Int) (hb : Laid F gf w2 wr wx vb b)
    (K : Kept (fun i => vc.ownBlock = some i) wx w') (O : w'.ownsRow 0 83 2 vc' (X.calls.length + 1) (ccells X.calls vs ++ [.int .i64 n, vb])) (O2 : ∀ i, vc'.ownBlock = some i → vc.ownBlock = some i ∨ wx.heap.size ≤ i) :
    LaySt F B w2 (w'.setCell ⟨xb, 2, none⟩ vc') xb gf cf vc' fs (vs ++ [vb]) (X.add n b) := by
  obtain ⟨hb1, hb2, hb3⟩ := hb
  have hIx : RefIs wx (fun i => F i ∨ (B ≤ i ∧ i < wr.heap.size)) xb gf cf vc fs vs X := h.is.kept (Kept.of_below (S := fun _ => False) hb2) (fun _ _ e => e)
  have s1 := h.below.size
  have s2 := hb2.size
  have s3 := K.size
  have hxb := h.is.lt xb h.is.inF.1
  have hgf := h.is.lt gf h.is.inF.2.1
  have hs : (w'.setCell ⟨xb, 2, none⟩ vc').heap.size = w'.heap.size := by simp [World.setCell]
  have hg := hIx.grow (F' := fun i => F i ∨ (B ≤ i ∧ i < w'.heap.size)) K n b vb O O2 (fun i hi => by
    rcases hi with hi | hi
    · exact .inl hi
    · exact .inr ⟨hi.1, by omega⟩) (fun i hi => by
    rcases hi with hi | hi
    · have := h.is.lt i (.inl hi)
      omega
    · exact hi.2) (fun k hk => by
    rcases O2 k hk with h5 | h5
    · have := h.own k h5
      have := h.is.lt k (h.is.inF.2.2 k h5)
      exact .inr ⟨by omega, by omega⟩
    · exact .inr ⟨by omega, (O.lt k hk).2⟩) (fun _ => ⟨hb1.kept K (fun g off cap he e => by
      obtain ⟨h6, -⟩ := hb3 g off cap he
      have := h.own g e
      have := h.is.lt g (h.is.inF.2.2 g e)
      omega), fun g off cap he => by
      obtain ⟨h6, h7⟩ := hb3 g off cap he
      obtain ⟨g2, o2, c2, he2, hlt2, -⟩ := hb1.block
      rw [he] at he2
      cases he2
      have hnew := h.new
      refine ⟨?_, by omega, by omega, fun e => ?_, h7⟩
      · rcases h6 with h6 | h6
        · exact .inl h6.1
        · exact .inr ⟨by omega, by omega⟩
      · rcases O2 g e with h8 | h8
        · have := h.own g h8
          have := h.is.lt g (h.is.inF.2.2 g h8)
          omega
        · omega⟩)
  refine ⟨by rw [hs]; exact hg.1, ?_, fun k hk => ?_, h.new⟩
  · exact (h.below.trans (hb2.mono s1)).trans (hg.2.below (Nat.le_trans s1 s2) (fun i hi e => by
      have := h.new
      rcases e with e | e
      · omega
      · have := h.own i e
        omega))
  · rcases O2 k hk with h5 | h5
    · exact h.own k h5
    · omega
theorem xdisk_size (t : Nat) (torn : Int) (dn : List Wr) (R0 : RSt) : ∀ j, (xdisk t torn dn R0 j).size = R0.size
  | 0 => rfl
  | j + 1 => by
    unfold xdisk
    cases h : dn[j]? with
    | none => exact xdisk_size t torn dn R0 j
    | some c => exact xdisk_size t torn dn R0 j
theorem xdisk_len (t : Nat) (torn : Int) (dn : List Wr) (R0 : RSt) : ∀ j, (xdisk t torn dn R0 j).calls.length ≤ R0.calls.length + j
  | 0 => Nat.le_refl _
  | j + 1 => by
    have ih := xdisk_len t torn dn R0 j
    unfold xdisk
    cases h : dn[j]? with
    | none => simp only; omega
    | some c => simp only [RSt.add, List.length_append, List.length_cons, List.length_nil]; omega
theorem kept_over {B : Nat} {a b : World} (h : Below B a b) : Kept (fun i => B ≤ i) a b := ⟨h.os, h.tape, h.output, h.size, fun i _ hn => h.block i (by omega)⟩
/-- The reference's disk without calls, its blocks being read. -/
structure BareSt (w5 w : World) (Fx : Nat → Prop) (yb : Nat) (vf : Value) (rows : List Value) (size : Int) (f : Int → List Int) : Prop where
  head : w.heap[yb]? = some (.cells #[.int .i64 size, vf, .slice none 0 0] 68 (0, 0))
  row : w.ownsRow w5.heap.size 31 1 vf rows.length rows
  rows : ∀ (j : Nat) (v : Value), rows[j]? = some v → Row32 w v (f j) ∧ ∀ g off cap, v = .slice (some ⟨g, off, none⟩) 32 cap → Fx g ∧ g < w5.heap.size ∧ 32 ≤ cap
  below : Below w5.heap.size w5 w
  new : w5.heap.size ≤ yb
  far : vf.ownBlock ≠ some yb
theorem BareSt.add {w5 w w' : World} {Fx : Nat → Prop} {yb : Nat} {vf vf' v : Value} {rows : List Value} {size : Int} {f : Int → List Int} (h : BareSt w5 w Fx yb vf rows size f) (hv : Row32 w v (f rows.length)) (hg : ∀ g off cap, v = .slice (some ⟨g, off, none⟩) 32 cap → Fx g ∧ g < w5.heap.size ∧ 32 ≤ cap)
    (K : Kept (fun i => vf.ownBlock = some i) w w') (O : w'.ownsRow w5.heap.size 31 1 vf' (rows.length + 1) (rows ++ [v])) (O2 : ∀ i, vf'.ownBlock = some i → vf.ownBlock = some i ∨ w.heap.size ≤ i) :
    BareSt w5 (w'.setCell ⟨yb, 1, none⟩ vf') Fx yb vf' (rows ++ [v]) size f := by
  have hyb := lt_of_heap h.head
  have s1 := h.below.size
  have H2 := K.heap h.head h.far
  have hfar : vf'.ownBlock ≠ some yb := fun e => by
    rcases O2 yb e with h5 | h5
    · exact h.far h5
    · omega
  have KB : Below w5.heap.size w w' := K.below s1 (fun i hi e => by have := (h.row.lt i e).1; omega)
  have KS : Below w5.heap.size w' (w'.setCell ⟨yb, 1, none⟩ vf') := (Below.refl _ _).setCell (p := ⟨yb, 1, none⟩) h.new vf'
  have KK := kept_over (KB.trans KS)
  refine ⟨?_, ?_, fun j u hj => ?_, (h.below.trans KB).trans KS, h.new, hfar⟩
  · simp [World.setCell, Array.getElem?_modify, H2]
  · rw [List.length_append]
    exact own_kept O ((Kept.refl (fun i => i = yb) w').setCell (p := ⟨yb, 1, none⟩) (Or.inr rfl) vf') (fun i hi e => by subst e; exact hfar hi)
  · rcases Nat.lt_or_ge j rows.length with hj5 | hj5
    · rw [List.getElem?_append_left hj5] at hj
      obtain ⟨hr, ha⟩ := h.rows j u hj
      exact ⟨hr.kept KK (fun g off cap he e => by have := (ha g off cap he).2.1; omega), ha⟩
    · rw [List.getElem?_append_right hj5] at hj
      have hj0 : j - rows.length = 0 := by
        have := (List.getElem?_eq_some_iff.1 hj).1
        simp at this
        omega
      rw [hj0] at hj
      obtain rfl : v = u := by simpa using hj
      have hjl : j = rows.length := by omega
      subst hjl
      exact ⟨hv.kept KK (fun g off cap he e => by have := (hg g off cap he).2.1; omega), hg⟩
theorem BareSt.is {w5 w : World} {Fx : Nat → Prop} {yb n : Nat} {vf : Value} {rows : List Value} {f : Int → List Int} (h : BareSt w5 w Fx yb vf rows n f) (hn : rows.length = n) (h1 : 1 ≤ n) (G : Nat → Prop) (hG : ∀ i, Fx i → G i) (hG2 : ∀ i, G i → i < w.heap.size) (hG3 : ∀ i, w5.heap.size ≤ i → i < w.heap.size → G i) :
    ∃ gf cf, RefIs w G yb gf cf (.slice none 0 0) rows [] ⟨n, f, []⟩ := by
  obtain ⟨gf, cf, hvf, hcf, hgb⟩ : ∃ gf cf, vf = .slice (some ⟨gf, 0, none⟩) rows.length cf ∧ rows.length ≤ cf ∧ w5.heap.size ≤ gf := by
    rcases h.row.2 with ⟨_, h5⟩ | ⟨g, cap, cur, h5, hb, _, h6, _⟩
    · omega
    · exact ⟨g, cap, h5, h6, hb⟩
  have hgl := (h.row.lt gf (by rw [hvf]; rfl)).2
  have hyl := lt_of_heap h.head
  refine ⟨gf, cf, ⟨by show (0 : Int) ≤ (n : Int); omega, ?_, fun j u hu => ?_, ?_, ?_, fun m v hv => ⟨(h.rows m v hv).1, fun g off cap he => ?_⟩, World.ownsRow_nil _ _ _ _, rfl, fun j c v hc => by simp at hc, ⟨hG3 _ h.new hyl, hG3 _ hgb hgl, fun k hk => (by cases hk)⟩, ⟨fun e => h.far (by rw [hvf, e]; rfl), (by intro e; cases e), (by intro e; cases e)⟩, hG2⟩⟩
  · rw [h.head, hvf, hn]
    simp
  · have := h.row.cells (g := gf) (by rw [hvf]; rfl) j u hu
    rwa [Addr.add_mid] at this
  · simp; omega
  · simp; omega
  · obtain ⟨h5, h6, h7⟩ := (h.rows m v hv).2 g off cap he
    have hnew := h.new
    exact ⟨hG _ h5, by omega, by omega, (by intro e; cases e), h7⟩
end Go.Proofs.Ytinhednmfldmbaa.Dk
