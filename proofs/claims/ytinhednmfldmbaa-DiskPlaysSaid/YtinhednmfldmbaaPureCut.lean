/- What a loss of power leaves, as a function. -/
import Derived.Test.YtinhednmfldmbaaDisk4
namespace Go.Proofs.Ytinhednmfldmbaa.Dk
open Go Go.RowKit Hp

abbrev BM := Int → Option (List Int)
abbrev Wr := Int × List Int
def apply (M : BM) (wt : List Wr) : BM := wt.foldl (fun M c => upd M c.1 c.2) M
def step1 (s : BM × List Wr) (c : Wr) : BM × List Wr := if c.1 = -1 then (apply s.1 s.2, []) else (s.1, s.2 ++ [c])
def drain (cs : List Wr) (M : BM) : BM × List Wr := cs.foldl step1 (M, [])
theorem drain_succ (cs : List Wr) (M : BM) (j : Nat) (c : Wr) (h : cs[j]? = some c) : drain (cs.take (j + 1)) M = step1 (drain (cs.take j) M) c := by
  obtain ⟨hl, he⟩ := List.getElem?_eq_some_iff.1 h
  unfold drain
  rw [List.take_succ_eq_append_getElem hl, List.foldl_append, he]
  rfl
theorem step1_len (s : BM × List Wr) (c : Wr) : (step1 s c).2.length ≤ s.2.length + 1 := by
  unfold step1
  split <;> simp
theorem drain_len : ∀ (cs : List Wr) (s : BM × List Wr), (cs.foldl step1 s).2.length ≤ s.2.length + cs.length
  | [], s => by simp
  | c :: cs, s => by
    have h1 := drain_len cs (step1 s c)
    have h2 := step1_len s c
    simp only [List.foldl_cons, List.length_cons]
    omega
theorem apply_succ (wt : List Wr) (M : BM) (j : Nat) (c : Wr) (h : wt[j]? = some c) : apply M (wt.take (j + 1)) = upd (apply M (wt.take j)) c.1 c.2 := by
  obtain ⟨hl, he⟩ := List.getElem?_eq_some_iff.1 h
  unfold apply
  rw [List.take_succ_eq_append_getElem hl, List.foldl_append, he]
  rfl
def keepOf (keep : List Bool) (wt : List Wr) : List Wr := (wt.zipIdx.filter fun x => keep.getD x.2 false).map (·.1)
theorem keep_succ (keep : List Bool) (wt : List Wr) (j : Nat) (c : Wr) (h : wt[j]? = some c) : keepOf keep (wt.take (j + 1)) = keepOf keep (wt.take j) ++ (if keep.getD j false then [c] else []) := by
  obtain ⟨hl, he⟩ := List.getElem?_eq_some_iff.1 h
  unfold keepOf
  rw [List.take_succ_eq_append_getElem hl, List.zipIdx_append, List.filter_append, List.map_append, he]
  congr 1
  simp only [List.length_take, Nat.min_eq_left (Nat.le_of_lt hl), Nat.zero_add, List.zipIdx_cons, List.zipIdx_nil]
  rw [List.filter_cons]
  by_cases hk : keep.getD j false = true
  · rw [if_pos hk, if_pos hk]; rfl
  · rw [if_neg hk, if_neg hk]; rfl
def tornOf (t : Nat) (M : BM) (c : Wr) : List Int := c.2.take t ++ ((M c.1).getD zeros).drop t
def layN (t : Nat) (kept : List Wr) (M : BM) : Nat → BM
  | 0 => M
  | j + 1 => match kept[j]? with
    | none => layN t kept M j
    | some c => upd (layN t kept M j) c.1 (if j + 1 = kept.length then tornOf t (layN t kept M j) c else c.2)
def St.cutM (D : St) (at_ : Int) (keep : List Bool) (torn : Int) : BM :=
  let s := drain (D.calls.take (pick at_ (D.calls.length + 1)).toNat) D.first
  let kept := keepOf keep s.2
  layN (pick torn 33).toNat kept s.1 kept.length
def St.cut (D : St) (at_ : Int) (keep : List Bool) (torn : Int) : St := ⟨D.size, D.cutM at_ keep torn, D.cutM at_ keep torn, []⟩
def Fine (M : BM) : Prop := ∀ n l, M n = some l → l.length = 32
theorem fine_upd {M : BM} (h : Fine M) {n : Int} {l : List Int} (hl : l.length = 32) : Fine (upd M n l) := by
  intro k l' hk
  simp only [upd] at hk
  split at hk
  · cases hk; exact hl
  · exact h k l' hk
theorem fine_apply {wt : List Wr} (hw : ∀ p ∈ wt, p.2.length = 32) : ∀ {M : BM}, Fine M → Fine (apply M wt) := by
  induction wt with
  | nil => intro M h; exact h
  | cons c wt ih =>
    intro M h
    exact ih (fun p hp => hw p (List.mem_cons.2 (Or.inr hp))) (fine_upd h (hw c (List.mem_cons.2 (Or.inl rfl))))
theorem fine_drain {cs : List Wr} (hw : ∀ p ∈ cs, p.2.length = 32) {M : BM} (h : Fine M) : Fine (drain cs M).1 ∧ ∀ p ∈ (drain cs M).2, p.2.length = 32 := by
  unfold drain
  have : ∀ (cs : List Wr) (s : BM × List Wr), (∀ p ∈ cs, p.2.length = 32) → Fine s.1 → (∀ p ∈ s.2, p.2.length = 32) → Fine (cs.foldl step1 s).1 ∧ ∀ p ∈ (cs.foldl step1 s).2, p.2.length = 32 := by
    intro cs
    induction cs with
    | nil => intro s _ h1 h2; exact ⟨h1, h2⟩
    | cons c cs ih =>
      intro s hw h1 h2
      refine ih (step1 s c) (fun p hp => hw p (List.mem_cons.2 (Or.inr hp))) ?_ ?_
      · unfold step1
        split
        · exact fine_apply h2 h1
        · exact h1
      · unfold step1
        split
        · simp
        · intro p hp
          rcases List.mem_append.1 hp with hp | hp
          · exact h2 p hp
          · rw [List.mem_singleton.1 hp]; exact hw c (List.mem_cons.2 (Or.inl rfl))
  exact this cs (M, []) hw h (by simp)
theorem keep_mem {keep : List Bool} {wt : List Wr} {p : Wr} (h : p ∈ keepOf keep wt) : p ∈ wt := by
  unfold keepOf at h
  obtain ⟨x, hx, rfl⟩ := List.mem_map.1 h
  have := (List.mem_filter.1 hx).1
  obtain ⟨i, hi⟩ := List.mem_iff_getElem?.1 this
  rw [List.getElem?_zipIdx] at hi
  obtain ⟨y, hy, rfl⟩ := Option.map_eq_some_iff.1 hi
  exact List.mem_of_getElem? hy
theorem torn_length {t : Nat} (ht : t ≤ 32) {M : BM} (h : Fine M) {c : Wr} (hc : c.2.length = 32) : (tornOf t M c).length = 32 := by
  unfold tornOf
  have : ((M c.1).getD zeros).length = 32 := by
    cases hm : M c.1 with
    | none => rfl
    | some l => exact h _ _ hm
  rw [List.length_append, List.length_take, List.length_drop, this, hc]
  omega
theorem fine_lay {t : Nat} (ht : t ≤ 32) {kept : List Wr} (hw : ∀ p ∈ kept, p.2.length = 32) {M : BM} (h : Fine M) : ∀ j, Fine (layN t kept M j)
  | 0 => h
  | j + 1 => by
    have ih := fine_lay ht hw h j
    unfold layN
    split
    · exact ih
    · rename_i c hc
      have hcl := hw c (List.mem_of_getElem? hc)
      refine fine_upd ih ?_
      split
      · exact torn_length ht ih hcl
      · exact hcl
theorem St.cut_ok {D : St} (h : D.Ok) (at_ : Int) (keep : List Bool) (torn : Int) : (D.cut at_ keep torn).Ok := by
  have h1 := fine_drain (cs := D.calls.take (pick at_ (D.calls.length + 1)).toNat) (fun p hp => h.calls p (List.mem_of_mem_take hp)) h.first
  have hp := pick_lt torn 33 (by decide)
  have h2 : Fine (D.cutM at_ keep torn) := fine_lay (by omega) (fun p hp => h1.2 p (keep_mem hp)) h1.1 _
  exact ⟨h.pos, h.le, h2, h2, by simp [St.cut]⟩
theorem wcells_length {l : List Wr} (h : ∀ p ∈ l, p.2.length = 32) : (wcells l).length = l.length * 33 := by
  induction l with
  | nil => rfl
  | cons c l ih =>
    have := ih (fun p hp => h p (List.mem_cons.2 (Or.inr hp)))
    have hc := h c (List.mem_cons.2 (Or.inl rfl))
    simp only [wcells, List.flatMap_cons, List.length_append, List.length_cons, List.length_map, hc] at this ⊢
    omega
theorem wcells_at : ∀ {l : List Wr} (_ : ∀ p ∈ l, p.2.length = 32) {j : Nat} {n : Int} {b : List Int}, l[j]? = some (n, b) → ∀ (i : Nat) (v : Value), (Value.int .i64 n :: b.map (.int .u8))[i]? = some v → (wcells l)[33 * j + i]? = some v
  | [], _, _, _, _, hj, _, _, _ => by simp at hj
  | c :: l, h, 0, n, b, hj, i, v, hv => by
    have e : c = (n, b) := by simpa using hj
    subst e
    have hi := (List.getElem?_eq_some_iff.1 hv).1
    simp only [wcells, List.flatMap_cons, Nat.mul_zero, Nat.zero_add]
    rw [List.getElem?_append_left hi]
    exact hv
  | c :: l, h, j + 1, n, b, hj, i, v, hv => by
    have hc := h c (List.mem_cons.2 (Or.inl rfl))
    have := wcells_at (l := l) (fun p hp => h p (List.mem_cons.2 (Or.inr hp))) (j := j) (by simpa using hj) i v hv
    simp only [wcells, List.flatMap_cons]
    rw [List.getElem?_append_right (by simp [hc]; omega)]
    simp only [List.length_cons, List.length_map, hc]
    rw [show 33 * (j + 1) + i - (32 + 1) = 33 * j + i by omega]
    exact this
theorem size_write : (Try.prog.info? 81).map (·.size) = some 33 := by kernel_rfl
/-- A write's cells. -/
theorem one_write (n : Int) (l : List Int) : ∀ u ∈ (Value.int .i64 n :: l.map (Value.int .u8)), u.oneCell' = true := by
  intro u hu
  rcases List.mem_cons.1 hu with rfl | hu
  · rfl
  · exact one_u8 l u hu
/-- A write appended to a row that is the call's own. -/
theorem append_write {w : World} {ops : Array Oper} {rest : List Oper} {o : Oper} {a : Act} {Q : Exit → Act → World → Prop} (hgd : o.guard = none) (s x : Operand)
    (ho : o.op = .call { callee := .builtin .append, args := #[s, x], argTypes := #[74, 74] }) (base : Nat) (v : Value) (n : Nat) (xs : List Value) (hs : a.eval s = v) (hown : w.ownsRow base 81 33 v n xs)
    (g : Nat) (c : Nat) (news : List Value) (hx : a.eval x = .slice (some ⟨g, 0, none⟩) 1 c) (hl : news.length = 33) (hnews : w.rangeAt g 0 news) (h1 : ∀ u ∈ news, u.oneCell' = true) (hn : n < 2000000000000) (hbase : base ≤ w.heap.size)
    (h : ∀ v' w', w'.ownsRow base 81 33 v' (n + 1) (xs ++ news) → w.grownBy w' v.ownBlock → (∀ k, v'.ownBlock = some k → v.ownBlock = some k ∨ w.heap.size ≤ k) → wpList Try.prog ops Q rest (a.put o.dst v') w') : wpList Try.prog ops Q (o :: rest) a w := by
  obtain ⟨i0, hi, hz⟩ := Option.map_eq_some_iff.1 info_write
  simp only [Prod.mk.injEq] at hz
  obtain ⟨hz0, hz1, hz2⟩ := hz
  exact Ow.wpList_append w hgd s x 74 ho base 81 i0 _ 33 40 Try.underlying74 hi hz0 hz1 hz2 rfl (by decide) v n xs hs hown ⟨g, 0, none⟩ 1 c news hx (by rw [hl]) (fun j u hu => by rw [Addr.add_mid]; exact hnews j u hu) h1 (by unfold maxLen; omega) (by omega) hbase (fun v' w' k1 k2 _ k4 => h v' w' k1 k2 k4)
theorem fold_all (cs : List Value) (z : Array Value) (hl : cs.length = 33) (hz : z.size = 33) : List.foldl (fun (cs : Array Value) (x : Value × Nat) => cs.setIfInBounds x.snd x.fst) z cs.zipIdx = cs.toArray := by
  have := fold_set 0 cs 0 z (by omega)
  simp only [Nat.zero_add] at this
  rw [this, List.take_zero, List.nil_append, hl, List.drop_of_length_le (by simp [hz]), List.append_nil]
/-- The j-th of the writes of a row. -/
theorem own_range {w : World} {base : Nat} {v : Value} {l : List Wr} (h : w.ownsRow base 81 33 v l.length (wcells l)) (hl : ∀ p ∈ l, p.2.length = 32) {j : Nat} {n : Int} {b : List Int} (hj : l[j]? = some (n, b)) :
    ∃ g cap, v = .slice (some ⟨g, 0, none⟩) l.length cap ∧ base ≤ g ∧ w.rangeAt g (j * 33) (.int .i64 n :: b.map (.int .u8)) := by
  rw [Nat.mul_comm j 33]
  have hlt := (List.getElem?_eq_some_iff.1 hj).1
  rcases h.2 with ⟨_, h2⟩ | ⟨g, cap, cur, hv, hb, hg, _⟩
  · omega
  · refine ⟨g, cap, hv, hb, fun i u hu => ?_⟩
    have := h.cells (g := g) (by rw [hv]; rfl) (33 * j + i) u (wcells_at hl hj i u hu)
    rwa [Addr.add_mid, Nat.zero_add] at this
end Go.Proofs.Ytinhednmfldmbaa.Dk
