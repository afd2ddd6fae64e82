/- The disk: a block written. -/
import Derived.Test.YtinhednmfldmbaaDisk2
import Derived.Test.YtinhednmfldmbaaOwn
import Derived.StillTailTactics
namespace Go.Proofs.Ytinhednmfldmbaa.Dk
open Go Go.RowKit Hp

theorem load_mid (w : World) (b o : Nat) (cs : List Value) (n : Nat) (hn : cs.length = n) (hc : w.rangeAt b o cs) : (loadCellsFrom ⟨b, o, none⟩ 0 n #[]).run Try.prog w = .ok cs.toArray w := by
  subst hn
  have := run_loadCells_list (P := Try.prog) w ⟨b, o, none⟩ cs (fun j v hv => by rw [Addr.add_mid]; exact hc j v hv)
  simpa [loadCells] using this
theorem array_at (g off c : Nat) (w : World) : (Instr.arrayAt 79 (.slice (some ⟨g, off, none⟩) 32 c)).run Try.prog w = .ok (.pointer (some ⟨g, off, none⟩)) w := by
  simp [Instr.arrayAt, run_underlying Try.underlying79]
theorem exec_load_mid {P : Program} {w : World} {o : Oper} {ρ : Operand → Value} (ty : TypeId) (x : Operand) {b off : Nat} {cs : List Value} {d : TypeDesc} (ho : o.op = .load ty x) (hx : ρ x = .pointer (some ⟨b, off, none⟩)) (hc : w.rangeAt b off cs) (hu : P.underlying ty = some d) (hd : d.isRow = true) (hi : (P.info? ty).map (·.size) = some cs.length) :
    (execOp ρ o).run P w = .ok (.value (.agg cs.toArray)) w := by
  unfold execOp
  simp only [ho, hx, Instr.loadAt, Instr.sureAddr, Sem.run_bind, Sem.run_pure, Result.andThen_ok, run_loadVar_mid w b off ty cs d hc hu hd hi]
theorem info_write : (Try.prog.info? 81).map (fun i => (i.zero, i.size, i.bytes)) = some (some (.agg (.int .i64 0 :: zeros.map (.int .u8)).toArray), 33, 40) := by kernel_rfl
theorem fold_set (o : Nat) : ∀ (vs : List Value) (k : Nat) (cs : Array Value), o + k + vs.length ≤ cs.size →
    (vs.zipIdx k).foldl (fun cs x => cs.setIfInBounds (o + x.snd) x.fst) cs = (cs.toList.take (o + k) ++ vs ++ cs.toList.drop (o + k + vs.length)).toArray
  | [], k, cs, h => by
    simp
  | v :: vs, k, cs, h => by
    simp only [List.length_cons] at h
    rw [List.zipIdx_cons, List.foldl_cons, fold_set o vs (k + 1) _ (by simp; omega)]
    congr 1
    have hlt : o + k < cs.toList.length := by simp; omega
    simp only [Array.toList_setIfInBounds]
    rw [← Nat.add_assoc o k 1, List.take_succ_eq_append_getElem (by simpa using hlt)]
    rw [List.getElem_set_self, List.take_set_of_le (Nat.le_refl _)]
    rw [List.drop_set_of_lt (by omega)]
    simp only [List.append_assoc, List.cons_append, List.nil_append, List.length_cons]
    rw [show o + k + 1 + vs.length = o + k + (vs.length + 1) by omega]
theorem fold_write (n : Int) (l : List Int) (hl : l.length = 32) : List.foldl (fun (cs : Array Value) (x : Value × Nat) => cs.setIfInBounds (1 + x.snd) x.fst) (.int .i64 n :: zeros.map (.int .u8)).toArray (l.map (Value.int .u8)).zipIdx = (.int .i64 n :: l.map (.int .u8)).toArray := by
  rw [fold_set 1 (l.map (Value.int .u8)) 0 _ (by simp [hl, zeros])]
  rw [List.drop_of_length_le (by simp [hl, zeros])]
  simp
theorem fold_write0 (n : Int) (l : List Int) (hl : l.length = 32) : List.foldl (fun (cs : Array Value) (x : Value × Nat) => cs.setIfInBounds x.snd x.fst) (.int .i64 n :: zeros.map (.int .u8)).toArray ((l.map (Value.int .u8)).zipIdx 1) = (.int .i64 n :: l.map (.int .u8)).toArray := by
  have := fold_set 0 (l.map (Value.int .u8)) 1 (.int .i64 n :: zeros.map (.int .u8)).toArray (by simp [hl, zeros])
  simp only [Nat.zero_add] at this
  rw [this]
  simp only [List.take_succ_cons, List.take_zero, List.length_map, hl]
  rw [List.drop_of_length_le (by simp [zeros])]
  simp
def St.write (D : St) (n : Int) (l : List Int) : St := { D with now := upd D.now n l, calls := D.calls ++ [(n, l)] }
theorem St.write_ok {D : St} (h : D.Ok) {n : Int} {l : List Int} (hl : l.length = 32) : (D.write n l).Ok := by
  refine ⟨h.pos, h.le, h.first, fun k l' hk => ?_, fun p hp => ?_⟩
  · simp only [St.write, upd] at hk
    split at hk
    · cases hk; exact hl
    · exact h.now k l' hk
  · simp only [St.write, List.mem_append, List.mem_singleton] at hp
    rcases hp with hp | rfl
    · exact h.calls p hp
    · exact hl
theorem wcells_snoc (l : List (Int × List Int)) (n : Int) (b : List Int) : wcells (l ++ [(n, b)]) = wcells l ++ (.int .i64 n :: b.map (.int .u8)) := by
  simp [wcells]
/-- What the two operations that make memory leave. -/
def PsiW (D : St) (n : Int) (l : List Int) (sv : Value) (w1 : World) (k : Nat) (_ : Array Value) (v : Value) (w : World) : Prop :=
  if k = 10 then ∃ x, v = .slice (some ⟨x, 0, none⟩) 1 1 ∧ w1.heap.size ≤ x ∧ w.heap[x]? = some (.cells (.int .i64 n :: l.map (.int .u8)).toArray 81 (0, 0))
  else if k = 11 then w.ownsRow 0 81 33 v (D.calls.length + 1) (wcells D.calls ++ (.int .i64 n :: l.map (.int .u8))) ∧ ∀ i, v.ownBlock = some i → sv.ownBlock = some i ∨ w1.heap.size ≤ i
  else True
theorem psiW_stays (D : St) (n : Int) (l : List Int) (sv : Value) (w1 : World) (R1 : w1.ownsRow 0 81 33 sv D.calls.length (wcells D.calls)) : ∀ (j k : Nat) (A : Array Value) (v : Value) (w w' : World), j ≠ k → (([0, 0, 2, 6, 14, 0, 0, 64, 192, 480, 992, 2046, 4095, 8191, 16383] : List Nat).getD j 0).testBit k = false →
    (if k = 10 then Below w.heap.size w w' else if k = 11 then Kept (fun k => sv.ownBlock = some k) w w' else w = w') → PsiW D n l sv w1 j A v w → PsiW D n l sv w1 j A v w' := by
  intro j k A v w w' hjk hb ht h
  unfold PsiW at *
  by_cases h10 : j = 10
  · subst h10
    simp only [if_true] at h ⊢
    obtain ⟨x, hv, hx, hh⟩ := h
    refine ⟨x, hv, hx, ?_⟩
    rw [if_neg (Ne.symm hjk)] at ht
    split at ht
    · exact ht.heap hh (fun e => by have := (R1.lt x e).2; omega)
    · exact ht ▸ hh
  · by_cases h11 : j = 11
    · subst h11
      simp only [if_true, h10, if_false] at h ⊢
      by_cases hk : k = 10
      · subst hk; exact absurd hb (by decide)
      · rw [if_neg hk, if_neg (Ne.symm hjk)] at ht
        exact ht ▸ h
    · simp only [h10, h11, if_false]
set_option maxHeartbeats 2000000 in
set_option maxRecDepth 100000 in
theorem write_ok (b m1 m2 : Nat) (sv : Value) (D : St) (n : Int) (g off c : Nat) (l : List Int) (w : World) (h : DiskIs w b m1 m2 sv D) (h0 : 0 ≤ n) (h1 : n < D.size) (hl : l.length = 32) (hr : w.rangeAt g off (l.map (.int .u8))) (hg : sv.ownBlock ≠ some g) (hn : D.calls.length < 1000000000000) :
    Calls Try.prog 14 #[.pointer (some ⟨b, 0, none⟩), .int .i64 n, .slice (some ⟨g, off, none⟩) 32 c] w fun e w' => ∃ sv', e = .returned (.int .i64 0) ∧ DiskIs w' b m1 m2 sv' (D.write n l) ∧ Kept (foot b m1 m2 sv) w w' ∧ ∀ i, sv'.ownBlock = some i → sv.ownBlock = some i ∨ w.heap.size ≤ i := by
  have mixed : Try.prog.follows Departure.mixedOrders = true := by kernel_rfl
  obtain ⟨c0, c1, c2, c3⟩ := h.cells
  have hap := array_at g off c
  obtain ⟨es, ck, hup, hes⟩ := run_put (P := Try.prog) (w := w.drew) (m := m2) (M := bmap D.now) h.now Try.underlying73 Try.underlying3 n (blk l)
  have hup' := hup
  unfold blk at hup'
  go_enter Try.func14, Try.ntmps14
  go_wp2_with (go_at_call 40; refine (check_ok _ _ _ _ c0 h0 h1).mono ?_; rintro e w1 ⟨rfl, rfl⟩)
  refine Mo.region 8 [0, 1, 3, 7, 0, 0, 32, 96, 255] (fun w' => w' = w.drew) (fun _ => Eq) (fun _ _ => True) (fun _ _ _ _ => True) rfl (fun _ => trivial) (fun _ _ _ h k => k ▸ h) (fun _ _ _ _ _ _ _ _ _ _ => trivial) (fun _ _ _ _ _ _ _ _ _ => trivial) mixed (by kernel_rfl) ?_
  simp only [List.take_succ_cons, List.take_zero, List.drop_succ_cons, List.drop_zero]
  refine Mo.val (v := ?_) (fun _ => rfl) (by rfl) (fun _ _ _ => trivial) ?_ ?_
  rotate_left
  · (intro w' hT hP hF; cases hT; go_simp; with_reducible rfl)
  simp only [Act.put, List.setIfInBounds_toArray, List.set_cons_zero, List.set_cons_succ]
  refine Mo.val (v := ?_) (fun _ => rfl) (by rfl) (fun _ _ _ => trivial) ?_ ?_
  rotate_left
  · (intro w' hT hP hF; cases hT; go_simp; with_reducible rfl)
  simp only [Act.put, List.setIfInBounds_toArray, List.set_cons_zero, List.set_cons_succ]
  refine Mo.val (v := ?_) (fun _ => rfl) (by rfl) (fun _ _ _ => trivial) ?_ ?_
  rotate_left
  · (intro w' hT hP hF; cases hT; go_simp; with_reducible rfl)
  simp only [Act.put, List.setIfInBounds_toArray, List.set_cons_zero, List.set_cons_succ]
  refine Mo.val (v := ?_) (fun _ => rfl) (by rfl) (fun _ _ _ => trivial) ?_ ?_
  rotate_left
  · (intro w' hT hP hF; cases hT; go_simp; with_reducible rfl)
  simp only [Act.put, List.setIfInBounds_toArray, List.set_cons_zero, List.set_cons_succ]
  refine Mo.val (v := ?_) (fun _ => rfl) (by rfl) (fun _ _ _ => trivial) ?_ ?_
  rotate_left
  · (intro w' hT hP hF; cases hT; go_simp; with_reducible rfl)
  simp only [Act.put, List.setIfInBounds_toArray, List.set_cons_zero, List.set_cons_succ]
  refine Mo.val (v := ?_) (fun _ => rfl) (by rfl) (fun _ _ _ => trivial) ?_ ?_
  rotate_left
  · (intro w' hT hP hF; cases hT; go_simp; with_reducible rfl)
  simp only [Act.put, List.setIfInBounds_toArray, List.set_cons_zero, List.set_cons_succ]
  refine Mo.val (v := ?_) (fun _ => rfl) (by rfl) (fun _ _ _ => trivial) ?_ ?_
  rotate_left
  · (intro w' hT hP hF; cases hT; go_simp; with_reducible rfl)
  simp only [Act.put, List.setIfInBounds_toArray, List.set_cons_zero, List.set_cons_succ]
  refine Mo.val (v := ?_) (fun _ => rfl) (by rfl) (fun _ _ _ => trivial) ?_ ?_
  rotate_left
  · (intro w' hT hP hF; refine exec_load_mid (P := Try.prog) 79 (.tmp 23) ?_ ?_ (show w'.rangeAt g off (l.map (.int .u8)) by cases hT; exact hr) Try.underlying79 rfl (by rw [size_blk]; simp [hl]) <;> rfl)
  simp only [Act.put, List.setIfInBounds_toArray, List.set_cons_zero, List.set_cons_succ]
  refine Mo.done ?_
  rintro w' rfl - -
  go_wp2
  obtain ⟨w1, hw1⟩ : ∃ w1, ChangeMaps.setBlock w.drew m2 (Obj.map es ck) = w1 := ⟨_, rfl⟩
  rw [hw1]
  have K1 : Kept (fun k => k = m2) w w1 := by
    rw [← hw1]
    exact ((Kept.refl (fun k => k = m2) w).drew).setBlock (Or.inr rfl) _
  have M1 : MapIs w1 m2 (bmap (upd D.now n l)) := by
    rw [← hw1, ← put_bmap]
    exact (MapIs.put (w := w.drew) h.now hes)
  have hbm : b ≠ m2 := fun e => by
    obtain ⟨es, ck, hx, _⟩ := h.now
    rw [← e, h.head] at hx
    cases hx
  have hgm : ∀ {g' : Nat} {cs : Array Value} {t : TypeId} {fr : Nat × Nat}, w.heap[g']? = some (.cells cs t fr) → g' ≠ m2 := fun hx e => by
    obtain ⟨es, ck, hy, _⟩ := h.now
    rw [← e, hx] at hy
    cases hy
  have H1 := K1.heap h.head hbm
  have A1 := h.first.kept K1 h.apart
  have R1 : w1.ownsRow 0 81 33 sv D.calls.length (wcells D.calls) := own_kept h.row K1 (fun i hi e => by
    subst e
    rcases h.row.2 with ⟨hv, _⟩ | ⟨x, cap, cur, hv, _, hx, _⟩
    · rw [hv] at hi; cases hi
    · rw [hv] at hi
      have hxi : x = i := by simpa [Value.ownBlock] using hi
      exact hgm hx hxi)
  have hr1 : w1.rangeAt g off (l.map (.int .u8)) := fun j v hj => by
    have hv := hr j v hj
    have : w1.heap[g]? = w.heap[g]? := by
      rcases hg : w.heap[g]? with _ | o
      · simp [World.cell?, hg] at hv
      · cases o with
        | cells cs t fr => exact K1.heap hg (hgm hg)
        | _ => simp [World.cell?, hg] at hv
    rw [← hv]
    simp [World.cell?, this]
  clear hup hup' hes hw1 hr c0 c1 c2 c3
  have hfo := fold_write n l hl
  have hfo2 := fold_write0 n l hl
  simp only [zeros, List.reduceReplicate, List.map_cons, List.map_nil] at hfo hfo2
  have c3 : w1.cell? ⟨b, 3, none⟩ = some sv := by simp [World.cell?, H1]
  refine Mo.region 12 [0, 0, 2, 6, 14, 0, 0, 64, 192, 480, 992, 2046, 4095, 8191, 16383] (fun w' => Kept (fun k => sv.ownBlock = some k) w1 w') (fun k u u' => if k = 10 then Below u.heap.size u u' else if k = 11 then Kept (fun k => sv.ownBlock = some k) u u' else u = u') (fun k w' => k = 11 → w'.ownsRow 0 81 33 sv D.calls.length (wcells D.calls)) (PsiW D n l sv w1) (Kept.refl _ _).drew (fun _ _ => own_kept R1 (Kept.refl (fun _ => False) w1).drew (fun _ _ e => e)) ?ht ?hst ?hpre mixed (by kernel_rfl) ?_
  case ht =>
    intro k u u' hu ht
    split at ht
    · exact hu.then ht
    · split at ht
      · exact hu.trans ht (fun _ _ e => e)
      · exact ht ▸ hu
  case hst => exact psiW_stays D n l sv w1 R1
  case hpre =>
    intro j k u u' hjk hb hu ht hp e
    subst e
    rw [if_neg (Ne.symm hjk)] at ht
    split at ht
    · exact own_kept (hp rfl) (Kept.of_below (S := fun _ => False) ht) (fun _ _ e => e)
    · exact ht ▸ hp rfl
  simp only [List.take_succ_cons, List.take_zero, List.drop_succ_cons, List.drop_zero]
  have c3' : ∀ w', Kept (fun k => sv.ownBlock = some k) w1 w' → w'.cell? ⟨b, 3, none⟩ = some sv := fun w' k => by
    have := k.heap H1 h.far
    simp [World.cell?, this]
  have hr' : ∀ w', Kept (fun k => sv.ownBlock = some k) w1 w' → w'.rangeAt g off (l.map (.int .u8)) := fun w' k j v hj => by
    have hv := hr1 j v hj
    have hlt : g < w1.heap.size := World.block_lt_of_cell? w1 _ hv
    rw [← hv]
    simp [World.cell?, k.block g hlt hg]
  refine Mo.val (v := ?_) (fun _ => rfl) (by rfl) (fun _ _ _ => trivial) ?_ ?_
  rotate_left
  · (intro w' hT hP hF; skip; go_simp; with_reducible rfl)
  simp only [Act.put, List.setIfInBounds_toArray, List.set_cons_zero, List.set_cons_succ]
  refine Mo.val (v := ?_) (fun _ => rfl) (by rfl) (fun _ _ _ => trivial) ?_ ?_
  rotate_left
  · (intro w' hT hP hF; skip; go_simp; with_reducible rfl)
  simp only [Act.put, List.setIfInBounds_toArray, List.set_cons_zero, List.set_cons_succ]
  refine Mo.val (v := ?_) (fun _ => rfl) (by rfl) (fun _ _ _ => trivial) ?_ ?_
  rotate_left
  · (intro w' hT hP hF; skip; go_simp; with_reducible rfl)
  simp only [Act.put, List.setIfInBounds_toArray, List.set_cons_zero, List.set_cons_succ]
  refine Mo.val (v := ?_) (fun _ => rfl) (by rfl) (fun _ _ _ => trivial) ?_ ?_
  rotate_left
  · (intro w' hT hP hF; skip; go_simp; with_reducible rfl)
  simp only [Act.put, List.setIfInBounds_toArray, List.set_cons_zero, List.set_cons_succ]
  refine Mo.val (v := ?_) (fun _ => rfl) (by rfl) (fun _ _ _ => trivial) ?_ ?_
  rotate_left
  · (intro w' hT hP hF; have hc := c3' w' hT; go_simp; with_reducible rfl)
  simp only [Act.put, List.setIfInBounds_toArray, List.set_cons_zero, List.set_cons_succ]
  refine Mo.val (v := ?_) (fun _ => rfl) (by rfl) (fun _ _ _ => trivial) ?_ ?_
  rotate_left
  · (intro w' hT hP hF; skip; go_simp; with_reducible rfl)
  simp only [Act.put, List.setIfInBounds_toArray, List.set_cons_zero, List.set_cons_succ]
  refine Mo.val (v := ?_) (fun _ => rfl) (by rfl) (fun _ _ _ => trivial) ?_ ?_
  rotate_left
  · (intro w' hT hP hF; skip; go_simp; with_reducible rfl)
  simp only [Act.put, List.setIfInBounds_toArray, List.set_cons_zero, List.set_cons_succ]
  refine Mo.val (v := ?_) (fun _ => rfl) (by rfl) (fun _ _ _ => trivial) ?_ ?_
  rotate_left
  · (intro w' hT hP hF; skip; go_simp; with_reducible rfl)
  simp only [Act.put, List.setIfInBounds_toArray, List.set_cons_zero, List.set_cons_succ]
  refine Mo.val (v := ?_) (fun _ => rfl) (by rfl) (fun _ _ _ => trivial) ?_ ?_
  rotate_left
  · (intro w' hT hP hF; refine exec_load_mid (P := Try.prog) 79 (.tmp 32) ?_ ?_ (hr' w' hT) Try.underlying79 rfl (by rw [size_blk]; simp [hl]) <;> rfl)
  simp only [Act.put, List.setIfInBounds_toArray, List.set_cons_zero, List.set_cons_succ]
  refine Mo.val (v := ?_) (fun _ => rfl) (by rfl) (fun _ _ _ => trivial) ?_ ?_
  rotate_left
  · (intro w' hT hP hF; skip; go_simp; with_reducible rfl)
  simp only [Act.put, List.setIfInBounds_toArray, List.set_cons_zero, List.set_cons_succ]
  refine Mo.any (by rfl) ?_ ?_
  · intro w' hT hP hF
    go_simp
    refine ⟨(Below.refl _ _).alloc (Nat.le_refl _) _, ?_⟩
    unfold PsiW
    rw [if_pos rfl]
    exact ⟨_, rfl, hT.size, heap_alloc_new _ _⟩
  simp only [Act.put, List.setIfInBounds_toArray, List.set_cons_zero, List.set_cons_succ]
  rintro v10 ⟨wx, -, hx⟩
  unfold PsiW at hx
  rw [if_pos rfl] at hx
  obtain ⟨x, rfl, hxs, -⟩ := hx
  refine Mo.any (by rfl) ?_ ?_
  · intro w' hT hP hF
    have hF10 := hF 10 (by decide)
    rw [Mo.upd_same] at hF10
    unfold PsiW at hF10
    rw [if_pos rfl] at hF10
    obtain ⟨x', hx', -, hh⟩ := hF10
    have ex : x = x' := by simpa using hx'
    rw [← ex] at hh
    have hw1w := hT.size
    refine Mo.leaves_of_wp (d := 36) rfl (by simp) fun K Q hK => ?_
    obtain ⟨i0, hi, hz⟩ := Option.map_eq_some_iff.1 info_write
    simp only [Prod.mk.injEq] at hz
    obtain ⟨hz0, hz1, hz2⟩ := hz
    have hrow : w'.ownsRow 0 81 33 sv D.calls.length (wcells D.calls) := hP rfl
    refine Ow.wp_append (P := Try.prog) w' (.tmp 29) (.tmp 35) 74 rfl 0 81 i0 _ 33 40 Try.underlying74 hi hz0 hz1 hz2 rfl (by decide) sv D.calls.length (wcells D.calls) rfl hrow ⟨x, 0, none⟩ 1 1 (.int .i64 n :: l.map (.int .u8)) rfl ?_ ?_ ?_ ?_ ?_ (Nat.zero_le _) ?_
    · simp [hl]
    · intro j u hu
      rw [Addr.add_mid, Nat.zero_add]
      simp only [World.cell?, hh]
      simpa using hu
    · intro u hu
      rcases List.mem_cons.1 hu with rfl | hu
      · rfl
      · exact one_u8 l u hu
    · unfold maxLen; omega
    · omega
    · intro v' w2 hown hgr _ hnb
      refine hK v' w2 ⟨?_, ?_⟩
      · exact (Kept.refl (fun k => sv.ownBlock = some k) w').grown hgr (fun k hk => Or.inr hk)
      · unfold PsiW
        rw [if_neg (by decide), if_pos rfl]
        refine ⟨hown, fun i hi => ?_⟩
        rcases hnb i hi with h5 | h5
        · exact Or.inl h5
        · exact Or.inr (by omega)
  simp only [Act.put, List.setIfInBounds_toArray, List.set_cons_zero, List.set_cons_succ]
  rintro v11 ⟨wx, -, hx⟩
  unfold PsiW at hx
  rw [if_neg (by decide), if_pos rfl] at hx
  obtain ⟨a11, c11, rfl⟩ := own_len hx.1
  refine Mo.done ?_
  intro w' hT hF _
  have hF11 := hF 11
  rw [Mo.upd_same] at hF11
  unfold PsiW at hF11
  rw [if_neg (by decide), if_pos rfl] at hF11
  obtain ⟨O1, O2⟩ := hF11
  have H2 := hT.heap H1 h.far
  have c3w := c3' w' hT
  have fzw : w'.frozen? ⟨b, 3, none⟩ = false := by simp [World.frozen?, H2]
  clear hF hx hxs hr' c3' hr1 hap
  go_wp2
  go_ret
  have hm2S : ¬ sv.ownBlock = some m2 := fun e => by
    rcases R1.2 with ⟨hv, _⟩ | ⟨x, cap, cur, hv, _, hx, _⟩
    · rw [hv] at e; cases e
    · rw [hv] at e
      have hxi : x = m2 := by simpa [Value.ownBlock] using e
      obtain ⟨es', ck', hy, _⟩ := M1
      rw [← hxi, hx] at hy
      cases hy
  have hm1S : ¬ sv.ownBlock = some m1 := fun e => by
    rcases R1.2 with ⟨hv, _⟩ | ⟨x, cap, cur, hv, _, hx, _⟩
    · rw [hv] at e; cases e
    · rw [hv] at e
      have hxi : x = m1 := by simpa [Value.ownBlock] using e
      obtain ⟨es', ck', hy, _⟩ := A1
      rw [← hxi, hx] at hy
      cases hy
  have A2 := A1.kept hT hm1S
  have M2 := M1.kept hT hm2S
  have hfar : (Value.slice a11 (D.calls.length + 1) c11).ownBlock ≠ some b := fun e => by
    rcases O2 b e with h5 | h5
    · exact h.far h5
    · have := lt_of_heap H1; omega
  have hset : ∀ (k : Nat) , k ≠ b → (w'.setCell ⟨b, 3, none⟩ (Value.slice a11 (D.calls.length + 1) c11)).heap[k]? = w'.heap[k]? := fun k hk => Below.heap_setCell _ _ _ _ hk
  have KS : Kept (fun k => k = b) w' (w'.setCell ⟨b, 3, none⟩ (Value.slice a11 (D.calls.length + 1) c11)) := (Kept.refl (fun k => k = b) w').setCell (p := ⟨b, 3, none⟩) (Or.inr rfl) _
  have hb1 : m1 ≠ b := fun e => by
    obtain ⟨es', ck', hy, _⟩ := A2
    rw [e, H2] at hy
    cases hy
  have hb2 : m2 ≠ b := fun e => hbm e.symm
  refine ⟨_, rfl, ⟨?_, A2.kept KS hb1, M2.kept KS hb2, h.apart, ?_, hfar, St.write_ok h.ok hl⟩, ?_, fun i hi => ?_⟩
  · simp [World.setCell, Array.getElem?_modify, H2, St.write]
  · have := own_kept O1 KS (fun i hi e => by subst e; exact hfar hi)
    simp only [St.write, wcells_snoc, List.length_append, List.length_cons, List.length_nil]
    exact this
  · refine ((K1.mono (S' := foot b m1 m2 sv) (fun i _ e => Or.inr (Or.inr (Or.inl e)))).trans (S' := fun k => sv.ownBlock = some k) hT (fun i _ e => Or.inr (Or.inr (Or.inr e)))).trans (S' := fun k => k = b) KS (fun i _ e => Or.inl e)
  · rcases O2 i hi with h5 | h5
    · exact Or.inl h5
    · exact Or.inr (Nat.le_trans K1.size h5)
end Go.Proofs.Ytinhednmfldmbaa.Dk
