/- slices.Collect over slices.Chunk: the pieces as a row. -/
import Derived.Test.YtnemnhfdjofckaaChunk
import Derived.Test.YtnemnhfdjofckaaCells
import Derived.Maps.AppendAt
namespace Go.Proofs.Ytnemnhfdjofckaa.Ck
open Go Go.RowKit Go.Shelf Go.Proofs.Ytnemnhfdjofckaa.Fr
attribute [local go_sem] Oper.semAt_some
theorem infoSl : (Try.prog.info? 38).map (fun i => (i.zero, i.size, i.bytes)) = some (some (.slice none 0 0), 1, 24) := by kernel_rfl
def pvals (ad : Addr) (L : Nat) (ks : List Nat) : List Value := ks.map (piece ad L)
theorem one_new (w : World) (x : Value) (t : TypeId) : ∀ j u, [x][j]? = some u → (w.alloc (.cells #[x] t)).cell? ((⟨w.heap.size, 0, none⟩ : Addr).add j) = some u := by
  intro j u hj
  rw [Addr.add_mid, Nat.zero_add, Rw.blk_cell (heap_alloc_new w _) j]
  simpa using hj
theorem own_size {β : Type} (n : Nat) : Own (fun (_ : β) W => n ≤ W.heap.size) := by
  intro s A B row hs hg hr
  exact Nat.le_trans hs hg.size
theorem row_kept {S : Nat → Prop} {w w' : World} {base : Nat} {e : TypeId} {size : Nat} {v : Value} {n : Nat} {xs : List Value} (h : w.ownsRow base e size v n xs) (k : Hp.Kept S w w') (hv : ∀ i, v.ownBlock = some i → ¬ S i) : w'.ownsRow base e size v n xs := by
  obtain ⟨h1, h2⟩ := h
  refine ⟨h1, ?_⟩
  rcases h2 with h2 | ⟨g, cap, cur, hv', hg, hh, r⟩
  · exact .inl h2
  · exact .inr ⟨g, cap, cur, hv', hg, k.heap hh (hv g (by rw [hv']; rfl)), r⟩
theorem row_weaken {w : World} {base : Nat} {e : TypeId} {size : Nat} {v : Value} {n : Nat} {xs : List Value} (h : w.ownsRow base e size v n xs) : w.ownsRow 0 e size v n xs := by
  obtain ⟨h1, h2⟩ := h
  refine ⟨h1, ?_⟩
  rcases h2 with h2 | ⟨g, cap, cur, hv', hg, r⟩
  · exact .inl h2
  · exact .inr ⟨g, cap, cur, hv', Nat.zero_le _, r⟩
theorem row_lower {w : World} {base base' : Nat} {e : TypeId} {size : Nat} {v : Value} {n : Nat} {xs : List Value} (h : w.ownsRow base e size v n xs) (hb : base' ≤ base) : w.ownsRow base' e size v n xs := by
  obtain ⟨h1, h2⟩ := h
  refine ⟨h1, ?_⟩
  rcases h2 with h2 | ⟨g, cap, cur, hv', hg, r⟩
  · exact .inl h2
  · exact .inr ⟨g, cap, cur, hv', Nat.le_trans hb hg, r⟩
/-- A row beyond the boxes is appended to, and its box is written. -/
theorem appended2 {W w1 : World} {n₀ B : Nat} {t e : TypeId} {size : Nat} {v v' : Value} {k m : Nat} {xs ys : List Value} {tmp : Obj} (hv : Boxed W B t v) (hte : t ≠ e) (hBn : B < n₀) (hrow : W.ownsRow n₀ e size v k xs) (hown' : w1.ownsRow n₀ e size v' m ys) (hgrow : (W.alloc tmp).grownBy w1 v.ownBlock) :
    Boxed w1 B t v ∧ Boxed (w1.setCell ⟨B, 0, none⟩ v') B t v' ∧ (w1.setCell ⟨B, 0, none⟩ v').ownsRow n₀ e size v' m ys ∧ KeepsOthers W (w1.setCell ⟨B, 0, none⟩ v') ∧ Hp.Kept (fun i => i = B ∨ n₀ ≤ i) W (w1.setCell ⟨B, 0, none⟩ v') := by
  obtain ⟨a1, a2, -, a4, -⟩ := Boxed.appended (n₀ := 0) hv hte (row_weaken hrow) (Nat.zero_le _) (Nat.zero_le _) (row_weaken hown') hgrow
  refine ⟨a1, a2, row_kept hown' ((Hp.Kept.refl (fun i => i = B) w1).setCell (p := ⟨B, 0, none⟩) (.inr rfl) v') (fun i hi e => ?_), a4, ?_⟩
  · have := (hown'.lt i hi).1
    omega
  · exact (((Hp.Kept.refl (fun i => i = B ∨ n₀ ≤ i) W).alloc tmp).grown hgrow (fun r e => .inr (.inr (hrow.lt r e).1))).setCell (p := ⟨B, 0, none⟩) (.inr (.inl rfl)) v'
/-- A row of no bytes tells no piece. -/
theorem chunk_stops0 (F : Fence) (n : Nat) (h7 : F.fn 36) (hro : F.round = none) (B1 B2 cap : Nat) (A : Option Addr) (w : World) (hb1 : B1 < w.heap.size)
    (hB1 : w.cell? ⟨B1, 0, none⟩ = some (.slice A 0 cap)) :
    SeqStopsK F n Try.prog 36 #[.pointer (some ⟨B1, 0, none⟩), .pointer (some ⟨B2, 0, none⟩)] (fun x : Nat => #[piece ⟨0, 0, none⟩ 0 x]) (Two B1 B2) (fun ys => ys = List.range (count 0)) (fun pre => ∃ k, k ≤ count 0 ∧ pre = List.range k) (count 0) w := fun l J Jx W hW _ _ _ h0 =>
  (chunk0_in F n h7 hro l B1 B2 A cap J W ((hW.cell (p := ⟨B1, 0, none⟩) hb1).trans hB1) h0).mono (by
    rintro e w' ⟨hv, hj⟩
    exact ⟨hv, .inl ⟨[], rfl, hj⟩⟩)
set_option maxRecDepth 100000 in
set_option maxHeartbeats 4000000 in
/-- slices.AppendSeq of such a telling. -/
theorem appendseq_in (w : World) (B1 B2 L : Nat) (ad : Addr) (hL : L ≤ 1000000000) (hb1 : B1 < w.heap.size) (hb2 : B2 < w.heap.size)
    (hseq : ∀ W, Below w.heap.size w W → SeqStopsK Fence.wide 7 Try.prog 36 #[.pointer (some ⟨B1, 0, none⟩), .pointer (some ⟨B2, 0, none⟩)] (fun x : Nat => #[piece ad L x]) (Two B1 B2) (fun ys => ys = List.range (count L)) (fun pre => ∃ k, k ≤ count L ∧ pre = List.range k) (count L) W) :
    CallsIn Fence.wide 8 Try.prog 35 #[.slice none 0 0, .func (.func 36) #[] #[.pointer (some ⟨B1, 0, none⟩), .pointer (some ⟨B2, 0, none⟩)]] w fun e w' => ∃ v : Value, e = .returned v ∧
      w'.ownsRow w.heap.size 38 1 v (count L) (pvals ad L (List.range (count L))) ∧ Below w.heap.size w w' := by
  have hro : Fence.wide.round = none := rfl
  refine callsIn_of_wp_marks Try.func35 rfl trivial ?_ hro
  simp only [Try.ntmps35, List.size_toArray, List.length_cons, List.length_nil, Nat.reduceAdd, Nat.reduceSub, Array.replicate_succ, Array.replicate_zero, List.push_toArray, List.append_toArray, List.nil_append, List.cons_append]
  gi_wp2
  obtain ⟨fb, hfb⟩ : ∃ fb, w.heap.size = fb := ⟨_, rfl⟩
  obtain ⟨V0, hV0⟩ : ∃ V0, w.alloc (.cells #[.slice none 0 0] 27) = V0 := ⟨_, rfl⟩
  have hsV : V0.heap.size = fb + 1 := by rw [← hV0, ← hfb]; simp
  have y1 : V0.heap[fb]? = some (.cells #[.slice none 0 0] 27 (0, 0)) := by rw [← hV0, ← hfb]; exact heap_alloc_new _ _
  have hbV : Below w.heap.size w V0 := by rw [← hV0]; exact (Below.refl _ _).alloc (Nat.le_refl _) _
  have hst := hseq V0 hbV
  rw [hV0, hfb]
  clear hV0
  generalize hact : Act.mk (List.toArray _) [] = cur
  refine wpIn_rangeFunc_ownG hro (by decide) (gf := 36) (lb := #[.pointer (some ⟨B1, 0, none⟩), .pointer (some ⟨B2, 0, none⟩)]) (by rw [← hact]; rfl) trivial (enters_of Try.func36 (by kernel_rfl) rfl)
    hst
    (fun h k => h.trans k) (fun W l o o' hl e1 e2 e3 => ⟨(belowK_b (n₀ := fb + 1) (by omega) W l o o' hl e1 e2 e3).block _ (by omega), (belowK_b (n₀ := fb + 1) (by omega) W l o o' hl e1 e2 e3).block _ (by omega)⟩) (Below.refl _ _) (fun _ => rfl)
    (fun pre W => (∃ v, Boxed W fb 27 v ∧ W.ownsRow (fb + 1) 38 1 v pre.length (pvals ad L pre) ∧ True) ∧ Below w.heap.size w W ∧ fb + 1 ≤ W.heap.size)
    (fun _ _ _ => False)
    (OwnFrom.and (Own.from (holdsRow_own (fb + 1) fb 27 38 1 (fun pre => pre.length) (fun pre => pvals ad L pre) (fun _ _ => True)) _) (OwnFrom.and (ownFrom_below (Nat.le_refl _) (by omega)) (Own.from (own_size _) _)))
    (fun _ _ _ _ _ hs _ _ => hs)
    ⟨⟨_, y1, World.ownsRow_nil _ _ _ _, trivial⟩, hbV, by omega⟩
    (fun x => { tmps := (cur.tmps.setIfInBounds 7 (piece ad L x)).setIfInBounds 5 (piece ad L x), defers := [] }) ?assign ?body ?done ?stop
  case assign =>
    intro l x W K hK
    subst hact
    gi_wp2
    exact hK
  case body =>
    rintro l pre x W ⟨⟨v, hv, hrow, -⟩, hB, hsz⟩ hlt
    subst hact
    simp only [List.setIfInBounds_toArray, List.set_cons_zero, List.set_cons_succ]
    have hc := hv.cell
    have hcf := hv.frozen
    obtain ⟨i0, hi, hz0, hz1, hz2⟩ := info_parts infoSl
    obtain ⟨Pa, pl, hP⟩ : ∃ Pa pl, piece ad L x = .slice (some Pa) pl pl := ⟨_, _, rfl⟩
    have hcnt : count L ≤ 250001 := by unfold count; omega
    have hpl : pre.length < 250001 := by omega
    have HP := Hp.Sh.mk hP
    rw [hP]
    clear hP hcnt hlt
    gi_wp2_with (gi_at_builtin; refine wpListIn_append_own _ rfl _ _ 27 rfl (fb + 1) 38 i0 (.slice none 0 0) 1 24 Try.underlying27 hi hz0 hz1 hz2 rfl (by decide) _ _ _ rfl (hrow.alloc _) ⟨W.heap.size, 0, none⟩ 1 1 [.slice (some Pa) pl pl] rfl rfl (one_new _ _ _) (by simp [Value.oneCell']) (by unfold maxLen; omega) (by omega) (by simp; omega) ?_; intro v' w1 hown' hgrow _; obtain ⟨g', cap', rfl⟩ := ownsRow_succ hown'; obtain ⟨hv1, hv2, hr2, hk2, hb2⟩ := appended2 hv (by decide) (by omega) hrow hown' hgrow; have hc1 := hv1.cell; have hf1 := hv1.frozen)
    refine ⟨hk2.from _, ⟨hb2.block _ (by omega) (by omega), hb2.block _ (by omega) (by omega)⟩, ⟨_, hv2, by
      have e : pvals ad L (pre ++ [x]) = pvals ad L pre ++ [.slice (some Pa) pl pl] := by unfold pvals; rw [List.map_append, ← HP.out]; rfl
      rw [e]
      simpa using hr2, trivial⟩, hB.trans (hb2.below (B := w.heap.size) hB.size (fun i hi e => by omega)), Nat.le_trans hsz hb2.size⟩
  case done =>
    rintro D xs W hD rfl ⟨⟨v, hv, hrow, -⟩, hB, hsz⟩ hK
    subst hact
    have hc := hv.cell
    gi_wp2
    refine ⟨by simp, .inl ⟨_, _, rfl, run_takeDeferred hK, ?_⟩⟩
    refine ⟨_, results_tmp rfl _ _ _, v, rfl, row_lower (by simpa using ownsRow_putObj hrow _ hK rfl) (show w.heap.size ≤ fb + 1 by omega), ?_⟩
    exact hB.trans (belowK_b (w := w) (Nat.le_refl _) W D _ _ (by omega) hK rfl rfl)
  case stop =>
    rintro D c pre W _ _ h _
    exact h.elim
end Go.Proofs.Ytnemnhfdjofckaa.Ck
