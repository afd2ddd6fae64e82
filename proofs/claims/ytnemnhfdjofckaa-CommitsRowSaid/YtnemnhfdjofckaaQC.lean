/- slices.Chunk: the pieces of a row, told to a loop's body. slices.Collect over slices.Chunk: the pieces as a row. commits.Encode. commits.Encode of no bytes. A commit's bytes, plainly. The live question of chapter 20. -/
import Derived.RangeFuncBox
import Derived.RangeFuncLeaves
import Derived.Shelf.Abstract
import Derived.Sort.QuietTacIn
import Derived.WalkKit
import Derived.OwnWalkIn
import Derived.TacticsInMore
import Derived.LoopNIn
import Derived.LoopIn
import Derived.Test.YtnemnhfdjofckaaQB
import Derived.Maps.AppendAt
import Derived.Laws.AppendOwnNone
import Derived.Test.YtnemnhfdjofckaaPrintF20
import Derived.Test.YtnemnhfdjofckaaQA
namespace Go.Proofs.Ytnemnhfdjofckaa.Ck
open Go Go.RowKit Go.Shelf
attribute [local go_sem] Oper.semAt_some
/-- The k-th piece of a row of L bytes at an address. -/
def piece (ad : Addr) (L k : Nat) : Value := .slice (some (ad.add (4000 * k))) (min 4000 (L - 4000 * k)) (min 4000 (L - 4000 * k))
def count (L : Nat) : Nat := (L + 3999) / 4000
theorem pnums (k L c : Nat) (h : 4000 * k < L) (hL : L ≤ 1000000000) (hc : L ≤ c) : ∃ i m e : Int, ((4000 * k : Nat) : Int) = i ∧ min 4000 ((L : Int) - i) = m ∧ i + m = e ∧ wrap64 (i + m) = e ∧ IntKind.i64.wrap (i + m) = e ∧ wrap64 (i + 4000) = ((4000 * (k + 1) : Nat) : Int) ∧ 0 ≤ i ∧ i ≤ e ∧ e ≤ (c : Int) ∧ i < (L : Int) ∧ i ≤ (L : Int) ∧ i.toNat = 4000 * k ∧ (L - i.toNat : Nat) = L - 4000 * k ∧ e.toNat - i.toNat = min 4000 (L - 4000 * k) ∧ m = ((min 4000 (L - 4000 * k) : Nat) : Int) ∧ min (4000 : Int) (((L - 4000 * k : Nat)) : Int) = m ∧ ¬ e.toNat = i.toNat :=
  ⟨_, _, _, rfl, rfl, rfl, by unfold wrap64; omega, by rw [IntKind.wrap_i64]; omega, by unfold wrap64; omega, by omega, by omega, by omega, by omega, by omega, by omega, by omega, by omega, by omega, by omega, by omega⟩
/-- Two blocks lie as they lay. -/
def Two (B1 B2 : Nat) (A C : World) : Prop := C.heap[B1]? = A.heap[B1]? ∧ C.heap[B2]? = A.heap[B2]?
theorem Two.refl (B1 B2 : Nat) (A : World) : Two B1 B2 A A := ⟨rfl, rfl⟩
theorem Two.trans {B1 B2 : Nat} {A B C : World} (h : Two B1 B2 A B) (k : Two B1 B2 B C) : Two B1 B2 A C := ⟨k.1.trans h.1, k.2.trans h.2⟩
theorem Two.below {B1 B2 : Nat} {A C : World} (h : Below A.heap.size A C) (h1 : B1 < A.heap.size) (h2 : B2 < A.heap.size) : Two B1 B2 A C := ⟨h.block B1 h1, h.block B2 h2⟩
set_option maxRecDepth 100000 in
set_option maxHeartbeats 2000000 in
theorem chunk1_in (F : Fence) (n : Nat) (h7 : F.fn 36) (hro : F.round = none) (hn : 1 ≤ n) (l B1 B2 L cap : Nat) (ad : Addr) (hL : L ≤ 1000000000) (hc : L ≤ cap) (J Jx : List Nat → World → Prop)
    (hY : ∀ pre x W, J pre W → pre.length < count L → YieldAt F (n - 1) Try.prog l #[piece ad L x] W fun e W' =>
      (e = .returned (.bool true) ∧ J (pre ++ [x]) W' ∧ Two B1 B2 W W') ∨ (e = .returned (.bool false) ∧ Jx (pre ++ [x]) W'))
    (hJd : ∀ pre W m, J pre W → J pre (W.drewN m))
    (W : World) (hB1 : W.cell? ⟨B1, 0, none⟩ = some (.slice (some ad) L cap)) (hB2 : W.cell? ⟨B2, 0, none⟩ = some (.int .i64 4000)) (h0 : J [] W) :
    CallsIn F n Try.prog 36 #[.func (.yield l) #[] #[], .pointer (some ⟨B1, 0, none⟩), .pointer (some ⟨B2, 0, none⟩)] W fun e W' => (∃ v, e = .returned v) ∧
      ((∃ ys, ys = List.range (count L) ∧ J ys W') ∨ (∃ pre, (∃ k, k ≤ count L ∧ pre = List.range k) ∧ Jx pre W')) := by
  refine callsIn_of_wp Try.func36 rfl h7 ?_ hro
  simp only [Try.ntmps36, List.size_toArray, List.length_cons, List.length_nil, Nat.reduceAdd, Nat.reduceSub, Array.replicate_succ, Array.replicate_zero, List.push_toArray, List.append_toArray, List.nil_append, List.cons_append]
  gi_wp2
  gi_loopw [4] (fun i wr => ∃ k : Nat, k ≤ count L ∧ i = .int .i64 ((4000 * k : Nat) : Int) ∧ J (List.range k) wr ∧ Two B1 B2 W wr)
    (fun i _ => count L * 4000 - (intOf i).toNat)
  case atStart => exact ⟨0, Nat.zero_le _, rfl, h0, Two.refl _ _ _⟩
  case round =>
    obtain ⟨k, hk, rfl, hJs, hnx⟩ := hrel
    have c1_ : wr.cell? ⟨B1, 0, none⟩ = some (.slice (some ad) L cap) := (World.cell?_of_block hnx.1).trans hB1
    have c2_ : wr.cell? ⟨B2, 0, none⟩ = some (.int .i64 4000) := (World.cell?_of_block hnx.2).trans hB2
    by_cases hlt : 4000 * k < L
    · obtain ⟨i, m, e, e1, e2, e3, e4, e5, e6, e7, e8, e9, e10, e11, e12, e13, e14, e15, e16, e17⟩ := pnums k L cap hlt hL hc
      rw [e1]
      gi_wp2
      refine wpIn_region_quiet_lit hro (by kernel_rfl) (by kernel_rfl) ?_
      repeat (quiet_step_in (fail))
      refine wpQuietIn_nil ?_
      intro _ hw'
      obtain ⟨nq, hw''⟩ := hw'
      subst hw''
      have hmn : (if ((L - 4000 * k : Nat) : Int) < 4000 then ((L - 4000 * k : Nat) : Int) else 4000) = m := by clear e4 e5 e6; split <;> omega
      rw [hmn]
      obtain ⟨wd, hwd⟩ : ∃ wd, wr.drewN nq = wd := ⟨_, rfl⟩
      have d1_ : wd.cell? ⟨B1, 0, none⟩ = some (.slice (some ad) L cap) := by rw [← hwd]; exact c1_
      have d2_ : wd.cell? ⟨B2, 0, none⟩ = some (.int .i64 4000) := by rw [← hwd]; exact c2_
      have hJd' : J (List.range k) wd := by rw [← hwd]; exact hJd _ _ _ hJs
      have hnd : Two B1 B2 W wd := by rw [← hwd]; exact hnx
      rw [hwd]
      have hkc : k < count L := by unfold count; omega
      obtain ⟨fn, tmps, assign, body, hy, hR⟩ := hY (List.range k) k wd hJd' (by simpa using hkc)
      have hpc : piece ad L k = .slice (some (ad.add (4000 * k))) (min 4000 (L - 4000 * k)) (min 4000 (L - 4000 * k)) := rfl
      obtain ⟨pl, hpl⟩ : ∃ pl, min 4000 (L - 4000 * k) = pl := ⟨_, rfl⟩
      rw [hpc, hpl] at hy
      have e18 : e.toNat - 4000 * k = pl := by rw [← hpl, ← e14, e12]
      clear hmn hpc hpl e14 hwd c1_ c2_ hJs hnx hJd' e1 e2 e3 e15 e16
      gi_wp2
      all_goals
        refine hR.mono ?_
        rintro e W3 (⟨rfl, hJ3, hk3⟩ | ⟨rfl, hJx3⟩)
        · have d2x_ : W3.cell? ⟨B2, 0, none⟩ = some (.int .i64 4000) := (World.cell?_of_block hk3.2).trans d2_
          gi_wp2
          go_roundw
          case rel => exact ⟨k + 1, by omega, by simp; omega, by rw [List.range_succ]; exact hJ3, hnd.trans hk3⟩
          case measure => simp [intOf]; omega
        · gi_wp2
          refine bodyPost_ret (results_none rfl _ _ _) rfl ?_
          exact ⟨⟨_, rfl⟩, .inr ⟨_, ⟨k + 1, by omega, List.range_succ.symm⟩, hJx3⟩⟩
    · obtain rfl : k = count L := by unfold count at hk ⊢; omega
      have hge : ¬ (((4000 * count L : Nat)) : Int) < (L : Int) := by omega
      obtain ⟨i, hi⟩ : ∃ i : Int, ((4000 * count L : Nat) : Int) = i := ⟨_, rfl⟩
      rw [hi] at hge ⊢
      gi_wp2
      go_end0
      exact ⟨⟨_, rfl⟩, .inl hJs⟩
/-- A row of no bytes: no piece. -/
theorem chunk0_in (F : Fence) (n : Nat) (h7 : F.fn 36) (hro : F.round = none) (l B1 B2 : Nat) (A : Option Addr) (cap : Nat) (J : List Nat → World → Prop)
    (W : World) (hB1 : W.cell? ⟨B1, 0, none⟩ = some (.slice A 0 cap)) (h0 : J [] W) :
    CallsIn F n Try.prog 36 #[.func (.yield l) #[] #[], .pointer (some ⟨B1, 0, none⟩), .pointer (some ⟨B2, 0, none⟩)] W fun e W' => (∃ v, e = .returned v) ∧ J [] W' := by
  refine callsIn_of_wp Try.func36 rfl h7 ?_ hro
  simp only [Try.ntmps36, List.size_toArray, List.length_cons, List.length_nil, Nat.reduceAdd, Nat.reduceSub, Array.replicate_succ, Array.replicate_zero, List.push_toArray, List.append_toArray, List.nil_append, List.cons_append]
  gi_wp2
  gi_loopw [4] (fun i wr => i = .int .i64 0 ∧ wr = W) (fun _ _ => 0)
  case atStart => exact ⟨rfl, rfl⟩
  case round =>
    obtain ⟨rfl, rfl⟩ := hrel
    gi_wp2
    go_end0
    exact ⟨⟨_, rfl⟩, h0⟩
/-- slices.Chunk(b, 4000): what it hands back. -/
theorem chunk_in (F : Fence) (n : Nat) (h5 : F.fn 22) (hro : F.round = none) (A : Option Addr) (L cap : Nat) (w : World) :
    CallsIn F n Try.prog 22 #[.slice A L cap, .int .i64 4000] w fun e w' => e = .returned (.func (.func 36) #[] #[.pointer (some ⟨w.heap.size, 0, none⟩), .pointer (some ⟨w.heap.size + 1, 0, none⟩)]) ∧
      w' = (w.alloc (.cells #[.slice A L cap] 38)).alloc (.cells #[.int .i64 4000] 3) := by
  refine callsIn_of_wp Try.func22 rfl h5 ?_ hro
  simp only [Try.ntmps22, List.size_toArray, List.length_cons, List.length_nil, Nat.reduceAdd, Nat.reduceSub, Array.replicate_succ, Array.replicate_zero, List.push_toArray, List.append_toArray, List.nil_append, List.cons_append]
  gi_wp2
  go_ret
  exact ⟨rfl, rfl⟩
theorem grown_drewN (W : World) (m : Nat) : W.grownBy (W.drewN m) none := ⟨rfl, rfl, rfl, Nat.le_refl _, fun _ _ _ => rfl⟩
/-- slices.Chunk(b, 4000) hands back a value that tells the pieces, in order; or a beginning of them. -/
theorem chunk_stops (F : Fence) (n : Nat) (h7 : F.fn 36) (hro : F.round = none) (hn : 1 ≤ n) (B1 B2 L cap : Nat) (ad : Addr) (hL : L ≤ 1000000000) (hc : L ≤ cap) (w : World) (hb1 : B1 < w.heap.size) (hb2 : B2 < w.heap.size)
    (hB1 : w.cell? ⟨B1, 0, none⟩ = some (.slice (some ad) L cap)) (hB2 : w.cell? ⟨B2, 0, none⟩ = some (.int .i64 4000)) :
    SeqStopsK F n Try.prog 36 #[.pointer (some ⟨B1, 0, none⟩), .pointer (some ⟨B2, 0, none⟩)] (fun x : Nat => #[piece ad L x]) (Two B1 B2) (fun ys => ys = List.range (count L)) (fun pre => ∃ k, k ≤ count L ∧ pre = List.range k) (count L) w := fun l J Jx W hW hJ _ hY h0 =>
  chunk1_in F n h7 hro hn l B1 B2 L cap ad hL hc J Jx hY (fun pre W1 m hj => hJ pre W1 (W1.drewN m) none hj (grown_drewN W1 m) (fun r e => by cases e)) W ((hW.cell (p := ⟨B1, 0, none⟩) hb1).trans hB1) ((hW.cell (p := ⟨B2, 0, none⟩) hb2).trans hB2) h0
end Go.Proofs.Ytnemnhfdjofckaa.Ck
namespace Go.Proofs.Ytnemnhfdjofckaa.Ck
open Go Go.RowKit Go.Shelf Go.Proofs.Ytnemnhfdjofckaa.Fr
attribute [local go_sem] Oper.semAt_some
theorem infoSl : (Try.prog.info? 38).map (fun i => (i.zero, i.size, i.bytes)) = some (some (.slice none 0 0), 1, 24) := by kernel_rfl
def pvals (ad : Addr) (L : Nat) (ks : List Nat) : List Value := ks.map (piece ad L)
theorem one_new (w : World) (x : Value) (t : TypeId) : ∀ j u, [x][j]? = some u → (w.alloc (.cells #[x] t)).cell? ((⟨w.heap.size, 0, none⟩ : Addr).add j) = some u := by
  intro j u hj
  rw [Addr.add_mid, Nat.zero_add, Rw.blk_cell (heap_alloc_new w _) j]
  simpa using hj
theorem own_size {β : Type} (n : Nat) : Own (fun (_ : β) W => n ≤ W.heap.size) := by
  intro s A B row hs hg hr
  exact Nat.le_trans hs hg.size
theorem row_kept {S : Nat → Prop} {w w' : World} {base : Nat} {e : TypeId} {size : Nat} {v : Value} {n : Nat} {xs : List Value} (h : w.ownsRow base e size v n xs) (k : Hp.Kept S w w') (hv : ∀ i, v.ownBlock = some i → ¬ S i) : w'.ownsRow base e size v n xs := by
  obtain ⟨h1, h2⟩ := h
  refine ⟨h1, ?_⟩
  rcases h2 with h2 | ⟨g, cap, cur, hv', hg, hh, r⟩
  · exact .inl h2
  · exact .inr ⟨g, cap, cur, hv', hg, k.heap hh (hv g (by rw [hv']; rfl)), r⟩
theorem row_weaken {w : World} {base : Nat} {e : TypeId} {size : Nat} {v : Value} {n : Nat} {xs : List Value} (h : w.ownsRow base e size v n xs) : w.ownsRow 0 e size v n xs := by
  obtain ⟨h1, h2⟩ := h
  refine ⟨h1, ?_⟩
  rcases h2 with h2 | ⟨g, cap, cur, hv', hg, r⟩
  · exact .inl h2
  · exact .inr ⟨g, cap, cur, hv', Nat.zero_le _, r⟩
theorem row_lower {w : World} {base base' : Nat} {e : TypeId} {size : Nat} {v : Value} {n : Nat} {xs : List Value} (h : w.ownsRow base e size v n xs) (hb : base' ≤ base) : w.ownsRow base' e size v n xs := by
  obtain ⟨h1, h2⟩ := h
  refine ⟨h1, ?_⟩
  rcases h2 with h2 | ⟨g, cap, cur, hv', hg, r⟩
  · exact .inl h2
  · exact .inr ⟨g, cap, cur, hv', Nat.le_trans hb hg, r⟩
/-- A row beyond the boxes is appended to, and its box is written. -/
theorem appended2 {W w1 : World} {n₀ B : Nat} {t e : TypeId} {size : Nat} {v v' : Value} {k m : Nat} {xs ys : List Value} {tmp : Obj} (hv : Boxed W B t v) (hte : t ≠ e) (hBn : B < n₀) (hrow : W.ownsRow n₀ e size v k xs) (hown' : w1.ownsRow n₀ e size v' m ys) (hgrow : (W.alloc tmp).grownBy w1 v.ownBlock) :
    Boxed w1 B t v ∧ Boxed (w1.setCell ⟨B, 0, none⟩ v') B t v' ∧ (w1.setCell ⟨B, 0, none⟩ v').ownsRow n₀ e size v' m ys ∧ KeepsOthers W (w1.setCell ⟨B, 0, none⟩ v') ∧ Hp.Kept (fun i => i = B ∨ n₀ ≤ i) W (w1.setCell ⟨B, 0, none⟩ v') := by
  obtain ⟨a1, a2, -, a4, -⟩ := Boxed.appended (n₀ := 0) hv hte (row_weaken hrow) (Nat.zero_le _) (Nat.zero_le _) (row_weaken hown') hgrow
  refine ⟨a1, a2, row_kept hown' ((Hp.Kept.refl (fun i => i = B) w1).setCell (p := ⟨B, 0, none⟩) (.inr rfl) v') (fun i hi e => ?_), a4, ?_⟩
  · have := (hown'.lt i hi).1
    omega
  · exact (((Hp.Kept.refl (fun i => i = B ∨ n₀ ≤ i) W).alloc tmp).grown hgrow (fun r e => .inr (.inr (hrow.lt r e).1))).setCell (p := ⟨B, 0, none⟩) (.inr (.inl rfl)) v'
/-- A row of no bytes tells no piece. -/
theorem chunk_stops0 (F : Fence) (n : Nat) (h7 : F.fn 36) (hro : F.round = none) (B1 B2 cap : Nat) (A : Option Addr) (w : World) (hb1 : B1 < w.heap.size)
    (hB1 : w.cell? ⟨B1, 0, none⟩ = some (.slice A 0 cap)) :
    SeqStopsK F n Try.prog 36 #[.pointer (some ⟨B1, 0, none⟩), .pointer (some ⟨B2, 0, none⟩)] (fun x : Nat => #[piece ⟨0, 0, none⟩ 0 x]) (Two B1 B2) (fun ys => ys = List.range (count 0)) (fun pre => ∃ k, k ≤ count 0 ∧ pre = List.range k) (count 0) w := fun l J Jx W hW _ _ _ h0 =>
  (chunk0_in F n h7 hro l B1 B2 A cap J W ((hW.cell (p := ⟨B1, 0, none⟩) hb1).trans hB1) h0).mono (by
    rintro e w' ⟨hv, hj⟩
    exact ⟨hv, .inl ⟨[], rfl, hj⟩⟩)
set_option maxRecDepth 100000 in
set_option maxHeartbeats 4000000 in
/-- slices.AppendSeq of such a telling. -/
theorem appendseq_in (w : World) (B1 B2 L : Nat) (ad : Addr) (hL : L ≤ 1000000000) (hb1 : B1 < w.heap.size) (hb2 : B2 < w.heap.size)
    (hseq : ∀ W, Below w.heap.size w W → SeqStopsK Fence.wide 7 Try.prog 36 #[.pointer (some ⟨B1, 0, none⟩), .pointer (some ⟨B2, 0, none⟩)] (fun x : Nat => #[piece ad L x]) (Two B1 B2) (fun ys => ys = List.range (count L)) (fun pre => ∃ k, k ≤ count L ∧ pre = List.range k) (count L) W) :
    CallsIn Fence.wide 8 Try.prog 35 #[.slice none 0 0, .func (.func 36) #[] #[.pointer (some ⟨B1, 0, none⟩), .pointer (some ⟨B2, 0, none⟩)]] w fun e w' => ∃ v : Value, e = .returned v ∧
      w'.ownsRow w.heap.size 38 1 v (count L) (pvals ad L (List.range (count L))) ∧ Below w.heap.size w w' := by
  have hro : Fence.wide.round = none := rfl
  refine callsIn_of_wp_marks Try.func35 rfl trivial ?_ hro
  simp only [Try.ntmps35, List.size_toArray, List.length_cons, List.length_nil, Nat.reduceAdd, Nat.reduceSub, Array.replicate_succ, Array.replicate_zero, List.push_toArray, List.append_toArray, List.nil_append, List.cons_append]
  gi_wp2
  obtain ⟨fb, hfb⟩ : ∃ fb, w.heap.size = fb := ⟨_, rfl⟩
  obtain ⟨V0, hV0⟩ : ∃ V0, w.alloc (.cells #[.slice none 0 0] 27) = V0 := ⟨_, rfl⟩
  have hsV : V0.heap.size = fb + 1 := by rw [← hV0, ← hfb]; simp
  have y1 : V0.heap[fb]? = some (.cells #[.slice none 0 0] 27 (0, 0)) := by rw [← hV0, ← hfb]; exact heap_alloc_new _ _
  have hbV : Below w.heap.size w V0 := by rw [← hV0]; exact (Below.refl _ _).alloc (Nat.le_refl _) _
  have hst := hseq V0 hbV
  rw [hV0, hfb]
  clear hV0
  generalize hact : Act.mk (List.toArray _) [] = cur
  refine wpIn_rangeFunc_ownG hro (by decide) (gf := 36) (lb := #[.pointer (some ⟨B1, 0, none⟩), .pointer (some ⟨B2, 0, none⟩)]) (by rw [← hact]; rfl) trivial (enters_of Try.func36 (by kernel_rfl) rfl)
    hst
    (fun h k => h.trans k) (fun W l o o' hl e1 e2 e3 => ⟨(belowK_b (n₀ := fb + 1) (by omega) W l o o' hl e1 e2 e3).block _ (by omega), (belowK_b (n₀ := fb + 1) (by omega) W l o o' hl e1 e2 e3).block _ (by omega)⟩) (Below.refl _ _) (fun _ => rfl)
    (fun pre W => (∃ v, Boxed W fb 27 v ∧ W.ownsRow (fb + 1) 38 1 v pre.length (pvals ad L pre) ∧ True) ∧ Below w.heap.size w W ∧ fb + 1 ≤ W.heap.size)
    (fun _ _ _ => False)
    (OwnFrom.and (Own.from (holdsRow_own (fb + 1) fb 27 38 1 (fun pre => pre.length) (fun pre => pvals ad L pre) (fun _ _ => True)) _) (OwnFrom.and (ownFrom_below (Nat.le_refl _) (by omega)) (Own.from (own_size _) _)))
    (fun _ _ _ _ _ hs _ _ => hs)
    ⟨⟨_, y1, World.ownsRow_nil _ _ _ _, trivial⟩, hbV, by omega⟩
    (fun x => { tmps := (cur.tmps.setIfInBounds 7 (piece ad L x)).setIfInBounds 5 (piece ad L x), defers := [] }) ?assign ?body ?done ?stop
  case assign =>
    intro l x W K hK
    subst hact
    gi_wp2
    exact hK
  case body =>
    rintro l pre x W ⟨⟨v, hv, hrow, -⟩, hB, hsz⟩ hlt
    subst hact
    simp only [List.setIfInBounds_toArray, List.set_cons_zero, List.set_cons_succ]
    have hc := hv.cell
    have hcf := hv.frozen
    obtain ⟨i0, hi, hz0, hz1, hz2⟩ := info_parts infoSl
    obtain ⟨Pa, pl, hP⟩ : ∃ Pa pl, piece ad L x = .slice (some Pa) pl pl := ⟨_, _, rfl⟩
    have hcnt : count L ≤ 250001 := by unfold count; omega
    have hpl : pre.length < 250001 := by omega
    have HP := Hp.Sh.mk hP
    rw [hP]
    clear hP hcnt hlt
    gi_wp2_with (gi_at_builtin; refine wpListIn_append_own _ rfl _ _ 27 rfl (fb + 1) 38 i0 (.slice none 0 0) 1 24 Try.underlying27 hi hz0 hz1 hz2 rfl (by decide) _ _ _ rfl (hrow.alloc _) ⟨W.heap.size, 0, none⟩ 1 1 [.slice (some Pa) pl pl] rfl rfl (one_new _ _ _) (by simp [Value.oneCell']) (by unfold maxLen; omega) (by omega) (by simp; omega) ?_; intro v' w1 hown' hgrow _; obtain ⟨g', cap', rfl⟩ := ownsRow_succ hown'; obtain ⟨hv1, hv2, hr2, hk2, hb2⟩ := appended2 hv (by decide) (by omega) hrow hown' hgrow; have hc1 := hv1.cell; have hf1 := hv1.frozen)
    refine ⟨hk2.from _, ⟨hb2.block _ (by omega) (by omega), hb2.block _ (by omega) (by omega)⟩, ⟨_, hv2, by
      have e : pvals ad L (pre ++ [x]) = pvals ad L pre ++ [.slice (some Pa) pl pl] := by unfold pvals; rw [List.map_append, ← HP.out]; rfl
      rw [e]
      simpa using hr2, trivial⟩, hB.trans (hb2.below (B := w.heap.size) hB.size (fun i hi e => by omega)), Nat.le_trans hsz hb2.size⟩
  case done =>
    rintro D xs W hD rfl ⟨⟨v, hv, hrow, -⟩, hB, hsz⟩ hK
    subst hact
    have hc := hv.cell
    gi_wp2
    refine ⟨by simp, .inl ⟨_, _, rfl, run_takeDeferred hK, ?_⟩⟩
    refine ⟨_, results_tmp rfl _ _ _, v, rfl, row_lower (by simpa using ownsRow_putObj hrow _ hK rfl) (show w.heap.size ≤ fb + 1 by omega), ?_⟩
    exact hB.trans (belowK_b (w := w) (Nat.le_refl _) W D _ _ (by omega) hK rfl rfl)
  case stop =>
    rintro D c pre W _ _ h _
    exact h.elim
end Go.Proofs.Ytnemnhfdjofckaa.Ck
namespace Go.Proofs.Ytnemnhfdjofckaa.Co
open Go Go.RowKit Hp Go.Proofs.Ytnemnhfdjofckaa.Fr Go.Proofs.Ytnemnhfdjofckaa.Ck Go.Proofs.YtnemnhfdjofckaaW.PrintWords Go.Proofs.Ytnemnhfdjofckaa.Print
/-- A record, and where it lies. -/
structure Rc where
  A : Option Addr
  l : List Int
  c : Nat
def rcells (R : List Rc) : List Value := R.map fun r => .slice r.A r.l.length r.c
structure RcOk (w : World) (r : Rc) : Prop where
  len : r.l.length ≤ r.c
  byt : Bytes w r.A r.l
  ty : ∀ ad, r.A = some ad → ∃ cur fr, w.heap[ad.block]? = some (.cells cur 5 fr)
theorem RcOk.kept {S : Nat → Prop} {w w' : World} {r : Rc} (h : RcOk w r) (k : Kept S w w') (hS : ∀ ad, r.A = some ad → ¬ S ad.block) : RcOk w' r :=
  ⟨h.len, h.byt.kept k (fun _ ad e => hS ad e), fun ad e => by
    obtain ⟨cur, fr, hh⟩ := h.ty ad e
    exact ⟨cur, fr, k.heap hh (hS ad e)⟩⟩
theorem own_ne {w : World} {base n : Nat} {v : Value} {xs : List Value} {r : Rc} (hrow : w.ownsRow base 38 1 v n xs) (h : RcOk w r) (ad : Addr) (e : r.A = some ad) : ¬ v.ownBlock = some ad.block := fun hv => by
  obtain ⟨cur, fr, hh⟩ := h.ty ad e
  rcases hrow.2 with ⟨e2, _⟩ | ⟨g2, cap2, cur2, e2, _, hg2, _⟩
  · rw [e2] at hv; cases hv
  · rw [e2] at hv
    have e3 : g2 = ad.block := by simpa [Value.ownBlock] using hv
    subst e3
    have := hg2.symm.trans hh
    simp at this
/-- Records as rows that can be read. -/
theorem rows_C {w : World} {base n c : Nat} {a : Option Addr} {R : List Rc} (h : w.ownsRow base 38 1 (.slice a n c) n (rcells R)) (hn : R.length = n) (hok : ∀ r ∈ R, RcOk w r) (hb : n ≤ 9223372036854775807) (hl : ∀ r ∈ R, r.l.length ≤ 9223372036854775807) : Kd.C (Kd.slice 5 (Kd.int .u8)) w a n (R.map Rc.l) := by
  refine ⟨by simp [hn], hb, fun h0 => ?_⟩
  rcases h.2 with ⟨_, h2⟩ | ⟨g, cap, cur, hv, _⟩
  · omega
  · obtain ⟨rfl, rfl⟩ : a = some ⟨g, 0, none⟩ ∧ c = cap := by simpa using hv
    refine ⟨_, rfl, fun j p hj => ?_⟩
    rw [List.getElem?_map] at hj
    obtain ⟨r, hr, rfl⟩ := Option.map_eq_some_iff.1 hj
    have hm := List.mem_of_getElem? hr
    refine ⟨[.slice r.A r.l.length r.c], rfl, ⟨r.A, r.c, rfl, (hok r hm).len, (hok r hm).byt.C (hl r hm)⟩, fun i u hu => ?_⟩
    cases i with
    | zero =>
      simp at hu
      subst hu
      show w.cell? ((⟨g, 0, none⟩ : Addr).add (j * 1 + 0)) = _
      rw [Nat.mul_one, Nat.add_zero]
      exact h.cells (g := g) rfl j _ (by unfold rcells; rw [List.getElem?_map, hr]; rfl)
    | succ i => simp at hu
/-- The i-th of c records of a commit's bytes. -/
def recd (n : Int) (bs : List Int) (c i : Nat) : List Int := lowd n 0 8 ++ lowd i 0 2 ++ lowd c 0 2 ++ (bs.drop (4000 * i)).take 4000
def recs (n : Int) (bs : List Int) : List (List Int) := (List.range (max 1 (count bs.length))).map (recd n bs (max 1 (count bs.length)))
theorem R_any {w : World} {base : Nat} {ok : Nat → Prop} {v : Value} {l : List Int} (h : Kd.R (Kd.int .u8) 5 w base ok v l) : ∃ A c, v = .slice A l.length c ∧ l.length ≤ c ∧ Bytes w A l ∧ (∀ a, A = some a → base ≤ a.block ∧ a.block < w.heap.size) ∧ (A = none → l.length = 0 ∧ c = 0) := by
  obtain ⟨ho, -⟩ := R_row h
  rcases ho.2 with ⟨e, h0⟩ | ⟨g, cap, cur, e, hg, hh, hn, _⟩
  · have : l = [] := List.eq_nil_of_length_eq_zero h0
    subst this
    exact ⟨none, 0, e, Nat.le_refl _, Bytes.nil _ _, fun a e => (by cases e), fun _ => ⟨rfl, rfl⟩⟩
  · subst e
    exact ⟨_, _, rfl, hn, Bytes.own (l := l) ho, fun a e => (by cases e; exact ⟨hg, lt_of_heap hh⟩), fun e => (by cases e)⟩
theorem sizeCom : (Try.prog.info? 32).map (·.size) = some 2 := by kernel_rfl
set_option maxHeartbeats 4000000 in
set_option maxRecDepth 100000 in
theorem encode_bad (k : Nat) (n : Int) (A : Option Addr) (c : Nat) (fl : List S56) (w : World) (hC : Kd.C k56 w A fl.length fl) (hc : fl.length ≤ c) (hr : commits_Commit_right.f k n fl = some false) :
    Calls Try.prog 10 #[.agg #[.int .i64 n, .slice A fl.length c]] w fun e w' => e = .returned (.tuple #[.slice none 0 0, .int .i64 201]) ∧ Below w.heap.size w w' := by
  go_enter Try.func10, Try.ntmps10
  go_upto_region 1 with (fail)
  obtain ⟨w1, hw1⟩ : ∃ w1, w.alloc (.cells #[.int .i64 n, .slice A fl.length c] 32) = w1 := ⟨_, rfl⟩
  obtain ⟨b0, hb0⟩ : ∃ b0, w.heap.size = b0 := ⟨_, rfl⟩
  have hB1 : Below w.heap.size w w1 := by rw [← hw1]; exact (Below.refl _ _).alloc (Nat.le_refl _) _
  have g0 : w1.heap[b0]? = some (.cells #[.int .i64 n, .slice A fl.length c] 32 (0, 0)) := by rw [← hw1, ← hb0]; exact heap_alloc_new _ _
  rw [hw1, hb0]
  clear hw1 hb0
  have hld := run_loadAt_mid (P := Try.prog) w1 b0 0 32 [.int .i64 n, .slice A fl.length c] _ (Rw.blk_range g0) Try.underlying32 rfl sizeCom
  go_wp2_with ((with_reducible refine Rw.at_slot 9 ?_); refine Rw.wpList_get rfl 32 (.tmp 1) rfl rfl hld ?_)
  refine (commits_Commit_right.calls k n A c fl false w1 (Kd.C_below hC hB1) hc hr).mono ?_
  rintro e w2 ⟨rfl, hb⟩
  have HB := Sh.mk (hB1.trans (hb.mono hB1.size))
  clear hld g0 hB1 hb
  go_wp2_with fail
  go_ret2
  exact ⟨rfl, HB.out⟩
theorem infoU8 : (Try.prog.info? 5).map (fun i => (i.zero, i.size, i.bytes)) = some (some (.int .u8 0), 1, 1) := by kernel_rfl
theorem one_u8 (l : List Int) : ∀ u ∈ l.map (Value.int .u8), u.oneCell' = true := by simp [Value.oneCell']
theorem app_nums2 (r : Nat) (h : r ≤ 300) : r + 1 ≤ maxLen ∧ (r + 1) * 24 ≤ 140737488355328 := ⟨by unfold maxLen; omega, by omega⟩
theorem app_nums (pl : Nat) (h : pl ≤ 4000) : 12 + pl ≤ maxLen ∧ (12 + pl) * 1 ≤ 140737488355328 := ⟨by unfold maxLen; omega, by omega⟩
set_option maxRecDepth 100000 in
/-- slices.Collect of the pieces. -/
theorem collect_ok (w : World) (B1 B2 L : Nat) (ad : Addr) (hL : L ≤ 1000000000) (hb1 : B1 < w.heap.size) (hb2 : B2 < w.heap.size)
    (hseq : ∀ W, Below w.heap.size w W → Go.SeqStopsK Go.Fence.wide 7 Try.prog 36 #[.pointer (some ⟨B1, 0, none⟩), .pointer (some ⟨B2, 0, none⟩)] (fun x : Nat => #[piece ad L x]) (Two B1 B2) (fun ys => ys = List.range (count L)) (fun pre => ∃ k, k ≤ count L ∧ pre = List.range k) (count L) W) :
    Calls Try.prog 21 #[.func (.func 36) #[] #[.pointer (some ⟨B1, 0, none⟩), .pointer (some ⟨B2, 0, none⟩)]] w fun e w' => ∃ v : Value, e = .returned v ∧
      w'.ownsRow w.heap.size 38 1 v (count L) (pvals ad L (List.range (count L))) ∧ Below w.heap.size w w' := by
  have happ := Sh.mk (callsIn_wide.1 (appendseq_in w B1 B2 L ad hL hb1 hb2 hseq))
  clear hseq hb1 hb2 hL
  go_enter Try.func21, Try.ntmps21
  go_wp2_with fail
  refine happ.out.mono ?_
  rintro e w' ⟨v, rfl, h1, h2⟩
  go_wp2_with fail
  go_ret
  exact ⟨v, rfl, h1, h2⟩
theorem own_slice {w : World} {base n : Nat} {e : TypeId} {size : Nat} {v : Value} {xs : List Value} (h : w.ownsRow base e size v n xs) : ∃ a c, v = .slice a n c := by
  rcases h.2 with ⟨rfl, rfl⟩ | ⟨g, cap, cur, rfl, _⟩
  · exact ⟨_, _, rfl⟩
  · exact ⟨_, _, rfl⟩
set_option maxHeartbeats 4000000 in
set_option maxRecDepth 100000 in
theorem encode_good (k k2 : Nat) (n : Int) (A : Option Addr) (c : Nat) (fl : List S56) (bs : List Int) (w : World) (hC : Kd.C k56 w A fl.length fl) (hc : fl.length ≤ c) (hr : commits_Commit_right.f k n fl = some true) (hbs : commits_Commit_bytes.f k2 n fl = some bs)
    (hn0 : 0 ≤ n) (hn1 : n ≤ 1099511627776) (hlen : bs.length ≤ 1000000) (hpos : 0 < bs.length) :
    Calls Try.prog 10 #[.agg #[.int .i64 n, .slice A fl.length c]] w fun e w' => ∃ (a : Option Addr) (c' : Nat) (R : List Rc), e = .returned (.tuple #[.slice a R.length c', .int .i64 0]) ∧ R.length ≤ c' ∧ w'.ownsRow w.heap.size 38 1 (.slice a R.length c') R.length (rcells R) ∧ (∀ r ∈ R, RcOk w' r) ∧ R.map Rc.l = recs n bs ∧ Below w.heap.size w w' := by
  have HUN : Sh (IntKind.u64.wrap n = n) := ⟨by rw [IntKind.wrap_u64]; omega⟩
  go_enter Try.func10, Try.ntmps10
  go_upto_region 1 with (fail)
  obtain ⟨w1, hw1⟩ : ∃ w1, w.alloc (.cells #[.int .i64 n, .slice A fl.length c] 32) = w1 := ⟨_, rfl⟩
  obtain ⟨b0, hb0⟩ : ∃ b0, w.heap.size = b0 := ⟨_, rfl⟩
  have hB1 : Below w.heap.size w w1 := by rw [← hw1]; exact (Below.refl _ _).alloc (Nat.le_refl _) _
  have g0 : w1.heap[b0]? = some (.cells #[.int .i64 n, .slice A fl.length c] 32 (0, 0)) := by rw [← hw1, ← hb0]; exact heap_alloc_new _ _
  rw [hw1, hb0]
  have HB0 := Sh.mk hb0
  clear hw1 hb0
  have hld : ∀ W, Below w1.heap.size w1 W → (Instr.loadAt 32 (.pointer (some ⟨b0, 0, none⟩))).run Try.prog W = .ok (.agg #[.int .i64 n, .slice A fl.length c]) W := fun W hW => run_loadAt_mid (P := Try.prog) W b0 0 32 [.int .i64 n, .slice A fl.length c] _ (Rw.blk_range ((hW.block _ (lt_of_heap g0)).trans g0)) Try.underlying32 rfl sizeCom
  have HLD := Sh.mk hld
  have HG0 := Sh.mk g0
  have HB1 := Sh.mk hB1
  have HC1 := Sh.mk (Kd.C_below hC hB1)
  have l1_ := hld w1 (Below.refl _ _)
  clear hld g0 hC hB1
  go_wp2_with ((with_reducible refine Rw.at_slot 9 ?_); refine Rw.wpList_get rfl 32 (.tmp 1) rfl rfl l1_ ?_)
  refine (commits_Commit_right.calls k n A c fl true w1 HC1.out hc hr).mono ?_
  rintro e w2 ⟨rfl, hb12⟩
  have l2_ := HLD.out w2 hb12
  have HC2 := Sh.mk (Kd.C_below HC1.out hb12)
  have HB12 := Sh.mk hb12
  clear l1_ hr hb12 HC1
  go_wp2_with ((with_reducible refine Rw.at_slot 12 ?_); refine Rw.wpList_get rfl 32 (.tmp 1) rfl rfl l2_ ?_)
  refine (commits_Commit_bytes.calls k2 n A c fl bs w2 HC2.out hc hbs).mono ?_
  rintro e w3 ⟨v3, rfl, hR3, hb23⟩
  obtain ⟨A3, c3, rfl, hc3, hby3, hA3, -⟩ := R_any hR3
  obtain ⟨L, hL⟩ : ∃ L, bs.length = L := ⟨_, rfl⟩
  obtain ⟨ad, hadA, -⟩ := hby3 hpos
  subst hadA
  have hadlt := (hA3 ad rfl).2
  rw [hL] at hc3 hlen hpos ⊢
  have HLL := Sh.mk hL
  have HBY3 := Sh.mk hby3
  have HADLT := Sh.mk hadlt
  have HB13 := Sh.mk (HB12.out.trans (hb23.mono HB12.out.size))
  clear hL hR3 hb23 hby3 hA3 hadlt l2_ hbs hc HC2 HB12
  go_wp2_with fail
  refine (callsIn_wide.1 (chunk_in Go.Fence.wide 8 trivial rfl (some ad) L c3 w3)).mono ?_
  rintro e w4 ⟨rfl, hw4⟩
  obtain ⟨b3, hb3⟩ : ∃ b3, w3.heap.size = b3 := ⟨_, rfl⟩
  have h34 : Below w3.heap.size w3 w4 := by rw [hw4]; exact ((Below.refl _ _).alloc (Nat.le_refl _) _).alloc (by simp) _
  have hs4 : w4.heap.size = b3 + 2 := by rw [hw4, ← hb3]; simp
  have q1 : w4.heap[b3]? = some (.cells #[.slice (some ad) L c3] 38 (0, 0)) := by rw [hw4, ← hb3]; exact (Below.heap_alloc _ _ _ (by simp)).trans (heap_alloc_new _ _)
  have q2 : w4.heap[b3 + 1]? = some (.cells #[.int .i64 4000] 3 (0, 0)) := by
    rw [hw4, ← hb3]
    have := heap_alloc_new (w3.alloc (.cells #[.slice (some ad) L c3] 38)) (.cells #[.int .i64 4000] 3)
    rw [World.size_alloc] at this
    exact this
  have hcol := collect_ok w4 b3 (b3 + 1) L ad (by omega) (by omega) (by omega) (fun W hW => chunk_stops Go.Fence.wide 7 trivial rfl (by decide) b3 (b3 + 1) L c3 ad (by omega) hc3 W (by have := hW.size; omega) (by have := hW.size; omega) ((hW.cell (p := ⟨b3, 0, none⟩) (by show b3 < w4.heap.size; omega)).trans ((Rw.blk_cell q1 0).trans rfl)) ((hW.cell (p := ⟨b3 + 1, 0, none⟩) (by show b3 + 1 < w4.heap.size; omega)).trans ((Rw.blk_cell q2 0).trans rfl)))
  rw [hb3]
  have HCOL := Sh.mk hcol
  have HB14 := Sh.mk (HB13.out.trans (h34.mono HB13.out.size))
  have HBY4 := Sh.mk (HBY3.out.below h34)
  have HAD4 := Sh.mk (Nat.lt_of_lt_of_le HADLT.out h34.size)
  clear hcol q1 q2 hs4 h34 hw4 hb3 HBY3 HADLT HB13
  go_wp2_with fail
  refine HCOL.out.mono ?_
  rintro e w5 ⟨v4, rfl, hrow4, hb45⟩
  obtain ⟨a4, c4, rfl⟩ := own_slice hrow4
  obtain ⟨m, hm⟩ : ∃ m, count L = m := ⟨_, rfl⟩
  rw [hm] at hrow4 ⊢
  have hm1 : 0 < m := by rw [← hm]; unfold count; omega
  have hm2 : m ≤ 251 := by rw [← hm]; unfold count; omega
  obtain ⟨g4, rfl⟩ : ∃ g4, a4 = some ⟨g4, 0, none⟩ := by
    rcases hrow4.2 with ⟨_, h⟩ | ⟨g, cap, cur, e, _⟩
    · omega
    · cases e
      exact ⟨g, rfl⟩
  have hg4 := (hrow4.lt g4 rfl).2
  have HROW4 := Sh.mk hrow4
  have HM := Sh.mk hm
  have HB15 := Sh.mk (HB14.out.trans (hb45.mono HB14.out.size))
  have HBY5 := Sh.mk (HBY4.out.below hb45)
  have HAD5 := Sh.mk (Nat.lt_of_lt_of_le HAD4.out hb45.size)
  have HG4 := Sh.mk hg4
  clear hm hrow4 hb45 hg4 HCOL HBY4 HAD4 HB14
  have mne : ((m : Int) == 0) = false := by simp; omega
  have mle : ¬ (65535 : Int) < (m : Int) := by omega
  go_wp2_with fail
  clear mne mle
  obtain ⟨i0, hi, hz0, hz1, hz2⟩ := info_parts infoU8
  obtain ⟨j0, hj, hy0, hy1, hy2⟩ := info_parts infoSl
  go_loopg [5, 25] m (fun kq v5 v25 w' => ∃ (i : Nat) (R : List Rc), i + kq = m ∧ v25 = .int .i64 (i : Int) ∧ Sh (R.map Rc.l = (List.range i).map (recd n bs m) ∧ w'.ownsRow w5.heap.size 38 1 v5 R.length (rcells R) ∧ (∀ r ∈ R, RcOk w' r) ∧ Below w5.heap.size w5 w'))
  case atStart => exact ⟨0, [], by omega, rfl, ⟨rfl, World.ownsRow_nil _ _ _ _, by simp, Below.refl _ _⟩⟩
  case round =>
    obtain ⟨i, R, hik, rfl, ⟨hmap, hrow, hok, hB⟩⟩ := hrel
    have hRi : R.length = i := by have := congrArg List.length hmap; simpa using this
    have HRI := Sh.mk hRi
    have HMAP := Sh.mk hmap
    have HROW := Sh.mk hrow
    have HOK := Sh.mk hok
    have HB := Sh.mk hB
    have HI := Sh.mk hik
    have hb05 : b0 < w1.heap.size := lt_of_heap HG0.out
    have n0_ : wr.cell? ⟨b0, 0, none⟩ = some (.int .i64 n) := by
      have h15 := HB15.out.trans (hB.mono HB15.out.size)
      exact (h15.cell (p := ⟨b0, 0, none⟩) hb05).trans ((Rw.blk_cell HG0.out 0).trans rfl)
    clear hRi hmap hok hb05
    cases gk with
    | zero =>
      obtain rfl : i = m := by omega
      have kk : ¬ (i : Int) < (i : Int) := by omega
      obtain ⟨a5, c5, rfl⟩ := own_slice hrow
      have hle : R.length ≤ c5 := by
        rcases hrow.2 with ⟨e1, h⟩ | ⟨g, cap, cur, e, _, _, hn, _⟩
        · omega
        · cases e
          exact hn
      clear hrow hB hik n0_
      go_wp2_with fail
      go_ret2
      refine ⟨a5, c5, R, rfl, hle, ?_, HOK.out, ?_, HB1.out.trans ((HB15.out.trans (HB.out.mono HB15.out.size)).mono HB1.out.size)⟩
      · exact row_lower HROW.out (by have := HB15.out.size; have := HB1.out.size; omega)
      · rw [HMAP.out]
        unfold recs
        rw [HLL.out, HM.out, show max 1 i = i by omega]
    | succ g1_ =>
      have him : i < m := by omega
      have kk : (i : Int) < (m : Int) := by omega
      have hiL : 4000 * i < L := by have := HM.out; unfold count at this; omega
      have p_ : wr.cell? ⟨g4, i, none⟩ = some (piece ad L i) := by
        have h1 := HROW4.out.cells (g := g4) rfl i (piece ad L i) (by unfold pvals; rw [List.getElem?_map, List.getElem?_range him]; rfl)
        rw [Addr.add_mid, Nat.zero_add] at h1
        exact (hB.cell (p := ⟨g4, i, none⟩) HG4.out).trans h1
      obtain ⟨pl, hpl⟩ : ∃ pl, min 4000 (L - 4000 * i) = pl := ⟨_, rfl⟩
      have hpv : piece ad L i = .slice (some (ad.add (4000 * i))) pl pl := by unfold piece; rw [hpl]
      rw [hpv] at p_
      have hpb : Bytes wr (some (ad.add (4000 * i))) ((bs.drop (4000 * i)).take 4000) := by
        have h1 := Bytes.take (Bytes.drop (c := L + 1) ((HBY5.out).below (hB.mono (Nat.le_refl _))) (4000 * i) (by rw [HLL.out]; omega)) 4000
        rw [if_neg (by omega), Nat.mul_one] at h1
        exact h1
      have hpbl : ((bs.drop (4000 * i)).take 4000).length = pl := by rw [List.length_take, List.length_drop, HLL.out, hpl]
      obtain ⟨pb, hpbe⟩ : ∃ pb, (bs.drop (4000 * i)).take 4000 = pb := ⟨_, rfl⟩
      rw [hpbe] at hpb hpbl
      have HPB := Sh.mk hpb
      have HPBL := Sh.mk hpbl
      have HPBE := Sh.mk hpbe
      have HUI : Sh (IntKind.u64.wrap (i : Int) = (i : Int)) := ⟨by rw [IntKind.wrap_u64]; omega⟩
      have HUM : Sh (IntKind.u64.wrap (m : Int) = (m : Int)) := ⟨by rw [IntKind.wrap_u64]; omega⟩
      have W25 : Sh (wrap64 ((i : Int) + 1) = ((i + 1 : Nat) : Int)) := ⟨by unfold wrap64; omega⟩
      have hpl0 : 0 < pl := by omega
      have hpl1 : pl ≤ 4000 := by omega
      have HPL := Sh.mk (And.intro hpl0 hpl1)
      have HIM := Sh.mk him
      obtain ⟨bw, hbw⟩ : ∃ bw, wr.heap.size = bw := ⟨_, rfl⟩
      have HBW := Sh.mk hbw
      clear hpv hpb hpbl hpbe hrow hB hik hiL hpl hpl0 hpl1 him hbw
      go_wp2_with fail
      try rw [HUN.out]
      refine (commits_low.calls 9 (fun _ => False) (.slice none 0 0) [] n 8 (lowd n 0 8) wr wr (Below.refl _ _) (Kd.R_nil _ _ _ _ _) (low_f n 8 (by decide) [] (by simp))).mono ?_
      rintro e y1 ⟨v1, rfl, hR1, hb1, -⟩
      have HR1 := Sh.mk hR1
      have HY1 := Sh.mk hb1
      clear hR1 hb1
      go_wp2_with fail
      try rw [HUI.out]
      refine (commits_low.calls 3 _ v1 (lowd n 0 8) i 2 (lowd n 0 8 ++ lowd i 0 2) wr y1 HY1.out HR1.out (low_f i 2 (by decide) _ (by rw [lowd_length]; decide))).mono ?_
      rintro e y2 ⟨v2, rfl, hR2, hb2, -⟩
      have HR2 := Sh.mk hR2
      have HY2 := Sh.mk hb2
      clear hR2 hb2 HR1 HY1
      go_wp2_with fail
      try rw [HUM.out]
      refine (commits_low.calls 3 _ v2 (lowd n 0 8 ++ lowd i 0 2) m 2 (lowd n 0 8 ++ lowd i 0 2 ++ lowd m 0 2) wr y2 HY2.out HR2.out (low_f m 2 (by decide) _ (by rw [List.length_append, lowd_length, lowd_length]; decide))).mono ?_
      rintro e y3 ⟨v3, rfl, hR3, hb3, -⟩
      have hown3 := (R_row hR3).1
      have hl12 : (lowd n 0 8 ++ lowd i 0 2 ++ lowd m 0 2).length = 12 := by rw [List.length_append, List.length_append, lowd_length, lowd_length, lowd_length]
      rw [hl12] at hown3
      have HOWN3 := Sh.mk hown3
      have HY3 := Sh.mk hb3
      have hnews : ∀ j u, (pb.map (Value.int .u8))[j]? = some u → y3.cell? ((ad.add (4000 * i)).add j) = some u := fun j u hu => by
        obtain ⟨a, e, hcs⟩ := (HPB.out.below hb3) (by rw [HPBL.out]; exact HPL.out.1)
        cases e
        rw [List.getElem?_map] at hu
        obtain ⟨z, hz, rfl⟩ := Option.map_eq_some_iff.1 hu
        exact hcs j z hz
      have hs3 := hb3.size
      have HNEWL := Sh.mk (show (pb.map (Value.int .u8)).length = pl * 1 by rw [List.length_map, HPBL.out, Nat.mul_one])
      have hpl1 := HPL.out.2
      clear hR3 hb3 hl12 HR2 HY2 n0_ p_
      go_wp2_with ((with_reducible refine Rw.at_slot 44 ?_); refine wpList_append_own _ rfl _ _ 38 rfl wr.heap.size 5 i0 (.int .u8 0) 1 1 Try.underlying38 hi hz0 hz1 hz2 rfl (by decide) _ _ _ rfl hown3 (ad.add (4000 * i)) pl pl (pb.map (Value.int .u8)) rfl HNEWL.out hnews (one_u8 pb) (app_nums pl hpl1).1 (app_nums pl hpl1).2 hs3 ?_)
      intro v6 y4 hown4 hgrow _
      have hrl : (recd n bs m i).length = 12 + pl := by
        unfold recd
        rw [HPBE.out, List.length_append, List.length_append, List.length_append, lowd_length, lowd_length, lowd_length, HPBL.out]
      have hcel : y4.ownsRow wr.heap.size 5 1 v6 (recd n bs m i).length ((recd n bs m i).map (Value.int .u8)) := by
        rw [hrl]
        unfold recd
        rw [HPBE.out]
        simpa using hown4
      have hY4 : Below wr.heap.size wr y4 := HY3.out.grown hgrow hs3 (fun k e => (hown3.lt k e).1)
      obtain ⟨A6, c6, rfl⟩ := own_slice hcel
      have hrok : RcOk y4 ⟨A6, recd n bs m i, c6⟩ := by
        refine ⟨?_, Bytes.own (l := recd n bs m i) hcel, fun a e => ?_⟩
        · rcases hcel.2 with ⟨_, h⟩ | ⟨g, cap, cur, e, _, _, hn, _⟩
          · omega
          · cases e
            exact hn
        · rcases hcel.2 with ⟨_, h⟩ | ⟨g, cap, cur, e2, _, hh, _⟩
          · omega
          · cases e2
            cases e
            exact ⟨_, _, hh⟩
      have hokx : ∀ r ∈ R ++ [⟨A6, recd n bs m i, c6⟩], RcOk y4 r := fun r hr => by
        rcases List.mem_append.1 hr with h | h
        · exact (HOK.out r h).kept (Kept.of_below (S := fun _ => False) hY4) (fun _ _ e => e)
        · obtain rfl : r = _ := by simpa using h
          exact hrok
      have hrowx : y4.ownsRow w5.heap.size 38 1 u5 R.length (rcells R) := row_kept HROW.out (Kept.of_below (S := fun _ => False) hY4) (fun _ _ e => e)
      have hsx : w5.heap.size ≤ y4.heap.size := Nat.le_trans HB.out.size hY4.size
      have hRn : R.length ≤ 300 := by have := HRI.out; have := HIM.out; omega
      have HOKX := Sh.mk hokx
      have HROWX := Sh.mk hrowx
      have HBX := Sh.mk (HB.out.trans (hY4.mono HB.out.size))
      have HRL := Sh.mk hrl
      rw [hrl]
      have hnum := app_nums2 R.length hRn
      clear hown4 hgrow hcel hY4 hrok hokx hown3 hnews hs3 hpl1 hrl hRn
      go_wp2_with ((with_reducible refine Rw.at_slot 46 ?_); refine wpList_append_own _ rfl _ _ 27 rfl w5.heap.size 38 j0 (.slice none 0 0) 1 24 Try.underlying27 hj hy0 hy1 hy2 rfl (by decide) _ _ _ rfl (hrowx.alloc _) ⟨y4.heap.size, 0, none⟩ 1 1 [.slice A6 (12 + pl) c6] rfl rfl (one_new _ _ _) (by simp [Value.oneCell']) hnum.1 hnum.2 (by simp; omega) ?_)
      intro v7 y5 hown5 hgrow _
      have hK5 : Kept (fun k => u5.ownBlock = some k) y4 y5 := ((Kept.refl (fun k => u5.ownBlock = some k) y4).alloc _).grown hgrow (fun k e => .inr e)
      have hB5 : Below w5.heap.size w5 y5 := (HBX.out.alloc hsx _).grown hgrow (by simp; omega) (fun k e => (hrowx.lt k e).1)
      have HOWN5 := Sh.mk hown5
      have HK5 := Sh.mk hK5
      have HB5 := Sh.mk hB5
      clear hown5 hgrow hK5 hB5 hrowx hsx hnum
      go_wp2_with fail
      go_roundg g1_
      case measure => have := HI.out; omega
      case rel => exact ⟨i + 1, R ++ [⟨A6, recd n bs m i, c6⟩], by have := HI.out; omega, (by first | rfl | (rw [W25.out])), ⟨by rw [List.map_append, HMAP.out, List.range_succ, List.map_append]; rfl, by
        have e : rcells (R ++ [⟨A6, recd n bs m i, c6⟩]) = rcells R ++ [.slice A6 (12 + pl) c6] := by
          unfold rcells
          rw [List.map_append]
          show _ ++ [Value.slice A6 (recd n bs m i).length c6] = _
          rw [HRL.out]
        rw [e, List.length_append]
        exact HOWN5.out, fun r hr => (HOKX.out r hr).kept HK5.out (fun ad e => own_ne HROWX.out (HOKX.out r hr) ad e), HB5.out⟩⟩
end Go.Proofs.Ytnemnhfdjofckaa.Co
namespace Go.Proofs.Ytnemnhfdjofckaa.Co
open Go Go.RowKit Hp Go.Proofs.Ytnemnhfdjofckaa.Fr Go.Proofs.Ytnemnhfdjofckaa.Ck Go.Proofs.YtnemnhfdjofckaaW.PrintWords Go.Proofs.Ytnemnhfdjofckaa.Print
set_option maxHeartbeats 4000000 in
set_option maxRecDepth 100000 in
theorem encode_zero (k k2 : Nat) (n : Int) (A : Option Addr) (c : Nat) (fl : List S56) (w : World) (hC : Kd.C k56 w A fl.length fl) (hc : fl.length ≤ c) (hr : commits_Commit_right.f k n fl = some true) (hbs : commits_Commit_bytes.f k2 n fl = some [])
    (hn0 : 0 ≤ n) (hn1 : n ≤ 1099511627776) :
    Calls Try.prog 10 #[.agg #[.int .i64 n, .slice A fl.length c]] w fun e w' => ∃ (a : Option Addr) (c' : Nat) (R : List Rc), e = .returned (.tuple #[.slice a R.length c', .int .i64 0]) ∧ R.length ≤ c' ∧ w'.ownsRow w.heap.size 38 1 (.slice a R.length c') R.length (rcells R) ∧ (∀ r ∈ R, RcOk w' r) ∧ R.map Rc.l = recs n [] ∧ Below w.heap.size w w' := by
  have HUN : Sh (IntKind.u64.wrap n = n) := ⟨by rw [IntKind.wrap_u64]; omega⟩
  go_enter Try.func10, Try.ntmps10
  go_upto_region 1 with (fail)
  obtain ⟨w1, hw1⟩ : ∃ w1, w.alloc (.cells #[.int .i64 n, .slice A fl.length c] 32) = w1 := ⟨_, rfl⟩
  obtain ⟨b0, hb0⟩ : ∃ b0, w.heap.size = b0 := ⟨_, rfl⟩
  have hB1 : Below w.heap.size w w1 := by rw [← hw1]; exact (Below.refl _ _).alloc (Nat.le_refl _) _
  have g0 : w1.heap[b0]? = some (.cells #[.int .i64 n, .slice A fl.length c] 32 (0, 0)) := by rw [← hw1, ← hb0]; exact heap_alloc_new _ _
  rw [hw1, hb0]
  have HB0 := Sh.mk hb0
  clear hw1 hb0
  have hld : ∀ W, Below w1.heap.size w1 W → (Instr.loadAt 32 (.pointer (some ⟨b0, 0, none⟩))).run Try.prog W = .ok (.agg #[.int .i64 n, .slice A fl.length c]) W := fun W hW => run_loadAt_mid (P := Try.prog) W b0 0 32 [.int .i64 n, .slice A fl.length c] _ (Rw.blk_range ((hW.block _ (lt_of_heap g0)).trans g0)) Try.underlying32 rfl sizeCom
  have HLD := Sh.mk hld
  have HG0 := Sh.mk g0
  have HB1 := Sh.mk hB1
  have HC1 := Sh.mk (Kd.C_below hC hB1)
  have l1_ := hld w1 (Below.refl _ _)
  clear hld g0 hC hB1
  go_wp2_with ((with_reducible refine Rw.at_slot 9 ?_); refine Rw.wpList_get rfl 32 (.tmp 1) rfl rfl l1_ ?_)
  refine (commits_Commit_right.calls k n A c fl true w1 HC1.out hc hr).mono ?_
  rintro e w2 ⟨rfl, hb12⟩
  have l2_ := HLD.out w2 hb12
  have HC2 := Sh.mk (Kd.C_below HC1.out hb12)
  have HB12 := Sh.mk hb12
  clear l1_ hr hb12 HC1
  go_wp2_with ((with_reducible refine Rw.at_slot 12 ?_); refine Rw.wpList_get rfl 32 (.tmp 1) rfl rfl l2_ ?_)
  refine (commits_Commit_bytes.calls k2 n A c fl [] w2 HC2.out hc hbs).mono ?_
  rintro e w3 ⟨v3, rfl, hR3, hb23⟩
  obtain ⟨A3, c3, rfl, hc3, hby3, hA3, -⟩ := R_any hR3
  have HB13 := Sh.mk (HB12.out.trans (hb23.mono HB12.out.size))
  clear hR3 hb23 hby3 hA3 l2_ hbs hc HC2 HB12 hc3
  go_wp2_with fail
  refine (callsIn_wide.1 (chunk_in Go.Fence.wide 8 trivial rfl A3 0 c3 w3)).mono ?_
  rintro e w4 ⟨rfl, hw4⟩
  obtain ⟨b3, hb3⟩ : ∃ b3, w3.heap.size = b3 := ⟨_, rfl⟩
  have h34 : Below w3.heap.size w3 w4 := by rw [hw4]; exact ((Below.refl _ _).alloc (Nat.le_refl _) _).alloc (by simp) _
  have hs4 : w4.heap.size = b3 + 2 := by rw [hw4, ← hb3]; simp
  have q1 : w4.heap[b3]? = some (.cells #[.slice A3 0 c3] 38 (0, 0)) := by rw [hw4, ← hb3]; exact (Below.heap_alloc _ _ _ (by simp)).trans (heap_alloc_new _ _)
  have q2 : w4.heap[b3 + 1]? = some (.cells #[.int .i64 4000] 3 (0, 0)) := by
    rw [hw4, ← hb3]
    have := heap_alloc_new (w3.alloc (.cells #[.slice A3 0 c3] 38)) (.cells #[.int .i64 4000] 3)
    rw [World.size_alloc] at this
    exact this
  have hcol := collect_ok w4 b3 (b3 + 1) 0 ⟨0, 0, none⟩ (by omega) (by omega) (by omega) (fun W hW => chunk_stops0 Go.Fence.wide 7 trivial rfl b3 (b3 + 1) c3 A3 W (by have := hW.size; omega) ((hW.cell (p := ⟨b3, 0, none⟩) (by show b3 < w4.heap.size; omega)).trans ((Rw.blk_cell q1 0).trans rfl)))
  rw [hb3]
  have HCOL := Sh.mk hcol
  have HB14 := Sh.mk (HB13.out.trans (h34.mono HB13.out.size))
  clear hcol q1 q2 hs4 h34 hw4 hb3 HB13
  go_wp2_with fail
  refine HCOL.out.mono ?_
  rintro e w5 ⟨v4, rfl, hrow4, hb45⟩
  obtain ⟨a4, c4, rfl⟩ := own_slice hrow4
  have hm : count 0 = 0 := rfl
  rw [hm] at hrow4 ⊢
  have HB15 := Sh.mk (HB14.out.trans (hb45.mono HB14.out.size))
  clear hm hrow4 hb45 HCOL HB14
  obtain ⟨g4, hg4⟩ : ∃ g4, w5.heap.size = g4 := ⟨_, rfl⟩
  obtain ⟨w6, hw6⟩ : ∃ w6, w5.alloc (.cells #[.slice none 0 0] 38) = w6 := ⟨_, rfl⟩
  have gp : w6.heap[g4]? = some (.cells #[.slice none 0 0] 38 (0, 0)) := by rw [← hw6, ← hg4]; exact heap_alloc_new _ _
  have h56 : Below w5.heap.size w5 w6 := by rw [← hw6]; exact (Below.refl _ _).alloc (Nat.le_refl _) _
  have HB16 := Sh.mk (HB15.out.trans (h56.mono HB15.out.size))
  have HGP := Sh.mk gp
  clear gp h56
  go_wp2_with fail
  clear hw6 hg4
  obtain ⟨i0, hi, hz0, hz1, hz2⟩ := info_parts infoU8
  obtain ⟨j0, hj, hy0, hy1, hy2⟩ := info_parts infoSl
  go_loopg [5, 25] 1 (fun kq v5 v25 w' => ∃ (i : Nat) (R : List Rc), i + kq = 1 ∧ v25 = .int .i64 (i : Int) ∧ Sh (R.map Rc.l = (List.range i).map (recd n [] 1) ∧ w'.ownsRow w6.heap.size 38 1 v5 R.length (rcells R) ∧ (∀ r ∈ R, RcOk w' r) ∧ Below w6.heap.size w6 w'))
  case atStart => exact ⟨0, [], by omega, rfl, ⟨rfl, World.ownsRow_nil _ _ _ _, by simp, Below.refl _ _⟩⟩
  case round =>
    obtain ⟨i, R, hik, rfl, ⟨hmap, hrow, hok, hB⟩⟩ := hrel
    have HMAP := Sh.mk hmap
    have HROW := Sh.mk hrow
    have HOK := Sh.mk hok
    have HB := Sh.mk hB
    have hb05 : b0 < w1.heap.size := lt_of_heap HG0.out
    have n0_ : wr.cell? ⟨b0, 0, none⟩ = some (.int .i64 n) := by
      have h16 := HB16.out.trans (hB.mono HB16.out.size)
      exact (h16.cell (p := ⟨b0, 0, none⟩) hb05).trans ((Rw.blk_cell HG0.out 0).trans rfl)
    clear hok hb05
    cases gk with
    | zero =>
      obtain rfl : i = 1 := by omega
      obtain ⟨a5, c5, rfl⟩ := own_slice hrow
      have hle : R.length ≤ c5 := by
        rcases hrow.2 with ⟨e1, h⟩ | ⟨g, cap, cur, e, _, _, hn, _⟩
        · omega
        · cases e
          exact hn
      clear hrow hB hik n0_ hmap
      go_wp2_with fail
      go_ret2
      refine ⟨a5, c5, R, rfl, hle, ?_, HOK.out, ?_, HB1.out.trans ((HB16.out.trans (HB.out.mono HB16.out.size)).mono HB1.out.size)⟩
      · exact row_lower HROW.out (by have := HB16.out.size; have := HB1.out.size; omega)
      · rw [HMAP.out]
        rfl
    | succ g1_ =>
      obtain rfl : i = 0 := by omega
      obtain rfl : R = [] := by simpa using hmap
      have p_ : wr.cell? ⟨g4, 0, none⟩ = some (.slice none 0 0) := (hB.cell (p := ⟨g4, 0, none⟩) (lt_of_heap HGP.out)).trans ((Rw.blk_cell HGP.out 0).trans rfl)
      obtain ⟨bw, hbw⟩ : ∃ bw, wr.heap.size = bw := ⟨_, rfl⟩
      clear hrow hB hbw hmap
      go_wp2_with fail
      refine (commits_low.calls 9 (fun _ => False) (.slice none 0 0) [] n 8 (lowd n 0 8) wr wr (Below.refl _ _) (Kd.R_nil _ _ _ _ _) (low_f n 8 (by decide) [] (by simp))).mono ?_
      rintro e y1 ⟨v1, rfl, hR1, hb1, -⟩
      have HR1 := Sh.mk hR1
      have HY1 := Sh.mk hb1
      clear hR1 hb1
      go_wp2_with fail
      refine (commits_low.calls 3 _ v1 (lowd n 0 8) 0 2 (lowd n 0 8 ++ lowd 0 0 2) wr y1 HY1.out HR1.out (low_f 0 2 (by decide) _ (by rw [lowd_length]; decide))).mono ?_
      rintro e y2 ⟨v2, rfl, hR2, hb2, -⟩
      have HR2 := Sh.mk hR2
      have HY2 := Sh.mk hb2
      clear hR2 hb2 HR1 HY1
      go_wp2_with fail
      refine (commits_low.calls 3 _ v2 (lowd n 0 8 ++ lowd 0 0 2) 1 2 (lowd n 0 8 ++ lowd 0 0 2 ++ lowd 1 0 2) wr y2 HY2.out HR2.out (low_f 1 2 (by decide) _ (by rw [List.length_append, lowd_length, lowd_length]; decide))).mono ?_
      rintro e y3 ⟨v3, rfl, hR3, hb3, -⟩
      have hown3 := (R_row hR3).1
      have hl12 : (lowd n 0 8 ++ lowd 0 0 2 ++ lowd 1 0 2).length = 12 := by rw [List.length_append, List.length_append, lowd_length, lowd_length, lowd_length]
      rw [hl12] at hown3
      have hrl : (recd n [] 1 0).length = 12 := by
        unfold recd
        rw [List.length_append, List.length_append, List.length_append, lowd_length, lowd_length, lowd_length]
        rfl
      have hcel : y3.ownsRow wr.heap.size 5 1 v3 (recd n [] 1 0).length ((recd n [] 1 0).map (Value.int .u8)) := by
        rw [hrl]
        unfold recd
        simpa using hown3
      obtain ⟨A6, c6, rfl⟩ := own_slice hcel
      have hrok : RcOk y3 ⟨A6, recd n [] 1 0, c6⟩ := by
        refine ⟨?_, Bytes.own (l := recd n [] 1 0) hcel, fun a e => ?_⟩
        · rcases hcel.2 with ⟨_, h⟩ | ⟨g, cap, cur, e, _, _, hn, _⟩
          · omega
          · cases e
            exact hn
        · rcases hcel.2 with ⟨_, h⟩ | ⟨g, cap, cur, e2, _, hh, _⟩
          · omega
          · cases e2
            cases e
            exact ⟨_, _, hh⟩
      have hrowx : y3.ownsRow w6.heap.size 38 1 u5 0 [] := row_kept HROW.out (Kept.of_below (S := fun _ => False) hb3) (fun _ _ e => e)
      have hsx : w6.heap.size ≤ y3.heap.size := Nat.le_trans HB.out.size hb3.size
      have HROK := Sh.mk hrok
      have HROWX := Sh.mk hrowx
      have HBX := Sh.mk (HB.out.trans (hb3.mono HB.out.size))
      have HRL := Sh.mk hrl
      have HCEL := Sh.mk hcel
      rw [hrl] at hcel ⊢
      clear hR3 hb3 hl12 HR2 HY2 n0_ p_ hrok hrl hown3
      go_wp2_with (first | ((with_reducible refine Rw.at_slot 44 ?_); refine wpList_append_own_none rfl _ _ 38 rfl wr.heap.size 5 i0 1 Try.underlying38 hi _ _ _ rfl hcel rfl ?_) | ((with_reducible refine Rw.at_slot 46 ?_); refine wpList_append_own _ rfl _ _ 27 rfl w6.heap.size 38 j0 (.slice none 0 0) 1 24 Try.underlying27 hj hy0 hy1 hy2 rfl (by decide) _ _ _ rfl (hrowx.alloc _) ⟨y3.heap.size, 0, none⟩ 1 1 [.slice A6 12 c6] rfl rfl (one_new _ _ _) (by simp [Value.oneCell']) (by decide) (by decide) (by simp; omega) ?_))
      intro v7 y5 hown5 hgrow _
      have hK5 : Kept (fun k => u5.ownBlock = some k) y3 y5 := ((Kept.refl (fun k => u5.ownBlock = some k) y3).alloc _).grown hgrow (fun k e => .inr e)
      have hB5 : Below w6.heap.size w6 y5 := (HBX.out.alloc hsx _).grown hgrow (by simp; omega) (fun k e => (hrowx.lt k e).1)
      have HOWN5 := Sh.mk hown5
      have HK5 := Sh.mk hK5
      have HB5 := Sh.mk hB5
      clear hown5 hgrow hK5 hB5 hrowx hsx hcel
      go_wp2_with fail
      go_roundg g1_
      case measure => omega
      case rel => exact ⟨1, [⟨A6, recd n [] 1 0, c6⟩], by omega, (by first | rfl | simp), ⟨rfl, by
        have e : rcells [⟨A6, recd n [] 1 0, c6⟩] = [.slice A6 12 c6] := by
          show [Value.slice A6 (recd n [] 1 0).length c6] = _
          rw [HRL.out]
        rw [e]
        exact HOWN5.out, fun r hr => by
        obtain rfl : r = _ := by simpa using hr
        exact HROK.out.kept HK5.out (fun ad e => own_ne HROWX.out HROK.out ad e), HB5.out⟩⟩
end Go.Proofs.Ytnemnhfdjofckaa.Co
namespace Go.Proofs.Ytnemnhfdjofckaa.Co
open Go Go.RowKit Go.Proofs.YtnemnhfdjofckaaW.PrintWords Go.Proofs.Ytnemnhfdjofckaa.Print
theorem low_k (a : Int) (n : Nat) (hn : n ≤ 8) (l : List Int) (hl : l.length ≤ 999999000) : ∀ j, commits_low.f (n + 1 + j) l a (n : Int) = some (l ++ lowd a 0 n)
  | 0 => low_f a n hn l hl
  | j + 1 => commits_low.mono _ _ _ _ _ (low_k a n hn l hl j)
theorem rlow_k (a : Int) (n : Nat) (hn : n ≤ 8) : ∀ j, headgateref20_low.f (n + 1 + j) a (n : Int) = some (lowd a 0 n)
  | 0 => rlow_f a n hn
  | j + 1 => headgateref20_low.mono _ _ _ _ (rlow_k a n hn j)
/-- A file's bytes. -/
def fileb (f : S56) : List Int := [(f.f0.size : Int) % 256] ++ bytesOf f.f0 ++ lowd f.f1 0 8 ++ lowd (f.f2.size : Int) 0 4 ++ bytesOf f.f2
/-- The bytes of m files from the i-th on. -/
def restb (fl : List S56) : Nat → Nat → List Int
  | _, 0 => []
  | i, m + 1 => fileb (rd_T56 fl (i : Int)) ++ restb fl (i + 1) m
theorem fileb_length (f : S56) : (fileb f).length = 1 + f.f0.size + 8 + 4 + f.f2.size := by
  unfold fileb
  rw [List.length_append, List.length_append, List.length_append, List.length_append, bytesOf_length, bytesOf_length, lowd_length, lowd_length]
  rfl
theorem cbytes_l0 (fl : List S56) (hv : ∀ i : Nat, i < fl.length → 0 ≤ (rd_T56 fl (i : Int)).f1 ∧ (rd_T56 fl (i : Int)).f1 ≤ 1099511627776) (hlen : fl.length ≤ 1000000000) : ∀ (m i : Nat) (acc : List Int), i + m = fl.length → acc.length + (restb fl i m).length ≤ 999000000 →
    commits_Commit_bytes.l0 (m + 10) acc fl (fl.length : Int) (i : Int) = some (acc ++ restb fl i m) := by
  intro m
  induction m with
  | zero =>
    intro i acc hi _
    unfold commits_Commit_bytes.l0 restb
    rw [if_neg (by omega), List.append_nil]
  | succ m ih =>
    intro i acc hi hb
    have e2 : wrap64 ((i : Int) + 1) = ((i + 1 : Nat) : Int) := by unfold wrap64; omega
    have hvi := hv i (by omega)
    rw [show m + 1 + 10 = (m + 10) + 1 by omega]
    unfold commits_Commit_bytes.l0
    unfold restb at hb ⊢
    rw [List.length_append, fileb_length] at hb
    have hih := ih (i + 1) (acc ++ fileb (rd_T56 fl (i : Int))) (by omega) (by rw [List.length_append, fileb_length]; omega)
    generalize rd_T56 fl (i : Int) = f at *
    have u1 : IntKind.u64.wrap f.f1 = f.f1 := by rw [IntKind.wrap_u64]; omega
    have u2 : IntKind.u64.wrap ((f.f2.size : Int)) = (f.f2.size : Int) := by rw [IntKind.wrap_u64]; omega
    have l1 : (acc ++ [(f.f0.size : Int) % 256]).length = acc.length + 1 := by simp
    have k1 := low_k f.f1 8 (by decide) ((acc ++ [(f.f0.size : Int) % 256]) ++ bytesOf f.f0) (by rw [List.length_append, l1, bytesOf_length]; omega) (m + 1)
    have k2 := low_k (f.f2.size : Int) 4 (by decide) (((acc ++ [(f.f0.size : Int) % 256]) ++ bytesOf f.f0) ++ lowd f.f1 0 8) (by rw [List.length_append, List.length_append, l1, bytesOf_length, lowd_length]; omega) (m + 5)
    rw [show 8 + 1 + (m + 1) = m + 10 by omega] at k1
    rw [show 4 + 1 + (m + 5) = m + 10 by omega] at k2
    have k1' : commits_low.f (m + 10) ((acc ++ [(f.f0.size : Int) % 256]) ++ bytesOf f.f0) f.f1 8 = _ := k1
    have k2' : commits_low.f (m + 10) (((acc ++ [(f.f0.size : Int) % 256]) ++ bytesOf f.f0) ++ lowd f.f1 0 8) (f.f2.size : Int) 4 = _ := k2
    rw [if_pos (by omega), if_pos (by omega), if_pos (by omega), if_pos (by omega), Option.bind_some, if_pos (by rw [l1]; omega), u1, k1', Option.bind_some, u2, k2', Option.bind_some, if_pos (by rw [List.length_append, List.length_append, List.length_append, l1, bytesOf_length, lowd_length, lowd_length]; omega), e2]
    have ee : (((acc ++ [(f.f0.size : Int) % 256]) ++ bytesOf f.f0) ++ lowd f.f1 0 8) ++ lowd (f.f2.size : Int) 0 4 ++ bytesOf f.f2 = acc ++ fileb f := by
      unfold fileb
      simp only [List.append_assoc]
    rw [ee, hih, List.append_assoc]
theorem cbytes_f (n : Int) (fl : List S56) (hv : ∀ i : Nat, i < fl.length → 0 ≤ (rd_T56 fl (i : Int)).f1 ∧ (rd_T56 fl (i : Int)).f1 ≤ 1099511627776) (hlen : fl.length ≤ 1000000000) (hb : (restb fl 0 fl.length).length ≤ 999000000) :
    commits_Commit_bytes.f (fl.length + 10) n fl = some (restb fl 0 fl.length) := by
  unfold commits_Commit_bytes.f
  exact cbytes_l0 fl hv hlen fl.length 0 [] (by omega) (by simpa using hb)
end Go.Proofs.Ytnemnhfdjofckaa.Co
namespace Go.Proofs.Ytnemnhfdjofckaa.Co
open Go Go.RowKit Hp Go.Proofs.Ytnemnhfdjofckaa.Fr Go.Proofs.Ytnemnhfdjofckaa.Ck Go.Proofs.YtnemnhfdjofckaaW.PrintWords Go.Proofs.Ytnemnhfdjofckaa.Print Go.Proofs.Ytnemnhfdjofckaa.Rt
def aliveFile : S56 := ⟨⟨#[102]⟩, 2, ⟨#[104, 105]⟩⟩
theorem alive_right : rightd 5 [aliveFile] = true := by decide +kernel
def aliveRec : List Int := [5, 0, 0, 0, 0, 0, 0, 0, 0, 0, 1, 0, 1, 102, 2, 0, 0, 0, 0, 0, 0, 0, 2, 0, 0, 0, 104, 105]
theorem alive_recs : recs 5 (restb [aliveFile] 0 1) = [aliveRec] := by decide +kernel
theorem alive_len : (restb [aliveFile] 0 1).length = 16 := by decide +kernel
theorem file_C (w : World) (g : Nat) (f : S56) (h : w.heap[g]? = some (.cells #[.string f.f0, .int .i64 f.f1, .string f.f2] 56 (0, 0))) : Kd.C k56 w (some ⟨g, 0, none⟩) 1 [f] := by
  refine ⟨rfl, by decide, fun _ => ⟨_, rfl, fun j p hj => ?_⟩⟩
  match j, hj with
  | 0, hj =>
    cases hj
    refine ⟨[.string f.f0, .int .i64 f.f1, .string f.f2], rfl, k56_mk w f, fun i u hu => ?_⟩
    show w.cell? ((⟨g, 0, none⟩ : Addr).add (0 * 3 + i)) = _
    rw [Addr.add_mid, Nat.zero_mul, Nat.zero_add, Nat.zero_add, Rw.blk_cell h i]
    simpa using hu
set_option maxHeartbeats 4000000 in
set_option maxRecDepth 100000 in
theorem alive_ok (w : World) : Calls Try.prog 9 #[] w fun e w' => e = .returned (.bool true) ∧ Below w.heap.size w w' := by
  go_enter Try.func9, Try.ntmps9
  go_wp2_with fail
  obtain ⟨w1, hw1⟩ : ∃ w1, w.alloc (.cells #[.string ⟨#[102]⟩, .int .i64 2, .string ⟨#[104, 105]⟩] 56) = w1 := ⟨_, rfl⟩
  obtain ⟨b0, hb0⟩ : ∃ b0, w.heap.size = b0 := ⟨_, rfl⟩
  have hB1 : Below w.heap.size w w1 := by rw [← hw1]; exact (Below.refl _ _).alloc (Nat.le_refl _) _
  have g0 : w1.heap[b0]? = some (.cells #[.string ⟨#[102]⟩, .int .i64 2, .string ⟨#[104, 105]⟩] 56 (0, 0)) := by rw [← hw1, ← hb0]; exact heap_alloc_new _ _
  rw [hw1, hb0]
  have HB1 := Sh.mk hB1
  have henc := encode_good 3 11 5 (some ⟨b0, 0, none⟩) 1 [aliveFile] (restb [aliveFile] 0 1) w1 (file_C w1 b0 aliveFile g0) (by decide)
    ((cright_f 5 [aliveFile] (by decide) (by decide)).trans (congrArg some alive_right)) (cbytes_f 5 [aliveFile] (by decide) (by decide) (by show (restb [aliveFile] 0 1).length ≤ _; rw [alive_len]; decide)) (by decide) (by decide) (by rw [alive_len]; decide) (by rw [alive_len]; decide)
  have HENC := Sh.mk henc
  clear hw1 hb0 g0 hB1 henc
  refine HENC.out.mono ?_
  rintro e w2 ⟨a, c', R, rfl, hcap, hrow, hok, hrec, hB⟩
  rw [alive_recs] at hrec
  obtain ⟨r, hR⟩ : ∃ r, R = [r] := List.length_eq_one_iff.1 (by have := congrArg List.length hrec; simpa using this)
  subst hR
  have hrl : r.l = aliveRec := by simpa using hrec
  have hrk := hok r (by simp)
  obtain ⟨g, rfl⟩ : ∃ g, a = some ⟨g, 0, none⟩ := by
    rcases hrow.2 with ⟨_, h⟩ | ⟨g, cap, cur, e, _⟩
    · exact absurd h (by simp)
    · cases e
      exact ⟨g, rfl⟩
  have h1 := hrow.cells (g := g) rfl 0 (.slice r.A r.l.length r.c) rfl
  obtain ⟨ad, hA, hcs⟩ := hrk.byt (by rw [hrl]; decide)
  rw [hA, hrl] at h1
  have d_ : w2.cell? ⟨g, 0, none⟩ = some (.slice (some ad) 28 r.c) := by
    have h2 : w2.cell? ⟨g, 0, none⟩ = some (.slice (some ad) aliveRec.length r.c) := by simpa [Addr.add] using h1
    exact h2
  have x0 := hcs 0 5 (by rw [hrl]; rfl)
  have x10 := hcs 10 1 (by rw [hrl]; rfl)
  have e0_ : w2.cell? ad = some (.int .u8 5) := by simpa [Addr.add] using x0
  have e10_ : w2.cell? ⟨ad.block, ad.off + 10, none⟩ = some (.int .u8 1) := by simpa [Addr.add] using x10
  have HB := Sh.mk (HB1.out.trans (hB.mono HB1.out.size))
  clear hB hrow hok hrec hrk h1 hA hrl hcs x0 x10 hcap HENC
  go_wp2_with fail
  go_ret
  exact ⟨rfl, HB.out⟩
end Go.Proofs.Ytnemnhfdjofckaa.Co
