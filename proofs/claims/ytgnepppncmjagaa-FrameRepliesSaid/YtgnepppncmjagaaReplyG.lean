/- frame.Reply at any place: its frames; the error. -/
import Derived.Test.YtgnepppncmjagaaReply
import Derived.Test.YtgnepppncmjagaaFlo
import Derived.Test.YtgnepppncmjagaaAlive
import Derived.Test.YtgnepppncmjagaaPackG
namespace Go.Proofs.Ytgnepppncmjagaa.Ck
open Go Go.RowKit Go.Shelf Go.Proofs.Ytgnepppncmjagaa.Fr Go.Proofs.YtgnepppncmjagaaW.PrintWords Go.Proofs.Ytgnepppncmjagaa.Print Go.Proofs.Ytgnepppncmjagaa.Gt Go.Proofs.Ytgnepppncmjagaa.Ev
attribute [local go_sem] Oper.semAt_some
/-- A number's two bytes. -/
def tb (n : Int) : List Int := [hi n, lo n]
def vals (er : Int) (n m : Nat) : List Int := [er, (n : Int), (m : Int)]
def six (er : Int) (n m : Nat) : List Int := tb er ++ tb n ++ tb m
def upto (er : Int) (n m : Nat) : Nat → List Int
  | 0 => []
  | 1 => tb er
  | 2 => tb er ++ tb n
  | _ => six er n m
theorem upto_len (er : Int) (n m j : Nat) (h : j ≤ 3) : (upto er n m j).length = 2 * j := by
  match j, h with
  | 0, _ => rfl
  | 1, _ => rfl
  | 2, _ => rfl
  | 3, _ => rfl
theorem upto_step (er : Int) (n m j : Nat) (v : Int) (hv : (vals er n m)[j]? = some v) : frame_two.f (upto er n m j) v = some (upto er n m (j + 1)) := by
  match j, hv with
  | 0, hv => cases hv; exact two_f _ _ (by show 0 < _; decide)
  | 1, hv => cases hv; exact two_f _ _ (by show 2 < _; decide)
  | 2, hv => cases hv; exact two_f _ _ (by show 4 < _; decide)
theorem R_end {w : World} {base : Nat} {ok : Nat → Prop} {v : Value} {l : List Int} (h : Kd.R (Kd.int .u8) 5 w base ok v l) (h6 : l.length = 6) : ∃ A c, v = .slice (some A) 6 c ∧ 6 ≤ c ∧ Bytes w (some A) l ∧ ∃ cur, w.heap[A.block]? = some (.cells cur 5 (0, 0)) := by
  obtain ⟨ho, -⟩ := R_row h
  rcases ho.2 with ⟨e, h0⟩ | ⟨g, cap, cur, e, hg, hh, hn, _⟩
  · omega
  · subst e
    rw [h6] at hn ⊢
    rw [h6] at ho
    have hb := Bytes.own (l := l) (h6.symm ▸ ho)
    exact ⟨_, _, rfl, hn, hb, cur, hh⟩
theorem bytes_heap {w w' : World} {a : Addr} {l : List Int} (h : Bytes w (some a) l) (hb : w'.heap[a.block]? = w.heap[a.block]?) : Bytes w' (some a) l := fun h0 => by
  obtain ⟨ad, e, hc⟩ := h h0
  cases e
  refine ⟨_, rfl, fun j x hj => ?_⟩
  have hk : (a.add j).block = a.block := by unfold Addr.add; split <;> rfl
  exact (World.cell?_of_block (a := a.add j) (by rw [hk]; exact hb)).trans (hc j x hj)
theorem inr_of {x : Nat} (h : wh x = true) : inr x = true := by
  unfold wh at h
  rw [Bool.and_eq_true] at h
  exact h.1
set_option maxRecDepth 100000 in
set_option maxHeartbeats 4000000 in
theorem replyg_in (w : World) (id er : Int) (x y : Nat) (s : ByteArray) (h0 : 0 ≤ id) (h1 : id ≤ 65535) (he0 : 0 ≤ er) (he1 : er ≤ 65535) (hx : wh x = true) (hy : wh y = true) (hs : s.size ≤ 20000) :
    CallsIn Fence.wide 8 Try.prog 21 #[.agg #[.int .i64 id, .int .i64 er, .complex .f64 x y, .string s]] w fun e w' => ∃ (ad : Addr) (A6 : Addr) (c6 : Nat) (v : Value), e = .returned (.tuple #[v, .int .i64 0]) ∧
      w'.ownsRow w.heap.size 28 3 v (count s.size + 1) (pcells id ad s.size (List.range (count s.size)) ++ [.int .i64 id, .int .i64 3, .slice (some A6) 6 c6]) ∧ (0 < s.size → Bytes w' (some ad) (s.data.toList.map fun b => (b.toNat : Int))) ∧ (Bytes w' (some A6) (six er (wi x) (wi y)) ∧ 6 ≤ c6 ∧ A6.block < w'.heap.size) ∧ Below w.heap.size w w' := by
  have hro : Fence.wide.round = none := rfl
  refine callsIn_of_wp_marks Try.func21 rfl trivial ?_ hro
  simp only [Try.ntmps21, List.size_toArray, List.length_cons, List.length_nil, Nat.reduceAdd, Nat.reduceSub, Array.replicate_succ, Array.replicate_zero, List.push_toArray, List.append_toArray, List.nil_append, List.cons_append]
  have kl : ¬ id < 0 := by omega
  have kg : ¬ (65535 : Int) < id := by omega
  have ke : ¬ er < 0 := by omega
  have kh : ¬ (65535 : Int) < er := by omega
  have rl0 := fun W => toRe W x y
  have im0 := fun W => toIm W x y
  have hti1 := fun W => toI (inr_of hx) W
  have hti2 := fun W => toI (inr_of hy) W
  have HT1 := Hp.Sh.mk hti1
  have HT2 := Hp.Sh.mk hti2
  clear hti1 hti2 he0 he1
  have hcv := fun (W : World) => Go.run_bytes_of_string (P := Try.prog) W 9 22 5 s Try.underlying9 Try.underlying22 Try.underlying5
  gi_wp2_with (first | (refine ⟨trivial, ?_⟩; gi_at_call 37; refine (callsIn_wide.2 (whole_calls _ _)).mono ?_; rintro e w' ⟨rfl, rfl⟩) | (refine ⟨trivial, ?_⟩; gi_at_call 38; refine (chunk_in Fence.wide 7 trivial hro _ _ _ _).mono ?_; rintro e w' ⟨rfl, rfl⟩))
  obtain ⟨fb, hfb⟩ : ∃ fb, w.heap.size = fb := ⟨_, rfl⟩
  generalize hcg : grownCap _ s.size 0 5 = cg
  have hcge : s.size ≤ cg := by rw [← hcg]; exact grownCap_ge _ _ _ _
  generalize hW0 : World.alloc (World.alloc _ (.cells #[.slice _ _ _] 22)) (.cells #[.int .i64 1000] 3) = W0
  obtain ⟨hs0, x0, x1, x2, x3, x4, hb0⟩ : W0.heap.size = fb + 5 ∧ W0.heap[fb]? = some (.cells #[.int .i64 id, .int .i64 er, .complex .f64 x y, .string s] 53 (0, 0)) ∧ W0.heap[fb + 1]? = some (.cells #[.slice none 0 0] 48 (0, 0)) ∧ (∃ fr, W0.heap[fb + 2]? = some (.cells (bytesRow s cg) 5 fr)) ∧
      W0.heap[fb + 3]? = some (.cells #[.slice (some ⟨fb + 2, 0, none⟩) s.size cg] 22 (0, 0)) ∧ W0.heap[fb + 4]? = some (.cells #[.int .i64 1000] 3 (0, 0)) ∧ Below w.heap.size w W0 := by
    rw [← hW0, ← hfb]
    clear hW0 hcv rl0 im0 hcg
    obtain ⟨k1, k2, k3, k4, k5, k6, k7⟩ := five w _ _ _ _ _
    exact ⟨k1, k2, k3, ⟨_, k4⟩, k5, k6, k7⟩
  rw [hfb]
  obtain ⟨V0, hV0⟩ : ∃ V0, W0.drew = V0 := ⟨_, rfl⟩
  obtain ⟨fr2, x2⟩ := x2
  have hsV : V0.heap.size = fb + 5 := by rw [← hV0]; exact hs0
  have y0 : V0.heap[fb]? = some (.cells #[.int .i64 id, .int .i64 er, .complex .f64 x y, .string s] 53 (0, 0)) := by rw [← hV0]; exact x0
  have y1 : V0.heap[fb + 1]? = some (.cells #[.slice none 0 0] 48 (0, 0)) := by rw [← hV0]; exact x1
  have y2 : V0.heap[fb + 2]? = some (.cells (bytesRow s cg) 5 fr2) := by rw [← hV0]; exact x2
  have y3 : V0.heap[fb + 3]? = some (.cells #[.slice (some ⟨fb + 2, 0, none⟩) s.size cg] 22 (0, 0)) := by rw [← hV0]; exact x3
  have y4 : V0.heap[fb + 4]? = some (.cells #[.int .i64 1000] 3 (0, 0)) := by rw [← hV0]; exact x4
  have hbV : Below w.heap.size w V0 := by rw [← hV0]; exact ⟨hb0.os, hb0.tape, hb0.output, hb0.size, hb0.block⟩
  rw [hV0]
  clear hV0 hW0 x0 x1 x2 x3 x4 hs0 hb0 hcv rl0 im0 hcg
  generalize hact : Act.mk (List.toArray _) [] = cur
  refine wpIn_rangeFunc_ownG hro (by decide) (gf := 45) (lb := #[.pointer (some ⟨fb + 3, 0, none⟩), .pointer (some ⟨fb + 4, 0, none⟩)]) (by rw [← hact]; rfl) trivial (enters_of Try.func45 (by kernel_rfl) rfl)
    (chunk_stops Fence.wide 7 trivial hro (by decide) (fb + 3) (fb + 4) s.size cg ⟨fb + 2, 0, none⟩ (by omega) hcge V0 (by omega) (by omega) ((Rw.blk_cell y3 0).trans rfl) ((Rw.blk_cell y4 0).trans rfl))
    (fun h k => h.trans k) (fun W l o o' hl e1 e2 e3 => ⟨(belowK_b (n₀ := fb + 5) (by omega) W l o o' hl e1 e2 e3).block _ (by omega), (belowK_b (n₀ := fb + 5) (by omega) W l o o' hl e1 e2 e3).block _ (by omega)⟩) (Below.refl _ _) (fun _ => rfl)
    (fun pre W => (((∃ v, Boxed W (fb + 1) 48 v ∧ W.ownsRow (fb + 5) 28 3 v pre.length (pcells id ⟨fb + 2, 0, none⟩ s.size pre) ∧ True) ∧ Below w.heap.size w W ∧ fb + 5 ≤ W.heap.size) ∧ (W.cell? ⟨fb, 0, none⟩ = some (.int .i64 id) ∧ W.cell? ⟨fb, 1, none⟩ = some (.int .i64 er) ∧ W.cell? ⟨fb, 2, none⟩ = some (.complex .f64 x y))) ∧ ∀ (j : Nat) (b : UInt8), s.data[j]? = some b → W.cell? ⟨fb + 2, j, none⟩ = some (.int .u8 (b.toNat : Int)))
    (fun _ _ _ => False)
    (OwnFrom.and (OwnFrom.and (OwnFrom.and (Own.from (holdsRow_own (fb + 5) (fb + 1) 48 28 3 (fun pre => pre.length) (fun pre => pcells id ⟨fb + 2, 0, none⟩ s.size pre) (fun _ _ => True)) _) (OwnFrom.and (ownFrom_below (Nat.le_refl _) (by omega)) (Own.from (own_size _) _))) (OwnFrom.and (Own.from (own_one _ _) _) (OwnFrom.and (Own.from (own_one _ _) _) (Own.from (own_one _ _) _)))) (Own.from (own_bytes _ _) _))
    (fun _ _ _ _ _ hs _ _ => hs)
    ⟨⟨⟨⟨_, y1, World.ownsRow_nil _ _ _ _, trivial⟩, hbV, by omega⟩, (Rw.blk_cell y0 0).trans rfl, (Rw.blk_cell y0 1).trans rfl, (Rw.blk_cell y0 2).trans rfl⟩, fun j b hj => by
      rw [Rw.blk_cell y2 j]
      obtain ⟨hj1, hj2⟩ := Array.getElem?_eq_some_iff.1 hj
      rw [bytesRow_at s cg j hj1, hj2]⟩
    (fun x => { tmps := (cur.tmps.setIfInBounds 45 (piece ⟨fb + 2, 0, none⟩ s.size x)).setIfInBounds 5 (piece ⟨fb + 2, 0, none⟩ s.size x), defers := [] }) ?assign ?body ?done ?stop
  case assign =>
    intro l x W K hK
    subst hact
    gi_wp2
    exact hK
  case body =>
    rintro l pre x W ⟨⟨⟨⟨v, hv, hrow, -⟩, hB, hsz⟩, hid, hid1, hid2⟩, hby⟩ hlt
    subst hact
    simp only [List.setIfInBounds_toArray, List.set_cons_zero, List.set_cons_succ]
    have hc := hv.cell
    have hcf := hv.frozen
    obtain ⟨i0, hi, hz0, hz1, hz2⟩ := info_parts infoFr
    obtain ⟨Pa, pl, hP⟩ : ∃ Pa pl, piece ⟨fb + 2, 0, none⟩ s.size x = .slice (some Pa) pl pl := ⟨_, _, rfl⟩
    have hcnt : count s.size ≤ 21 := by unfold count; omega
    have hpl : pre.length < 21 := by omega
    have HP := Hp.Sh.mk hP
    rw [hP]
    clear hP hcnt hlt
    gi_wp2_with (gi_at_builtin; refine wpListIn_append_own _ rfl _ _ 48 rfl (fb + 5) 28 i0 (.agg #[.int .i64 0, .int .i64 0, .slice none 0 0]) 3 40 Try.underlying48 hi hz0 hz1 hz2 rfl (by decide) _ _ _ rfl (hrow.alloc _) ⟨W.heap.size, 0, none⟩ 1 1 [.int .i64 id, .int .i64 2, .slice (some Pa) pl pl] rfl rfl (three_new _ _ _ _ _) (by simp [Value.oneCell']) (by unfold maxLen; omega) (by omega) (by simp; omega) ?_; intro v' w1 hown' hgrow _; obtain ⟨g', cap', rfl⟩ := ownsRow_succ hown'; obtain ⟨hv1, hv2, hr2, hk2, hb2⟩ := appended2 hv (by decide) (by omega) hrow hown' hgrow; have hc1 := hv1.cell; have hf1 := hv1.frozen)
    refine ⟨hk2.from _, ⟨hb2.block _ (by omega) (by omega), hb2.block _ (by omega) (by omega)⟩, ⟨⟨⟨_, hv2, by rw [pcells_snoc, HP.out]; simpa using hr2, trivial⟩, hB.trans (hb2.below (B := w.heap.size) hB.size (fun i hi e => by omega)), Nat.le_trans hsz hb2.size⟩, ?_, ?_, ?_⟩, fun j b hj => ?_⟩
    · rw [World.cell?_of_block (hb2.block fb (by omega) (by omega))]; exact hid
    · rw [World.cell?_of_block (a := ⟨fb, 1, none⟩) (hb2.block fb (by omega) (by omega))]; exact hid1
    · rw [World.cell?_of_block (a := ⟨fb, 2, none⟩) (hb2.block fb (by omega) (by omega))]; exact hid2
    · rw [World.cell?_of_block (a := ⟨fb + 2, j, none⟩) (hb2.block (fb + 2) (by omega) (by omega))]; exact hby j b hj
  case done =>
    rintro D xs W hD rfl ⟨⟨⟨⟨v, hv, hrow, -⟩, hB, hsz⟩, hid, hid1, hid2⟩, hby⟩ hK
    subst hact
    have hc := hv.cell
    have rl0 := fun W => toRe W x y
    have im0 := fun W => toIm W x y
    have ti1 := HT1.out
    have ti2 := HT2.out
    gi_wp2
    obtain ⟨W1, hW1⟩ : ∃ W1, W.alloc (.cells #[.int .i64 er, .int .i64 (wi x : Int), .int .i64 (wi y : Int)] 3) = W1 := ⟨_, rfl⟩
    obtain ⟨b3, hb3⟩ : ∃ b3, W.heap.size = b3 := ⟨_, rfl⟩
    have h1W : Below W.heap.size W W1 := by rw [← hW1]; exact (Below.refl _ _).alloc (Nat.le_refl _) _
    have z3 : W1.heap[b3]? = some (.cells #[.int .i64 er, .int .i64 (wi x : Int), .int .i64 (wi y : Int)] 3 (0, 0)) := by rw [← hW1, ← hb3]; exact heap_alloc_new _ _
    rw [hW1, hb3]
    clear hb3 hW1
    gi_loopw [65, 8, 6] (fun i _ v6 wr => ∃ j : Nat, j ≤ 3 ∧ i = .int .i64 (j : Int) ∧ Kd.R (Kd.int .u8) 5 wr W1.heap.size (fun _ => True) v6 (upto er (wi x) (wi y) j) ∧ Below W1.heap.size W1 wr)
      (fun i _ _ _ => 3 - (intOf i).toNat)
    case atStart => exact ⟨0, by omega, rfl, Kd.R_nil _ _ _ _ _, Below.refl _ _⟩
    case round =>
      obtain ⟨j, hj, rfl, hR, hBr⟩ := hrel
      by_cases h3 : j < 3
      · have kj : (j : Int) < 3 := by omega
        obtain ⟨vj, hvj⟩ : ∃ vj, (vals er (wi x) (wi y))[j]? = some vj := ⟨_, List.getElem?_eq_getElem h3⟩
        have cj : wr.cell? ⟨b3, j, none⟩ = some (.int .i64 vj) := by
          rw [Rw.blk_cell (below_old' hBr z3) j]
          match j, h3, hvj with
          | 0, _, hvj => cases hvj; rfl
          | 1, _, hvj => cases hvj; rfl
          | 2, _, hvj => cases hvj; rfl
        have HSTEP := Hp.Sh.mk (upto_step er (wi x) (wi y) j vj hvj)
        clear hvj
        gi_wp2_with (refine ⟨trivial, ?_⟩; gi_at_call 32; refine (callsIn_wide.2 (frame_two.calls (fun _ => True) _ _ vj _ W1 wr hBr hR HSTEP.out)).mono ?_; rintro e w' ⟨v0, rfl, hR', hB', -⟩)
        go_roundw
        case rel => exact ⟨j + 1, by omega, by simp, Kd.R_mono hR' (fun _ _ => trivial), hB'⟩
        case measure => simp [intOf]; omega
      · obtain rfl : j = 3 := by omega
        obtain ⟨A6, c6, rfl, hc6, hb6, cur6, hh6⟩ := R_end hR (upto_len er (wi x) (wi y) 3 (by decide))
        have HC6 := Hp.Sh.mk hc6
        have HB6 := Hp.Sh.mk hb6
        have HH6 := Hp.Sh.mk hh6
        clear hc6 hb6 hh6
        have h2W : Below W.heap.size W wr := h1W.trans (hBr.mono h1W.size)
        have hvr : Boxed wr (fb + 1) 48 v := (h2W.block (fb + 1) (by omega)).trans hv
        have hrowr : wr.ownsRow (fb + 5) 28 3 v (List.range (count s.size)).length (pcells id ⟨fb + 2, 0, none⟩ s.size (List.range (count s.size))) := row_kept hrow (Hp.Kept.of_below (S := fun _ => False) h2W) (fun _ _ e => e)
        have hidr : wr.cell? ⟨fb, 0, none⟩ = some (.int .i64 id) := (World.cell?_of_block (h2W.block fb (by omega))).trans hid
        have hcr := hvr.cell
        obtain ⟨i0, hi, hz0, hz1, hz2⟩ := info_parts infoFr
        have hcnt : (List.range (count s.size)).length ≤ 21 := by rw [List.length_range]; unfold count; omega
        have hsz2 : fb + 5 ≤ wr.heap.size := Nat.le_trans hsz h2W.size
        gi_wp2_with (gi_at_builtin; refine wpListIn_append_own _ rfl _ _ 48 rfl (fb + 5) 28 i0 (.agg #[.int .i64 0, .int .i64 0, .slice none 0 0]) 3 40 Try.underlying48 hi hz0 hz1 hz2 rfl (by decide) _ _ _ rfl (hrowr.alloc _) ⟨wr.heap.size, 0, none⟩ 1 1 [.int .i64 id, .int .i64 3, .slice (some A6) 6 c6] rfl rfl (three_new _ _ _ _ _) (by simp [Value.oneCell']) (by unfold maxLen; omega) (by omega) (by simp; omega) ?_; intro v' w1 hown' hgrow _; obtain ⟨g', cap', rfl⟩ := ownsRow_succ hown')
        have hDr : wr.heap[D]? = some (.deferred (some [])) := below_old' h2W hK
        have hvD : ∀ g, v.ownBlock = some g → g ≠ D := fun g hg e => by
          rcases hrowr.2 with ⟨e2, _⟩ | ⟨g2, cap2, cur2, e2, _, hg2, _⟩
          · rw [e2] at hg; cases hg
          · rw [e2] at hg
            cases hg
            subst e
            rw [hDr] at hg2
            cases hg2
        have hD1 : w1.heap[D]? = some (.deferred (some [])) := by
          have hlt := Hp.lt_of_heap hDr
          rw [hgrow.block D (by simp; omega) (fun e => hvD D e.symm rfl)]
          exact (Below.heap_alloc _ _ _ hlt).trans hDr
        have hstep : ∀ i, i < fb + 5 → (w1.putObj D (.deferred none)).heap[i]? = W.heap[i]? := fun i hi => by
          have h1 : (w1.putObj D (.deferred none)).heap[i]? = w1.heap[i]? := (belowK_b (w := V0) (n₀ := fb + 5) (by omega) w1 D _ _ hD hD1 rfl rfl).block i hi
          rw [h1, hgrow.block i (by simp; omega) (fun e => by have := (hrowr.lt i e.symm).1; omega)]
          rw [Below.heap_alloc _ _ _ (by omega)]
          exact h2W.block i (by omega)
        have h6v : v.ownBlock ≠ some A6.block := fun e => by
          rcases hrowr.2 with ⟨e2, _⟩ | ⟨g2, cap2, cur2, e2, _, hg2, _⟩
          · rw [e2] at e; cases e
          · rw [e2] at e
            have e3 : g2 = A6.block := by simpa [Value.ownBlock] using e
            subst e3
            have := hg2.symm.trans HH6.out
            simp at this
        have h6D : A6.block ≠ D := fun e => by
          rw [e, hDr] at HH6
          cases HH6.out
        have h6 : (w1.putObj D (.deferred none)).heap[A6.block]? = wr.heap[A6.block]? := by
          have hlt := Hp.lt_of_heap HH6.out
          have e1 : (w1.putObj D (.deferred none)).heap[A6.block]? = w1.heap[A6.block]? := by
            simp [World.putObj, Ne.symm h6D]
          rw [e1, hgrow.block A6.block (by simp; omega) (fun e => h6v e.symm), Below.heap_alloc _ _ _ hlt]
        have hBf : Below w.heap.size w (w1.putObj D (.deferred none)) := by
          have h1 := hB.trans (h2W.mono hB.size)
          have h2 := (h1.alloc h1.size _).grown hgrow (Nat.le_trans h1.size (by simp)) (fun k e => by have := (hrowr.lt k e).1; omega)
          exact h2.trans (belowK_b (w := w) (Nat.le_refl _) w1 D _ _ (by omega) hD1 rfl rfl)
        refine ⟨by simp, .inl ⟨_, _, rfl, run_takeDeferred hD1, ?_⟩⟩
        refine ⟨_, results_tmp2 rfl _ _ _, ⟨fb + 2, 0, none⟩, A6, c6, _, rfl, row_lower (by simpa using ownsRow_putObj hown' _ hD1 rfl) (show w.heap.size ≤ fb + 5 by omega), fun _ _ => ⟨_, rfl, fun j x hj => ?_⟩, ⟨bytes_heap HB6.out h6, HC6.out, Hp.lt_of_heap (h6.trans HH6.out)⟩, hBf⟩
        rw [Addr.add_mid, Nat.zero_add, World.cell?_of_block (a := ⟨fb + 2, j, none⟩) (hstep (fb + 2) (by omega))]
        rw [List.getElem?_map] at hj
        cases hq : s.data.toList[j]? with
        | none => rw [hq] at hj; cases hj
        | some b => rw [hq] at hj; cases hj; exact hby j b (by simpa using hq)
  case stop =>
    rintro D c pre W _ _ h _
    exact h.elim
end Go.Proofs.Ytgnepppncmjagaa.Ck
