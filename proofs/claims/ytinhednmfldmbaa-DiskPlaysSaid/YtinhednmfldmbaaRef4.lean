/- The reference disk: Write. -/
import Derived.Test.YtinhednmfldmbaaRef3
import Derived.Test.YtinhednmfldmbaaMono
namespace Go.Proofs.Ytinhednmfldmbaa.Dk
open Go Go.RowKit Hp Rd

theorem wp_clone {w : World} {o : Oper} {a : Act} {K : Act → World → Prop} {Q : Exit → Act → World → Prop} (s x : Operand) (ho : o.op = .call { callee := .builtin .append, args := #[s, x], argTypes := #[31, 31] }) (hty : o.type = 31)
    (x6 : Nat) (v : Value) (l : List Int) (hs : a.eval s = .slice (some ⟨x6, 0, none⟩) 0 0) (hx : a.eval x = v) (hR : Row32 w v l)
    (h : ∀ cap W', Below w.heap.size w W' → Row32 W' (.slice (some ⟨w.heap.size, 0, none⟩) 32 cap) l → w.heap.size < W'.heap.size → 32 ≤ cap → K (a.put o.dst (.slice (some ⟨w.heap.size, 0, none⟩) 32 cap)) W') : o.wp Try.prog a w K Q := by
  obtain ⟨cap, W', hr, h1, h2, h3, h4⟩ := clone32 w x6 v l hR
  unfold Oper.wp execOp
  simp only [ho, resolve, invoke, builtin, Sem.run_bind, Sem.run_pure, Result.andThen_ok, List.map_toArray, List.map_cons, List.map_nil, hs, hx, hty, hr]
  exact h cap W' h1 h2 h3 h4
/-- What the operations that make memory leave. -/
def PsiR (cs : List Wr) (vs : List Value) (n : Int) (l : List Int) (vc : Value) (w1 : World) (k : Nat) (A : Array Value) (v : Value) (w : World) : Prop :=
  if k = 6 then ∃ x, v = .slice (some ⟨x, 0, none⟩) 0 0
  else if k = 8 then ∃ x cap, v = .slice (some ⟨x, 0, none⟩) 32 cap ∧ w1.heap.size ≤ x ∧ Row32 w v l ∧ 32 ≤ cap
  else if k = 10 then ∃ x u, v = .slice (some ⟨x, 0, none⟩) 1 1 ∧ w1.heap.size ≤ x ∧ A = #[.agg #[.int .i64 n, u]] ∧ w.heap[x]? = some (.cells #[.int .i64 n, u] 83 (0, 0))
  else if k = 11 then (∀ i, v.ownBlock = some i → vc.ownBlock = some i ∨ w1.heap.size ≤ i) ∧ ∃ x cap, w1.heap.size ≤ x ∧ v.ownBlock ≠ some x ∧ Row32 w (.slice (some ⟨x, 0, none⟩) 32 cap) l ∧ x < w.heap.size ∧ 32 ≤ cap ∧
    w.ownsRow 0 83 2 v (cs.length + 1) (ccells cs vs ++ [.int .i64 n, .slice (some ⟨x, 0, none⟩) 32 cap])
  else True
def TrR (vc : Value) (k : Nat) (u u' : World) : Prop := if k = 6 ∨ k = 8 ∨ k = 10 then Below u.heap.size u u' else if k = 11 then Kept (fun k => vc.ownBlock = some k) u u' else u = u'
theorem TrR.kept {vc : Value} {k : Nat} {u u' : World} (h : TrR vc k u u') : Kept (fun k => vc.ownBlock = some k) u u' := by
  unfold TrR at h
  split at h
  · exact Kept.of_below h
  · split at h
    · exact h
    · exact h ▸ Kept.refl _ _
theorem psiR_stays (cs : List Wr) (vs : List Value) (n : Int) (l : List Int) (vc : Value) (w1 : World) (hlt : ∀ i, vc.ownBlock = some i → i < w1.heap.size) : ∀ (j k : Nat) (A : Array Value) (v : Value) (w w' : World), j ≠ k → (([0, 0, 2, 6, 14, 0, 0, 0, 192, 480, 992, 2046, 4095] : List Nat).getD j 0).testBit k = false →
    TrR vc k w w' → PsiR cs vs n l vc w1 j A v w → PsiR cs vs n l vc w1 j A v w' := by
  intro j k A v w w' hjk hb ht h
  have K := ht.kept
  unfold PsiR at *
  by_cases h6 : j = 6
  · rw [if_pos h6] at h ⊢; exact h
  · rw [if_neg h6] at h ⊢
    by_cases h8 : j = 8
    · rw [if_pos h8] at h ⊢
      obtain ⟨x, cap, rfl, hx, hr, hcp⟩ := h
      exact ⟨x, cap, rfl, hx, hr.kept K (fun g off c he e => by cases he; have := hlt _ e; omega), hcp⟩
    · rw [if_neg h8] at h ⊢
      by_cases h10 : j = 10
      · rw [if_pos h10] at h ⊢
        obtain ⟨x, u, rfl, hx, hA, hh⟩ := h
        exact ⟨x, u, rfl, hx, hA, K.heap hh (fun e => by have := hlt x e; omega)⟩
      · rw [if_neg h10] at h ⊢
        by_cases h11 : j = 11
        · subst h11
          rw [if_pos rfl] at h ⊢
          have : k = 0 ∨ 11 < k := by
            rcases Nat.lt_or_ge 11 k with h5 | h5
            · exact .inr h5
            · left
              have hk : k ≤ 11 := h5
              have : k ≠ 11 := fun e => hjk e.symm
              match k, hk, hb, this with
              | 0, _, _, _ => rfl
              | 1, _, hb, _ => exact absurd hb (by decide)
              | 2, _, hb, _ => exact absurd hb (by decide)
              | 3, _, hb, _ => exact absurd hb (by decide)
              | 4, _, hb, _ => exact absurd hb (by decide)
              | 5, _, hb, _ => exact absurd hb (by decide)
              | 6, _, hb, _ => exact absurd hb (by decide)
              | 7, _, hb, _ => exact absurd hb (by decide)
              | 8, _, hb, _ => exact absurd hb (by decide)
              | 9, _, hb, _ => exact absurd hb (by decide)
              | 10, _, hb, _ => exact absurd hb (by decide)
              | 11, _, _, h => exact absurd rfl h
          have he : w = w' := by
            unfold TrR at ht
            rw [if_neg (by omega), if_neg (by omega)] at ht
            exact ht
          exact he ▸ h
        · rw [if_neg h11]
          trivial
set_option maxHeartbeats 2000000 in
set_option maxRecDepth 100000 in
theorem refWrite_ok {F : Nat → Prop} {w : World} {rb gf cf : Nat} {vc : Value} {fs vs : List Value} {R : RSt} (h : RefIs w F rb gf cf vc fs vs R) (n : Nat) (hn : (n : Int) < R.size) (g off c : Nat) (l : List Int) (hv : Row32 w (.slice (some ⟨g, off, none⟩) 32 c) l) (hg : vc.ownBlock ≠ some g) (hl : R.calls.length < 1000000000000) :
    Calls Try.prog 15 #[.pointer (some ⟨rb, 0, none⟩), .int .i64 n, .slice (some ⟨g, off, none⟩) 32 c] w fun e w' => ∃ vc' vs', e = .returned (.int .i64 0) ∧ RefIs w' (fun i => F i ∨ (w.heap.size ≤ i ∧ i < w'.heap.size)) rb gf cf vc' fs vs' (R.add n l) ∧ Kept F w w' := by
  have mixed : Try.prog.follows Departure.mixedOrders = true := by kernel_rfl
  have hh := h.head
  have c0 : w.cell? ⟨rb, 0, none⟩ = some (.int .i64 R.size) := by simp [World.cell?, hh]
  have c2 : w.cell? ⟨rb, 2, none⟩ = some vc := by simp [World.cell?, hh]
  have g0 : (0 : Int) ≤ (n : Int) := by omega
  clear hh
  go_enter Try.func15, Try.ntmps15
  go_upto_region 5 with (fail)
  refine Mo.region 12 [0, 0, 2, 6, 14, 0, 0, 0, 192, 480, 992, 2046, 4095] (fun w' => Kept (fun k => vc.ownBlock = some k) w w') (TrR vc) (fun k w' => k = 11 → w'.ownsRow 0 83 2 vc R.calls.length (ccells R.calls vs)) (PsiR R.calls vs n l vc w) (Kept.refl _ _).drew (fun _ _ => own_kept h.crow (Kept.refl (fun _ => False) w).drew (fun _ _ e => e)) ?ht (psiR_stays _ _ _ _ _ _ (fun i hi => (h.crow.lt i hi).2)) ?hpre mixed (by kernel_rfl) ?_
  case ht => exact fun k u u' hu ht => hu.trans ht.kept (fun _ _ e => e)
  case hpre =>
    intro j k u u' hjk hb hu ht hp e
    subst e
    unfold TrR at ht
    split at ht
    · exact own_kept (hp rfl) (Kept.of_below (S := fun _ => False) ht) (fun _ _ e => e)
    · split at ht
      · rename_i h11
        exact absurd h11.symm hjk
      · exact ht ▸ hp rfl
  simp only [List.take_succ_cons, List.take_zero, List.drop_succ_cons, List.drop_zero]
  have c2' : ∀ w', Kept (fun k => vc.ownBlock = some k) w w' → w'.cell? ⟨rb, 2, none⟩ = some vc := fun w' k => kept_cell' k c2 h.apart.2.1
  have hv' : ∀ w', Kept (fun k => vc.ownBlock = some k) w w' → Row32 w' (.slice (some ⟨g, off, none⟩) 32 c) l := fun w' k => hv.kept k (fun g' o' c' he => by cases he; exact hg)
  refine Mo.val (v := ?_) (fun _ => rfl) (by rfl) (fun _ _ _ => trivial) ?_ ?_
  rotate_left
  · (intro w' hT hP hF; skip; go_simp; with_reducible rfl)
  simp only [Act.put, List.setIfInBounds_toArray, List.set_cons_zero, List.set_cons_succ]
  refine Mo.val (v := ?_) (fun _ => rfl) (by rfl) (fun _ _ _ => trivial) ?_ ?_
  rotate_left
  · (intro w' hT hP hF; skip; go_simp; with_reducible rfl)
  simp only [Act.put, List.setIfInBounds_toArray, List.set_cons_zero, List.set_cons_succ]
  refine Mo.val (v := ?_) (fun _ => rfl) (by rfl) (fun _ _ _ => trivial) ?_ ?_
  rotate_left
  · (intro w' hT hP hF; skip; go_simp; with_reducible rfl)
  simp only [Act.put, List.setIfInBounds_toArray, List.set_cons_zero, List.set_cons_succ]
  refine Mo.val (v := ?_) (fun _ => rfl) (by rfl) (fun _ _ _ => trivial) ?_ ?_
  rotate_left
  · (intro w' hT hP hF; skip; go_simp; with_reducible rfl)
  simp only [Act.put, List.setIfInBounds_toArray, List.set_cons_zero, List.set_cons_succ]
  refine Mo.val (v := ?_) (fun _ => rfl) (by rfl) (fun _ _ _ => trivial) ?_ ?_
  rotate_left
  · (intro w' hT hP hF; have hc := c2' w' hT; go_simp; with_reducible rfl)
  simp only [Act.put, List.setIfInBounds_toArray, List.set_cons_zero, List.set_cons_succ]
  refine Mo.val (v := ?_) (fun _ => rfl) (by rfl) (fun _ _ _ => trivial) ?_ ?_
  rotate_left
  · (intro w' hT hP hF; skip; go_simp; with_reducible rfl)
  simp only [Act.put, List.setIfInBounds_toArray, List.set_cons_zero, List.set_cons_succ]
  refine Mo.any (by rfl) ?_ ?_
  · intro w' hT hP hF
    go_simp
    refine ⟨?_, ?_⟩
    · unfold TrR
      rw [if_pos (by simp)]
      exact (Below.refl _ _).alloc (Nat.le_refl _) _
    · unfold PsiR
      rw [if_pos rfl]
      exact ⟨_, rfl⟩
  simp only [Act.put, List.setIfInBounds_toArray, List.set_cons_zero, List.set_cons_succ]
  rintro v6 ⟨wx, -, hx⟩
  unfold PsiR at hx
  rw [if_pos rfl] at hx
  obtain ⟨x6, rfl⟩ := hx
  refine Mo.val (v := ?_) (fun _ => rfl) (by rfl) (fun _ _ _ => trivial) ?_ ?_
  rotate_left
  · (intro w' hT hP hF; skip; go_simp; with_reducible rfl)
  simp only [Act.put, List.setIfInBounds_toArray, List.set_cons_zero, List.set_cons_succ]
  refine Mo.any (by rfl) ?_ ?_
  · intro w' hT hP hF
    have hsz := hT.size
    refine Mo.leaves_of_wp (d := 28) rfl (by simp) fun K Q hK => ?_
    refine wp_clone (.tmp 26) (.tmp 27) rfl rfl x6 _ l rfl rfl (hv' w' hT) fun cap W' hb hR hlt hcp => hK _ _ ⟨?_, ?_⟩
    · unfold TrR
      rw [if_pos (by simp)]
      exact hb
    · unfold PsiR
      rw [if_neg (by decide), if_pos rfl]
      exact ⟨_, _, rfl, hsz, hR, hcp⟩
  simp only [Act.put, List.setIfInBounds_toArray, List.set_cons_zero, List.set_cons_succ]
  rintro v8 ⟨wx, -, hx⟩
  unfold PsiR at hx
  rw [if_neg (by decide), if_pos rfl] at hx
  obtain ⟨x8, cap8, rfl, hx8, -, -⟩ := hx
  refine Mo.val (v := ?_) (fun _ => rfl) (by rfl) (fun _ _ _ => trivial) ?_ ?_
  rotate_left
  · (intro w' hT hP hF; skip; go_simp; with_reducible rfl)
  simp only [Act.put, List.setIfInBounds_toArray, List.set_cons_zero, List.set_cons_succ]
  refine Mo.any (by rfl) ?_ ?_
  · intro w' hT hP hF
    have hsz := hT.size
    go_simp
    refine ⟨?_, ?_⟩
    · unfold TrR
      rw [if_pos (by simp)]
      exact (Below.refl _ _).alloc (Nat.le_refl _) _
    · unfold PsiR
      rw [if_neg (by decide), if_neg (by decide), if_pos rfl]
      refine ⟨_, .slice (some ⟨x8, 0, none⟩) 32 cap8, rfl, hsz, ?_, heap_alloc_new _ _⟩
      simp [Op.operands, Act.eval]
  simp only [Act.put, List.setIfInBounds_toArray, List.set_cons_zero, List.set_cons_succ]
  rintro v10 ⟨wx, -, hx⟩
  unfold PsiR at hx
  rw [if_neg (by decide), if_neg (by decide), if_pos rfl] at hx
  obtain ⟨x10, u10, rfl, hx10, hA10, -⟩ := hx
  refine Mo.any (by rfl) ?_ ?_
  · intro w' hT hP hF
    have hF10 := hF 10 (by decide)
    have hF8 := hF 8 (by decide)
    rw [Mo.upd_same] at hF10
    simp (decide := true) only [Mo.upd, if_true, if_false] at hF8
    unfold PsiR at hF10 hF8
    rw [if_neg (by decide), if_neg (by decide), if_pos rfl] at hF10
    rw [if_neg (by decide), if_pos rfl] at hF8
    obtain ⟨x10', u', he10, -, hA, hh10⟩ := hF10
    obtain ⟨x8', cap8', he8, hx8', hR8, hcp8⟩ := hF8
    obtain rfl : x10 = x10' := by simpa using he10
    have hu' : u' = .slice (some ⟨x8, 0, none⟩) 32 cap8 := by
      simp [Op.operands, Act.eval] at hA
      exact hA.symm
    obtain ⟨rfl, rfl⟩ : x8 = x8' ∧ cap8 = cap8' := by simpa using he8
    subst hu'
    have hsz := hT.size
    refine Mo.leaves_of_wp (d := 31) rfl (by simp) fun K Q hK => ?_
    obtain ⟨i0, hi, hz⟩ := Option.map_eq_some_iff.1 info_call
    simp only [Prod.mk.injEq] at hz
    obtain ⟨hz0, hz1, hz2⟩ := hz
    have hrow : w'.ownsRow 0 83 2 vc R.calls.length (ccells R.calls vs) := hP rfl
    obtain ⟨-, g8, o8, c8, he8', hlt8, -⟩ : True ∧ _ := ⟨trivial, hR8.block⟩
    have hx8l : x8 < w'.heap.size := by
      cases he8'
      exact hlt8
    refine Ow.wp_append (P := Try.prog) w' (.tmp 24) (.tmp 30) 66 rfl 0 83 i0 _ 2 32 Try.underlying66 hi hz0 hz1 hz2 rfl (by decide) vc R.calls.length (ccells R.calls vs) rfl hrow ⟨x10, 0, none⟩ 1 1 [.int .i64 n, .slice (some ⟨x8, 0, none⟩) 32 cap8] rfl rfl ?_ ?_ ?_ ?_ (Nat.zero_le _) ?_
    · intro j u hu
      rw [Addr.add_mid, Nat.zero_add]
      simp only [World.cell?, hh10]
      simpa using hu
    · intro u hu
      rcases List.mem_cons.1 hu with rfl | hu
      · rfl
      · rw [List.mem_singleton.1 hu]; rfl
    · unfold maxLen; omega
    · omega
    · intro v' w2 hown hgr _ hnb
      have hK2 : Kept (fun k => vc.ownBlock = some k) w' w2 := (Kept.refl (fun k => vc.ownBlock = some k) w').grown hgr (fun k hk => Or.inr hk)
      refine hK v' w2 ⟨?_, ?_⟩
      · unfold TrR
        rw [if_neg (by decide), if_pos rfl]
        exact hK2
      · unfold PsiR
        rw [if_neg (by decide), if_neg (by decide), if_neg (by decide), if_pos rfl]
        refine ⟨fun i hi => ?_, x8, cap8, hx8, fun e => ?_, hR8.kept hK2 (fun g' o' c' he e => ?_), Nat.lt_of_lt_of_le hx8l hK2.size, hcp8, hown⟩
        · rcases hnb i hi with h5 | h5
          · exact Or.inl h5
          · exact Or.inr (by omega)
        · rcases hnb _ e with h5 | h5
          · have := (h.crow.lt _ h5).2
            omega
          · omega
        · cases he
          have := (h.crow.lt _ e).2
          omega
  simp only [Act.put, List.setIfInBounds_toArray, List.set_cons_zero, List.set_cons_succ]
  rintro v11 ⟨wx, -, hx⟩
  unfold PsiR at hx
  rw [if_neg (by decide), if_neg (by decide), if_neg (by decide), if_pos rfl] at hx
  obtain ⟨-, _, _, -, -, -, -, -, hx⟩ := hx
  obtain ⟨a11, c11, rfl⟩ := own_len hx
  refine Mo.done ?_
  intro w' hT hF _
  have hF11 := hF 11
  rw [Mo.upd_same] at hF11
  unfold PsiR at hF11
  rw [if_neg (by decide), if_neg (by decide), if_neg (by decide), if_pos rfl] at hF11
  obtain ⟨O2, x, cap, hxs, hxn, hxr, hxl, hcp, O1⟩ := hF11
  have H2 := hT.heap h.head h.apart.2.1
  have c2w := c2' w' hT
  have fzw : w'.frozen? ⟨rb, 2, none⟩ = false := by simp [World.frozen?, H2]
  have hrb := h.lt _ h.inF.1
  have hgf := h.lt _ h.inF.2.1
  have hgrow := h.grow (F' := fun i => F i ∨ (w.heap.size ≤ i ∧ i < w'.heap.size)) hT n l (.slice (some ⟨x, 0, none⟩) 32 cap) O1 O2 (fun i hi => .inl hi) (fun i hi => by
    rcases hi with hi | hi
    · exact Nat.lt_of_lt_of_le (h.lt i hi) hT.size
    · exact hi.2) (fun k hk => by
    rcases O2 k hk with h5 | h5
    · exact .inl (h.inF.2.2 k h5)
    · exact .inr ⟨h5, (O1.lt k hk).2⟩) (fun _ => ⟨hxr, fun g' o' c' he => by
    cases he
    exact ⟨.inr ⟨hxs, hxl⟩, by omega, by omega, hxn, hcp⟩⟩)
  have hsz : (w'.setCell ⟨rb, 2, none⟩ (.slice a11 (R.calls.length + 1) c11)).heap.size = w'.heap.size := by simp [World.setCell]
  clear hF hv' c2' hx
  go_wp2
  go_ret
  refine ⟨.slice a11 (R.calls.length + 1) c11, vs ++ [.slice (some ⟨x, 0, none⟩) 32 cap], rfl, ?_, hgrow.2.mono (fun i _ e => ?_)⟩
  · rw [hsz]
    exact hgrow.1
  · rcases e with rfl | e
    · exact h.inF.1
    · exact h.inF.2.2 i e
end Go.Proofs.Ytinhednmfldmbaa.Dk
