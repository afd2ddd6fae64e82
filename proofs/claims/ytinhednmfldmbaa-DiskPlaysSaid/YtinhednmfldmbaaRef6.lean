/- The reference disk: New. -/
import Derived.Test.YtinhednmfldmbaaRef5
namespace Go.Proofs.Ytinhednmfldmbaa.Dk
open Go Go.RowKit Hp Rd

theorem make32' (w : World) : (Instr.makeSlice 31 (.int .i64 32) (.int .i64 32)).run Try.prog w = .ok (.slice (some ⟨w.heap.size, 0, none⟩) 32 32) (w.alloc (.cells (zeros.map (Value.int .u8)).toArray 5)) := by
  obtain ⟨i0, hi, hz⟩ := Option.map_eq_some_iff.1 info_u8
  simp only [Prod.mk.injEq] at hz
  obtain ⟨hz0, hz1, hz2⟩ := hz
  have := run_makeSlice (P := Try.prog) w 31 5 i0 (.int .u8 0) Try.underlying31 hi hz0 .i64 .i64 32 32 (by omega) (by omega) (by rw [hz1]; decide) (by rw [hz2]; decide) (by omega)
  have hm : madeCells (Value.int .u8 0).cells ((32 : Int).toNat * 1) = (zeros.map (Value.int .u8)).toArray := by
    apply Array.ext
    · simp [size_madeCells, zeros]
    · intro i h1 h2
      have h3 : i < 32 := by simpa [zeros] using h2
      have : (zeros.map (Value.int .u8)).toArray[i] = .int .u8 0 := by simp only [zeros, List.map_replicate, List.getElem_toArray, List.getElem_replicate]
      refine Eq.trans ?_ this.symm
      simp [madeCells, Value.cells, Nat.mod_one]
  rw [hz1, hm] at this
  exact this
theorem row32_alloc (w : World) : Row32 (w.alloc (.cells (zeros.map (Value.int .u8)).toArray 5)) (.slice (some ⟨w.heap.size, 0, none⟩) 32 32) zeros := ⟨rfl, _, _, _, rfl, fun j u hu => by
  simp only [World.cell?, heap_alloc_new, Nat.zero_add]
  simpa using hu⟩
theorem info_row' : (Try.prog.info? 31).map (fun i => (i.zero, i.size, i.bytes)) = some (some (.slice none 0 0), 1, 24) := by kernel_rfl
/-- What the operations that make memory leave. -/
def PsiN (base : Nat) (rows : List Value) (vf : Value) (w1 : World) (k : Nat) (A : Array Value) (v : Value) (w : World) : Prop :=
  if k = 5 then ∃ x, v = .slice (some ⟨x, 0, none⟩) 32 32 ∧ w1.heap.size ≤ x ∧ Row32 w v zeros
  else if k = 6 then ∃ x u, v = .slice (some ⟨x, 0, none⟩) 1 1 ∧ w1.heap.size ≤ x ∧ A = #[u] ∧ w.heap[x]? = some (.cells #[u] 31 (0, 0))
  else if k = 7 then (∀ i, v.ownBlock = some i → vf.ownBlock = some i ∨ w1.heap.size ≤ i) ∧ ∃ x, w1.heap.size ≤ x ∧ v.ownBlock ≠ some x ∧ Row32 w (.slice (some ⟨x, 0, none⟩) 32 32) zeros ∧ x < w.heap.size ∧
    w.ownsRow base 31 1 v (rows.length + 1) (rows ++ [.slice (some ⟨x, 0, none⟩) 32 32])
  else True
def TrN (vf : Value) (k : Nat) (u u' : World) : Prop := if k = 5 ∨ k = 6 then Below u.heap.size u u' else if k = 7 then Kept (fun k => vf.ownBlock = some k) u u' else u = u'
theorem TrN.kept {vf : Value} {k : Nat} {u u' : World} (h : TrN vf k u u') : Kept (fun k => vf.ownBlock = some k) u u' := by
  unfold TrN at h
  split at h
  · exact Kept.of_below h
  · split at h
    · exact h
    · exact h ▸ Kept.refl _ _
theorem psiN_stays (base : Nat) (rows : List Value) (vf : Value) (w1 : World) (hlt : ∀ i, vf.ownBlock = some i → i < w1.heap.size) : ∀ (j k : Nat) (A : Array Value) (v : Value) (w w' : World), j ≠ k → (([0, 0, 2, 6, 14, 0, 32, 126, 255] : List Nat).getD j 0).testBit k = false →
    TrN vf k w w' → PsiN base rows vf w1 j A v w → PsiN base rows vf w1 j A v w' := by
  intro j k A v w w' hjk hb ht h
  have K := ht.kept
  unfold PsiN at *
  by_cases h5 : j = 5
  · rw [if_pos h5] at h ⊢
    obtain ⟨x, rfl, hx, hr⟩ := h
    exact ⟨x, rfl, hx, hr.kept K (fun g off c he e => by cases he; have := hlt _ e; omega)⟩
  · rw [if_neg h5] at h ⊢
    by_cases h6 : j = 6
    · rw [if_pos h6] at h ⊢
      obtain ⟨x, u, rfl, hx, hA, hh⟩ := h
      exact ⟨x, u, rfl, hx, hA, K.heap hh (fun e => by have := hlt x e; omega)⟩
    · rw [if_neg h6] at h ⊢
      by_cases h7 : j = 7
      · subst h7
        rw [if_pos rfl] at h ⊢
        have : k ≠ 5 ∧ k ≠ 6 := ⟨fun e => by subst e; exact absurd hb (by decide), fun e => by subst e; exact absurd hb (by decide)⟩
        have he : w = w' := by
          unfold TrN at ht
          rw [if_neg (by omega), if_neg (by omega)] at ht
          exact ht
        exact he ▸ h
      · rw [if_neg h7]
        trivial
/-- A reference disk in the making. -/
structure NewSt (w w' : World) (rb : Nat) (vf : Value) (rows : List Value) (size : Int) : Prop where
  head : w'.heap[rb]? = some (.cells #[.int .i64 size, vf, .slice none 0 0] 68 (0, 0))
  row : w'.ownsRow w.heap.size 31 1 vf rows.length rows
  rows : ∀ (j : Nat) (v : Value), rows[j]? = some v → Row32 w' v zeros ∧ ∀ g off cap, v = .slice (some ⟨g, off, none⟩) 32 cap → w.heap.size ≤ g ∧ g ≠ rb ∧ vf.ownBlock ≠ some g ∧ 32 ≤ cap
  below : Below w.heap.size w w'
  new : w.heap.size ≤ rb
  far : vf.ownBlock ≠ some rb
set_option maxHeartbeats 2000000 in
set_option maxRecDepth 100000 in
theorem refNew_ok (n : Nat) (w : World) (h1 : 1 ≤ n) (h2 : n ≤ 65536) :
    Calls Try.prog 13 #[.int .i64 n] w fun e w' => ∃ rb gf cf fs, e = .returned (.tuple #[.pointer (some ⟨rb, 0, none⟩), .int .i64 0]) ∧ Below w.heap.size w w' ∧ RefIs w' (fun i => w.heap.size ≤ i ∧ i < w'.heap.size) rb gf cf (.slice none 0 0) fs [] ⟨n, fun _ => zeros, []⟩ := by
  have mixed : Try.prog.follows Departure.mixedOrders = true := by kernel_rfl
  have q1 : (1 : Int) ≤ (n : Int) := by omega
  have q2 : (n : Int) ≤ 65536 := by omega
  go_enter Try.func13, Try.ntmps13
  go_upto_block 0 with (fail)
  have HN : NewSt w (w.alloc (.cells #[.int .i64 n, .slice none 0 0, .slice none 0 0] 68)) w.heap.size (.slice none 0 0) [] n :=
    ⟨heap_alloc_new _ _, World.ownsRow_nil _ _ _ _, fun j v hj => by simp at hj, (Below.refl _ _).alloc (Nat.le_refl _) _, Nat.le_refl _, by intro e; cases e⟩
  obtain ⟨w1, hw1⟩ : ∃ w1, w.alloc (.cells #[.int .i64 n, .slice none 0 0, .slice none 0 0] 68) = w1 := ⟨_, rfl⟩
  obtain ⟨rb, hrb⟩ : ∃ rb, w.heap.size = rb := ⟨_, rfl⟩
  have HN1 : NewSt w w1 rb (.slice none 0 0) [] n := by rw [← hw1, ← hrb]; exact HN
  rw [hw1, hrb]
  clear HN hw1 hrb
  go_cut [] (fun wx => ∃ vf rows, Sh (NewSt w wx rb vf rows n ∧ rows.length = n))
  case first =>
    go_wp2_with fail
    go_loopg [5] n (fun kq v5 w' => ∃ (i : Nat) (vf : Value) (rows : List Value), v5 = .int .i64 (i : Int) ∧ i + kq = n ∧ rows.length = i ∧ Sh (NewSt w w' rb vf rows n))
    case atStart => exact ⟨0, _, [], rfl, by omega, rfl, ⟨HN1⟩⟩
    case round =>
      obtain ⟨i, vf, rows, rfl, hi, hlr, ⟨hN⟩⟩ := hrel
      cases gk with
      | zero =>
        have q : ¬ ((i : Int) < (n : Int)) := by omega
        go_wp2_with fail
        go_meet
        case rel => exact ⟨vf, rows, ⟨hN, by omega⟩⟩
      | succ g1_ =>
        have q : (i : Int) < (n : Int) := by omega
        have q0 : (0 : Int) ≤ (i : Int) := by omega
        have hh := hN.head
        have c1 : wr.cell? ⟨rb, 1, none⟩ = some vf := by simp [World.cell?, hh]
        clear hh
        go_upto_region 7 with (fail)
        refine Mo.region 8 [0, 0, 2, 6, 14, 0, 32, 126, 255] (fun w' => Kept (fun k => vf.ownBlock = some k) wr w') (TrN vf) (fun k w' => k = 7 → w'.ownsRow w.heap.size 31 1 vf rows.length rows) (PsiN w.heap.size rows vf wr) (Kept.refl _ _).drew (fun _ _ => own_kept hN.row (Kept.refl (fun _ => False) wr).drew (fun _ _ e => e)) ?ht (psiN_stays _ _ _ _ (fun i hi => (hN.row.lt i hi).2)) ?hpre mixed (by kernel_rfl) ?_
        case ht => exact fun k u u' hu ht => hu.trans ht.kept (fun _ _ e => e)
        case hpre =>
          intro j k u u' hjk hb hu ht hp e
          subst e
          unfold TrN at ht
          split at ht
          · exact own_kept (hp rfl) (Kept.of_below (S := fun _ => False) ht) (fun _ _ e => e)
          · split at ht
            · rename_i h11
              exact absurd h11.symm hjk
            · exact ht ▸ hp rfl
        simp only [List.take_succ_cons, List.take_zero, List.drop_succ_cons, List.drop_zero]
        have c1' : ∀ w', Kept (fun k => vf.ownBlock = some k) wr w' → w'.cell? ⟨rb, 1, none⟩ = some vf := fun w' k => kept_cell' k c1 hN.far
        refine Mo.val (v := ?_) (fun _ => rfl) (by rfl) (fun _ _ _ => trivial) ?_ ?_
        rotate_left
        · (intro w' hT hP hF; skip; go_simp; with_reducible rfl)
        simp only [Act.put, List.setIfInBounds_toArray, List.set_cons_zero, List.set_cons_succ]
        refine Mo.val (v := ?_) (fun _ => rfl) (by rfl) (fun _ _ _ => trivial) ?_ ?_
        rotate_left
        · (intro w' hT hP hF; skip; go_simp; with_reducible rfl)
        simp only [Act.put, List.setIfInBounds_toArray, List.set_cons_zero, List.set_cons_succ]
        refine Mo.val (v := ?_) (fun _ => rfl) (by rfl) (fun _ _ _ => trivial) ?_ ?_
        rotate_left
        · (intro w' hT hP hF; skip; go_simp; with_reducible rfl)
        simp only [Act.put, List.setIfInBounds_toArray, List.set_cons_zero, List.set_cons_succ]
        refine Mo.val (v := ?_) (fun _ => rfl) (by rfl) (fun _ _ _ => trivial) ?_ ?_
        rotate_left
        · (intro w' hT hP hF; skip; go_simp; with_reducible rfl)
        simp only [Act.put, List.setIfInBounds_toArray, List.set_cons_zero, List.set_cons_succ]
        refine Mo.val (v := ?_) (fun _ => rfl) (by rfl) (fun _ _ _ => trivial) ?_ ?_
        rotate_left
        · (intro w' hT hP hF; have hc := c1' w' hT; go_simp; with_reducible rfl)
        simp only [Act.put, List.setIfInBounds_toArray, List.set_cons_zero, List.set_cons_succ]
        refine Mo.any (by rfl) ?_ ?_
        · intro w' hT hP hF
          have hmk := make32' w'
          have hsz := hT.size
          go_simp
          refine ⟨?_, ?_⟩
          · unfold TrN
            rw [if_pos (by simp)]
            exact (Below.refl _ _).alloc (Nat.le_refl _) _
          · unfold PsiN
            rw [if_pos rfl]
            exact ⟨_, rfl, hsz, row32_alloc w'⟩
        simp only [Act.put, List.setIfInBounds_toArray, List.set_cons_zero, List.set_cons_succ]
        rintro v25 ⟨wx, -, hx⟩
        unfold PsiN at hx
        rw [if_pos rfl] at hx
        obtain ⟨x5, rfl, hx5, -⟩ := hx
        refine Mo.any (by rfl) ?_ ?_
        · intro w' hT hP hF
          have hsz := hT.size
          go_simp
          refine ⟨?_, ?_⟩
          · unfold TrN
            rw [if_pos (by simp)]
            exact (Below.refl _ _).alloc (Nat.le_refl _) _
          · unfold PsiN
            rw [if_neg (by decide), if_pos rfl]
            refine ⟨_, .slice (some ⟨x5, 0, none⟩) 32 32, rfl, hsz, ?_, heap_alloc_new _ _⟩
            simp [Op.operands, Act.eval]
        simp only [Act.put, List.setIfInBounds_toArray, List.set_cons_zero, List.set_cons_succ]
        rintro v26 ⟨wx, -, hx⟩
        unfold PsiN at hx
        rw [if_neg (by decide), if_pos rfl] at hx
        obtain ⟨x6, u6, rfl, hx6, hA6, -⟩ := hx
        refine Mo.any (by rfl) ?_ ?_
        · intro w' hT hP hF
          have hF6 := hF 6 (by decide)
          have hF5 := hF 5 (by decide)
          rw [Mo.upd_same] at hF6
          simp (decide := true) only [Mo.upd, if_true, if_false] at hF5
          unfold PsiN at hF6 hF5
          rw [if_neg (by decide), if_pos rfl] at hF6
          rw [if_pos rfl] at hF5
          obtain ⟨x6', u', he6, -, hA, hh6⟩ := hF6
          obtain ⟨x5', he5, hx5', hR5⟩ := hF5
          obtain rfl : x6 = x6' := by simpa using he6
          have hu' : u' = .slice (some ⟨x5, 0, none⟩) 32 32 := by
            simp [Op.operands, Act.eval] at hA
            exact hA.symm
          obtain rfl : x5 = x5' := by simpa using he5
          subst hu'
          have hsz := hT.size
          refine Mo.leaves_of_wp (d := 27) rfl (by simp) fun K Q hK => ?_
          obtain ⟨i0, hi0, hz⟩ := Option.map_eq_some_iff.1 info_row'
          simp only [Prod.mk.injEq] at hz
          obtain ⟨hz0, hz1, hz2⟩ := hz
          have hrow : w'.ownsRow w.heap.size 31 1 vf rows.length rows := hP rfl
          obtain ⟨g5, o5, c5, he5', hlt5, -⟩ := hR5.block
          have hx5l : x5 < w'.heap.size := by
            cases he5'
            exact hlt5
          have hbs := hN.below.size
          refine Ow.wp_append (P := Try.prog) w' (.tmp 24) (.tmp 26) 42 rfl w.heap.size 31 i0 _ 1 24 Try.underlying42 hi0 hz0 hz1 hz2 rfl (by decide) vf rows.length rows rfl hrow ⟨x6, 0, none⟩ 1 1 [.slice (some ⟨x5, 0, none⟩) 32 32] rfl rfl ?_ ?_ ?_ ?_ (by omega) ?_
          · intro j u hu
            rw [Addr.add_mid, Nat.zero_add]
            simp only [World.cell?, hh6]
            simpa using hu
          · intro u hu
            rw [List.mem_singleton.1 hu]; rfl
          · unfold maxLen; omega
          · omega
          · intro v' w2 hown hgr _ hnb
            have hK2 : Kept (fun k => vf.ownBlock = some k) w' w2 := (Kept.refl (fun k => vf.ownBlock = some k) w').grown hgr (fun k hk => Or.inr hk)
            refine hK v' w2 ⟨?_, ?_⟩
            · unfold TrN
              rw [if_neg (by decide), if_pos rfl]
              exact hK2
            · unfold PsiN
              rw [if_neg (by decide), if_neg (by decide), if_pos rfl]
              refine ⟨fun i hi => ?_, x5, hx5, fun e => ?_, hR5.kept hK2 (fun g' o' c' he e => ?_), Nat.lt_of_lt_of_le hx5l hK2.size, hown⟩
              · rcases hnb i hi with h5 | h5
                · exact Or.inl h5
                · exact Or.inr (by omega)
              · rcases hnb _ e with h5 | h5
                · have := (hN.row.lt _ h5).2
                  omega
                · omega
              · cases he
                have := (hN.row.lt _ e).2
                omega
        simp only [Act.put, List.setIfInBounds_toArray, List.set_cons_zero, List.set_cons_succ]
        rintro v27 ⟨wx, -, hx⟩
        unfold PsiN at hx
        rw [if_neg (by decide), if_neg (by decide), if_pos rfl] at hx
        obtain ⟨-, _, -, -, -, -, hx⟩ := hx
        obtain ⟨a11, c11, rfl⟩ := own_len hx
        refine Mo.done ?_
        intro w' hT hF _
        have hF11 := hF 7
        rw [Mo.upd_same] at hF11
        unfold PsiN at hF11
        rw [if_neg (by decide), if_neg (by decide), if_pos rfl] at hF11
        obtain ⟨O2, x, hxs, hxn, hxr, hxl, O1⟩ := hF11
        have H2 := hT.heap hN.head hN.far
        have c1w := c1' w' hT
        have fzw : w'.frozen? ⟨rb, 1, none⟩ = false := by simp [World.frozen?, H2]
        have hrbl := lt_of_heap hN.head
        have hbs := hN.below.size
        have KS : Kept (fun k => k = rb) w' (w'.setCell ⟨rb, 1, none⟩ (.slice a11 (rows.length + 1) c11)) := (Kept.refl (fun k => k = rb) w').setCell (p := ⟨rb, 1, none⟩) (Or.inr rfl) _
        have hfar : (Value.slice a11 (rows.length + 1) c11).ownBlock ≠ some rb := fun e => by
          rcases O2 rb e with h5 | h5
          · exact hN.far h5
          · omega
        have hN2 : NewSt w (w'.setCell ⟨rb, 1, none⟩ (.slice a11 (rows.length + 1) c11)) rb (.slice a11 (rows.length + 1) c11) (rows ++ [.slice (some ⟨x, 0, none⟩) 32 32]) n := by
          refine ⟨?_, ?_, fun j v hj => ?_, (hN.below.trans (hT.below hbs (fun i hi e => by have := (hN.row.lt i e).1; omega))).trans (KS.below (Nat.le_trans hbs hT.size) (fun i hi e => by have := hN.new; omega)), hN.new, hfar⟩
          · simp [World.setCell, Array.getElem?_modify, H2]
          · rw [List.length_append]
            exact own_kept O1 KS (fun i hi e => by subst e; exact hfar hi)
          · rcases Nat.lt_or_ge j rows.length with hj5 | hj5
            · rw [List.getElem?_append_left hj5] at hj
              obtain ⟨hr, ha⟩ := hN.rows j v hj
              refine ⟨(hr.kept hT (fun g off cap he => (ha g off cap he).2.2.1)).kept KS (fun g off cap he => (ha g off cap he).2.1), fun g off cap he => ⟨(ha g off cap he).1, (ha g off cap he).2.1, fun e => ?_, (ha g off cap he).2.2.2⟩⟩
              obtain ⟨g2, o2, c2, he2, hlt2, -⟩ := hr.block
              rcases O2 g e with h5 | h5
              · exact (ha g off cap he).2.2.1 h5
              · rw [he] at he2
                cases he2
                omega
            · rw [List.getElem?_append_right hj5] at hj
              obtain rfl : Value.slice (some ⟨x, 0, none⟩) 32 32 = v := by
                have hj0 : j - rows.length = 0 := by
                  have := (List.getElem?_eq_some_iff.1 hj).1
                  simp at this
                  omega
                rw [hj0] at hj
                simpa using hj
              exact ⟨hxr.kept KS (fun g off cap he e => by cases he; omega), fun g off cap he => by cases he; exact ⟨by omega, by omega, hxn, Nat.le_refl _⟩⟩
        rw [hlr] at hN2
        clear hF c1' hx KS H2
        go_wp2_with fail
        go_roundg g1_
        case measure => omega
        case rel => exact ⟨i + 1, _, _, by go_num, by omega, (by rw [List.length_append, hlr]; rfl), ⟨hN2⟩⟩
  case rest =>
    obtain ⟨vf, rows, ⟨hN, hlr⟩⟩ := hcut
    go_wp2_with fail
    go_ret2
    obtain ⟨gf, cf, hvf, hcf, hgb⟩ : ∃ gf cf, vf = .slice (some ⟨gf, 0, none⟩) rows.length cf ∧ rows.length ≤ cf ∧ w.heap.size ≤ gf := by
      rcases hN.row.2 with ⟨_, h5⟩ | ⟨g, cap, cur, h5, hb, _, h6, _⟩
      · omega
      · exact ⟨g, cap, h5, h6, hb⟩
    have hgl := (hN.row.lt gf (by rw [hvf]; rfl)).2
    refine ⟨rb, gf, cf, rows, rfl, hN.below, ⟨by show (0 : Int) ≤ (n : Int); omega, ?_, fun j u hu => ?_, ?_, ?_, fun m v hv => ⟨(hN.rows m v hv).1, fun g off cap he => ?_⟩, World.ownsRow_nil _ _ _ _, rfl, fun j c v hc => by simp at hc, ⟨⟨hN.new, lt_of_heap hN.head⟩, ⟨hgb, hgl⟩, fun k hk => by cases hk⟩, ⟨fun e => hN.far (by rw [hvf, e]; rfl), (by intro e; cases e), (by intro e; cases e)⟩, fun i hi => hi.2⟩⟩
    · rw [hN.head, hvf, hlr]
      simp
    · have := hN.row.cells (g := gf) (by rw [hvf]; rfl) j u hu
      rwa [Addr.add_mid] at this
    · simp; omega
    · simp; omega
    · obtain ⟨h5, h6, h7, h8⟩ := hN.rows m v hv |>.2 g off cap he
      obtain ⟨g2, o2, c2, he2, hlt2, -⟩ := (hN.rows m v hv).1.block
      rw [he] at he2
      cases he2
      exact ⟨⟨h5, hlt2⟩, h6, fun e => h7 (by rw [hvf, e]; rfl), (by intro e; cases e), h8⟩
end Go.Proofs.Ytinhednmfldmbaa.Dk
