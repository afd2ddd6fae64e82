/- Frames that come in; told: frames as the document's. -/
import Derived.Test.YtgnepppncmjagaaFms
import Derived.Test.YtgnepppncmjagaaDr
import Derived.Test.YtgnepppncmjagaaOwn
namespace Go.Proofs.Ytgnepppncmjagaa.Gt
open Go Go.RowKit Hp Rd Go.Proofs.Ytgnepppncmjagaa.Fr Go.Proofs.YtgnepppncmjagaaW.PrintWords Go.Proofs.YtgnepppncmjagaaW.PrintLast
theorem list_of {α : Type} {p : Nat → α → Prop} : ∀ (n : Nat), (∀ i, i < n → ∃ x, p i x) → ∃ l : List α, l.length = n ∧ ∀ i x, l[i]? = some x → p i x
  | 0, _ => ⟨[], rfl, by simp⟩
  | n + 1, h => by
    obtain ⟨l, hl, hp⟩ := list_of n (fun i hi => h i (by omega))
    obtain ⟨x, hx⟩ := h n (by omega)
    refine ⟨l ++ [x], by simp [hl], fun i y hy => ?_⟩
    rcases Nat.lt_trichotomy i n with h1 | h1 | h1
    · rw [List.getElem?_append_left (by omega)] at hy
      exact hp i y hy
    · subst h1
      rw [List.getElem?_append_right (by omega), hl, Nat.sub_self] at hy
      simp at hy
      subst hy
      exact hx
    · rw [List.getElem?_eq_none (by simp; omega)] at hy
      cases hy
theorem cells_fm : Try.prog.cellsOf 37 = 3 := by kernel_rfl
theorem rd_fm {w : World} {cs : List Value} (h : Rd Try.prog w 37 cs) : ∃ f : Fm, cs = f.cells ∧ FmOk w w.heap.size f := by
  obtain ⟨fs, hu, hm⟩ := fields_frame
  obtain ⟨-, z1, -, -, -, z5, z6⟩ := sz_req
  obtain ⟨hl, hr⟩ := rd_struct hu h
  rw [z5] at hl
  obtain ⟨v0, v1, v2, rfl⟩ : ∃ v0 v1 v2, cs = [v0, v1, v2] := by
    match cs, hl with
    | [v0, v1, v2], _ => exact ⟨_, _, _, rfl⟩
  have get : ∀ i o t, ([(0, 3), (1, 3), (2, 22)] : List (Nat × TypeId))[i]? = some (o, t) → Rd Try.prog w t (([v0, v1, v2].drop o).take (Try.prog.cellsOf t)) := fun i o t hi => by
    obtain ⟨f, hf, ho, ht⟩ := field_at hm hi
    have := hr i f hf
    rw [ho, ht] at this
    exact this
  have g0 := get 0 _ _ rfl
  have g1 := get 1 _ _ rfl
  have g2 := get 2 _ _ rfl
  rw [z1] at g0 g1
  rw [z6] at g2
  obtain ⟨id, h0, -⟩ := rd_int Try.underlying3 g0
  obtain ⟨k, h1, -⟩ := rd_int Try.underlying3 g1
  obtain ⟨A, l, c, h2, hc, hB, hb, hA, -⟩ := rd_bytes g2
  simp at h0 h1 h2
  subst h0 h1 h2
  exact ⟨⟨id, k, A, l, c⟩, rfl, hc, hB, hb, hA⟩
theorem cells_three {w : World} {a : Addr} {c0 c1 c2 : Value} (h : w.cells? 0 a 3 = some [c0, c1, c2]) : a.spot = none ∧ w.cell? a = some c0 ∧ w.cell? (a.add 1) = some c1 ∧ w.cell? (a.add 2) = some c2 := by
  unfold World.cells? at h
  split at h
  · have : List.range 3 = [0, 1, 2] := rfl
    rw [this] at h
    simp only [List.mapM_cons, List.mapM_nil, Option.bind_eq_bind, Option.bind_eq_some_iff, Option.pure_def, Option.some.injEq] at h
    obtain ⟨v0, h0, x1, ⟨v1, h1, x2, ⟨v2, h2, x3, rfl, rfl⟩, rfl⟩, e⟩ := h
    simp only [List.cons.injEq] at e
    obtain ⟨rfl, rfl, rfl, _⟩ := e
    have hs : a.spot = none := by
      obtain ⟨b, off, sp⟩ := a
      cases sp with
      | none => rfl
      | some x => simp [World.cell?, Addr.add] at h0; split at h0 <;> simp_all
    refine ⟨hs, ?_, h1, h2⟩
    obtain ⟨b, off, sp⟩ := a
    simp only at hs
    subst hs
    rw [Addr.add_mid, Nat.add_zero] at h0
    exact h0
  · cases h
theorem arg_fms {w : World} {v : Value} (h : Arg Try.prog w 58 v) : ∃ A L c, v = .slice A L.length c ∧ L.length ≤ maxLen ∧ FmsAt w w.heap.size A L := by
  obtain ⟨a, len, cap, rfl, hh⟩ := arg_slice Try.underlying58 h
  rcases hh with ⟨rfl, rfl, rfl⟩ | ⟨ad, rfl, hlc, hcm, _, hel⟩
  · exact ⟨none, [], 0, rfl, by unfold maxLen; simp, FmsAt.nil _ _ _⟩
  · rw [cells_fm] at hel
    obtain ⟨L, hl, hp⟩ := list_of (p := fun i (f : Fm) => w.cells? 0 (ad.add (i * 3)) 3 = some f.cells ∧ FmOk w w.heap.size f) len (fun i hi => by
      obtain ⟨es, h1, h2⟩ := hel i (by omega)
      obtain ⟨f, rfl, hf⟩ := rd_fm h2
      exact ⟨f, h1, hf⟩)
    refine ⟨some ad, L, cap, by rw [hl], by omega, fun i f hi => ?_, fun f hf => ?_⟩
    · have hsp : ad.spot = none := by
        have hl0 : 0 < L.length := by have := (List.getElem?_eq_some_iff.1 hi).1; omega
        have := (cells_three (hp 0 L[0] (List.getElem?_eq_getElem hl0)).1).1
        simpa [Addr.add] using this
      obtain ⟨s0, g0, g1, g2⟩ := cells_three (hp i f hi).1
      obtain ⟨b, off, sp⟩ := ad
      simp only at hsp
      subst hsp
      rw [Addr.add_mid] at g0 g1 g2
      rw [Addr.add_mid] at g1 g2
      exact ⟨b, off, rfl, World.block_lt_of_cell? w _ g0, g0, g1, g2⟩
    · obtain ⟨i, hi⟩ := List.mem_iff_getElem?.1 hf
      exact (hp i f hi).2
theorem infoRf : (Try.prog.info? 29).map (fun i => (i.zero, i.size, i.bytes)) = some (some (.agg #[.int .i64 0, .int .i64 0, .slice none 0 0]), 3, 40) := by kernel_rfl
theorem wrap_one (i n : Nat) (h : i < n) (hn : n ≤ 1000000000) : wrap64 ((i : Int) + 1) = ((i + 1 : Nat) : Int) := by unfold wrap64; omega
theorem below_new {w w' : World} (h : Below w.heap.size w w') (x : Obj) : Below w.heap.size w (w'.alloc x) := h.alloc h.size x
theorem own_slice {w : World} {base n : Nat} {e : TypeId} {size : Nat} {v : Value} {xs : List Value} (h : w.ownsRow base e size v n xs) : ∃ a c, v = .slice a n c := by
  rcases h.2 with ⟨rfl, rfl⟩ | ⟨g, cap, cur, rfl, _⟩
  · exact ⟨_, _, rfl⟩
  · exact ⟨_, _, rfl⟩
/-- A frame is put behind a row of one's own. -/
theorem push (t e : TypeId) (i0 : TypeInfo) (hu : Try.prog.underlying t = some (.slice e)) (hi : Try.prog.info? e = some i0) (hz0 : i0.zero = some (.agg #[.int .i64 0, .int .i64 0, .slice none 0 0])) (hz1 : i0.size = 3) (hz2 : i0.bytes = 40)
    {w : World} {B n : Nat} {v : Value} {xs : List Value} (hrow : w.ownsRow B e 3 v n xs) (hB : B ≤ w.heap.size) (hn : n ≤ 1000) (f : Fm) :
    ∃ v' w', (Builtin.append_ #[t, t] t #[v, .slice (some ⟨w.heap.size, 0, none⟩) 1 1]).run Try.prog (w.alloc (.cells #[.int .i64 f.id, .int .i64 f.kind, .slice f.A f.l.length f.c] e)) = .ok v' w' ∧ w'.ownsRow B e 3 v' (n + 1) (xs ++ f.cells) ∧
      Below B w w' := by
  have hN := heap_alloc_new w (.cells #[.int .i64 f.id, .int .i64 f.kind, .slice f.A f.l.length f.c] e)
  obtain ⟨v', w8, hra, hO8, hge, -, -⟩ := Go.Proofs.Ytgnepppncmjagaa.Ow.run_append (P := Try.prog) (w.alloc (.cells #[.int .i64 f.id, .int .i64 f.kind, .slice f.A f.l.length f.c] e)) B t t e i0 _ 3 40 hu hi hz0 hz1 hz2 rfl (by decide) v n xs (hrow.alloc _) ⟨w.heap.size, 0, none⟩ 1 1 [.int .i64 f.id, .int .i64 f.kind, .slice f.A f.l.length f.c] rfl (fun j u hj => by
    rw [Addr.add_mid, Nat.zero_add, blk_cell hN j]
    simpa using hj) (by simp [Value.oneCell']) (by unfold maxLen; omega) (by omega) (by simp; omega)
  refine ⟨v', w8, hra, hO8, ?_⟩
  have h1 : Below B w (w.alloc (.cells #[.int .i64 f.id, .int .i64 f.kind, .slice f.A f.l.length f.c] e)) := (Below.refl B w).alloc hB _
  exact h1.grown hge (Nat.le_trans hB (by simp)) (fun k hk => (hrow.lt k hk).1)
theorem cell_below {w w' : World} {B g o : Nat} {u : Value} (h : Below B w w') (hg : g < B) (hc : w.cell? ⟨g, o, none⟩ = some u) : w'.cell? ⟨g, o, none⟩ = some u := (World.cell?_of_block (a := ⟨g, o, none⟩) (h.block g hg)).trans hc
theorem exec_append {P : Program} {a : Act} {o : Oper} {w w' : World} {v u v' : Value} {s x : Operand} {t : TypeId} (ho : o.op = .call { callee := .builtin .append, args := #[s, x], argTypes := #[t, t] }) (hs : a.eval s = v) (hx : a.eval x = u)
    (hr : (Builtin.append_ #[t, t] o.type #[v, u]).run P w = .ok v' w') : (execOp a.eval o).run P w = .ok (.value v') w' := by
  unfold execOp
  simp only [ho, resolve, invoke, builtin, Sem.run_bind, Sem.run_pure, Result.andThen_ok, List.map_toArray, List.map_cons, List.map_nil, hs, hx, hr]
set_option maxHeartbeats 4000000 in
set_option maxRecDepth 100000 in
/-- told: the frames, each as the document's. -/
theorem told_ok (w : World) (A : Option Addr) (c : Nat) (L : List Fm) (hL : FmsAt w w.heap.size A L) (hn : L.length ≤ 100) :
    Calls Try.prog 26 #[.slice A L.length c] w fun e w' => ∃ a c', e = .returned (.slice a L.length c') ∧ w'.ownsRow w.heap.size 29 3 (.slice a L.length c') L.length (fcells L) ∧ Below w.heap.size w w' := by
  have mixed : Try.prog.follows Departure.mixedOrders = true := by kernel_rfl
  go_enter Try.func26, Try.ntmps26
  go_wp2
  go_loopg [3, 4] L.length (fun kq v3 v4 w' => ∃ i : Nat, i + kq = L.length ∧ v4 = .int .i64 (i : Int) ∧ Sh (w'.ownsRow w.heap.size 29 3 v3 i (fcells (L.take i)) ∧ Below w.heap.size w w'))
  case atStart => exact ⟨0, by omega, rfl, ⟨World.ownsRow_nil _ _ _ _, Below.refl _ _⟩⟩
  case round =>
    obtain ⟨i, hik, rfl, ⟨hrow, hB⟩⟩ := hrel
    cases gk with
    | zero =>
      obtain rfl : i = L.length := by omega
      have kk : ¬ ((L.length : Int) < (L.length : Int)) := by omega
      obtain ⟨a, c', rfl⟩ := own_slice hrow
      rw [List.take_of_length_le (Nat.le_refl _)] at hrow
      go_wp2_with fail
      go_ret
      exact ⟨a, c', rfl, hrow, hB⟩
    | succ g1_ =>
      have kk : (i : Int) < (L.length : Int) := by omega
      have hil : i < L.length := by omega
      obtain ⟨f, hf⟩ : ∃ f, L[i]? = some f := ⟨_, List.getElem?_eq_getElem hil⟩
      have hLr := hL.below hB
      obtain ⟨g, off, rfl, hg, hfa⟩ := (hL.below hB).at_ i f hf
      have HG := Sh.mk hg
      have HF := Sh.mk hf
      have HB := Sh.mk hB
      have HN := Sh.mk hn
      have HI := Sh.mk hik
      have htk : L.take (i + 1) = L.take i ++ [f] := by rw [List.take_add_one, hf]; rfl
      have hsn : fcells (L.take (i + 1)) = fcells (L.take i) ++ f.cells := by rw [htk, fcells_snoc]
      have HSN := Sh.mk hsn
      have w4_ := wrap_one i L.length hil (by omega)
      clear hg hf hB hn hLr hik htk hsn hil
      go_wp2_with fail
      refine start_ (n := 20) (S := fun w' => w'.cell? ⟨g, off + i * 3, none⟩ = some (.int .i64 f.id) ∧ w'.cell? ⟨g, off + i * 3 + 1, none⟩ = some (.int .i64 f.kind) ∧ w'.cell? ⟨g, off + i * 3 + 2, none⟩ = some (.slice f.A f.l.length f.c)) (ds := []) #[false, false, false, false, false, false, false, false, false, false, false, false, false, false, false, false, false, false, false, false] (by kernel_rfl) rfl rfl (⟨hfa.c0, hfa.c1, hfa.c2⟩) (fun hHeld => ?_)
      refine pure_ (i := 0) (N := some 11) (v := ?_) (a' := ?_) #[true, false, false, false, false, false, false, false, false, false, false, false, false, false, false, false, false, false, false, false] rfl rfl (by kernel_rfl) (fun _ _ _ h => h) (Or.inl ⟨by rfl, ?_⟩) ?_ ?_
      rotate_left
      · intro w'
        go_simp
        with_reducible rfl
      rotate_left
      · simp only [Act.put, List.setIfInBounds_toArray, List.set_cons_zero, List.set_cons_succ]
        rfl
      refine pure_ (i := 1) (N := some 12) (v := ?_) (a' := ?_) #[true, true, false, false, false, false, false, false, false, false, false, false, false, false, false, false, false, false, false, false] rfl rfl (by kernel_rfl) (fun _ _ _ h => h) (Or.inl ⟨by rfl, ?_⟩) ?_ ?_
      rotate_left
      · intro w'
        go_simp
        with_reducible rfl
      rotate_left
      · simp only [Act.put, List.setIfInBounds_toArray, List.set_cons_zero, List.set_cons_succ]
        rfl
      refine pure_ (i := 2) (N := some 13) (v := ?_) (a' := ?_) #[true, true, true, false, false, false, false, false, false, false, false, false, false, false, false, false, false, false, false, false] rfl rfl (by kernel_rfl) (fun _ _ _ h => h) (Or.inl ⟨by rfl, ?_⟩) ?_ ?_
      rotate_left
      · intro w'
        go_simp
        with_reducible rfl
      rotate_left
      · simp only [Act.put, List.setIfInBounds_toArray, List.set_cons_zero, List.set_cons_succ]
        rfl
      refine pure_ (i := 3) (N := some 14) (v := ?_) (a' := ?_) #[true, true, true, true, false, false, false, false, false, false, false, false, false, false, false, false, false, false, false, false] rfl rfl (by kernel_rfl) (fun _ _ _ h => h) (Or.inl ⟨by rfl, ?_⟩) ?_ ?_
      rotate_left
      · intro w'
        go_simp
        with_reducible rfl
      rotate_left
      · simp only [Act.put, List.setIfInBounds_toArray, List.set_cons_zero, List.set_cons_succ]
        rfl
      refine pure_ (i := 4) (N := some 15) (v := ?_) (a' := ?_) #[true, true, true, true, true, false, false, false, false, false, false, false, false, false, false, false, false, false, false, false] rfl rfl (by kernel_rfl) (fun _ _ _ h => h) (Or.inl ⟨by rfl, ?_⟩) ?_ ?_
      rotate_left
      · intro w'
        go_simp
        with_reducible rfl
      rotate_left
      · simp only [Act.put, List.setIfInBounds_toArray, List.set_cons_zero, List.set_cons_succ]
        rfl
      refine take_ (i := 5) (N := some 16) (v := ?_) (a' := ?_) #[true, true, true, true, true, true, false, false, false, false, false, false, false, false, false, false, false, false, false, false] rfl rfl (by kernel_rfl) (fun _ _ _ h => h) (Or.inl ⟨by rfl, ?_⟩) hHeld ?_ ?_
      rotate_left
      · rintro w' ⟨s0, s1, s2⟩
        go_simp
        with_reducible rfl
      rotate_left
      · simp only [Act.put, List.setIfInBounds_toArray, List.set_cons_zero, List.set_cons_succ]
        rfl
      refine pure_ (i := 6) (N := some 17) (v := ?_) (a' := ?_) #[true, true, true, true, true, true, true, false, false, false, false, false, false, false, false, false, false, false, false, false] rfl rfl (by kernel_rfl) (fun _ _ _ h => h) (Or.inl ⟨by rfl, ?_⟩) ?_ ?_
      rotate_left
      · intro w'
        go_simp
        with_reducible rfl
      rotate_left
      · simp only [Act.put, List.setIfInBounds_toArray, List.set_cons_zero, List.set_cons_succ]
        rfl
      refine pure_ (i := 7) (N := some 18) (v := ?_) (a' := ?_) #[true, true, true, true, true, true, true, true, false, false, false, false, false, false, false, false, false, false, false, false] rfl rfl (by kernel_rfl) (fun _ _ _ h => h) (Or.inl ⟨by rfl, ?_⟩) ?_ ?_
      rotate_left
      · intro w'
        go_simp
        with_reducible rfl
      rotate_left
      · simp only [Act.put, List.setIfInBounds_toArray, List.set_cons_zero, List.set_cons_succ]
        rfl
      refine pure_ (i := 8) (N := some 19) (v := ?_) (a' := ?_) #[true, true, true, true, true, true, true, true, true, false, false, false, false, false, false, false, false, false, false, false] rfl rfl (by kernel_rfl) (fun _ _ _ h => h) (Or.inl ⟨by rfl, ?_⟩) ?_ ?_
      rotate_left
      · intro w'
        go_simp
        with_reducible rfl
      rotate_left
      · simp only [Act.put, List.setIfInBounds_toArray, List.set_cons_zero, List.set_cons_succ]
        rfl
      refine pure_ (i := 9) (N := some 20) (v := ?_) (a' := ?_) #[true, true, true, true, true, true, true, true, true, true, false, false, false, false, false, false, false, false, false, false] rfl rfl (by kernel_rfl) (fun _ _ _ h => h) (Or.inl ⟨by rfl, ?_⟩) ?_ ?_
      rotate_left
      · intro w'
        go_simp
        with_reducible rfl
      rotate_left
      · simp only [Act.put, List.setIfInBounds_toArray, List.set_cons_zero, List.set_cons_succ]
        rfl
      refine take_ (i := 10) (N := some 21) (v := ?_) (a' := ?_) #[true, true, true, true, true, true, true, true, true, true, true, false, false, false, false, false, false, false, false, false] rfl rfl (by kernel_rfl) (fun _ _ _ h => h) (Or.inl ⟨by rfl, ?_⟩) hHeld ?_ ?_
      rotate_left
      · rintro w' ⟨s0, s1, s2⟩
        go_simp
        with_reducible rfl
      rotate_left
      · simp only [Act.put, List.setIfInBounds_toArray, List.set_cons_zero, List.set_cons_succ]
        rfl
      refine pure_ (i := 11) (N := some 22) (v := ?_) (a' := ?_) #[true, true, true, true, true, true, true, true, true, true, true, true, false, false, false, false, false, false, false, false] rfl rfl (by kernel_rfl) (fun _ _ _ h => h) (Or.inl ⟨by rfl, ?_⟩) ?_ ?_
      rotate_left
      · intro w'
        go_simp
        with_reducible rfl
      rotate_left
      · simp only [Act.put, List.setIfInBounds_toArray, List.set_cons_zero, List.set_cons_succ]
        rfl
      refine pure_ (i := 12) (N := some 23) (v := ?_) (a' := ?_) #[true, true, true, true, true, true, true, true, true, true, true, true, true, false, false, false, false, false, false, false] rfl rfl (by kernel_rfl) (fun _ _ _ h => h) (Or.inl ⟨by rfl, ?_⟩) ?_ ?_
      rotate_left
      · intro w'
        go_simp
        with_reducible rfl
      rotate_left
      · simp only [Act.put, List.setIfInBounds_toArray, List.set_cons_zero, List.set_cons_succ]
        rfl
      refine pure_ (i := 13) (N := some 24) (v := ?_) (a' := ?_) #[true, true, true, true, true, true, true, true, true, true, true, true, true, true, false, false, false, false, false, false] rfl rfl (by kernel_rfl) (fun _ _ _ h => h) (Or.inl ⟨by rfl, ?_⟩) ?_ ?_
      rotate_left
      · intro w'
        go_simp
        with_reducible rfl
      rotate_left
      · simp only [Act.put, List.setIfInBounds_toArray, List.set_cons_zero, List.set_cons_succ]
        rfl
      refine pure_ (i := 14) (N := some 25) (v := ?_) (a' := ?_) #[true, true, true, true, true, true, true, true, true, true, true, true, true, true, true, false, false, false, false, false] rfl rfl (by kernel_rfl) (fun _ _ _ h => h) (Or.inl ⟨by rfl, ?_⟩) ?_ ?_
      rotate_left
      · intro w'
        go_simp
        with_reducible rfl
      rotate_left
      · simp only [Act.put, List.setIfInBounds_toArray, List.set_cons_zero, List.set_cons_succ]
        rfl
      refine take_ (i := 15) (N := some 26) (v := ?_) (a' := ?_) #[true, true, true, true, true, true, true, true, true, true, true, true, true, true, true, true, false, false, false, false] rfl rfl (by kernel_rfl) (fun _ _ _ h => h) (Or.inl ⟨by rfl, ?_⟩) hHeld ?_ ?_
      rotate_left
      · rintro w' ⟨s0, s1, s2⟩
        go_simp
        with_reducible rfl
      rotate_left
      · simp only [Act.put, List.setIfInBounds_toArray, List.set_cons_zero, List.set_cons_succ]
        rfl
      refine pure_ (i := 16) (N := some 27) (v := ?_) (a' := ?_) #[true, true, true, true, true, true, true, true, true, true, true, true, true, true, true, true, true, false, false, false] rfl rfl (by kernel_rfl) (fun _ _ _ h => h) (Or.inl ⟨by rfl, ?_⟩) ?_ ?_
      rotate_left
      · intro w'
        go_simp
        with_reducible rfl
      rotate_left
      · simp only [Act.put, List.setIfInBounds_toArray, List.set_cons_zero, List.set_cons_succ]
        rfl
      obtain ⟨wd, hwd⟩ : ∃ wd, wr.drew = wd := ⟨_, rfl⟩
      have hrd : wd.ownsRow w.heap.size 29 3 u3 i (fcells (L.take i)) := by rw [← hwd]; exact hrow
      have hBd : Below w.heap.size w wd := by rw [← hwd]; exact HB.out.drew
      rw [hwd] at hHeld ⊢
      clear hwd hrow hfa
      obtain ⟨i0, hi0, hz0, hz1, hz2⟩ := info_parts infoRf
      obtain ⟨v', w8, hra, hO8, hb8⟩ := push 62 29 i0 Try.underlying62 hi0 hz0 hz1 hz2 hrd hBd.size (by have := HN.out; have := HI.out; omega) f
      have hal : Below w.heap.size wd (wd.alloc (.cells #[.int .i64 f.id, .int .i64 f.kind, .slice f.A f.l.length f.c] 29)) := (Below.refl _ _).alloc hBd.size _
      have hS7 := And.intro (cell_below hal HG.out hHeld.1) (And.intro (cell_below hal HG.out hHeld.2.1) (cell_below hal HG.out hHeld.2.2))
      have hS8 := And.intro (cell_below hb8 HG.out hHeld.1) (And.intro (cell_below hb8 HG.out hHeld.2.1) (cell_below hb8 HG.out hHeld.2.2))
      refine one_val (i := 17) (N := some 28) (v := .slice (some ⟨wd.heap.size, 0, none⟩) 1 1) (w' := wd.alloc (.cells #[.int .i64 f.id, .int .i64 f.kind, .slice f.A f.l.length f.c] 29)) (a' := ?_) #[true, true, true, true, true, true, true, true, true, true, true, true, true, true, true, true, true, true, false, false] rfl rfl (by kernel_rfl) (by decide) (by rfl) (by go_simp) (hS7) ?_ ?_
      rotate_left
      · simp only [Act.put, List.setIfInBounds_toArray, List.set_cons_zero, List.set_cons_succ]
        rfl
      refine one_val (i := 18) (N := some 29) (v := v') (w' := w8) (a' := ?_) #[true, true, true, true, true, true, true, true, true, true, true, true, true, true, true, true, true, true, true, false] rfl rfl (by kernel_rfl) (by decide) (by rfl) (exec_append rfl (by rfl) (by rfl) hra) (hS8) ?_ ?_
      rotate_left
      · simp only [Act.put, List.setIfInBounds_toArray, List.set_cons_zero, List.set_cons_succ]
        rfl
      refine pure_ (i := 19) (N := some 3) (v := ?_) (a' := ?_) #[true, true, true, true, true, true, true, true, true, true, true, true, true, true, true, true, true, true, true, true] rfl rfl (by kernel_rfl) (fun _ _ _ h => h) (Or.inl ⟨by rfl, ?_⟩) ?_ ?_
      rotate_left
      · intro w'
        go_simp
        with_reducible rfl
      rotate_left
      · simp only [Act.put, List.setIfInBounds_toArray, List.set_cons_zero, List.set_cons_succ]
        rfl
      refine done_ (by kernel_rfl) ?_
      have HO8 := Sh.mk hO8
      have HB8 := Sh.mk (hBd.trans hb8)
      clear hra hO8 hb8 hal hS7 hS8 hHeld hBd hrd hi0 hz0 hz1 hz2
      go_wp2_with fail
      go_roundg g1_
      case measure => have := HI.out; omega
      case rel => exact ⟨i + 1, by have := HI.out; omega, by rw [w4_], ⟨by rw [HSN.out]; exact HO8.out, HB8.out⟩⟩
end Go.Proofs.Ytgnepppncmjagaa.Gt
