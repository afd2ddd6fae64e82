/- A decoder that is new, fed a whole frame. -/
import Derived.Test.YtgnepppncmjagaaFr2
import Derived.Test.YtgnepppncmjagaaGoto
import Derived.Test.YtgnepppncmjagaaClone
import Derived.Test.YtgnepppncmjagaaFrA
namespace Go.Proofs.Ytgnepppncmjagaa.Fr
open Go Go.RowKit Hp Rd Go.Proofs.YtgnepppncmjagaaW.PrintWords Go.Proofs.YtgnepppncmjagaaW.PrintLast Go.Proofs.Ytgnepppncmjagaa.Print Go.Proofs.Ytgnepppncmjagaa
attribute [local go_sem] Go.Proofs.Ytgnepppncmjagaa.Goto.Jumps_ret Go.Proofs.Ytgnepppncmjagaa.Goto.Jumps_normal
abbrev DO (v : Value) (t : Bool) : Obj := .cells #[v, .bool t] 85 (0, 0)
theorem new_ok (w : World) : Calls Try.prog 27 #[] w fun e w' => e = .returned (.pointer (some ⟨w.heap.size, 0, none⟩)) ∧ w' = w.alloc (DO (.slice none 0 0) false) := by
  go_enter Try.func27, Try.ntmps27
  go_wp2
  go_ret
  exact ⟨rfl, rfl⟩
theorem broken_ok {w : World} {g : Nat} {v : Value} {t : Bool} (h : w.heap[g]? = some (DO v t)) : Calls Try.prog 23 #[.pointer (some ⟨g, 0, none⟩)] w fun e w' => e = .returned (.bool t) ∧ w' = w := by
  have c1_ : w.cell? ⟨g, 1, none⟩ = some (.bool t) := (blk_cell h 1).trans rfl
  go_enter Try.func23, Try.ntmps23
  go_wp2
  go_ret
  exact ⟨rfl, rfl⟩
theorem number_ok2 {w : World} {A : Option Addr} {c : Nat} {l : List Int} {x y : Int} {r : List Int} (h : Bytes w A l) (hb : bytes l) (hl : l = x :: y :: r) (hc : l.length ≤ c) (hm : l.length ≤ 9223372036854775807) :
    Calls Try.prog 35 #[.slice A l.length c] w fun e w' => e = .returned (.int .i64 (256 * x + y)) ∧ Below w.heap.size w w' := by
  have hx := hb x (by rw [hl]; simp)
  have hy := hb y (by rw [hl]; simp)
  refine (frame_number.calls A c l (256 * x + y) w (h.C hm) hc ?_).mono ?_
  · subst hl
    unfold frame_number.f
    rw [if_pos (by simp; omega), if_pos (by simp; omega)]
    show some (Go.bits .or .i64 (wrap64 ((wrap64 x) * 256)) (wrap64 y)) = _
    rw [num_or x y hx hy]
  · rintro e w' ⟨rfl, hd⟩
    exact ⟨rfl, hd.below⟩
theorem infoU8 : (Try.prog.info? 5).map (fun i => (i.zero, i.size, i.bytes)) = some (some (.int .u8 0), 1, 1) := by kernel_rfl
theorem infoFrm : (Try.prog.info? 28).map (fun i => (i.zero, i.size, i.bytes)) = some (some (.agg #[.int .i64 0, .int .i64 0, .slice none 0 0]), 3, 40) := by kernel_rfl
theorem wrap_small {k : Int} (h : 1 ≤ k ∧ k ≤ 4) : IntKind.i64.wrap k = k := by rw [IntKind.wrap_i64]; omega
theorem nums5 (n L c : Nat) (hn : n ≤ 4096) (h : L = n + 5) (hc : L ≤ c) : ∃ m : Int, 5 + (n : Int) = m ∧ IntKind.i64.wrap (5 + (n : Int)) = m ∧ wrap64 (5 + (n : Int)) = m ∧ (0 : Int) ≤ m ∧ m ≤ (L : Int) ∧ m.toNat = 5 + n ∧ (5 : Int) ≤ m ∧ m ≤ (c : Int) ∧ max m 0 = m ∧ m.toNat - 5 = n ∧ L - m.toNat = 0 ∧ ¬ (L : Int) < m :=
  ⟨_, rfl, by rw [IntKind.wrap_i64]; omega, by unfold wrap64; omega, by omega, by omega, by omega, by omega, by omega, by omega, by omega, by omega, by omega⟩
theorem R_bytes' {w : World} {base : Nat} {ok : Nat → Prop} {v : Value} {l : List Int} (h : Kd.R (Kd.int .u8) 5 w base ok v l) : ∃ A c, v = .slice A l.length c ∧ l.length ≤ c ∧ Bytes w A l ∧ ∀ a, A = some a → base ≤ a.block ∧ a.block < w.heap.size := by
  obtain ⟨ho, -⟩ := R_row h
  rcases ho.2 with ⟨e, h0⟩ | ⟨g, cap, cur, e, _, _, hnc, _, _⟩
  · have : l = [] := List.eq_nil_of_length_eq_zero h0
    subst this
    exact ⟨none, 0, e, Nat.le_refl _, Bytes.nil _ _, fun a e => by cases e⟩
  · rw [e] at ho
    exact ⟨_, _, e, hnc, Bytes.own ho, fun a e => by cases e; exact ho.lt g rfl⟩
set_option maxHeartbeats 4000000 in
set_option maxRecDepth 100000 in
theorem feed_ok {w : World} {g : Nat} {A : Option Addr} {c : Nat} {l : List Int} {h0 h1 i0 i1 k : Int} {body : List Int} (hg : w.heap[g]? = some (DO (.slice none 0 0) false)) (hB : Bytes w A l) (hbl : bytes l) (_hc : l.length ≤ c)
    (hl : l = h0 :: h1 :: i0 :: i1 :: k :: body) (hk : 1 ≤ k ∧ k ≤ 4) (hn : 256 * h0 + h1 = (body.length : Int)) (hbb : body.length ≤ 4096) :
    Calls Try.prog 22 #[.pointer (some ⟨g, 0, none⟩), .slice A l.length c] w fun e w' => ∃ q cq A2 c2, e = .returned (.slice (some ⟨q, 0, none⟩) 1 cq) ∧ w'.rangeAt q 0 [.int .i64 (256 * i0 + i1), .int .i64 k, .slice A2 body.length c2] ∧ body.length ≤ c2 ∧ Bytes w' A2 body ∧
      (0 < body.length → ∀ ad, A2 = some ad → ad.block < w'.heap.size) ∧ (∃ v, w'.heap[g]? = some (DO v false)) ∧ Kept (fun i => i = g) w w' := by
  have mixed : Try.prog.follows Departure.mixedOrders = true := by kernel_rfl
  have hlen : l.length = body.length + 5 := by rw [hl]; rfl
  obtain ⟨ad, rfl, hcs⟩ := hB (by omega)
  have HG := Sh.mk hg
  have HL := Sh.mk hl
  have HLEN := Sh.mk hlen
  have HN := Sh.mk hn
  have c0_ : w.cell? ⟨g, 0, none⟩ = some (.slice none 0 0) := (blk_cell hg 0).trans rfl
  have f0_ := blk_frozen hg 0
  clear hg hl hn hlen
  go_enter Try.func22, Try.ntmps22
  go_wp2_with fail
  apply Goto.wp_scope_goto
  go_wp2_with fail
  refine (broken_ok HG.out).mono ?_
  rintro e wx ⟨rfl, hwx⟩
  rw [hwx]
  clear hwx wx
  obtain ⟨iu, hu, hz0, hz1, hz2⟩ := info_parts infoU8
  have hnews : ∀ (j : Nat) (u : Value), (l.map (Value.int .u8))[j]? = some u → w.cell? (ad.add j) = some u := fun j u hu => by
    rw [List.getElem?_map] at hu
    cases hx : l[j]? with
    | none => rw [hx] at hu; cases hu
    | some x => rw [hx] at hu; cases hu; exact hcs j x hx
  obtain ⟨v', w1, hra, hO1, hge, -, hnew⟩ := Go.Proofs.Ytgnepppncmjagaa.Ow.run_append (P := Try.prog) w w.heap.size 22 22 5 iu (.int .u8 0) 1 1 Try.underlying22 hu hz0 hz1 hz2 rfl (by decide) (.slice none 0 0) 0 [] (World.ownsRow_nil _ _ _ _) ad l.length c (l.map (Value.int .u8)) (by simp) hnews (by simp [Value.oneCell']) (by have := HLEN.out; unfold maxLen; omega) (by have := HLEN.out; omega) (Nat.le_refl _)
  rw [Nat.zero_add, List.nil_append] at hO1
  obtain ⟨q0, cap0, rfl⟩ : ∃ q0 cap0, v' = .slice (some ⟨q0, 0, none⟩) l.length cap0 := by
    rw [HLEN.out] at hO1 ⊢
    exact own_succ hO1
  have hq0 : w.heap.size ≤ q0 := by
    rcases hnew q0 rfl with h | h
    · cases h
    · exact h
  have hcap : l.length ≤ cap0 := by
    rcases hO1.2 with ⟨e, _⟩ | ⟨g', cap', cur, e, _, _, h', _, _⟩
    · cases e
    · cases e; exact h'
  have hK1 : Kept (fun _ => False) w w1 := (Hp.Kept.refl _ w).grown hge (fun k e => by cases e)
  have g1 := kept_old hK1 HG.out (fun e => e)
  have c1_ : w1.cell? ⟨g, 0, none⟩ = some (.slice none 0 0) := (blk_cell g1 0).trans rfl
  have f1_ := blk_frozen g1 0
  clear hnews hge hnew hcs
  go_upto_region 6 with (first | ((with_reducible refine Rw.at_slot 15 ?_); refine Rw.wpList_run rfl (exec_append rfl (by rfl) (by rfl) hra) ?_))
  obtain ⟨w2, hw2⟩ : ∃ w2, w1.setCell ⟨g, 0, none⟩ (.slice (some ⟨q0, 0, none⟩) l.length cap0) = w2 := ⟨_, rfl⟩
  have gD2 : w2.heap[g]? = some (DO (.slice (some ⟨q0, 0, none⟩) l.length cap0) false) := by rw [← hw2]; exact heap_set w1 g 0 _ g1
  have hgw : g < w.heap.size := lt_of_heap HG.out
  have hKs : Kept (fun i => i = g) w1 w2 := by rw [← hw2]; exact (Hp.Kept.refl (fun i => i = g) w1).setCell (p := ⟨g, 0, none⟩) (.inr rfl) _
  have hK2 : Kept (fun i => i = g) w w2 := (hK1.mono (fun _ _ e => e.elim)).trans hKs (fun i _ e => e)
  have hB2 : Bytes w2 (some ⟨q0, 0, none⟩) l := (Bytes.own hO1).kept hKs (fun _ a e hs => by cases e; have hs' : q0 = g := hs; omega)
  have hq2 : q0 < w2.heap.size := Nat.lt_of_lt_of_le (hO1.lt q0 rfl).2 hKs.size
  rw [hw2]
  clear hw2 hKs hK1 g1 c0_ f0_ c1_ f1_ hra hO1 hu hz0 hz1 hz2
  apply wp_label
  have k2_ : (2 : Int) ≤ (l.length : Int) := by have := HLEN.out; omega
  have r_ : w2.cell? ⟨g, 0, none⟩ = some (.slice (some ⟨q0, 0, none⟩) l.length cap0) := (blk_cell gD2 0).trans rfl
  go_wp2_with fail
  refine (number_ok2 hB2 hbl HL.out hcap (by have := HLEN.out; omega)).mono ?_
  rintro e w3 ⟨rfl, hb23⟩
  rw [HN.out]
  have gD3 := below_old hb23 gD2
  have hB3 := hB2.below hb23
  have hK3 : Kept (fun i => i = g) w w3 := hK2.then hb23
  have hq3 : q0 < w3.heap.size := Nat.lt_of_lt_of_le hq2 hb23.size
  clear r_ gD2 hB2 hK2 hb23 hq2
  have r_ : w3.cell? ⟨g, 0, none⟩ = some (.slice (some ⟨q0, 0, none⟩) l.length cap0) := (blk_cell gD3 0).trans rfl
  have b4_ : w3.cell? ⟨q0, 4, none⟩ = some (.int .u8 k) := by
    obtain ⟨a, e, hcs⟩ := hB3 (by have := HLEN.out; omega)
    cases e
    have := hcs 4 k (by rw [HL.out]; rfl)
    simpa [Addr.add_mid] using this
  have k4_ : ¬ (4096 : Int) < (body.length : Int) := by omega
  have k5_ : (5 : Int) ≤ (l.length : Int) := by have := HLEN.out; omega
  have k6_ : (4 : Int) < (l.length : Int) := by omega
  have k7_ : ¬ k < 1 := by omega
  have k8_ : ¬ (4 : Int) < k := by omega
  obtain ⟨m, hm, e1_, e2_, e3_, e4_, e5_, e6_, e7_, e8_, e9_, e10_, e11_⟩ := nums5 body.length l.length cap0 hbb HLEN.out hcap
  have HM := Sh.mk (And.intro hm (And.intro e1_ (And.intro e3_ (And.intro e4_ (And.intro e5_ (And.intro e6_ (And.intro e7_ (And.intro e8_ (And.intro e9_ e10_)))))))))
  clear hm e1_ e3_ e4_ e5_ e6_ e7_ e8_ e9_ e10_
  go_upto_region 13 with (fail)
  · exfalso
    have := HLEN.out
    omega
  have hdr5 : ∀ W, Bytes W (some ⟨q0, 0, none⟩) l → Bytes W (if cap0 = 5 then some ⟨q0, 0, none⟩ else some ⟨q0, 5, none⟩) body := fun W gB => by
    have := gB.drop (c := cap0) 5 hcap
    rw [HL.out] at this
    simpa [Addr.add_mid] using this
  have hdr2 : ∀ W, Bytes W (some ⟨q0, 0, none⟩) l → Bytes W (some ⟨q0, 2, none⟩) (l.drop 2) := fun W gB => by
    have := gB.drop (c := cap0) 2 hcap
    rw [if_neg (by omega)] at this
    simpa [Addr.add_mid] using this
  obtain ⟨A5, hA5⟩ : ∃ A5, (if cap0 = 5 then some (⟨q0, 0, none⟩ : Addr) else some ⟨q0, 5, none⟩) = A5 := ⟨_, rfl⟩
  rw [hA5] at hdr5
  have hA5b : ∀ a, A5 = some a → a.block = q0 := fun a e => by
    rw [← hA5] at e
    split at e <;> (cases e; rfl)
  have HD5 := Sh.mk hdr5
  have HD2 := Sh.mk hdr2
  have HA5 := Sh.mk hA5b
  have j1_ := HM.out.2.1
  have j3_ := HM.out.2.2.1
  have j4_ := HM.out.2.2.2.1
  have j6_ := HM.out.2.2.2.2.2.1
  have j7_ := HM.out.2.2.2.2.2.2.1
  have j8_ := HM.out.2.2.2.2.2.2.2.1
  have j9_ := HM.out.2.2.2.2.2.2.2.2.1
  have n2_ : ¬ cap0 = 2 := by omega
  have kw_ := wrap_small hk
  have n3_ : (2 : Int) ≤ (l.length : Int) := k2_
  have Sof : ∀ W, W.heap[g]? = some (DO (.slice (some ⟨q0, 0, none⟩) l.length cap0) false) → Bytes W (some ⟨q0, 0, none⟩) l → (W.cell? ⟨g, 0, none⟩ = some (.slice (some ⟨q0, 0, none⟩) l.length cap0) ∧ W.cell? ⟨q0, 4, none⟩ = some (.int .u8 k)) := fun W hd hb => ⟨(blk_cell hd 0).trans rfl, by
    obtain ⟨a, e, hcs⟩ := hb (by have := HLEN.out; omega)
    cases e
    have := hcs 4 k (by rw [HL.out]; rfl)
    simpa [Addr.add_mid] using this⟩
  have SOF := Sh.mk Sof
  clear hdr5 hdr2 hA5b Sof e2_ e11_ r_ b4_
  refine start_ (n := 26) (S := fun w' => w'.cell? ⟨g, 0, none⟩ = some (.slice (some ⟨q0, 0, none⟩) l.length cap0) ∧ w'.cell? ⟨q0, 4, none⟩ = some (.int .u8 k)) (ds := []) #[false, false, false, false, false, false, false, false, false, false, false, false, false, false, false, false, false, false, false, false, false, false, false, false, false, false] (by kernel_rfl) rfl rfl (SOF.out _ gD3 hB3) (fun hHeld => ?_)
  have gD4 : w3.drew.heap[g]? = some (DO (.slice (some ⟨q0, 0, none⟩) l.length cap0) false) := gD3
  have hB4 : Bytes w3.drew (some ⟨q0, 0, none⟩) l := hB3
  have hK4 : Kept (fun i => i = g) w w3.drew := hK3.drew
  have hq4 : q0 < w3.drew.heap.size := hq3
  generalize w3.drew = w4 at gD4 hB4 hK4 hq4 hHeld ⊢
  clear gD3 hB3 hK3 hq3
  refine pure_ (i := 0) (N := some 64) (v := ?_) (a' := ?_) #[true, false, false, false, false, false, false, false, false, false, false, false, false, false, false, false, false, false, false, false, false, false, false, false, false, false] rfl rfl (by kernel_rfl) (fun _ _ _ h => h) (Or.inl ⟨by rfl, ?_⟩) ?_ ?_
  rotate_left
  · intro w'
    go_simp
    with_reducible rfl
  rotate_left
  · simp only [Act.put, List.setIfInBounds_toArray, List.set_cons_zero, List.set_cons_succ]
    rfl
  refine pure_ (i := 1) (N := some 65) (v := ?_) (a' := ?_) #[true, true, false, false, false, false, false, false, false, false, false, false, false, false, false, false, false, false, false, false, false, false, false, false, false, false] rfl rfl (by kernel_rfl) (fun _ _ _ h => h) (Or.inl ⟨by rfl, ?_⟩) ?_ ?_
  rotate_left
  · intro w'
    go_simp
    with_reducible rfl
  rotate_left
  · simp only [Act.put, List.setIfInBounds_toArray, List.set_cons_zero, List.set_cons_succ]
    rfl
  refine pure_ (i := 2) (N := some 66) (v := ?_) (a' := ?_) #[true, true, true, false, false, false, false, false, false, false, false, false, false, false, false, false, false, false, false, false, false, false, false, false, false, false] rfl rfl (by kernel_rfl) (fun _ _ _ h => h) (Or.inl ⟨by rfl, ?_⟩) ?_ ?_
  rotate_left
  · intro w'
    go_simp
    with_reducible rfl
  rotate_left
  · simp only [Act.put, List.setIfInBounds_toArray, List.set_cons_zero, List.set_cons_succ]
    rfl
  refine pure_ (i := 3) (N := some 67) (v := ?_) (a' := ?_) #[true, true, true, true, false, false, false, false, false, false, false, false, false, false, false, false, false, false, false, false, false, false, false, false, false, false] rfl rfl (by kernel_rfl) (fun _ _ _ h => h) (Or.inl ⟨by rfl, ?_⟩) ?_ ?_
  rotate_left
  · intro w'
    go_simp
    with_reducible rfl
  rotate_left
  · simp only [Act.put, List.setIfInBounds_toArray, List.set_cons_zero, List.set_cons_succ]
    rfl
  refine take_ (i := 4) (N := some 68) (v := ?_) (a' := ?_) #[true, true, true, true, true, false, false, false, false, false, false, false, false, false, false, false, false, false, false, false, false, false, false, false, false, false] rfl rfl (by kernel_rfl) (fun _ _ _ h => h) (Or.inl ⟨by rfl, ?_⟩) hHeld ?_ ?_
  rotate_left
  · rintro w' ⟨s0, s1⟩
    go_simp
    with_reducible rfl
  rotate_left
  · simp only [Act.put, List.setIfInBounds_toArray, List.set_cons_zero, List.set_cons_succ]
    rfl
  refine pure_ (i := 5) (N := some 69) (v := ?_) (a' := ?_) #[true, true, true, true, true, true, false, false, false, false, false, false, false, false, false, false, false, false, false, false, false, false, false, false, false, false] rfl rfl (by kernel_rfl) (fun _ _ _ h => h) (Or.inl ⟨by rfl, ?_⟩) ?_ ?_
  rotate_left
  · intro w'
    go_simp
    with_reducible rfl
  rotate_left
  · simp only [Act.put, List.setIfInBounds_toArray, List.set_cons_zero, List.set_cons_succ]
    rfl
  refine pure_ (i := 7) (N := some 71) (v := ?_) (a' := ?_) #[true, true, true, true, true, true, false, true, false, false, false, false, false, false, false, false, false, false, false, false, false, false, false, false, false, false] rfl rfl (by kernel_rfl) (fun _ _ _ h => h) (Or.inl ⟨by rfl, ?_⟩) ?_ ?_
  rotate_left
  · intro w'
    go_simp
    with_reducible rfl
  rotate_left
  · simp only [Act.put, List.setIfInBounds_toArray, List.set_cons_zero, List.set_cons_succ]
    rfl
  refine pure_ (i := 8) (N := some 72) (v := ?_) (a' := ?_) #[true, true, true, true, true, true, false, true, true, false, false, false, false, false, false, false, false, false, false, false, false, false, false, false, false, false] rfl rfl (by kernel_rfl) (fun _ _ _ h => h) (Or.inl ⟨by rfl, ?_⟩) ?_ ?_
  rotate_left
  · intro w'
    go_simp
    with_reducible rfl
  rotate_left
  · simp only [Act.put, List.setIfInBounds_toArray, List.set_cons_zero, List.set_cons_succ]
    rfl
  refine pure_ (i := 9) (N := some 73) (v := ?_) (a' := ?_) #[true, true, true, true, true, true, false, true, true, true, false, false, false, false, false, false, false, false, false, false, false, false, false, false, false, false] rfl rfl (by kernel_rfl) (fun _ _ _ h => h) (Or.inl ⟨by rfl, ?_⟩) ?_ ?_
  rotate_left
  · intro w'
    go_simp
    with_reducible rfl
  rotate_left
  · simp only [Act.put, List.setIfInBounds_toArray, List.set_cons_zero, List.set_cons_succ]
    rfl
  refine take_ (i := 10) (N := some 74) (v := ?_) (a' := ?_) #[true, true, true, true, true, true, false, true, true, true, true, false, false, false, false, false, false, false, false, false, false, false, false, false, false, false] rfl rfl (by kernel_rfl) (fun _ _ _ h => h) (Or.inl ⟨by rfl, ?_⟩) hHeld ?_ ?_
  rotate_left
  · rintro w' ⟨s0, s1⟩
    go_simp
    with_reducible rfl
  rotate_left
  · simp only [Act.put, List.setIfInBounds_toArray, List.set_cons_zero, List.set_cons_succ]
    rfl
  refine pure_ (i := 11) (N := some 75) (v := ?_) (a' := ?_) #[true, true, true, true, true, true, false, true, true, true, true, true, false, false, false, false, false, false, false, false, false, false, false, false, false, false] rfl rfl (by kernel_rfl) (fun _ _ _ h => h) (Or.inl ⟨by rfl, ?_⟩) ?_ ?_
  rotate_left
  · intro w'
    go_simp
    with_reducible rfl
  rotate_left
  · simp only [Act.put, List.setIfInBounds_toArray, List.set_cons_zero, List.set_cons_succ]
    rfl
  refine take_ (i := 12) (N := some 76) (v := ?_) (a' := ?_) #[true, true, true, true, true, true, false, true, true, true, true, true, true, false, false, false, false, false, false, false, false, false, false, false, false, false] rfl rfl (by kernel_rfl) (fun _ _ _ h => h) (Or.inl ⟨by rfl, ?_⟩) hHeld ?_ ?_
  rotate_left
  · rintro w' ⟨s0, s1⟩
    go_simp
    with_reducible rfl
  rotate_left
  · simp only [Act.put, List.setIfInBounds_toArray, List.set_cons_zero, List.set_cons_succ]
    rfl
  refine pure_ (i := 13) (N := some 77) (v := ?_) (a' := ?_) #[true, true, true, true, true, true, false, true, true, true, true, true, true, true, false, false, false, false, false, false, false, false, false, false, false, false] rfl rfl (by kernel_rfl) (fun _ _ _ h => h) (Or.inl ⟨by rfl, ?_⟩) ?_ ?_
  rotate_left
  · intro w'
    go_simp
    with_reducible rfl
  rotate_left
  · simp only [Act.put, List.setIfInBounds_toArray, List.set_cons_zero, List.set_cons_succ]
    rfl
  refine pure_ (i := 14) (N := some 78) (v := ?_) (a' := ?_) #[true, true, true, true, true, true, false, true, true, true, true, true, true, true, true, false, false, false, false, false, false, false, false, false, false, false] rfl rfl (by kernel_rfl) (fun _ _ _ h => h) (Or.inl ⟨by rfl, ?_⟩) ?_ ?_
  rotate_left
  · intro w'
    go_simp
    with_reducible rfl
  rotate_left
  · simp only [Act.put, List.setIfInBounds_toArray, List.set_cons_zero, List.set_cons_succ]
    rfl
  refine pure_ (i := 15) (N := some 79) (v := ?_) (a' := ?_) #[true, true, true, true, true, true, false, true, true, true, true, true, true, true, true, true, false, false, false, false, false, false, false, false, false, false] rfl rfl (by kernel_rfl) (fun _ _ _ h => h) (Or.inl ⟨by rfl, ?_⟩) ?_ ?_
  rotate_left
  · intro w'
    go_simp
    with_reducible rfl
  rotate_left
  · simp only [Act.put, List.setIfInBounds_toArray, List.set_cons_zero, List.set_cons_succ]
    rfl
  refine pure_ (i := 16) (N := some 80) (v := ?_) (a' := ?_) #[true, true, true, true, true, true, false, true, true, true, true, true, true, true, true, true, true, false, false, false, false, false, false, false, false, false] rfl rfl (by kernel_rfl) (fun _ _ _ h => h) (Or.inl ⟨by rfl, ?_⟩) ?_ ?_
  rotate_left
  · intro w'
    go_simp
    with_reducible rfl
  rotate_left
  · simp only [Act.put, List.setIfInBounds_toArray, List.set_cons_zero, List.set_cons_succ]
    rfl
  refine take_ (i := 17) (N := some 81) (v := ?_) (a' := ?_) #[true, true, true, true, true, true, false, true, true, true, true, true, true, true, true, true, true, true, false, false, false, false, false, false, false, false] rfl rfl (by kernel_rfl) (fun _ _ _ h => h) (Or.inl ⟨by rfl, ?_⟩) hHeld ?_ ?_
  rotate_left
  · rintro w' ⟨s0, s1⟩
    go_simp
    with_reducible rfl
  rotate_left
  · simp only [Act.put, List.setIfInBounds_toArray, List.set_cons_zero, List.set_cons_succ]
    rfl
  refine pure_ (i := 18) (N := some 82) (v := ?_) (a' := ?_) #[true, true, true, true, true, true, false, true, true, true, true, true, true, true, true, true, true, true, true, false, false, false, false, false, false, false] rfl rfl (by kernel_rfl) (fun _ _ _ h => h) (Or.inl ⟨by rfl, ?_⟩) ?_ ?_
  rotate_left
  · intro w'
    go_simp
    with_reducible rfl
  rotate_left
  · simp only [Act.put, List.setIfInBounds_toArray, List.set_cons_zero, List.set_cons_succ]
    rfl
  refine pure_ (i := 19) (N := some 83) (v := ?_) (a' := ?_) #[true, true, true, true, true, true, false, true, true, true, true, true, true, true, true, true, true, true, true, true, false, false, false, false, false, false] rfl rfl (by kernel_rfl) (fun _ _ _ h => h) (Or.inl ⟨by rfl, ?_⟩) ?_ ?_
  rotate_left
  · intro w'
    go_simp
    with_reducible rfl
  rotate_left
  · simp only [Act.put, List.setIfInBounds_toArray, List.set_cons_zero, List.set_cons_succ]
    rfl
  refine pure_ (i := 20) (N := some 84) (v := ?_) (a' := ?_) #[true, true, true, true, true, true, false, true, true, true, true, true, true, true, true, true, true, true, true, true, true, false, false, false, false, false] rfl rfl (by kernel_rfl) (fun _ _ _ h => h) (Or.inl ⟨by rfl, ?_⟩) ?_ ?_
  rotate_left
  · intro w'
    go_simp
    with_reducible rfl
  rotate_left
  · simp only [Act.put, List.setIfInBounds_toArray, List.set_cons_zero, List.set_cons_succ]
    rfl
  refine one_call (i := 6) (N := some 70) 35 #[.slice (some ⟨q0, 2, none⟩) (l.length - 2) (cap0 - 2)] #[true, true, true, true, true, true, true, true, true, true, true, true, true, true, true, true, true, true, true, true, true, false, false, false, false, false] rfl rfl (by kernel_rfl) (by decide) (by rfl) (by go_simp) ?_
  rw [← List.length_drop]
  refine (number_ok2 (HD2.out _ hB4) (fun y hy => hbl y (List.mem_of_mem_drop hy)) (show l.drop 2 = i0 :: i1 :: k :: body by rw [HL.out]; rfl) (by rw [List.length_drop]; omega) (by rw [List.length_drop]; have := HLEN.out; omega)).mono ?_
  rintro e w5 ⟨rfl, hb45⟩
  have gD5 := below_old hb45 gD4
  have hB5 := hB4.below hb45
  have hK5 : Kept (fun i => i = g) w w5 := hK4.then hb45
  have hq5 : q0 < w5.heap.size := Nat.lt_of_lt_of_le hq4 hb45.size
  refine ⟨_, rfl, SOF.out _ gD5 hB5, ?_⟩
  simp only [Act.put, List.setIfInBounds_toArray, List.set_cons_zero, List.set_cons_succ]
  rw [List.length_drop]
  clear gD4 hB4 hK4 hq4 hb45 hHeld
  refine one_call (i := 21) (N := some 85) 39 #[.slice A5 body.length (cap0 - 5)] #[true, true, true, true, true, true, true, true, true, true, true, true, true, true, true, true, true, true, true, true, true, true, false, false, false, false] rfl rfl (by kernel_rfl) (by decide) (by rfl) (by go_simp) ?_
  refine (bytes_Clone.calls A5 (cap0 - 5) body body w5 ((HD5.out _ hB5).C (by omega)) (by have := HLEN.out; omega) (by unfold bytes_Clone.f; rw [if_pos (by omega)])).mono ?_
  rintro e w6 ⟨v0, rfl, hR, hb56⟩
  obtain ⟨A2, c2, rfl, hc2, hBd6, hA6⟩ := R_bytes' hR
  have hA2 : ∀ a, A2 = some a → g < a.block ∧ a.block < w6.heap.size := fun a e => by
    have := hA6 a e
    have := hK5.size
    omega
  have gD6 := below_old hb56 gD5
  have hB6 := hB5.below hb56
  have hK6 : Kept (fun i => i = g) w w6 := hK5.then hb56
  refine ⟨_, rfl, SOF.out _ gD6 hB6, ?_⟩
  simp only [Act.put, List.setIfInBounds_toArray, List.set_cons_zero, List.set_cons_succ]
  clear gD5 hB5 hK5 hq5 hb56 hR hA6
  refine pure_ (i := 22) (N := some 86) (v := ?_) (a' := ?_) #[true, true, true, true, true, true, true, true, true, true, true, true, true, true, true, true, true, true, true, true, true, true, true, false, false, false] rfl rfl (by kernel_rfl) (fun _ _ _ h => h) (Or.inl ⟨by rfl, ?_⟩) ?_ ?_
  rotate_left
  · intro w'
    go_simp
    with_reducible rfl
  rotate_left
  · simp only [Act.put, List.setIfInBounds_toArray, List.set_cons_zero, List.set_cons_succ]
    rfl
  have hal : Below w6.heap.size w6 (w6.alloc (.cells #[.int .i64 (256 * i0 + i1), .int .i64 k, .slice A2 body.length c2] 28)) := (Below.refl _ _).alloc (Nat.le_refl _) _
  have gD7 := below_old hal gD6
  have hB7 := hB6.below hal
  have gN7 : (w6.alloc (.cells #[.int .i64 (256 * i0 + i1), .int .i64 k, .slice A2 body.length c2] 28)).heap[w6.heap.size]? = some (.cells #[.int .i64 (256 * i0 + i1), .int .i64 k, .slice A2 body.length c2] 28 (0, 0)) := heap_alloc_new _ _
  refine one_val (i := 23) (N := some 87) (v := .slice (some ⟨w6.heap.size, 0, none⟩) 1 1) (w' := w6.alloc (.cells #[.int .i64 (256 * i0 + i1), .int .i64 k, .slice A2 body.length c2] 28)) (a' := ?_) #[true, true, true, true, true, true, true, true, true, true, true, true, true, true, true, true, true, true, true, true, true, true, true, true, false, false] rfl rfl (by kernel_rfl) (by decide) (by rfl) (by go_simp) (SOF.out _ gD7 hB7) ?_ ?_
  rotate_left
  · simp only [Act.put, List.setIfInBounds_toArray, List.set_cons_zero, List.set_cons_succ]
    rfl
  obtain ⟨w7, hw7⟩ : ∃ w7, w6.alloc (.cells #[.int .i64 (256 * i0 + i1), .int .i64 k, .slice A2 body.length c2] 28) = w7 := ⟨_, rfl⟩
  obtain ⟨b7, hb7⟩ : ∃ b7, w6.heap.size = b7 := ⟨_, rfl⟩
  have hBd7 := hBd6.below hal
  have hK7 : Kept (fun i => i = g) w w7 := by rw [← hw7]; exact hK6.then hal
  have hs67 : w6.heap.size ≤ w7.heap.size := by rw [← hw7]; simp
  rw [hw7] at hBd7 gD7 hB7 gN7 ⊢
  rw [hb7] at gN7 hA2 hs67 ⊢
  clear hw7 hb7 hal gD6 hB6 hK6 hBd6
  obtain ⟨iu, hu, hz0, hz1, hz2⟩ := info_parts infoFrm
  have hnews : ∀ (j : Nat) (u : Value), [.int .i64 (256 * i0 + i1), .int .i64 k, .slice A2 body.length c2][j]? = some u → w7.cell? ((⟨b7, 0, none⟩ : Addr).add j) = some u := fun j u hu => by
    rw [Addr.add_mid, Nat.zero_add, blk_cell gN7 j]
    simpa using hu
  obtain ⟨v', w8, hra, hO8, hge, -, hnew⟩ := Go.Proofs.Ytgnepppncmjagaa.Ow.run_append (P := Try.prog) w7 w7.heap.size 48 48 28 iu (.agg #[.int .i64 0, .int .i64 0, .slice none 0 0]) 3 40 Try.underlying48 hu hz0 hz1 hz2 rfl (by decide) (.slice none 0 0) 0 [] (World.ownsRow_nil _ _ _ _) ⟨b7, 0, none⟩ 1 1 [.int .i64 (256 * i0 + i1), .int .i64 k, .slice A2 body.length c2] rfl hnews (by simp [Value.oneCell']) (by unfold maxLen; omega) (by omega) (Nat.le_refl _)
  rw [Nat.zero_add, List.nil_append] at hO8
  obtain ⟨q, cq, rfl⟩ := own_succ hO8
  have hK78 : Kept (fun _ => False) w7 w8 := (Hp.Kept.refl _ w7).grown hge (fun k e => by cases e)
  have gD8 := kept_old hK78 gD7 (fun e => e)
  have hB8 := hB7.kept hK78 (fun _ _ _ e => e)
  have hBd8 := hBd7.kept hK78 (fun _ _ _ e => e)
  have hq8 := hO8.lt q rfl
  have hrow : w8.rangeAt q 0 [.int .i64 (256 * i0 + i1), .int .i64 k, .slice A2 body.length c2] := fun j v hv => by
    have := hO8.cells (g := q) rfl j v hv
    rw [Addr.add_mid] at this
    exact this
  have hK8 : Kept (fun i => i = g) w w8 := hK7.trans hK78 (fun _ _ e => e.elim)
  refine one_val (i := 24) (N := some 88) (v := .slice (some ⟨q, 0, none⟩) 1 cq) (w' := w8) (a' := ?_) #[true, true, true, true, true, true, true, true, true, true, true, true, true, true, true, true, true, true, true, true, true, true, true, true, true, false] rfl rfl (by kernel_rfl) (by decide) (by rfl) (exec_append rfl (by rfl) (by rfl) hra) (SOF.out _ gD8 hB8) ?_ ?_
  rotate_left
  · simp only [Act.put, List.setIfInBounds_toArray, List.set_cons_zero, List.set_cons_succ]
    rfl
  refine pure_ (i := 25) (N := some 5) (v := ?_) (a' := ?_) #[true, true, true, true, true, true, true, true, true, true, true, true, true, true, true, true, true, true, true, true, true, true, true, true, true, true] rfl rfl (by kernel_rfl) (fun _ _ _ h => h) (Or.inl ⟨by rfl, ?_⟩) ?_ ?_
  rotate_left
  · intro w'
    go_simp
    with_reducible rfl
  rotate_left
  · simp only [Act.put, List.setIfInBounds_toArray, List.set_cons_zero, List.set_cons_succ]
    rfl
  refine done_ (by kernel_rfl) ?_
  have hqg : g < q := by have := hK7.size; have := hq8.1; omega
  have hs78 := hK78.size
  clear hnews hra hO8 hge hnew hK78 hu hz0 hz1 hz2 gD7 hB7 hBd7 gN7 hK7
  have HA2 : Sh (∀ a, A2 = some a → g < a.block ∧ a.block < w8.heap.size) := ⟨fun a e => by have := hA2 a e; have := hs78; omega⟩
  have HSTUFF := Sh.mk (And.intro hrow (And.intro hBd8 hK8))
  have HQ8 := Sh.mk (And.intro hqg hq8)
  have r_ : w8.cell? ⟨g, 0, none⟩ = some (.slice (some ⟨q0, 0, none⟩) l.length cap0) := (blk_cell gD8 0).trans rfl
  have rf_ := blk_frozen gD8 0
  clear hA2 hs67 hs78 hrow hBd8 hK8 hqg hq8 kw_ j1_ j9_ j8_ k2_ k4_ k5_ k6_ k7_ k8_ n2_ n3_
  go_wp2_with fail
  all_goals apply wp_goto
  all_goals
    generalize hw9 : w8.setCell _ _ = w9
    have hz : l.length - (5 + body.length) = 0 := by have := HLEN.out; omega
    have gD9 : ∃ X cc, w9.heap[g]? = some (DO (.slice X 0 cc) false) := ⟨_, _, by rw [← hw9, hz]; exact heap_set w8 g 0 _ gD8⟩
    have hK89 : Kept (fun i => i = g) w8 w9 := by rw [← hw9]; exact (Hp.Kept.refl (fun i => i = g) w8).setCell (p := ⟨g, 0, none⟩) (.inr rfl) _
    obtain ⟨X, cc, gD9⟩ := gD9
    have fin : ∃ q' cq' A2' c2', (Ending.returned (Value.slice (some ⟨q, 0, none⟩) 1 cq)) = .returned (.slice (some ⟨q', 0, none⟩) 1 cq') ∧ w9.rangeAt q' 0 [.int .i64 (256 * i0 + i1), .int .i64 k, .slice A2' body.length c2'] ∧ body.length ≤ c2' ∧ Bytes w9 A2' body ∧
      (0 < body.length → ∀ ad, A2' = some ad → ad.block < w9.heap.size) ∧ (∃ v, w9.heap[g]? = some (DO v false)) ∧ Kept (fun i => i = g) w w9 := by
      obtain ⟨k1, k2, k3⟩ := HSTUFF.out
      refine ⟨q, cq, A2, c2, rfl, fun j v hv => ?_, hc2, k2.kept hK89 (fun _ a e hs => by have := (HA2.out a e).1; omega), fun _ a e => Nat.lt_of_lt_of_le (HA2.out a e).2 hK89.size, ⟨_, gD9⟩, k3.trans hK89 (fun i _ e => e)⟩
      have h1 := k1 j v hv
      unfold World.cell? at h1 ⊢
      rw [show w9.heap[(⟨q, 0 + j, none⟩ : Addr).block]? = w8.heap[(⟨q, 0 + j, none⟩ : Addr).block]? from hK89.block q HQ8.out.2.2 (fun e => by have := HQ8.out.1; omega)]
      exact h1
    have FIN := Sh.mk fin
    clear hw9 gD8 hK89 fin hA5
    show Goto.GoTo _ _ _ _ 0 _ w9
    refine Goto.GoTo_walk rfl ?_
    refine wp_seq (wp_skip ?_)
    have r9_ : w9.cell? ⟨g, 0, none⟩ = some (.slice X 0 cc) := (blk_cell gD9 0).trans rfl
    go_wp2_with fail
    try rw [Goto.Jumps_ret]
    go_ret
    exact FIN.out
end Go.Proofs.Ytgnepppncmjagaa.Fr
