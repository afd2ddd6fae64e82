/- FrameAsks, walked. -/
import Derived.Test.YtgnepppncmjagaaFr3
import Derived.Test.YtgnepppncmjagaaFrA
import Derived.Test.YtgnepppncmjagaaPureReq
import Derived.Test.YtgnepppncmjagaaAlive
import Derived.Test.YtgnepppncmjagaaPrintF20
import Derived.Test.YtgnepppncmjagaaPrintF13
import Derived.Test.YtgnepppncmjagaaPrintF36
namespace Go.Proofs.Ytgnepppncmjagaa.Fr
open Go Go.RowKit Hp Rd Go.Proofs.YtgnepppncmjagaaW.PrintWords Go.Proofs.Ytgnepppncmjagaa.Print
theorem R_bytes {w : World} {base : Nat} {ok : Nat → Prop} {v : Value} {l : List Int} (h : Kd.R (Kd.int .u8) 5 w base ok v l) : ∃ A c, v = .slice A l.length c ∧ l.length ≤ c ∧ Bytes w A l := by
  obtain ⟨ho, -⟩ := R_row h
  rcases ho.2 with ⟨e, h0⟩ | ⟨g, cap, cur, e, _, _, hnc, _, _⟩
  · have : l = [] := List.eq_nil_of_length_eq_zero h0
    subst this
    exact ⟨none, 0, e, Nat.le_refl _, Bytes.nil _ _⟩
  · rw [e] at ho
    exact ⟨_, _, e, hnc, Bytes.own ho⟩
theorem rl_len : ∀ (k : Nat) (l : List Int) (fs r : List (List Int)), rl k l fs = some r → r.length ≤ fs.length + l.length
  | 0, l, fs, r, h => by
    unfold rl at h
    split at h
    · cases h
    · cases h; omega
  | _ + 1, [], _, _, h => by cases h
  | k + 1, x :: l, fs, r, h => by
    rw [rl_cons] at h
    split at h
    · cases h
    · have := rl_len k _ _ _ h
      simp at this ⊢
      omega
theorem refd_len {id kind : Int} {l : List Int} {a : List Int} {b : Int} {fs : List (List Int)} (h : refd id kind l = some (a, b, fs)) : fs.length ≤ l.length := by
  unfold refd at h
  split at h
  · rename_i b0 b1 b2 b3 r
    split at h
    · cases h
    · split at h
      · cases h
      · rename_i h2
        split at h
        · cases h
        · rename_i c s hd
          rw [Option.map_eq_some_iff] at h
          obtain ⟨fs', h3, h4⟩ := h
          cases h4
          have h5 := rl_len _ _ _ _ h3
          have h6 := congrArg List.length hd
          rw [List.length_drop] at h6
          simp at h5 h6 ⊢
          omega
  · cases h
/-- What a request is told as, in one form. -/
def reqv (id : Int) : Option (List Int × Int × List (List Int)) → Int × ByteArray × Bool × Bool × Bool × List ByteArray × Int
  | none => (0, ⟨#[]⟩, false, false, false, [], 231)
  | some (sc, b, fs) => (id, strOfNums sc, b % 2 == 1, b / 2 % 2 == 1, b / 4 == 1, fs.map strOfNums, 0)
theorem ReqIs.one {id : Int} {r : Option (List Int × Int × List (List Int))} {e : Ending} {w' : World} (h : ReqIs id r e w') (hl : ∀ a b fs, r = some (a, b, fs) → fs.length ≤ 1000000000) :
    ∃ i2 s2 q2 x2 y2 fs er, reqv id r = (i2, s2, q2, x2, y2, fs, er) ∧ ∃ A c, e = .returned (.tuple #[.agg #[.int .i64 i2, .string s2, .bool q2, .bool x2, .bool y2, .slice A fs.length c], .int .i64 er]) ∧ fs.length ≤ c ∧ Kd.C Kd.string w' A fs.length fs ∧ fs.length ≤ 1000000000 := by
  match r, h, hl with
  | none, h, _ => exact ⟨_, _, _, _, _, _, _, rfl, none, 0, h, Nat.le_refl _, strs_C (fun h => absurd h (by simp)) (by simp), by simp⟩
  | some (sc, b, fs), ⟨A, c, he, hc, hs⟩, hl =>
    have := hl _ _ _ rfl
    refine ⟨_, _, _, _, _, _, _, rfl, A, c, by rw [he]; simp, by simpa using hc, ?_, by simpa using this⟩
    have h2 := strs_C hs (by simp; omega)
    exact h2
theorem sames_l0 (l : List ByteArray) (hl : l.length ≤ 1000000000) : ∀ (m j : Nat), j + m = l.length → headgateref16_Same.l0 (m + 1) l l (j : Int) = some true := by
  intro m
  induction m with
  | zero =>
    intro j hj
    unfold headgateref16_Same.l0
    rw [if_neg (by omega)]
  | succ m ih =>
    intro j hj
    unfold headgateref16_Same.l0
    rw [if_pos (by omega), if_pos (by omega), if_pos (by omega), if_pos rfl, show wrap64 ((j : Int) + 1) = ((j + 1 : Nat) : Int) by unfold wrap64; omega]
    exact ih (j + 1) (by omega)
theorem same_self (id : Int) (s : ByteArray) (q x i : Bool) (l : List ByteArray) (hl : l.length ≤ 1000000000) : headgatelaw23_same.f (l.length + 1) id s q x i l id s q x i l = some true := by
  have h : headgateref16_Same.f (l.length + 1) l l = some true := by
    unfold headgateref16_Same.f
    rw [if_pos rfl]
    exact sames_l0 l hl l.length 0 (by omega)
  unfold headgatelaw23_same.f
  rw [h]
  simp
theorem rq_len (id : Int) : ∀ (ps : List ByteArray) (acc : List Int), (rq id acc ps).2.2.1.length ≤ 4096
  | [], acc => by
    unfold rq
    split
    · rename_i h; exact h.2.2
    · simp
  | p :: ps, acc => by
    unfold rq
    split
    · simp
    · exact rq_len id ps _
theorem reqd_len (id : Int) (s : ByteArray) (q x i : Bool) (files : List ByteArray) (_h : fewd s files) : (reqd id s q x i files).2.2.1.length ≤ 4096 := by
  unfold reqd
  split
  · simp
  · exact rq_len _ _ _
theorem sizeFrm : (Try.prog.info? 28).map (·.size) = some 3 := by kernel_rfl
theorem sizeRef : (Try.prog.info? 29).map (·.size) = some 3 := by kernel_rfl
set_option maxHeartbeats 4000000 in
set_option maxRecDepth 100000 in
theorem frameAsks_calls (v0 v1 : Value) (W : World) (a0 : Arg Try.prog W 36 v0) (a1 : Arg Try.prog W 37 v1) : Calls Try.prog 4 #[v0, v1] W fun e w' => e = .returned (.bool true) ∧ Below W.heap.size W w' := by
  obtain ⟨id, s, q, x, y, A, fl, c, rfl, hc, hC⟩ := arg_req a0
  obtain ⟨id2, k2, B, l, d, rfl, hd, hB, hbl, hA⟩ := arg_frame a1
  clear a0 a1
  go_enter Try.func4, Try.ntmps4
  obtain ⟨fb, hfb⟩ : ∃ fb, W.heap.size = fb := ⟨_, rfl⟩
  go_upto_region 1 with (fail)
  obtain ⟨wA, hwA⟩ : ∃ wA, ((W.alloc (.cells #[.int .i64 id, .string s, .bool q, .bool x, .bool y, .slice A fl.length c] 36)).alloc (.cells #[.int .i64 id2, .int .i64 k2, .slice B l.length d] 37)) = wA := ⟨_, rfl⟩
  have hb1 : wA.heap[fb]? = some (.cells #[.int .i64 id, .string s, .bool q, .bool x, .bool y, .slice A fl.length c] 36 (0, 0)) := by
    rw [← hwA, ← hfb]
    exact (Below.heap_alloc _ _ _ (by simp)).trans (heap_alloc_new W _)
  have hb2 : wA.heap[fb + 1]? = some (.cells #[.int .i64 id2, .int .i64 k2, .slice B l.length d] 37 (0, 0)) := by
    rw [← hwA, ← hfb]
    have := heap_alloc_new (W.alloc (.cells #[.int .i64 id, .string s, .bool q, .bool x, .bool y, .slice A fl.length c] 36)) (.cells #[.int .i64 id2, .int .i64 k2, .slice B l.length d] 37)
    rw [World.size_alloc] at this
    exact this
  have hBw : Below W.heap.size W wA := by rw [← hwA]; exact ((Below.refl _ _).alloc (Nat.le_refl _) _).alloc (by simp) _
  rw [hwA]
  clear hwA
  have HFB := Sh.mk hfb
  clear hfb
  have hCA := Kd.C_below hC hBw
  have hld := run_loadAt_mid (P := Try.prog) wA fb 0 36 [.int .i64 id, .string s, .bool q, .bool x, .bool y, .slice A fl.length c] _ (Rw.blk_range hb1) Try.underlying36 rfl sizeReq
  go_wp2_with ((with_reducible refine Rw.at_slot 16 ?_); refine Rw.wpList_get rfl 36 (.tmp 2) rfl rfl hld ?_)
  refine (headgatelaw23_few.calls 400 id s q x y A c fl _ wA hCA hc (few_eq id s q x y fl)).mono ?_
  rintro e w1 ⟨rfl, hbe⟩
  have g1 := below_old hbe hb1
  have g2 := below_old hbe hb2
  have gBw := hBw.trans (hbe.mono hBw.size)
  clear hld hb1 hb2 hBw hCA hbe
  have c2_ : w1.cell? ⟨fb + 1, 2, none⟩ = some (.slice B l.length d) := (blk_cell g2 2).trans rfl
  have quit : ∀ (w2 : World), Below W.heap.size W w2 → Calls Try.prog 10 #[] w2 fun e w' => e = .returned (.bool true) ∧ Below W.heap.size W w' := fun w2 hb => by
    refine (headgatelaw23_alive.calls 8 true w2 Go.Proofs.Ytgnepppncmjagaa.Ev.alive_f).mono ?_
    rintro e w' ⟨rfl, h⟩
    exact ⟨rfl, hb.trans (h.mono hb.size)⟩
  have QUIT := Sh.mk quit
  clear quit
  by_cases hfew : fewd s fl
  rotate_left
  · rw [decide_eq_false hfew]
    go_wp2_with fail
    refine (QUIT.out w1 gBw).mono ?_
    rintro e w' ⟨rfl, h⟩
    go_wp2_with fail
    go_ret
    exact ⟨rfl, h⟩
  rw [decide_eq_true hfew]
  by_cases hlong : (20000 : Int) < (l.length : Int)
  · go_wp2_with fail
    refine (QUIT.out w1 gBw).mono ?_
    rintro e w' ⟨rfl, h⟩
    go_wp2_with fail
    go_ret
    exact ⟨rfl, h⟩
  obtain ⟨r1, r2, r3, r4, hrq⟩ : ∃ r1 r2 r3 r4, reqd id s q x y fl = (r1, r2, r3, r4) := ⟨_, _, _, _, rfl⟩
  have hq1 := frame_req id s q x y fl hfew
  have hq2 := ref_req id s q x y fl hfew
  rw [hrq] at hq1 hq2
  have HR3 : Sh (r3.length ≤ 9223372036854775807) := ⟨by
    have := reqd_len id s q x y fl hfew
    rw [hrq] at this
    simp at this
    omega⟩
  have hCw := Kd.C_below hC gBw
  have hld := run_loadAt_mid (P := Try.prog) w1 fb 0 36 [.int .i64 id, .string s, .bool q, .bool x, .bool y, .slice A fl.length c] _ (Rw.blk_range g1) Try.underlying36 rfl sizeReq
  go_wp2_with ((with_reducible refine Rw.at_slot 28 ?_); refine Rw.wpList_get rfl 36 (.tmp 2) rfl rfl hld ?_)
  refine (frame_Request.calls 400 id s q x y A c fl r1 r2 r3 r4 w1 hCw hc hq1).mono ?_
  rintro e w2 ⟨v2, rfl, hR2, hb12⟩
  obtain ⟨A2, c2, rfl, hc2, hB2⟩ := R_bytes hR2
  have m1 := below_old hb12 g1
  have m2 := below_old hb12 g2
  have mBw := gBw.trans (hb12.mono gBw.size)
  clear hld g1 g2 gBw hCw c2_ hb12 hR2
  go_upto_region 5 with (fail)
  obtain ⟨w3, hw3⟩ : ∃ w3, w2.alloc (.cells #[.int .i64 r1, .int .i64 r2, .slice A2 r3.length c2] 28) = w3 := ⟨_, rfl⟩
  obtain ⟨b6, hb6⟩ : ∃ b6, w2.heap.size = b6 := ⟨_, rfl⟩
  have h23 : Below w2.heap.size w2 w3 := by rw [← hw3]; exact (Below.refl _ _).alloc (Nat.le_refl _) _
  have g1 := below_old h23 m1
  have g2 := below_old h23 m2
  have g6 : w3.heap[b6]? = some (.cells #[.int .i64 r1, .int .i64 r2, .slice A2 r3.length c2] 28 (0, 0)) := by rw [← hw3, ← hb6]; exact heap_alloc_new _ _
  have gB2 := hB2.below h23
  have gBw := mBw.trans (h23.mono mBw.size)
  rw [hw3, hb6]
  clear hw3 hb6 h23 m1 m2 hB2 mBw
  have hCw := Kd.C_below hC gBw
  have hld := run_loadAt_mid (P := Try.prog) w3 fb 0 36 [.int .i64 id, .string s, .bool q, .bool x, .bool y, .slice A fl.length c] _ (Rw.blk_range g1) Try.underlying36 rfl sizeReq
  go_wp2_with ((with_reducible refine Rw.at_slot 33 ?_); refine Rw.wpList_get rfl 36 (.tmp 2) rfl rfl hld ?_)
  refine (headgateref23_Request.calls 400 id s q x y A c fl r1 r2 r3 r4 w3 hCw hc hq2).mono ?_
  rintro e w4 ⟨v2, rfl, hR2, hb34⟩
  obtain ⟨A4, c4, rfl, hc4, hB4⟩ := R_bytes hR2
  have m1 := below_old hb34 g1
  have m2 := below_old hb34 g2
  have m6 := below_old hb34 g6
  have mB2 := gB2.below hb34
  have mBw := gBw.trans (hb34.mono gBw.size)
  clear hld g1 g2 g6 gB2 gBw hCw hb34 hR2
  go_upto_region 6 with (fail)
  obtain ⟨w5, hw5⟩ : ∃ w5, w4.alloc (.cells #[.int .i64 r1, .int .i64 r2, .slice A4 r3.length c4] 29) = w5 := ⟨_, rfl⟩
  obtain ⟨b8, hb8⟩ : ∃ b8, w4.heap.size = b8 := ⟨_, rfl⟩
  have h45 : Below w4.heap.size w4 w5 := by rw [← hw5]; exact (Below.refl _ _).alloc (Nat.le_refl _) _
  have g2 := below_old h45 m2
  have g6 := below_old h45 m6
  have g8 : w5.heap[b8]? = some (.cells #[.int .i64 r1, .int .i64 r2, .slice A4 r3.length c4] 29 (0, 0)) := by rw [← hw5, ← hb8]; exact heap_alloc_new _ _
  have gB2 := mB2.below h45
  have gB4 := hB4.below h45
  have gBw := mBw.trans (h45.mono mBw.size)
  rw [hw5, hb8]
  clear hw5 hb8 h45 m1 m2 m6 hB4 mBw mB2
  have c0_ : w5.cell? ⟨fb + 1, 0, none⟩ = some (.int .i64 id2) := (blk_cell g2 0).trans rfl
  have c1_ : w5.cell? ⟨fb + 1, 1, none⟩ = some (.int .i64 k2) := (blk_cell g2 1).trans rfl
  have c2_ : w5.cell? ⟨fb + 1, 2, none⟩ = some (.slice B l.length d) := (blk_cell g2 2).trans rfl
  have hBl : ∀ w', Below W.heap.size W w' → Bytes w' B l ∧ (0 < l.length → ∀ ad, B = some ad → ad.block < w'.heap.size) := fun w' h => ⟨hB.below h, fun h0 ad e => Nat.lt_of_lt_of_le (hA h0 ad e) h.size⟩
  have hll : l.length ≤ 20000 := by omega
  go_wp2_with fail
  refine (asked_ok id2 k2 (hBl w5 gBw).1 hbl hd (hBl w5 gBw).2 (by omega)).mono ?_
  rintro e w6 ⟨hq, hb56⟩
  rw [askd_refd hbl] at hq
  obtain ⟨ra, hra⟩ : ∃ ra, refd id2 k2 l = ra := ⟨_, rfl⟩
  have hlen : ∀ a b fs, ra = some (a, b, fs) → fs.length ≤ 1000000000 := fun a b fs e => by
    have := refd_len (hra.trans e)
    omega
  rw [hra] at hq
  have HRA := Sh.mk hra
  have HLEN := Sh.mk hlen
  obtain ⟨i2, s2, q2, x2, y2, fs, er, hreq, A6, c6, rfl, hc6, hC6, hfl⟩ := hq.one hlen
  clear hra hlen hq
  have m2 := below_old hb56 g2
  have m6 := below_old hb56 g6
  have m8 := below_old hb56 g8
  have mB2 := gB2.below hb56
  have mB4 := gB4.below hb56
  have mBw := gBw.trans (hb56.mono gBw.size)
  clear c0_ c1_ c2_ g2 g6 g8 gB2 gB4 gBw hb56
  go_upto_region 7 with (fail)
  obtain ⟨w7, hw7⟩ : ∃ w7, w6.alloc (.cells #[.int .i64 i2, .string s2, .bool q2, .bool x2, .bool y2, .slice A6 fs.length c6] 36) = w7 := ⟨_, rfl⟩
  obtain ⟨b10, hb10⟩ : ∃ b10, w6.heap.size = b10 := ⟨_, rfl⟩
  have h67 : Below w6.heap.size w6 w7 := by rw [← hw7]; exact (Below.refl _ _).alloc (Nat.le_refl _) _
  have g2 := below_old h67 m2
  have g6 := below_old h67 m6
  have g8 := below_old h67 m8
  have g10 : w7.heap[b10]? = some (.cells #[.int .i64 i2, .string s2, .bool q2, .bool x2, .bool y2, .slice A6 fs.length c6] 36 (0, 0)) := by rw [← hw7, ← hb10]; exact heap_alloc_new _ _
  have gB2 := mB2.below h67
  have gB4 := mB4.below h67
  have gC6 := Kd.C_below hC6 h67
  have gBw := mBw.trans (h67.mono mBw.size)
  rw [hw7, hb10]
  clear hw7 hb10 h67 m2 m6 m8 mB4 mBw mB2 hC6
  have c0_ : w7.cell? ⟨fb + 1, 0, none⟩ = some (.int .i64 id2) := (blk_cell g2 0).trans rfl
  have c1_ : w7.cell? ⟨fb + 1, 1, none⟩ = some (.int .i64 k2) := (blk_cell g2 1).trans rfl
  have c2_ : w7.cell? ⟨fb + 1, 2, none⟩ = some (.slice B l.length d) := (blk_cell g2 2).trans rfl
  go_wp2_with fail
  refine (refasked_ok id2 k2 (hBl w7 gBw).1 hbl hd (hBl w7 gBw).2 (by omega)).mono ?_
  rintro e w8 ⟨hq, hb78⟩
  rw [HRA.out] at hq
  obtain ⟨i3, s3, q3, x3, y3, fs3, er3, hreq3, A8, c8, rfl, hc8, hC8, -⟩ := hq.one HLEN.out
  rw [hreq] at hreq3
  cases hreq3
  clear hq hreq
  have m6 := below_old hb78 g6
  have m8 := below_old hb78 g8
  have m10 := below_old hb78 g10
  have mB2 := gB2.below hb78
  have mB4 := gB4.below hb78
  have mC6 := Kd.C_below gC6 hb78
  have mBw := gBw.trans (hb78.mono gBw.size)
  clear c0_ c1_ c2_ g2 g6 g8 g10 gB2 gB4 gBw hb78 gC6
  go_upto_region 8 with (fail)
  obtain ⟨w9, hw9⟩ : ∃ w9, w8.alloc (.cells #[.int .i64 i2, .string s2, .bool q2, .bool x2, .bool y2, .slice A8 fs.length c8] 36) = w9 := ⟨_, rfl⟩
  obtain ⟨b12, hb12⟩ : ∃ b12, w8.heap.size = b12 := ⟨_, rfl⟩
  have h89 : Below w8.heap.size w8 w9 := by rw [← hw9]; exact (Below.refl _ _).alloc (Nat.le_refl _) _
  have g6 := below_old h89 m6
  have g8 := below_old h89 m8
  have g10 := below_old h89 m10
  have g12 : w9.heap[b12]? = some (.cells #[.int .i64 i2, .string s2, .bool q2, .bool x2, .bool y2, .slice A8 fs.length c8] 36 (0, 0)) := by rw [← hw9, ← hb12]; exact heap_alloc_new _ _
  have gB2 := mB2.below h89
  have gB4 := mB4.below h89
  have gC6 := Kd.C_below mC6 h89
  have gC8 := Kd.C_below hC8 h89
  have gBw := mBw.trans (h89.mono mBw.size)
  rw [hw9, hb12]
  clear hw9 hb12 h89 m6 m8 m10 mB4 mBw mB2 hC8 mC6
  have c6_ : w9.cell? ⟨b6, 2, none⟩ = some (.slice A2 r3.length c2) := (blk_cell g6 2).trans rfl
  have c8_ : w9.cell? ⟨b8, 2, none⟩ = some (.slice A4 r3.length c4) := (blk_cell g8 2).trans rfl
  have hr3 : r3.length ≤ 9223372036854775807 := HR3.out
  go_wp2_with fail
  refine (headgateref02_Same.calls A2 c2 r3 A4 c4 r3 true w9 (gB2.C hr3) hc2 (gB4.C hr3) hc4 (by unfold headgateref02_Same.f; simp)).mono ?_
  rintro e w10 ⟨rfl, hdr⟩
  have h910 := hdr.below
  have m6 := below_old h910 g6
  have m8 := below_old h910 g8
  have m10 := below_old h910 g10
  have m12 := below_old h910 g12
  have mC6 := Kd.C_below gC6 h910
  have mC8 := Kd.C_below gC8 h910
  have mBw := gBw.trans (h910.mono gBw.size)
  clear c6_ c8_ g6 g8 g10 g12 gB2 gB4 gC6 gC8 gBw h910 hdr
  have hl10 := run_loadAt_mid (P := Try.prog) w10 b10 0 36 [.int .i64 i2, .string s2, .bool q2, .bool x2, .bool y2, .slice A6 fs.length c6] _ (Rw.blk_range m10) Try.underlying36 rfl sizeReq
  have hl12 := run_loadAt_mid (P := Try.prog) w10 b12 0 36 [.int .i64 i2, .string s2, .bool q2, .bool x2, .bool y2, .slice A8 fs.length c8] _ (Rw.blk_range m12) Try.underlying36 rfl sizeReq
  go_wp2_with (first | ((with_reducible refine Rw.at_slot 64 ?_); refine Rw.wpList_get rfl 36 (.tmp 10) rfl rfl hl10 ?_) | ((with_reducible refine Rw.at_slot 65 ?_); refine Rw.wpList_get rfl 36 (.tmp 12) rfl rfl hl12 ?_))
  refine (headgatelaw23_same.calls (fs.length + 1) i2 s2 q2 x2 y2 A6 c6 fs i2 s2 q2 x2 y2 A8 c8 fs true w10 mC6 hc6 mC8 hc8 (same_self i2 s2 q2 x2 y2 fs hfl)).mono ?_
  rintro e w11 ⟨rfl, hb11⟩
  have g6 := below_old hb11 m6
  have g8 := below_old hb11 m8
  have gBw := mBw.trans (hb11.mono mBw.size)
  clear hl10 hl12 m6 m8 m10 m12 mC6 mC8 mBw hb11
  go_wp2_with fail
  refine (headgatelaw23_alive.calls 8 true w11 Go.Proofs.Ytgnepppncmjagaa.Ev.alive_f).mono ?_
  rintro e w12 ⟨rfl, hb⟩
  have m6 := below_old hb g6
  have m8 := below_old hb g8
  have mBw := gBw.trans (hb.mono gBw.size)
  have c60_ : w12.cell? ⟨b6, 0, none⟩ = some (.int .i64 r1) := (blk_cell m6 0).trans rfl
  have c61_ : w12.cell? ⟨b6, 1, none⟩ = some (.int .i64 r2) := (blk_cell m6 1).trans rfl
  have c80_ : w12.cell? ⟨b8, 0, none⟩ = some (.int .i64 r1) := (blk_cell m8 0).trans rfl
  have c81_ : w12.cell? ⟨b8, 1, none⟩ = some (.int .i64 r2) := (blk_cell m8 1).trans rfl
  clear g6 g8 gBw m6 m8 hb
  go_wp2_with fail
  go_ret
  exact ⟨rfl, mBw⟩
end Go.Proofs.Ytgnepppncmjagaa.Fr
