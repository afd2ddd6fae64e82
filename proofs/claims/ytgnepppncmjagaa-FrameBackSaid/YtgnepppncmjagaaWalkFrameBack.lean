/- FrameBack, walked. -/
import Derived.Test.YtgnepppncmjagaaFrB
import Derived.Test.YtgnepppncmjagaaFeed
import Derived.Test.YtgnepppncmjagaaPureBack
namespace Go.Proofs.Ytgnepppncmjagaa.Fb
open Go Go.Proofs.Ytgnepppncmjagaa.Fr Go.RowKit Hp Rd Go.Proofs.YtgnepppncmjagaaW.PrintWords Go.Proofs.Ytgnepppncmjagaa.Print
theorem sizeFrm : (Try.prog.info? 28).map (·.size) = some 3 := by kernel_rfl
theorem two_bytes (n : Int) (h0 : 0 ≤ n) (h1 : n ≤ 65535) : 256 * (n / 256 % 256) + n % 256 = n := by omega
set_option maxHeartbeats 4000000 in
set_option maxRecDepth 100000 in
theorem frameBack_calls (v0 : Value) (W : World) (a0 : Arg Try.prog W 36 v0) : Calls Try.prog 8 #[v0] W fun e w' => e = .returned (.bool true) ∧ Below W.heap.size W w' := by
  obtain ⟨id, s, q, x, y, A, fl, c, rfl, hc, hC⟩ := arg_req a0
  clear a0
  go_enter Try.func8, Try.ntmps8
  obtain ⟨fb, hfb⟩ : ∃ fb, W.heap.size = fb := ⟨_, rfl⟩
  go_upto_region 1 with (fail)
  obtain ⟨wA, hwA⟩ : ∃ wA, W.alloc (.cells #[.int .i64 id, .string s, .bool q, .bool x, .bool y, .slice A fl.length c] 36) = wA := ⟨_, rfl⟩
  have hb1 : wA.heap[fb]? = some (.cells #[.int .i64 id, .string s, .bool q, .bool x, .bool y, .slice A fl.length c] 36 (0, 0)) := by
    rw [← hwA, ← hfb]
    exact heap_alloc_new W _
  have hBw : Below W.heap.size W wA := by rw [← hwA]; exact (Below.refl _ _).alloc (Nat.le_refl _) _
  rw [hwA]
  clear hwA
  have HFB := Sh.mk hfb
  clear hfb
  have hCA := Kd.C_below hC hBw
  have hld := run_loadAt_mid (P := Try.prog) wA fb 0 36 [.int .i64 id, .string s, .bool q, .bool x, .bool y, .slice A fl.length c] _ (Rw.blk_range hb1) Try.underlying36 rfl sizeReq
  go_wp2_with ((with_reducible refine Rw.at_slot 13 ?_); refine Rw.wpList_get rfl 36 (.tmp 1) rfl rfl hld ?_)
  refine (headgatelaw23_few.calls 400 id s q x y A c fl _ wA hCA hc (few_eq id s q x y fl)).mono ?_
  rintro e w1 ⟨rfl, hbe⟩
  have g1 := below_old hbe hb1
  have gBw := hBw.trans (hbe.mono hBw.size)
  clear hld hb1 hBw hCA hbe
  have quit : ∀ (w2 : World), Below W.heap.size W w2 → Calls Try.prog 10 #[] w2 fun e w' => e = .returned (.bool true) ∧ Below w2.heap.size w2 w' ∧ Below W.heap.size W w' := fun w2 hb => by
    refine (headgatelaw23_alive.calls 8 true w2 Go.Proofs.Ytgnepppncmjagaa.Ev.alive_f).mono ?_
    rintro e w' ⟨rfl, h⟩
    exact ⟨rfl, h, hb.trans (h.mono hb.size)⟩
  have QUIT := Sh.mk quit
  clear quit
  by_cases hfew : fewd s fl
  rotate_left
  · rw [decide_eq_false hfew]
    go_wp2_with fail
    refine (QUIT.out w1 gBw).mono ?_
    rintro e w' ⟨rfl, -, h⟩
    go_wp2_with fail
    go_ret
    exact ⟨rfl, h⟩
  rw [decide_eq_true hfew]
  have hq1 := frame_req id s q x y fl hfew
  have hCw := Kd.C_below hC gBw
  have hld := run_loadAt_mid (P := Try.prog) w1 fb 0 36 [.int .i64 id, .string s, .bool q, .bool x, .bool y, .slice A fl.length c] _ (Rw.blk_range g1) Try.underlying36 rfl sizeReq
  rcases reqd_two id s q x y fl with hbad | ⟨hs, hn, hp, h0, h1, hgood, hbl⟩
  · rw [hbad] at hq1
    go_wp2_with ((with_reducible refine Rw.at_slot 19 ?_); refine Rw.wpList_get rfl 36 (.tmp 1) rfl rfl hld ?_)
    refine (frame_Request.calls 400 id s q x y A c fl 0 0 [] 231 w1 hCw hc hq1).mono ?_
    rintro e w2 ⟨v2, rfl, hR2, hb12⟩
    obtain ⟨A2, c2, rfl, hc2, -⟩ := R_bytes hR2
    have mBw := gBw.trans (hb12.mono gBw.size)
    clear hld g1 gBw hCw hb12 hR2
    go_upto_region 5 with (fail)
    obtain ⟨w3, hw3⟩ : ∃ w3, w2.alloc (.cells #[.int .i64 0, .int .i64 0, .slice A2 0 c2] 28) = w3 := ⟨_, rfl⟩
    obtain ⟨b4, hb4⟩ : ∃ b4, w2.heap.size = b4 := ⟨_, rfl⟩
    have h23 : Below w2.heap.size w2 w3 := by rw [← hw3]; exact (Below.refl _ _).alloc (Nat.le_refl _) _
    have g4 : w3.heap[b4]? = some (.cells #[.int .i64 0, .int .i64 0, .slice A2 0 c2] 28 (0, 0)) := by rw [← hw3, ← hb4]; exact heap_alloc_new _ _
    have gBw := mBw.trans (h23.mono mBw.size)
    rw [hb4]
    first | rw [hw3] | (simp only [List.length_nil] at *; rw [hw3])
    clear hw3 hb4 h23 mBw
    go_wp2_with fail
    refine (QUIT.out w3 gBw).mono ?_
    rintro e w' ⟨rfl, hb3, h⟩
    have m4 := below_old hb3 g4
    have d0_ : w'.cell? ⟨b4, 0, none⟩ = some (.int .i64 0) := (blk_cell m4 0).trans rfl
    have d2_ : w'.cell? ⟨b4, 2, none⟩ = some (.slice A2 0 c2) := (blk_cell m4 2).trans rfl
    clear m4 g4 hb3
    go_wp2_with fail
    go_ret
    exact ⟨rfl, h⟩
  · rw [hgood] at hq1
    obtain ⟨body, hbody⟩ : ∃ body, reqbody s q x y fl = body := ⟨_, rfl⟩
    have hbb := body_byte s q x y fl
    have hrf := refd_back id s q x y fl hs hn hp h0 h1 hbl
    rw [hbody] at hbb hrf hbl hq1
    clear hgood hbody
    go_wp2_with ((with_reducible refine Rw.at_slot 19 ?_); refine Rw.wpList_get rfl 36 (.tmp 1) rfl rfl hld ?_)
    refine (frame_Request.calls 400 id s q x y A c fl id 1 body 0 w1 hCw hc hq1).mono ?_
    rintro e w2 ⟨v2, rfl, hR2, hb12⟩
    obtain ⟨A2, c2, rfl, hc2, hB2⟩ := R_bytes hR2
    have m1 := below_old hb12 g1
    have mBw := gBw.trans (hb12.mono gBw.size)
    clear hld g1 gBw hCw hb12 hR2 hq1
    go_upto_region 5 with (fail)
    obtain ⟨w3, hw3⟩ : ∃ w3, w2.alloc (.cells #[.int .i64 id, .int .i64 1, .slice A2 body.length c2] 28) = w3 := ⟨_, rfl⟩
    obtain ⟨b4, hb4⟩ : ∃ b4, w2.heap.size = b4 := ⟨_, rfl⟩
    have h23 : Below w2.heap.size w2 w3 := by rw [← hw3]; exact (Below.refl _ _).alloc (Nat.le_refl _) _
    have g1 := below_old h23 m1
    have g4 : w3.heap[b4]? = some (.cells #[.int .i64 id, .int .i64 1, .slice A2 body.length c2] 28 (0, 0)) := by rw [← hw3, ← hb4]; exact heap_alloc_new _ _
    have gB2 := hB2.below h23
    have gBw := mBw.trans (h23.mono mBw.size)
    rw [hw3, hb4]
    clear hw3 hb4 h23 mBw m1 hB2
    have hld := run_loadAt_mid (P := Try.prog) w3 b4 0 28 [.int .i64 id, .int .i64 1, .slice A2 body.length c2] _ (Rw.blk_range g4) Try.underlying28 rfl sizeFrm
    go_wp2_with ((with_reducible refine Rw.at_slot 38 ?_); refine Rw.wpList_get rfl 28 (.tmp 4) rfl rfl hld ?_)
    refine (frame_Encode.calls id 1 A2 c2 body (encd id body) 0 w3 (gB2.C (by omega)) hc2 (enc_eq id body h0 h1 hbl)).mono ?_
    rintro e w4 ⟨v4, rfl, hR4, hb34⟩
    obtain ⟨A4, c4, rfl, hc4, hB4⟩ := R_bytes hR4
    have m1 := below_old hb34 g1
    have mBw := gBw.trans (hb34.mono gBw.size)
    obtain ⟨l, hl⟩ : ∃ l, encd id body = l := ⟨_, rfl⟩
    have hlb := encd_byte id body hbb
    have hl5 : l = (body.length : Int) / 256 % 256 :: (body.length : Int) % 256 :: id / 256 % 256 :: id % 256 :: 1 :: body := by rw [← hl]; rfl
    rw [hl] at hc4 hB4 hlb ⊢
    have HL5 := Sh.mk hl5
    clear hld g1 g4 gBw gB2 hb34 hR4 hl hl5
    go_wp2_with fail
    refine (new_ok w4).mono ?_
    rintro e w5 ⟨rfl, hw5⟩
    obtain ⟨g, hg⟩ : ∃ g, w4.heap.size = g := ⟨_, rfl⟩
    have h45 : Below w4.heap.size w4 w5 := by rw [hw5]; exact (Below.refl _ _).alloc (Nat.le_refl _) _
    have gD : w5.heap[g]? = some (DO (.slice none 0 0) false) := by rw [hw5, ← hg]; exact heap_alloc_new _ _
    have g1 := below_old h45 m1
    have gB4 := hB4.below h45
    have gBw := mBw.trans (h45.mono mBw.size)
    have hgW : W.heap.size ≤ g := by rw [← hg]; exact mBw.size
    have hg1 : fb < g := by rw [← hg]; exact lt_of_heap m1
    rw [hg]
    clear hw5 hg h45 m1 hB4 mBw
    go_wp2_with fail
    refine (feed_ok gD gB4 hlb hc4 HL5.out (by decide) (two_bytes _ (by omega) (by omega)) hbl).mono ?_
    rintro e w6 ⟨qb, cq, A6, c6, rfl, hrow, hc6, hB6, hA6, ⟨vd, gD6⟩, hK⟩
    rw [two_bytes id h0 h1] at hrow
    have m1 := kept_old hK g1 (by omega)
    have mBw := gBw.trans (hK.below (B := W.heap.size) gBw.size (fun i hi e => by omega))
    clear gD g1 gB4 gBw hK hgW
    go_wp2_with fail
    refine (broken_ok gD6).mono ?_
    rintro e wx ⟨rfl, hwx⟩
    rw [hwx]
    clear hwx wx gD6
    have hld := run_loadAt_mid (P := Try.prog) w6 qb 0 28 [.int .i64 id, .int .i64 1, .slice A6 body.length c6] _ hrow Try.underlying28 rfl sizeFrm
    go_wp2_with ((with_reducible refine Rw.at_slot 62 ?_); refine Rw.wpList_get rfl 28 (.tmp 61) rfl rfl hld ?_)
    refine (asked_ok id 1 hB6 hbb hc6 hA6 (by omega)).mono ?_
    rintro e w7 ⟨hq, hb67⟩
    rw [askd_refd hbb, hrf] at hq
    obtain ⟨i2, s2, q2, x2, y2, fs, er, hreq, A7, c7, rfl, hc7, hC7, hfl⟩ := one hq (fun a b fs' e => by cases e; simp; omega)
    obtain ⟨hz1, hz2, hz3⟩ := back_bits q x y
    change ((id, strOfNums (bytesOf s), bitsd q x y % 2 == 1, bitsd q x y / 2 % 2 == 1, bitsd q x y / 4 == 1, (fl.map bytesOf).map strOfNums, (0 : Int)) : Int × ByteArray × Bool × Bool × Bool × List ByteArray × Int) = (i2, s2, q2, x2, y2, fs, er) at hreq
    rw [str_back, hz1, hz2, hz3, List.map_map, show (strOfNums ∘ bytesOf) = (fun z => z) from funext str_back, List.map_id'] at hreq
    cases hreq
    clear hz1 hz2 hz3 hq
    have g1 := below_old hb67 m1
    have gBw := mBw.trans (hb67.mono mBw.size)
    clear hld m1 mBw hb67 hrow hB6 hA6
    go_upto_region 15 with (fail)
    obtain ⟨w8, hw8⟩ : ∃ w8, w7.alloc (.cells #[.int .i64 id, .string s, .bool q, .bool x, .bool y, .slice A7 fl.length c7] 36) = w8 := ⟨_, rfl⟩
    obtain ⟨b8, hb8⟩ : ∃ b8, w7.heap.size = b8 := ⟨_, rfl⟩
    have h78 : Below w7.heap.size w7 w8 := by rw [← hw8]; exact (Below.refl _ _).alloc (Nat.le_refl _) _
    have m1 := below_old h78 g1
    have m8 : w8.heap[b8]? = some (.cells #[.int .i64 id, .string s, .bool q, .bool x, .bool y, .slice A7 fl.length c7] 36 (0, 0)) := by rw [← hw8, ← hb8]; exact heap_alloc_new _ _
    have mC7 := Kd.C_below hC7 h78
    have mBw := gBw.trans (h78.mono gBw.size)
    rw [hw8, hb8]
    clear hw8 hb8 h78 g1 gBw hC7
    have hl8 := run_loadAt_mid (P := Try.prog) w8 b8 0 36 [.int .i64 id, .string s, .bool q, .bool x, .bool y, .slice A7 fl.length c7] _ (Rw.blk_range m8) Try.underlying36 rfl sizeReq
    have hl1 := run_loadAt_mid (P := Try.prog) w8 fb 0 36 [.int .i64 id, .string s, .bool q, .bool x, .bool y, .slice A fl.length c] _ (Rw.blk_range m1) Try.underlying36 rfl sizeReq
    have hCw := Kd.C_below hC mBw
    go_wp2_with (first | ((with_reducible refine Rw.at_slot 66 ?_); refine Rw.wpList_get rfl 36 (.tmp 10) rfl rfl hl8 ?_) | ((with_reducible refine Rw.at_slot 67 ?_); refine Rw.wpList_get rfl 36 (.tmp 1) rfl rfl hl1 ?_))
    refine (headgatelaw23_same.calls (fl.length + 1) id s q x y A7 c7 fl id s q x y A c fl true w8 mC7 hc7 hCw hc (same_self id s q x y fl hfl)).mono ?_
    rintro e w9 ⟨rfl, hb89⟩
    have gBw := mBw.trans (hb89.mono mBw.size)
    clear hl8 hl1 m1 m8 mC7 hCw mBw hb89
    go_wp2_with fail
    refine (QUIT.out w9 gBw).mono ?_
    rintro e w' ⟨rfl, -, h⟩
    go_wp2_with fail
    go_ret
    exact ⟨rfl, h⟩
end Go.Proofs.Ytgnepppncmjagaa.Fb
