/- commits.Encode of no bytes. The document's Encode. The document's Encode, of no bytes. commits.Commit.right, plainly. A commit's bytes, plainly. A commit's bytes as the document says, plainly. An argument that is a slice, as the printed contracts read one. Records are alike with themselves; the law's files. The law's files that come in. Encode, of any number and few files: the program's and the document's. The live question of chapter 20. CommitsEncodes, walked. -/
import Derived.Test.YtnemnhfdjofckaaEnc
import Derived.Test.YtnemnhfdjofckaaFls
import Derived.Test.YtnemnhfdjofckaaSl
import Derived.Test.YtnemnhfdjofckaaPrintF26
import Derived.Test.YtnemnhfdjofckaaPrintF27
import Derived.Test.YtnemnhfdjofckaaPrintF20
import Derived.Test.YtnemnhfdjofckaaLow
import Derived.Test.YtnemnhfdjofckaaPrintF23
import Derived.Test.YtnemnhfdjofckaaPrint0
import Derived.Test.YtnemnhfdjofckaaRd
import Derived.Test.YtnemnhfdjofckaaPrintF12
import Derived.Test.YtnemnhfdjofckaaPrintF8
namespace Go.Proofs.Ytnemnhfdjofckaa.Co
open Go Go.RowKit Hp Go.Proofs.Ytnemnhfdjofckaa.Fr Go.Proofs.Ytnemnhfdjofckaa.Ck Go.Proofs.YtnemnhfdjofckaaW.PrintWords Go.Proofs.Ytnemnhfdjofckaa.Print
set_option maxHeartbeats 4000000 in
set_option maxRecDepth 100000 in
theorem encode_zero (k k2 : Nat) (n : Int) (A : Option Addr) (c : Nat) (fl : List S56) (w : World) (hC : Kd.C k56 w A fl.length fl) (hc : fl.length ≤ c) (hr : commits_Commit_right.f k n fl = some true) (hbs : commits_Commit_bytes.f k2 n fl = some [])
    (hn0 : 0 ≤ n) (hn1 : n ≤ 1099511627776) :
    Calls Try.prog 10 #[.agg #[.int .i64 n, .slice A fl.length c]] w fun e w' => ∃ (a : Option Addr) (c' : Nat) (R : List Rc), e = .returned (.tuple #[.slice a R.length c', .int .i64 0]) ∧ R.length ≤ c' ∧ w'.ownsRow w.heap.size 38 1 (.slice a R.length c') R.length (rcells R) ∧ (∀ r ∈ R, RcOk w' r) ∧ R.map Rc.l = recs n [] ∧ Below w.heap.size w w' := by
  have HUN : Sh (IntKind.u64.wrap n = n) := ⟨by rw [IntKind.wrap_u64]; omega⟩
  go_enter Try.func10, Try.ntmps10
  go_upto_region 1 with (fail)
  obtain ⟨w1, hw1⟩ : ∃ w1, w.alloc (.cells #[.int .i64 n, .slice A fl.length c] 32) = w1 := ⟨_, rfl⟩
  obtain ⟨b0, hb0⟩ : ∃ b0, w.heap.size = b0 := ⟨_, rfl⟩
  have hB1 : Below w.heap.size w w1 := by rw [← hw1]; exact (Below.refl _ _).alloc (Nat.le_refl _) _
  have g0 : w1.heap[b0]? = some (.cells #[.int .i64 n, .slice A fl.length c] 32 (0, 0)) := by rw [← hw1, ← hb0]; exact heap_alloc_new _ _
  rw [hw1, hb0]
  have HB0 := Sh.mk hb0
  clear hw1 hb0
  have hld : ∀ W, Below w1.heap.size w1 W → (Instr.loadAt 32 (.pointer (some ⟨b0, 0, none⟩))).run Try.prog W = .ok (.agg #[.int .i64 n, .slice A fl.length c]) W := fun W hW => run_loadAt_mid (P := Try.prog) W b0 0 32 [.int .i64 n, .slice A fl.length c] _ (Rw.blk_range ((hW.block _ (lt_of_heap g0)).trans g0)) Try.underlying32 rfl sizeCom
  have HLD := Sh.mk hld
  have HG0 := Sh.mk g0
  have HB1 := Sh.mk hB1
  have HC1 := Sh.mk (Kd.C_below hC hB1)
  have l1_ := hld w1 (Below.refl _ _)
  clear hld g0 hC hB1
  go_wp2_with ((with_reducible refine Rw.at_slot 9 ?_); refine Rw.wpList_get rfl 32 (.tmp 1) rfl rfl l1_ ?_)
  refine (commits_Commit_right.calls k n A c fl true w1 HC1.out hc hr).mono ?_
  rintro e w2 ⟨rfl, hb12⟩
  have l2_ := HLD.out w2 hb12
  have HC2 := Sh.mk (Kd.C_below HC1.out hb12)
  have HB12 := Sh.mk hb12
  clear l1_ hr hb12 HC1
  go_wp2_with ((with_reducible refine Rw.at_slot 12 ?_); refine Rw.wpList_get rfl 32 (.tmp 1) rfl rfl l2_ ?_)
  refine (commits_Commit_bytes.calls k2 n A c fl [] w2 HC2.out hc hbs).mono ?_
  rintro e w3 ⟨v3, rfl, hR3, hb23⟩
  obtain ⟨A3, c3, rfl, hc3, hby3, hA3, -⟩ := R_any hR3
  have HB13 := Sh.mk (HB12.out.trans (hb23.mono HB12.out.size))
  clear hR3 hb23 hby3 hA3 l2_ hbs hc HC2 HB12 hc3
  go_wp2_with fail
  refine (callsIn_wide.1 (chunk_in Go.Fence.wide 8 trivial rfl A3 0 c3 w3)).mono ?_
  rintro e w4 ⟨rfl, hw4⟩
  obtain ⟨b3, hb3⟩ : ∃ b3, w3.heap.size = b3 := ⟨_, rfl⟩
  have h34 : Below w3.heap.size w3 w4 := by rw [hw4]; exact ((Below.refl _ _).alloc (Nat.le_refl _) _).alloc (by simp) _
  have hs4 : w4.heap.size = b3 + 2 := by rw [hw4, ← hb3]; simp
  have q1 : w4.heap[b3]? = some (.cells #[.slice A3 0 c3] 38 (0, 0)) := by rw [hw4, ← hb3]; exact (Below.heap_alloc _ _ _ (by simp)).trans (heap_alloc_new _ _)
  have q2 : w4.heap[b3 + 1]? = some (.cells #[.int .i64 4000] 3 (0, 0)) := by
    rw [hw4, ← hb3]
    have := heap_alloc_new (w3.alloc (.cells #[.slice A3 0 c3] 38)) (.cells #[.int .i64 4000] 3)
    rw [World.size_alloc] at this
    exact this
  have hcol := collect_ok w4 b3 (b3 + 1) 0 ⟨0, 0, none⟩ (by omega) (by omega) (by omega) (fun W hW => chunk_stops0 Go.Fence.wide 7 trivial rfl b3 (b3 + 1) c3 A3 W (by have := hW.size; omega) ((hW.cell (p := ⟨b3, 0, none⟩) (by show b3 < w4.heap.size; omega)).trans ((Rw.blk_cell q1 0).trans rfl)))
  rw [hb3]
  have HCOL := Sh.mk hcol
  have HB14 := Sh.mk (HB13.out.trans (h34.mono HB13.out.size))
  clear hcol q1 q2 hs4 h34 hw4 hb3 HB13
  go_wp2_with fail
  refine HCOL.out.mono ?_
  rintro e w5 ⟨v4, rfl, hrow4, hb45⟩
  obtain ⟨a4, c4, rfl⟩ := own_slice hrow4
  have hm : count 0 = 0 := rfl
  rw [hm] at hrow4 ⊢
  have HB15 := Sh.mk (HB14.out.trans (hb45.mono HB14.out.size))
  clear hm hrow4 hb45 HCOL HB14
  obtain ⟨g4, hg4⟩ : ∃ g4, w5.heap.size = g4 := ⟨_, rfl⟩
  obtain ⟨w6, hw6⟩ : ∃ w6, w5.alloc (.cells #[.slice none 0 0] 38) = w6 := ⟨_, rfl⟩
  have gp : w6.heap[g4]? = some (.cells #[.slice none 0 0] 38 (0, 0)) := by rw [← hw6, ← hg4]; exact heap_alloc_new _ _
  have h56 : Below w5.heap.size w5 w6 := by rw [← hw6]; exact (Below.refl _ _).alloc (Nat.le_refl _) _
  have HB16 := Sh.mk (HB15.out.trans (h56.mono HB15.out.size))
  have HGP := Sh.mk gp
  clear gp h56
  go_wp2_with fail
  clear hw6 hg4
  obtain ⟨i0, hi, hz0, hz1, hz2⟩ := info_parts infoU8
  obtain ⟨j0, hj, hy0, hy1, hy2⟩ := info_parts infoSl
  go_loopg [5, 25] 1 (fun kq v5 v25 w' => ∃ (i : Nat) (R : List Rc), i + kq = 1 ∧ v25 = .int .i64 (i : Int) ∧ Sh (R.map Rc.l = (List.range i).map (recd n [] 1) ∧ w'.ownsRow w6.heap.size 38 1 v5 R.length (rcells R) ∧ (∀ r ∈ R, RcOk w' r) ∧ Below w6.heap.size w6 w'))
  case atStart => exact ⟨0, [], by omega, rfl, ⟨rfl, World.ownsRow_nil _ _ _ _, by simp, Below.refl _ _⟩⟩
  case round =>
    obtain ⟨i, R, hik, rfl, ⟨hmap, hrow, hok, hB⟩⟩ := hrel
    have HMAP := Sh.mk hmap
    have HROW := Sh.mk hrow
    have HOK := Sh.mk hok
    have HB := Sh.mk hB
    have hb05 : b0 < w1.heap.size := lt_of_heap HG0.out
    have n0_ : wr.cell? ⟨b0, 0, none⟩ = some (.int .i64 n) := by
      have h16 := HB16.out.trans (hB.mono HB16.out.size)
      exact (h16.cell (p := ⟨b0, 0, none⟩) hb05).trans ((Rw.blk_cell HG0.out 0).trans rfl)
    clear hok hb05
    cases gk with
    | zero =>
      obtain rfl : i = 1 := by omega
      obtain ⟨a5, c5, rfl⟩ := own_slice hrow
      have hle : R.length ≤ c5 := by
        rcases hrow.2 with ⟨e1, h⟩ | ⟨g, cap, cur, e, _, _, hn, _⟩
        · omega
        · cases e
          exact hn
      clear hrow hB hik n0_ hmap
      go_wp2_with fail
      go_ret2
      refine ⟨a5, c5, R, rfl, hle, ?_, HOK.out, ?_, HB1.out.trans ((HB16.out.trans (HB.out.mono HB16.out.size)).mono HB1.out.size)⟩
      · exact row_lower HROW.out (by have := HB16.out.size; have := HB1.out.size; omega)
      · rw [HMAP.out]
        rfl
    | succ g1_ =>
      obtain rfl : i = 0 := by omega
      obtain rfl : R = [] := by simpa using hmap
      have p_ : wr.cell? ⟨g4, 0, none⟩ = some (.slice none 0 0) := (hB.cell (p := ⟨g4, 0, none⟩) (lt_of_heap HGP.out)).trans ((Rw.blk_cell HGP.out 0).trans rfl)
      obtain ⟨bw, hbw⟩ : ∃ bw, wr.heap.size = bw := ⟨_, rfl⟩
      clear hrow hB hbw hmap
      go_wp2_with fail
      refine (commits_low.calls 9 (fun _ => False) (.slice none 0 0) [] n 8 (lowd n 0 8) wr wr (Below.refl _ _) (Kd.R_nil _ _ _ _ _) (low_f n 8 (by decide) [] (by simp))).mono ?_
      rintro e y1 ⟨v1, rfl, hR1, hb1, -⟩
      have HR1 := Sh.mk hR1
      have HY1 := Sh.mk hb1
      clear hR1 hb1
      go_wp2_with fail
      refine (commits_low.calls 3 _ v1 (lowd n 0 8) 0 2 (lowd n 0 8 ++ lowd 0 0 2) wr y1 HY1.out HR1.out (low_f 0 2 (by decide) _ (by rw [lowd_length]; decide))).mono ?_
      rintro e y2 ⟨v2, rfl, hR2, hb2, -⟩
      have HR2 := Sh.mk hR2
      have HY2 := Sh.mk hb2
      clear hR2 hb2 HR1 HY1
      go_wp2_with fail
      refine (commits_low.calls 3 _ v2 (lowd n 0 8 ++ lowd 0 0 2) 1 2 (lowd n 0 8 ++ lowd 0 0 2 ++ lowd 1 0 2) wr y2 HY2.out HR2.out (low_f 1 2 (by decide) _ (by rw [List.length_append, lowd_length, lowd_length]; decide))).mono ?_
      rintro e y3 ⟨v3, rfl, hR3, hb3, -⟩
      have hown3 := (R_row hR3).1
      have hl12 : (lowd n 0 8 ++ lowd 0 0 2 ++ lowd 1 0 2).length = 12 := by rw [List.length_append, List.length_append, lowd_length, lowd_length, lowd_length]
      rw [hl12] at hown3
      have hrl : (recd n [] 1 0).length = 12 := by
        unfold recd
        rw [List.length_append, List.length_append, List.length_append, lowd_length, lowd_length, lowd_length]
        rfl
      have hcel : y3.ownsRow wr.heap.size 5 1 v3 (recd n [] 1 0).length ((recd n [] 1 0).map (Value.int .u8)) := by
        rw [hrl]
        unfold recd
        simpa using hown3
      obtain ⟨A6, c6, rfl⟩ := own_slice hcel
      have hrok : RcOk y3 ⟨A6, recd n [] 1 0, c6⟩ := by
        refine ⟨?_, Bytes.own (l := recd n [] 1 0) hcel, fun a e => ?_⟩
        · rcases hcel.2 with ⟨_, h⟩ | ⟨g, cap, cur, e, _, _, hn, _⟩
          · omega
          · cases e
            exact hn
        · rcases hcel.2 with ⟨_, h⟩ | ⟨g, cap, cur, e2, _, hh, _⟩
          · omega
          · cases e2
            cases e
            exact ⟨_, _, hh⟩
      have hrowx : y3.ownsRow w6.heap.size 38 1 u5 0 [] := row_kept HROW.out (Kept.of_below (S := fun _ => False) hb3) (fun _ _ e => e)
      have hsx : w6.heap.size ≤ y3.heap.size := Nat.le_trans HB.out.size hb3.size
      have HROK := Sh.mk hrok
      have HROWX := Sh.mk hrowx
      have HBX := Sh.mk (HB.out.trans (hb3.mono HB.out.size))
      have HRL := Sh.mk hrl
      have HCEL := Sh.mk hcel
      rw [hrl] at hcel ⊢
      clear hR3 hb3 hl12 HR2 HY2 n0_ p_ hrok hrl hown3
      go_wp2_with (first | ((with_reducible refine Rw.at_slot 44 ?_); refine wpList_append_own_none rfl _ _ 38 rfl wr.heap.size 5 i0 1 Try.underlying38 hi _ _ _ rfl hcel rfl ?_) | ((with_reducible refine Rw.at_slot 46 ?_); refine wpList_append_own _ rfl _ _ 27 rfl w6.heap.size 38 j0 (.slice none 0 0) 1 24 Try.underlying27 hj hy0 hy1 hy2 rfl (by decide) _ _ _ rfl (hrowx.alloc _) ⟨y3.heap.size, 0, none⟩ 1 1 [.slice A6 12 c6] rfl rfl (one_new _ _ _) (by simp [Value.oneCell']) (by decide) (by decide) (by simp; omega) ?_))
      intro v7 y5 hown5 hgrow _
      have hK5 : Kept (fun k => u5.ownBlock = some k) y3 y5 := ((Kept.refl (fun k => u5.ownBlock = some k) y3).alloc _).grown hgrow (fun k e => .inr e)
      have hB5 : Below w6.heap.size w6 y5 := (HBX.out.alloc hsx _).grown hgrow (by simp; omega) (fun k e => (hrowx.lt k e).1)
      have HOWN5 := Sh.mk hown5
      have HK5 := Sh.mk hK5
      have HB5 := Sh.mk hB5
      clear hown5 hgrow hK5 hB5 hrowx hsx hcel
      go_wp2_with fail
      go_roundg g1_
      case measure => omega
      case rel => exact ⟨1, [⟨A6, recd n [] 1 0, c6⟩], by omega, (by first | rfl | simp), ⟨rfl, by
        have e : rcells [⟨A6, recd n [] 1 0, c6⟩] = [.slice A6 12 c6] := by
          show [Value.slice A6 (recd n [] 1 0).length c6] = _
          rw [HRL.out]
        rw [e]
        exact HOWN5.out, fun r hr => by
        obtain rfl : r = _ := by simpa using hr
        exact HROK.out.kept HK5.out (fun ad e => own_ne HROWX.out HROK.out ad e), HB5.out⟩⟩
end Go.Proofs.Ytnemnhfdjofckaa.Co

namespace Go.Proofs.Ytnemnhfdjofckaa.Co
open Go Go.RowKit Hp Go.Proofs.Ytnemnhfdjofckaa.Fr Go.Proofs.Ytnemnhfdjofckaa.Ck Go.Proofs.YtnemnhfdjofckaaW.PrintWords Go.Proofs.Ytnemnhfdjofckaa.Print
theorem sizeRCom : (Try.prog.info? 34).map (·.size) = some 2 := by kernel_rfl
set_option maxHeartbeats 4000000 in
set_option maxRecDepth 100000 in
theorem renc_bad (n : Int) (A : Option Addr) (c : Nat) (fl : List S56) (w : World) (hC : Kd.C k56 w A fl.length fl) (hp : ∀ f ∈ fl, f.f0.size ≤ 1000000000) (hlen : fl.length ≤ 1000000000) (hr : rightd n fl = false) :
    Calls Try.prog 11 #[.agg #[.int .i64 n, .slice A fl.length c]] w fun e w' => e = .returned (.tuple #[.slice none 0 0, .int .i64 201]) ∧ Below w.heap.size w w' := by
  go_enter Try.func11, Try.ntmps11
  go_upto_region 1 with (fail)
  obtain ⟨w1, hw1⟩ : ∃ w1, w.alloc (.cells #[.int .i64 n, .slice A fl.length c] 34) = w1 := ⟨_, rfl⟩
  obtain ⟨b0, hb0⟩ : ∃ b0, w.heap.size = b0 := ⟨_, rfl⟩
  have hB1 : Below w.heap.size w w1 := by rw [← hw1]; exact (Below.refl _ _).alloc (Nat.le_refl _) _
  have g0 : w1.heap[b0]? = some (.cells #[.int .i64 n, .slice A fl.length c] 34 (0, 0)) := by rw [← hw1, ← hb0]; exact heap_alloc_new _ _
  rw [hw1, hb0]
  clear hw1 hb0
  have hld := run_loadAt_mid (P := Try.prog) w1 b0 0 34 [.int .i64 n, .slice A fl.length c] _ (Rw.blk_range g0) Try.underlying34 rfl sizeRCom
  have hright := refright_ok n A c fl w1 (Kd.C_below hC hB1) hp hlen
  rw [hr] at hright
  have HR := Sh.mk hright
  clear hright hp hlen hr
  go_wp2_with ((with_reducible refine Rw.at_slot 10 ?_); refine Rw.wpList_get rfl 34 (.tmp 1) rfl rfl hld ?_)
  refine HR.out.mono ?_
  rintro e w2 ⟨rfl, hb⟩
  have HB := Sh.mk (hB1.trans (hb.mono hB1.size))
  clear hld g0 hB1 hb
  go_wp2_with fail
  go_ret2
  exact ⟨rfl, HB.out⟩
theorem R_pos {w : World} {base : Nat} {ok : Nat → Prop} {v : Value} {l : List Int} (h : Kd.R (Kd.int .u8) 5 w base ok v l) {q : Nat} (hl : l.length = q) (hq : 0 < q) : ∃ ad c, v = .slice (some ad) q c ∧ q ≤ c ∧ Bytes w (some ad) l := by
  obtain ⟨A, c, rfl, hc, hby, -, -⟩ := R_any h
  obtain ⟨ad, rfl, -⟩ := hby (by omega)
  exact ⟨ad, c, by rw [hl], by omega, hby⟩
theorem news_of {w : World} {ad : Addr} {l : List Int} (h : Bytes w (some ad) l) : ∀ j u, (l.map (Value.int .u8))[j]? = some u → w.cell? (ad.add j) = some u := fun j u hu => by
  rw [List.getElem?_map] at hu
  obtain ⟨z, hz, rfl⟩ := Option.map_eq_some_iff.1 hu
  obtain ⟨a, e, hcs⟩ := h (by rcases List.getElem?_eq_some_iff.1 hz with ⟨h1, _⟩; omega)
  cases e
  exact hcs j z hz
set_option maxHeartbeats 8000000 in
set_option maxRecDepth 100000 in
theorem renc_good (k2 : Nat) (n : Int) (A : Option Addr) (c : Nat) (fl : List S56) (bs : List Int) (w : World) (hC : Kd.C k56 w A fl.length fl) (hc : fl.length ≤ c) (hp : ∀ f ∈ fl, f.f0.size ≤ 1000000000) (hfl : fl.length ≤ 1000000000) (hr : rightd n fl = true) (hbs : headgateref20_Bytes.f k2 n fl = some bs)
    (hlen : bs.length ≤ 1000000) (hpos : 0 < bs.length) :
    Calls Try.prog 11 #[.agg #[.int .i64 n, .slice A fl.length c]] w fun e w' => ∃ (a : Option Addr) (c' : Nat) (R : List Rc), e = .returned (.tuple #[.slice a R.length c', .int .i64 0]) ∧ R.length ≤ c' ∧ w'.ownsRow w.heap.size 38 1 (.slice a R.length c') R.length (rcells R) ∧ (∀ r ∈ R, RcOk w' r) ∧ R.map Rc.l = recs n bs ∧ Below w.heap.size w w' := by
  go_enter Try.func11, Try.ntmps11
  go_upto_region 1 with (fail)
  obtain ⟨w1, hw1⟩ : ∃ w1, w.alloc (.cells #[.int .i64 n, .slice A fl.length c] 34) = w1 := ⟨_, rfl⟩
  obtain ⟨b0, hb0⟩ : ∃ b0, w.heap.size = b0 := ⟨_, rfl⟩
  have hB1 : Below w.heap.size w w1 := by rw [← hw1]; exact (Below.refl _ _).alloc (Nat.le_refl _) _
  have g0 : w1.heap[b0]? = some (.cells #[.int .i64 n, .slice A fl.length c] 34 (0, 0)) := by rw [← hw1, ← hb0]; exact heap_alloc_new _ _
  rw [hw1, hb0]
  have HB0 := Sh.mk hb0
  clear hw1 hb0
  have hld : ∀ W, Below w1.heap.size w1 W → (Instr.loadAt 34 (.pointer (some ⟨b0, 0, none⟩))).run Try.prog W = .ok (.agg #[.int .i64 n, .slice A fl.length c]) W := fun W hW => run_loadAt_mid (P := Try.prog) W b0 0 34 [.int .i64 n, .slice A fl.length c] _ (Rw.blk_range ((hW.block _ (lt_of_heap g0)).trans g0)) Try.underlying34 rfl sizeRCom
  have HLD := Sh.mk hld
  have HG0 := Sh.mk g0
  have HB1 := Sh.mk hB1
  have HC1 := Sh.mk (Kd.C_below hC hB1)
  have l1_ := hld w1 (Below.refl _ _)
  have hright := refright_ok n A c fl w1 HC1.out hp hfl
  rw [hr] at hright
  have HR := Sh.mk hright
  clear hld g0 hC hB1 hright hp hfl hr
  go_wp2_with ((with_reducible refine Rw.at_slot 10 ?_); refine Rw.wpList_get rfl 34 (.tmp 1) rfl rfl l1_ ?_)
  refine HR.out.mono ?_
  rintro e w2 ⟨rfl, hb12⟩
  have l2_ := HLD.out w2 hb12
  have HC2 := Sh.mk (Kd.C_below HC1.out hb12)
  have HB12 := Sh.mk hb12
  clear l1_ HR hb12 HC1
  go_wp2_with ((with_reducible refine Rw.at_slot 14 ?_); refine Rw.wpList_get rfl 34 (.tmp 1) rfl rfl l2_ ?_)
  refine (headgateref20_Bytes.calls k2 n A c fl bs w2 HC2.out hc hbs).mono ?_
  rintro e w3 ⟨v3, rfl, hR3, hb23⟩
  obtain ⟨A3, c3, rfl, hc3, hby3, hA3, hN3⟩ := R_any hR3
  obtain ⟨L, hL⟩ : ∃ L, bs.length = L := ⟨_, rfl⟩
  obtain ⟨ad, hadA, -⟩ := hby3 hpos
  subst hadA
  have hadlt := (hA3 ad rfl).2
  rw [hL] at hc3 hlen hpos ⊢
  have HLL := Sh.mk hL
  have HBY3 := Sh.mk hby3
  have HADLT := Sh.mk hadlt
  clear hL hadlt
  have HB13 := Sh.mk (HB12.out.trans (hb23.mono HB12.out.size))
  clear hR3 hb23 hby3 hA3 hN3 l2_ hbs hc HC2 HB12
  obtain ⟨m, hm⟩ : ∃ m, count L = m := ⟨_, rfl⟩
  have HM := Sh.mk hm
  have hm1 : 0 < m := by rw [← hm]; unfold count; omega
  have hm2 : m ≤ 251 := by rw [← hm]; unfold count; omega
  have dv : ((L : Int) + 4000 - 1) / 4000 = (m : Int) := by rw [← hm]; unfold count; omega
  have mne : ((m : Int) == 0) = false := by simp; omega
  have mle : ¬ (65535 : Int) < (m : Int) := by omega
  clear hm
  go_upto_region 8 with (fail)
  rw [dv]
  clear dv mne
  go_wp2_with fail
  clear mle
  obtain ⟨i0, hi, hz0, hz1, hz2⟩ := info_parts infoU8
  obtain ⟨j0, hj, hy0, hy1, hy2⟩ := info_parts infoSl
  go_loopg [7, 8] m (fun kq v5 v25 w' => ∃ (i : Nat) (R : List Rc), i + kq = m ∧ v25 = .int .i64 (i : Int) ∧ Sh (R.map Rc.l = (List.range i).map (recd n bs m) ∧ w'.ownsRow w3.heap.size 38 1 v5 R.length (rcells R) ∧ (∀ r ∈ R, RcOk w' r) ∧ Below w3.heap.size w3 w'))
  case atStart => exact ⟨0, [], by omega, rfl, ⟨rfl, World.ownsRow_nil _ _ _ _, by simp, Below.refl _ _⟩⟩
  case round =>
    obtain ⟨i, R, hik, rfl, ⟨hmap, hrow, hok, hB⟩⟩ := hrel
    have hRi : R.length = i := by have := congrArg List.length hmap; simpa using this
    have HRI := Sh.mk hRi
    have HMAP := Sh.mk hmap
    have HROW := Sh.mk hrow
    have HOK := Sh.mk hok
    have HB := Sh.mk hB
    have HI := Sh.mk hik
    have hb05 : b0 < w1.heap.size := lt_of_heap HG0.out
    have n0_ : wr.cell? ⟨b0, 0, none⟩ = some (.int .i64 n) := by
      have h15 := HB13.out.trans (hB.mono HB13.out.size)
      exact (h15.cell (p := ⟨b0, 0, none⟩) hb05).trans ((Rw.blk_cell HG0.out 0).trans rfl)
    clear hRi hmap hok hb05
    cases gk with
    | zero =>
      obtain rfl : i = m := by omega
      have kk : ¬ (i : Int) < (i : Int) := by omega
      obtain ⟨a5, c5, rfl⟩ := own_slice hrow
      have hle : R.length ≤ c5 := by
        rcases hrow.2 with ⟨e1, h⟩ | ⟨g, cap, cur, e, _, _, hn, _⟩
        · omega
        · cases e
          exact hn
      clear hrow hB hik n0_
      go_wp2_with fail
      go_ret2
      refine ⟨a5, c5, R, rfl, hle, ?_, HOK.out, ?_, HB1.out.trans ((HB13.out.trans (HB.out.mono HB13.out.size)).mono HB1.out.size)⟩
      · exact row_lower HROW.out (by have := HB13.out.size; have := HB1.out.size; omega)
      · rw [HMAP.out]
        unfold recs
        rw [HLL.out, HM.out, show max 1 i = i by omega]
    | succ g1_ =>
      have him : i < m := by omega
      have kk : (i : Int) < (m : Int) := by omega
      obtain ⟨wa, hwa⟩ : ∃ wa, wr.alloc (.cells #[] 5) = wa := ⟨_, rfl⟩
      obtain ⟨ba, hba⟩ : ∃ ba, wr.heap.size = ba := ⟨_, rfl⟩
      have hBa : Below wr.heap.size wr wa := by rw [← hwa]; exact (Below.refl _ _).alloc (Nat.le_refl _) _
      have hha : wa.heap[ba]? = some (.cells #[] 5 (0, 0)) := by rw [← hwa, ← hba]; exact heap_alloc_new _ _
      have n1_ : wa.cell? ⟨b0, 0, none⟩ = some (.int .i64 n) := (hBa.cell (p := ⟨b0, 0, none⟩) (World.block_lt_of_cell? wr ⟨b0, 0, none⟩ n0_)).trans n0_
      have hrow0 : wa.ownsRow ba 5 1 (.slice (some ⟨ba, 0, none⟩) 0 0) 0 (([] : List Int).map (Value.int .u8)) := ⟨rfl, .inr ⟨ba, 0, #[], rfl, Nat.le_refl _, hha, Nat.le_refl _, by unfold maxLen; decide, rfl, rfl⟩⟩
      rw [hba] at hBa
      have W8 : Sh (wrap64 ((i : Int) + 1) = ((i + 1 : Nat) : Int)) := ⟨by unfold wrap64; omega⟩
      have HIM := Sh.mk (And.intro him hm2)
      have HROW0 := Sh.mk hrow0
      have HBA0 := Sh.mk hBa
      have HBAE := Sh.mk hba
      have HSA0 := Sh.mk (lt_of_heap hha)
      clear hrow hrow0 hB hBa hha n0_ hik him hm2 hm1
      go_wp2_with fail
      clear hwa hba
      refine (headgateref20_low.calls 9 n 8 (lowd n 0 8) _ (rlow_f n 8 (by decide))).mono ?_
      rintro e y0 ⟨v0, rfl, hR, hb⟩
      obtain ⟨A0, c0, rfl, hc0, hby0⟩ := R_pos hR (q := 8) (lowd_length _ _ _) (by decide)
      have HBA1 := Sh.mk (HBA0.out.trans (hb.mono (Nat.le_of_lt HSA0.out)))
      have HS0 := Nat.lt_of_lt_of_le HSA0.out hb.size
      have hown : y0.ownsRow ba 5 1 (.slice (some ⟨ba, 0, none⟩) 0 0) 0 ((([] : List Int)).map (Value.int .u8)) := row_kept HROW0.out (Kept.of_below (S := fun _ => False) hb) (fun _ _ e => e)
      have hnews := news_of hby0
      have hlq : ((lowd n 0 8).map (Value.int .u8)).length = 8 * 1 := by rw [List.length_map, lowd_length]
      clear hR hb hc0 hby0 HROW0 HBA0
      go_wp2_with ((with_reducible refine Rw.at_slot 34 ?_); refine wpList_append_own _ rfl _ _ 38 rfl ba 5 i0 (.int .u8 0) 1 1 Try.underlying38 hi hz0 hz1 hz2 rfl (by decide) _ _ _ rfl hown A0 8 c0 ((lowd n 0 8).map (Value.int .u8)) rfl hlq hnews (one_u8 _) (by unfold maxLen; decide) (by decide) (by have := HS0; omega) ?_)
      intro u0_ x0 hown' hgrow _
      have HBA1' := Sh.mk (HBA1.out.grown hgrow (by have := HS0; omega) (fun k e => (hown.lt k e).1))
      have HROW1 := Sh.mk (show x0.ownsRow ba 5 1 u0_ 8 ((([] : List Int) ++ lowd n 0 8).map (Value.int .u8)) from by
        first | (rw [← List.map_append] at hown'; exact hown') | exact hown')
      have HSA1 := Sh.mk (Nat.lt_of_lt_of_le HS0 hgrow.size)
      clear hown hown' hnews hgrow HS0 HBA1 hlq
      have HBA1 := HBA1'
      clear HBA1'
      go_wp2_with fail
      refine (headgateref20_low.calls 3 i 2 (lowd i 0 2) _ (rlow_f i 2 (by decide))).mono ?_
      rintro e y1 ⟨v1, rfl, hR, hb⟩
      obtain ⟨A1, c1, rfl, hc1, hby1⟩ := R_pos hR (q := 2) (lowd_length _ _ _) (by decide)
      have HBA2 := Sh.mk (HBA1.out.trans (hb.mono (Nat.le_of_lt HSA1.out)))
      have HS1 := Nat.lt_of_lt_of_le HSA1.out hb.size
      have hown : y1.ownsRow ba 5 1 u0_ 8 ((([] : List Int) ++ lowd n 0 8).map (Value.int .u8)) := row_kept HROW1.out (Kept.of_below (S := fun _ => False) hb) (fun _ _ e => e)
      have hnews := news_of hby1
      have hlq : ((lowd i 0 2).map (Value.int .u8)).length = 2 * 1 := by rw [List.length_map, lowd_length]
      clear hR hb hc1 hby1 HROW1 HBA1
      go_wp2_with ((with_reducible refine Rw.at_slot 38 ?_); refine wpList_append_own _ rfl _ _ 38 rfl ba 5 i0 (.int .u8 0) 1 1 Try.underlying38 hi hz0 hz1 hz2 rfl (by decide) _ _ _ rfl hown A1 2 c1 ((lowd i 0 2).map (Value.int .u8)) rfl hlq hnews (one_u8 _) (by unfold maxLen; decide) (by decide) (by have := HS1; omega) ?_)
      intro u1_ x1 hown' hgrow _
      have HBA2' := Sh.mk (HBA2.out.grown hgrow (by have := HS1; omega) (fun k e => (hown.lt k e).1))
      have HROW2 := Sh.mk (show x1.ownsRow ba 5 1 u1_ 10 ((([] : List Int) ++ lowd n 0 8 ++ lowd i 0 2).map (Value.int .u8)) from by
        first | (rw [← List.map_append] at hown'; exact hown') | exact hown')
      have HSA2 := Sh.mk (Nat.lt_of_lt_of_le HS1 hgrow.size)
      clear hown hown' hnews hgrow HS1 HBA2 hlq
      have HBA2 := HBA2'
      clear HBA2'
      go_wp2_with fail
      refine (headgateref20_low.calls 3 m 2 (lowd m 0 2) _ (rlow_f m 2 (by decide))).mono ?_
      rintro e y2 ⟨v2, rfl, hR, hb⟩
      obtain ⟨A2, c2, rfl, hc2, hby2⟩ := R_pos hR (q := 2) (lowd_length _ _ _) (by decide)
      have HBA3 := Sh.mk (HBA2.out.trans (hb.mono (Nat.le_of_lt HSA2.out)))
      have HS2 := Nat.lt_of_lt_of_le HSA2.out hb.size
      have hown : y2.ownsRow ba 5 1 u1_ 10 ((([] : List Int) ++ lowd n 0 8 ++ lowd i 0 2).map (Value.int .u8)) := row_kept HROW2.out (Kept.of_below (S := fun _ => False) hb) (fun _ _ e => e)
      have hnews := news_of hby2
      have hlq : ((lowd m 0 2).map (Value.int .u8)).length = 2 * 1 := by rw [List.length_map, lowd_length]
      clear hR hb hc2 hby2 HROW2 HBA2
      go_wp2_with ((with_reducible refine Rw.at_slot 42 ?_); refine wpList_append_own _ rfl _ _ 38 rfl ba 5 i0 (.int .u8 0) 1 1 Try.underlying38 hi hz0 hz1 hz2 rfl (by decide) _ _ _ rfl hown A2 2 c2 ((lowd m 0 2).map (Value.int .u8)) rfl hlq hnews (one_u8 _) (by unfold maxLen; decide) (by decide) (by have := HS2; omega) ?_)
      intro u2_ x2 hown' hgrow _
      have HBA3' := Sh.mk (HBA3.out.grown hgrow (by have := HS2; omega) (fun k e => (hown.lt k e).1))
      have HROW3 := Sh.mk (show x2.ownsRow ba 5 1 u2_ 12 ((([] : List Int) ++ lowd n 0 8 ++ lowd i 0 2 ++ lowd m 0 2).map (Value.int .u8)) from by
        first | (rw [← List.map_append] at hown'; exact hown') | exact hown')
      have HSA3 := Sh.mk (Nat.lt_of_lt_of_le HS2 hgrow.size)
      clear hown hown' hnews hgrow HS2 HBA3 hlq
      have HBA3 := HBA3'
      clear HBA3'
      obtain ⟨s, hs⟩ : ∃ s, 4000 * i = s := ⟨_, rfl⟩
      have hsL : s < L := by have := HIM.out; have := HM.out; unfold count at this; omega
      obtain ⟨pl, hpl⟩ : ∃ pl, min 4000 (L - s) = pl := ⟨_, rfl⟩
      have HPL := Sh.mk (show 0 < pl ∧ pl ≤ 4000 ∧ s + pl ≤ L from ⟨by omega, by omega, by omega⟩)
      have HMUL := Sh.mk (show 4000 * (i : Int) = (s : Int) from by omega)
      have HMIN := Sh.mk (show (if (L : Int) < (s : Int) + 4000 then (L : Int) else (s : Int) + 4000) = ((s + pl : Nat) : Int) from by split <;> omega)
      have HSL := Sh.mk hsL
      have HSI := Sh.mk hs
      have HPLE := Sh.mk hpl
      have hi251 : (i : Int) < 251 := by have := HIM.out; omega
      have hmL : L ≤ 1000000 := hlen
      have hspc : s + pl ≤ c3 := by have := HPL.out; omega
      clear hpl hs hsL
      go_upto_region 17 with (fail)
      iterate 31 (first | go_values | go_skip | go_guarded | go_step)
      rw [HMUL.out, HMIN.out]
      clear hmL hi251
      have hsc : s < c3 := by have := HPL.out; omega
      refine Rw.wpList_run rfl (Rw.exec_cut 38 5 _ _ _ rfl Try.underlying38 1 (by kernel_rfl) (by rfl) (by rfl) (by rfl) hsc hspc) ?_
      clear hsc hspc
      have hxx : Below wr.heap.size wr x2 := by rw [HBAE.out]; exact HBA3.out
      have hby := (HBY3.out.below HB.out).below hxx
      obtain ⟨pb, hpbe⟩ : ∃ pb, (bs.drop s).take pl = pb := ⟨_, rfl⟩
      have hpbl : pb.length = pl := by rw [← hpbe, List.length_take, List.length_drop, HLL.out]; have := HPL.out; omega
      have hpb : Bytes x2 (some (ad.add (s * 1))) pb := by
        have h1 := Bytes.take (Bytes.drop (c := L + 1) hby s (by rw [HLL.out]; omega)) pl
        rw [if_neg (by have := HSL.out; omega), hpbe] at h1
        exact h1
      have hnews := news_of hpb
      have hlq : (pb.map (Value.int .u8)).length = pl * 1 := by rw [List.length_map, hpbl, Nat.mul_one]
      have hown := HROW3.out
      have hnum := app_nums pl HPL.out.2.1
      have HPBE := Sh.mk hpbe
      have HPBL := Sh.mk hpbl
      clear hby hpb hpbe hpbl
      go_wp2_with ((with_reducible refine Rw.at_slot 54 ?_); refine wpList_append_own _ rfl _ _ 38 rfl ba 5 i0 (.int .u8 0) 1 1 Try.underlying38 hi hz0 hz1 hz2 rfl (by decide) _ _ _ rfl hown (ad.add (s * 1)) pl (c3 - s) (pb.map (Value.int .u8)) rfl hlq hnews (one_u8 _) hnum.1 hnum.2 (Nat.le_of_lt HSA3.out) ?_)
      intro v6 y4 hown4 hgrow _
      have hpe : (bs.drop s).take 4000 = pb := by
        rw [← HPBE.out, ← HPLE.out, List.take_eq_take_iff, List.length_drop, HLL.out]
        omega
      have hrl : (recd n bs m i).length = 12 + pl := by
        unfold recd
        rw [HSI.out, hpe, List.length_append, List.length_append, List.length_append, lowd_length, lowd_length, lowd_length, HPBL.out]
      have hcel : y4.ownsRow ba 5 1 v6 (recd n bs m i).length ((recd n bs m i).map (Value.int .u8)) := by
        rw [hrl]
        unfold recd
        rw [HSI.out, hpe]
        simpa using hown4
      have hY4 : Below ba wr y4 := HBA3.out.grown hgrow (Nat.le_of_lt HSA3.out) (fun k e => (hown.lt k e).1)
      obtain ⟨A6, c6, rfl⟩ := own_slice hcel
      have hrok : RcOk y4 ⟨A6, recd n bs m i, c6⟩ := by
        refine ⟨?_, Bytes.own (l := recd n bs m i) hcel, fun a e => ?_⟩
        · rcases hcel.2 with ⟨_, h⟩ | ⟨g, cap, cur, e, _, _, hn, _⟩
          · omega
          · cases e
            exact hn
        · rcases hcel.2 with ⟨_, h⟩ | ⟨g, cap, cur, e2, _, hh, _⟩
          · omega
          · cases e2
            cases e
            exact ⟨_, _, hh⟩
      have hY4' : Below wr.heap.size wr y4 := by rw [HBAE.out]; exact hY4
      have hokx : ∀ r ∈ R ++ [⟨A6, recd n bs m i, c6⟩], RcOk y4 r := fun r hr => by
        rcases List.mem_append.1 hr with h | h
        · exact (HOK.out r h).kept (Kept.of_below (S := fun _ => False) hY4') (fun _ _ e => e)
        · obtain rfl : r = _ := by simpa using h
          exact hrok
      have hrowx : y4.ownsRow w3.heap.size 38 1 u7 R.length (rcells R) := row_kept HROW.out (Kept.of_below (S := fun _ => False) hY4') (fun _ _ e => e)
      have hsx : w3.heap.size ≤ y4.heap.size := Nat.le_trans HB.out.size hY4.size
      have hRn : R.length ≤ 300 := by have := HRI.out; have := HIM.out; omega
      have HOKX := Sh.mk hokx
      have HROWX := Sh.mk hrowx
      have HBX := Sh.mk (HB.out.trans (hY4'.mono HB.out.size))
      have HRL := Sh.mk hrl
      rw [hrl]
      have hnum2 := app_nums2 R.length hRn
      clear hown4 hgrow hcel hY4 hY4' hrok hokx hown hnews hrl hRn hpe hnum hlq hxx
      go_wp2_with ((with_reducible refine Rw.at_slot 58 ?_); refine wpList_append_own _ rfl _ _ 27 rfl w3.heap.size 38 j0 (.slice none 0 0) 1 24 Try.underlying27 hj hy0 hy1 hy2 rfl (by decide) _ _ _ rfl (hrowx.alloc _) ⟨y4.heap.size, 0, none⟩ 1 1 [.slice A6 (12 + pl) c6] rfl rfl (one_new _ _ _) (by simp [Value.oneCell']) hnum2.1 hnum2.2 (by simp; omega) ?_)
      intro v7 y5 hown5 hgrow _
      have hK5 : Kept (fun k => u7.ownBlock = some k) y4 y5 := ((Kept.refl (fun k => u7.ownBlock = some k) y4).alloc _).grown hgrow (fun k e => .inr e)
      have hB5 : Below w3.heap.size w3 y5 := (HBX.out.alloc hsx _).grown hgrow (by simp; omega) (fun k e => (hrowx.lt k e).1)
      have HOWN5 := Sh.mk hown5
      have HK5 := Sh.mk hK5
      have HB5 := Sh.mk hB5
      clear hown5 hgrow hK5 hB5 hrowx hsx hnum2
      go_wp2_with fail
      go_roundg g1_
      case measure => have := HI.out; omega
      case rel => exact ⟨i + 1, R ++ [⟨A6, recd n bs m i, c6⟩], by have := HI.out; omega, (by first | rfl | (rw [W8.out])), ⟨by rw [List.map_append, HMAP.out, List.range_succ, List.map_append]; rfl, by
        have e : rcells (R ++ [⟨A6, recd n bs m i, c6⟩]) = rcells R ++ [.slice A6 (12 + pl) c6] := by
          unfold rcells
          rw [List.map_append]
          show _ ++ [Value.slice A6 (recd n bs m i).length c6] = _
          rw [HRL.out]
        rw [e, List.length_append]
        exact HOWN5.out, fun r hr => (HOKX.out r hr).kept HK5.out (fun ad e => own_ne HROWX.out (HOKX.out r hr) ad e), HB5.out⟩⟩

end Go.Proofs.Ytnemnhfdjofckaa.Co

namespace Go.Proofs.Ytnemnhfdjofckaa.Co
open Go Go.RowKit Hp Go.Proofs.Ytnemnhfdjofckaa.Fr Go.Proofs.Ytnemnhfdjofckaa.Ck Go.Proofs.YtnemnhfdjofckaaW.PrintWords Go.Proofs.Ytnemnhfdjofckaa.Print
set_option maxHeartbeats 8000000 in
set_option maxRecDepth 100000 in
theorem renc_zero (k2 : Nat) (n : Int) (A : Option Addr) (c : Nat) (fl : List S56) (bs : List Int) (w : World) (hC : Kd.C k56 w A fl.length fl) (hc : fl.length ≤ c) (hp : ∀ f ∈ fl, f.f0.size ≤ 1000000000) (hfl : fl.length ≤ 1000000000) (hr : rightd n fl = true) (hbs : headgateref20_Bytes.f k2 n fl = some bs)
    (hpos : bs.length = 0) :
    Calls Try.prog 11 #[.agg #[.int .i64 n, .slice A fl.length c]] w fun e w' => ∃ (a : Option Addr) (c' : Nat) (R : List Rc), e = .returned (.tuple #[.slice a R.length c', .int .i64 0]) ∧ R.length ≤ c' ∧ w'.ownsRow w.heap.size 38 1 (.slice a R.length c') R.length (rcells R) ∧ (∀ r ∈ R, RcOk w' r) ∧ R.map Rc.l = recs n bs ∧ Below w.heap.size w w' := by
  go_enter Try.func11, Try.ntmps11
  go_upto_region 1 with (fail)
  obtain ⟨w1, hw1⟩ : ∃ w1, w.alloc (.cells #[.int .i64 n, .slice A fl.length c] 34) = w1 := ⟨_, rfl⟩
  obtain ⟨b0, hb0⟩ : ∃ b0, w.heap.size = b0 := ⟨_, rfl⟩
  have hB1 : Below w.heap.size w w1 := by rw [← hw1]; exact (Below.refl _ _).alloc (Nat.le_refl _) _
  have g0 : w1.heap[b0]? = some (.cells #[.int .i64 n, .slice A fl.length c] 34 (0, 0)) := by rw [← hw1, ← hb0]; exact heap_alloc_new _ _
  rw [hw1, hb0]
  have HB0 := Sh.mk hb0
  clear hw1 hb0
  have hld : ∀ W, Below w1.heap.size w1 W → (Instr.loadAt 34 (.pointer (some ⟨b0, 0, none⟩))).run Try.prog W = .ok (.agg #[.int .i64 n, .slice A fl.length c]) W := fun W hW => run_loadAt_mid (P := Try.prog) W b0 0 34 [.int .i64 n, .slice A fl.length c] _ (Rw.blk_range ((hW.block _ (lt_of_heap g0)).trans g0)) Try.underlying34 rfl sizeRCom
  have HLD := Sh.mk hld
  have HG0 := Sh.mk g0
  have HB1 := Sh.mk hB1
  have HC1 := Sh.mk (Kd.C_below hC hB1)
  have l1_ := hld w1 (Below.refl _ _)
  have hright := refright_ok n A c fl w1 HC1.out hp hfl
  rw [hr] at hright
  have HR := Sh.mk hright
  clear hld g0 hC hB1 hright hp hfl hr
  go_wp2_with ((with_reducible refine Rw.at_slot 10 ?_); refine Rw.wpList_get rfl 34 (.tmp 1) rfl rfl l1_ ?_)
  refine HR.out.mono ?_
  rintro e w2 ⟨rfl, hb12⟩
  have l2_ := HLD.out w2 hb12
  have HC2 := Sh.mk (Kd.C_below HC1.out hb12)
  have HB12 := Sh.mk hb12
  clear l1_ HR hb12 HC1
  go_wp2_with ((with_reducible refine Rw.at_slot 14 ?_); refine Rw.wpList_get rfl 34 (.tmp 1) rfl rfl l2_ ?_)
  refine (headgateref20_Bytes.calls k2 n A c fl bs w2 HC2.out hc hbs).mono ?_
  rintro e w3 ⟨v3, rfl, hR3, hb23⟩
  obtain ⟨A3, c3, rfl, hc3, hby3, hA3, hN3⟩ := R_any hR3
  obtain ⟨L, hL⟩ : ∃ L, bs.length = L := ⟨_, rfl⟩
  rw [hL] at hc3 hpos ⊢
  have HLL := Sh.mk hL
  have HN3 := Sh.mk hN3
  have HL0 := Sh.mk hpos
  have HC3 := Sh.mk hc3
  clear hL
  have HB13 := Sh.mk (HB12.out.trans (hb23.mono HB12.out.size))
  clear hR3 hb23 hby3 hA3 hN3 l2_ hbs hc HC2 HB12
  have dv : ((L : Int) + 4000 - 1) / 4000 = 0 := by omega
  have dv2 : (0 : Int) ≤ (L : Int) := by omega
  have dv3 : (L : Int) ≤ 0 := by omega
  clear hpos hc3
  go_upto_region 6 with (fail)
  rw [dv]
  clear dv dv2 dv3
  go_wp2_with fail
  obtain ⟨i0, hi, hz0, hz1, hz2⟩ := info_parts infoU8
  obtain ⟨j0, hj, hy0, hy1, hy2⟩ := info_parts infoSl
  go_loopg [7, 8] 1 (fun kq v5 v25 w' => ∃ (i : Nat) (R : List Rc), i + kq = 1 ∧ v25 = .int .i64 (i : Int) ∧ Sh (R.map Rc.l = (List.range i).map (recd n bs 1) ∧ w'.ownsRow w3.heap.size 38 1 v5 R.length (rcells R) ∧ (∀ r ∈ R, RcOk w' r) ∧ Below w3.heap.size w3 w'))
  case atStart => exact ⟨0, [], by omega, rfl, ⟨rfl, World.ownsRow_nil _ _ _ _, by simp, Below.refl _ _⟩⟩
  case round =>
    obtain ⟨i, R, hik, rfl, ⟨hmap, hrow, hok, hB⟩⟩ := hrel
    have hRi : R.length = i := by have := congrArg List.length hmap; simpa using this
    have HRI := Sh.mk hRi
    have HMAP := Sh.mk hmap
    have HROW := Sh.mk hrow
    have HOK := Sh.mk hok
    have HB := Sh.mk hB
    have HI := Sh.mk hik
    have hb05 : b0 < w1.heap.size := lt_of_heap HG0.out
    have n0_ : wr.cell? ⟨b0, 0, none⟩ = some (.int .i64 n) := by
      have h15 := HB13.out.trans (hB.mono HB13.out.size)
      exact (h15.cell (p := ⟨b0, 0, none⟩) hb05).trans ((Rw.blk_cell HG0.out 0).trans rfl)
    clear hRi hmap hok hb05
    cases gk with
    | zero =>
      have HI1 : Sh (i = 1) := ⟨by omega⟩
      have kk : ¬ (i : Int) < 1 := by omega
      obtain ⟨a5, c5, rfl⟩ := own_slice hrow
      have hle : R.length ≤ c5 := by
        rcases hrow.2 with ⟨e1, h⟩ | ⟨g, cap, cur, e, _, _, hn, _⟩
        · omega
        · cases e
          exact hn
      clear hrow hB hik n0_
      go_wp2_with fail
      go_ret2
      refine ⟨a5, c5, R, rfl, hle, ?_, HOK.out, ?_, HB1.out.trans ((HB13.out.trans (HB.out.mono HB13.out.size)).mono HB1.out.size)⟩
      · exact row_lower HROW.out (by have := HB13.out.size; have := HB1.out.size; omega)
      · rw [HMAP.out]
        unfold recs
        rw [HLL.out, HL0.out, HI1.out]
        rfl
    | succ g1_ =>
      have him : i < 1 := by omega
      have kk : (i : Int) < 1 := by omega
      obtain ⟨wa, hwa⟩ : ∃ wa, wr.alloc (.cells #[] 5) = wa := ⟨_, rfl⟩
      obtain ⟨ba, hba⟩ : ∃ ba, wr.heap.size = ba := ⟨_, rfl⟩
      have hBa : Below wr.heap.size wr wa := by rw [← hwa]; exact (Below.refl _ _).alloc (Nat.le_refl _) _
      have hha : wa.heap[ba]? = some (.cells #[] 5 (0, 0)) := by rw [← hwa, ← hba]; exact heap_alloc_new _ _
      have n1_ : wa.cell? ⟨b0, 0, none⟩ = some (.int .i64 n) := (hBa.cell (p := ⟨b0, 0, none⟩) (World.block_lt_of_cell? wr ⟨b0, 0, none⟩ n0_)).trans n0_
      have hrow0 : wa.ownsRow ba 5 1 (.slice (some ⟨ba, 0, none⟩) 0 0) 0 (([] : List Int).map (Value.int .u8)) := ⟨rfl, .inr ⟨ba, 0, #[], rfl, Nat.le_refl _, hha, Nat.le_refl _, by unfold maxLen; decide, rfl, rfl⟩⟩
      rw [hba] at hBa
      have W8 : Sh (wrap64 ((i : Int) + 1) = ((i + 1 : Nat) : Int)) := ⟨by unfold wrap64; omega⟩
      have HIM := Sh.mk (And.intro him True.intro)
      have HROW0 := Sh.mk hrow0
      have HBA0 := Sh.mk hBa
      have HBAE := Sh.mk hba
      have HSA0 := Sh.mk (lt_of_heap hha)
      clear hrow hrow0 hB hBa hha n0_ hik him
      go_wp2_with fail
      clear hwa hba
      refine (headgateref20_low.calls 9 n 8 (lowd n 0 8) _ (rlow_f n 8 (by decide))).mono ?_
      rintro e y0 ⟨v0, rfl, hR, hb⟩
      obtain ⟨A0, c0, rfl, hc0, hby0⟩ := R_pos hR (q := 8) (lowd_length _ _ _) (by decide)
      have HBA1 := Sh.mk (HBA0.out.trans (hb.mono (Nat.le_of_lt HSA0.out)))
      have HS0 := Nat.lt_of_lt_of_le HSA0.out hb.size
      have hown : y0.ownsRow ba 5 1 (.slice (some ⟨ba, 0, none⟩) 0 0) 0 ((([] : List Int)).map (Value.int .u8)) := row_kept HROW0.out (Kept.of_below (S := fun _ => False) hb) (fun _ _ e => e)
      have hnews := news_of hby0
      have hlq : ((lowd n 0 8).map (Value.int .u8)).length = 8 * 1 := by rw [List.length_map, lowd_length]
      clear hR hb hc0 hby0 HROW0 HBA0
      go_wp2_with ((with_reducible refine Rw.at_slot 34 ?_); refine wpList_append_own _ rfl _ _ 38 rfl ba 5 i0 (.int .u8 0) 1 1 Try.underlying38 hi hz0 hz1 hz2 rfl (by decide) _ _ _ rfl hown A0 8 c0 ((lowd n 0 8).map (Value.int .u8)) rfl hlq hnews (one_u8 _) (by unfold maxLen; decide) (by decide) (by have := HS0; omega) ?_)
      intro u0_ x0 hown' hgrow _
      have HBA1' := Sh.mk (HBA1.out.grown hgrow (by have := HS0; omega) (fun k e => (hown.lt k e).1))
      have HROW1 := Sh.mk (show x0.ownsRow ba 5 1 u0_ 8 ((([] : List Int) ++ lowd n 0 8).map (Value.int .u8)) from by
        first | (rw [← List.map_append] at hown'; exact hown') | exact hown')
      have HSA1 := Sh.mk (Nat.lt_of_lt_of_le HS0 hgrow.size)
      clear hown hown' hnews hgrow HS0 HBA1 hlq
      have HBA1 := HBA1'
      clear HBA1'
      go_wp2_with fail
      refine (headgateref20_low.calls 3 i 2 (lowd i 0 2) _ (rlow_f i 2 (by decide))).mono ?_
      rintro e y1 ⟨v1, rfl, hR, hb⟩
      obtain ⟨A1, c1, rfl, hc1, hby1⟩ := R_pos hR (q := 2) (lowd_length _ _ _) (by decide)
      have HBA2 := Sh.mk (HBA1.out.trans (hb.mono (Nat.le_of_lt HSA1.out)))
      have HS1 := Nat.lt_of_lt_of_le HSA1.out hb.size
      have hown : y1.ownsRow ba 5 1 u0_ 8 ((([] : List Int) ++ lowd n 0 8).map (Value.int .u8)) := row_kept HROW1.out (Kept.of_below (S := fun _ => False) hb) (fun _ _ e => e)
      have hnews := news_of hby1
      have hlq : ((lowd i 0 2).map (Value.int .u8)).length = 2 * 1 := by rw [List.length_map, lowd_length]
      clear hR hb hc1 hby1 HROW1 HBA1
      go_wp2_with ((with_reducible refine Rw.at_slot 38 ?_); refine wpList_append_own _ rfl _ _ 38 rfl ba 5 i0 (.int .u8 0) 1 1 Try.underlying38 hi hz0 hz1 hz2 rfl (by decide) _ _ _ rfl hown A1 2 c1 ((lowd i 0 2).map (Value.int .u8)) rfl hlq hnews (one_u8 _) (by unfold maxLen; decide) (by decide) (by have := HS1; omega) ?_)
      intro u1_ x1 hown' hgrow _
      have HBA2' := Sh.mk (HBA2.out.grown hgrow (by have := HS1; omega) (fun k e => (hown.lt k e).1))
      have HROW2 := Sh.mk (show x1.ownsRow ba 5 1 u1_ 10 ((([] : List Int) ++ lowd n 0 8 ++ lowd i 0 2).map (Value.int .u8)) from by
        first | (rw [← List.map_append] at hown'; exact hown') | exact hown')
      have HSA2 := Sh.mk (Nat.lt_of_lt_of_le HS1 hgrow.size)
      clear hown hown' hnews hgrow HS1 HBA2 hlq
      have HBA2 := HBA2'
      clear HBA2'
      go_wp2_with fail
      refine (headgateref20_low.calls 3 1 2 (lowd 1 0 2) _ (rlow_f 1 2 (by decide))).mono ?_
      rintro e y2 ⟨v2, rfl, hR, hb⟩
      obtain ⟨A2, c2, rfl, hc2, hby2⟩ := R_pos hR (q := 2) (lowd_length _ _ _) (by decide)
      have HBA3 := Sh.mk (HBA2.out.trans (hb.mono (Nat.le_of_lt HSA2.out)))
      have HS2 := Nat.lt_of_lt_of_le HSA2.out hb.size
      have hown : y2.ownsRow ba 5 1 u1_ 10 ((([] : List Int) ++ lowd n 0 8 ++ lowd i 0 2).map (Value.int .u8)) := row_kept HROW2.out (Kept.of_below (S := fun _ => False) hb) (fun _ _ e => e)
      have hnews := news_of hby2
      have hlq : ((lowd 1 0 2).map (Value.int .u8)).length = 2 * 1 := by rw [List.length_map, lowd_length]
      clear hR hb hc2 hby2 HROW2 HBA2
      go_wp2_with ((with_reducible refine Rw.at_slot 42 ?_); refine wpList_append_own _ rfl _ _ 38 rfl ba 5 i0 (.int .u8 0) 1 1 Try.underlying38 hi hz0 hz1 hz2 rfl (by decide) _ _ _ rfl hown A2 2 c2 ((lowd 1 0 2).map (Value.int .u8)) rfl hlq hnews (one_u8 _) (by unfold maxLen; decide) (by decide) (by have := HS2; omega) ?_)
      intro u2_ x2 hown' hgrow _
      have HBA3' := Sh.mk (HBA3.out.grown hgrow (by have := HS2; omega) (fun k e => (hown.lt k e).1))
      have HROW3 := Sh.mk (show x2.ownsRow ba 5 1 u2_ 12 ((([] : List Int) ++ lowd n 0 8 ++ lowd i 0 2 ++ lowd 1 0 2).map (Value.int .u8)) from by
        first | (rw [← List.map_append] at hown'; exact hown') | exact hown')
      have HSA3 := Sh.mk (Nat.lt_of_lt_of_le HS2 hgrow.size)
      clear hown hown' hnews hgrow HS2 HBA3 hlq
      have HBA3 := HBA3'
      clear HBA3'
      obtain ⟨s, hs⟩ : ∃ s, 4000 * i = s := ⟨_, rfl⟩
      have hsL : s = L := by have := HIM.out; have := HL0.out; omega
      obtain ⟨pl, hpl⟩ : ∃ pl, min 4000 (L - s) = pl := ⟨_, rfl⟩
      have HPL := Sh.mk (show pl = 0 ∧ pl ≤ 4000 ∧ s + pl = L from ⟨by omega, by omega, by omega⟩)
      have HMUL := Sh.mk (show 4000 * (i : Int) = (s : Int) from by omega)
      have HMIN := Sh.mk (show (if (L : Int) < (s : Int) + 4000 then (L : Int) else (s : Int) + 4000) = (s : Int) from by split <;> omega)
      have HSL := Sh.mk hsL
      have HSI := Sh.mk hs
      have HPLE := Sh.mk hpl
      have hi251 : (i : Int) < 251 := by have := HIM.out; omega
      have hmL : L ≤ 1000000 := by have := HL0.out; omega
      have hspc : s ≤ c3 := by have := HPL.out; have := HL0.out; omega
      clear hpl hs hsL
      go_upto_region 17 with (fail)
      iterate 31 (first | go_values | go_skip | go_guarded | go_step)
      rw [HMUL.out, HMIN.out]
      clear hmL hi251
      obtain ⟨pb, hpbe⟩ : ∃ pb, (bs.drop s).take pl = pb := ⟨_, rfl⟩
      have hpbl : pb.length = pl := by rw [← hpbe, List.length_take, List.length_drop, HLL.out]; have := HPL.out; omega
      have hpb0 : pb.map (Value.int .u8) = [] := by rw [List.map_eq_nil_iff]; exact List.eq_nil_of_length_eq_zero (by rw [hpbl]; exact HPL.out.1)
      have HPBE := Sh.mk hpbe
      have HPBL := Sh.mk hpbl
      have HPB0 := Sh.mk hpb0
      clear hpbe hpbl hpb0
      have hspc2 : s + pl ≤ c3 := by have := HPL.out.1; omega
      have hpl0 : ((s : Nat) : Int) = ((s + pl : Nat) : Int) := by have := HPL.out.1; omega
      refine Rw.wpList_cutn (A := A3) (L := L) (c := c3) (l := s) (k := pl) rfl 38 5 _ _ _ rfl Try.underlying38 1 (by kernel_rfl) rfl rfl (by show Value.int .i64 _ = _; rw [← hpl0]) hspc2 ?_
      intro A' hA1 _
      have hA0 : A' = none → pl = 0 ∧ c3 - s = 0 := fun e => ⟨HPL.out.1, by have := (HN3.out (hA1 e)).2; omega⟩
      have hown := HROW3.out
      have hnum := app_nums pl HPL.out.2.1
      have hlq : (pb.map (Value.int .u8)).length = pl * 1 := by rw [List.length_map, HPBL.out, Nat.mul_one]
      clear hspc hspc2 hpl0 hA1
      go_wp2_with ((with_reducible refine Rw.at_slot 54 ?_); refine Rw.wpList_append_src rfl _ _ 38 rfl ba 5 i0 (.int .u8 0) 1 1 Try.underlying38 hi hz0 hz1 hz2 rfl (by decide) _ _ _ rfl hown A' pl (c3 - s) (pb.map (Value.int .u8)) rfl hA0 hlq (fun ad _ j u hu => by rw [HPB0.out] at hu; simp at hu) (one_u8 _) hnum.1 hnum.2 (Nat.le_of_lt HSA3.out) ?_)
      intro v6 y4 hown4 hgrow _
      have hpe : (bs.drop s).take 4000 = pb := by
        rw [← HPBE.out, ← HPLE.out, List.take_eq_take_iff, List.length_drop, HLL.out]
        omega
      have hrl : (recd n bs 1 i).length = 12 + pl := by
        unfold recd
        rw [HSI.out, hpe, List.length_append, List.length_append, List.length_append, lowd_length, lowd_length, lowd_length, HPBL.out]
      have hcel : y4.ownsRow ba 5 1 v6 (recd n bs 1 i).length ((recd n bs 1 i).map (Value.int .u8)) := by
        rw [hrl]
        unfold recd
        rw [HSI.out, hpe]
        simpa using hown4
      have hY4 : Below ba wr y4 := HBA3.out.grown hgrow (Nat.le_of_lt HSA3.out) (fun k e => (hown.lt k e).1)
      obtain ⟨A6, c6, rfl⟩ := own_slice hcel
      have hrok : RcOk y4 ⟨A6, recd n bs 1 i, c6⟩ := by
        refine ⟨?_, Bytes.own (l := recd n bs 1 i) hcel, fun a e => ?_⟩
        · rcases hcel.2 with ⟨_, h⟩ | ⟨g, cap, cur, e, _, _, hn, _⟩
          · omega
          · cases e
            exact hn
        · rcases hcel.2 with ⟨_, h⟩ | ⟨g, cap, cur, e2, _, hh, _⟩
          · omega
          · cases e2
            cases e
            exact ⟨_, _, hh⟩
      have hY4' : Below wr.heap.size wr y4 := by rw [HBAE.out]; exact hY4
      have hokx : ∀ r ∈ R ++ [⟨A6, recd n bs 1 i, c6⟩], RcOk y4 r := fun r hr => by
        rcases List.mem_append.1 hr with h | h
        · exact (HOK.out r h).kept (Kept.of_below (S := fun _ => False) hY4') (fun _ _ e => e)
        · obtain rfl : r = _ := by simpa using h
          exact hrok
      have hrowx : y4.ownsRow w3.heap.size 38 1 u7 R.length (rcells R) := row_kept HROW.out (Kept.of_below (S := fun _ => False) hY4') (fun _ _ e => e)
      have hsx : w3.heap.size ≤ y4.heap.size := Nat.le_trans HB.out.size hY4.size
      have hRn : R.length ≤ 300 := by have := HRI.out; have := HIM.out; omega
      have HOKX := Sh.mk hokx
      have HROWX := Sh.mk hrowx
      have HBX := Sh.mk (HB.out.trans (hY4'.mono HB.out.size))
      have HRL := Sh.mk hrl
      rw [hrl]
      have hnum2 := app_nums2 R.length hRn
      clear hown4 hgrow hcel hY4 hY4' hrok hokx hown hA0 hrl hRn hpe hnum hlq
      go_wp2_with ((with_reducible refine Rw.at_slot 58 ?_); refine wpList_append_own _ rfl _ _ 27 rfl w3.heap.size 38 j0 (.slice none 0 0) 1 24 Try.underlying27 hj hy0 hy1 hy2 rfl (by decide) _ _ _ rfl (hrowx.alloc _) ⟨y4.heap.size, 0, none⟩ 1 1 [.slice A6 (12 + pl) c6] rfl rfl (one_new _ _ _) (by simp [Value.oneCell']) hnum2.1 hnum2.2 (by simp; omega) ?_)
      intro v7 y5 hown5 hgrow _
      have hK5 : Kept (fun k => u7.ownBlock = some k) y4 y5 := ((Kept.refl (fun k => u7.ownBlock = some k) y4).alloc _).grown hgrow (fun k e => .inr e)
      have hB5 : Below w3.heap.size w3 y5 := (HBX.out.alloc hsx _).grown hgrow (by simp; omega) (fun k e => (hrowx.lt k e).1)
      have HOWN5 := Sh.mk hown5
      have HK5 := Sh.mk hK5
      have HB5 := Sh.mk hB5
      clear hown5 hgrow hK5 hB5 hrowx hsx hnum2
      go_wp2_with fail
      go_roundg g1_
      case measure => have := HI.out; omega
      case rel => exact ⟨i + 1, R ++ [⟨A6, recd n bs 1 i, c6⟩], by have := HI.out; omega, (by first | rfl | (rw [W8.out])), ⟨by rw [List.map_append, HMAP.out, List.range_succ, List.map_append]; rfl, by
        have e : rcells (R ++ [⟨A6, recd n bs 1 i, c6⟩]) = rcells R ++ [.slice A6 (12 + pl) c6] := by
          unfold rcells
          rw [List.map_append]
          show _ ++ [Value.slice A6 (recd n bs 1 i).length c6] = _
          rw [HRL.out]
        rw [e, List.length_append]
        exact HOWN5.out, fun r hr => (HOKX.out r hr).kept HK5.out (fun ad e => own_ne HROWX.out (HOKX.out r hr) ad e), HB5.out⟩⟩

end Go.Proofs.Ytnemnhfdjofckaa.Co

namespace Go.Proofs.Ytnemnhfdjofckaa.Co
open Go Go.RowKit Go.Proofs.YtnemnhfdjofckaaW.PrintWords Go.Proofs.Ytnemnhfdjofckaa.Print Go.Proofs.Ytnemnhfdjofckaa.Rt
def oks (fl : List S56) : Nat → Nat → Bool
  | _, 0 => true
  | i, m + 1 => decide (fokd fl i (rd_T56 fl (i : Int))) && oks fl (i + 1) m
theorem tright_f {p : ByteArray} (hp : p.size ≤ 1000000000) : tree_Right.f p = some (rgt p) := by
  unfold tree_Right.f
  rw [if_pos hp]
theorem rd_path {fl : List S56} (hp : ∀ f ∈ fl, f.f0.size ≤ 1000000000) (i : Nat) (hi : i < fl.length) : (rd_T56 fl (i : Int)).f0.size ≤ 1000000000 := by
  rw [rd_of (List.getElem?_eq_getElem hi)]
  exact hp _ (List.getElem_mem hi)
theorem cright_l0 (n : Int) (fl : List S56) (hp : ∀ f ∈ fl, f.f0.size ≤ 1000000000) (hlen : fl.length ≤ 1000000000) : ∀ (m i : Nat) (ok : Bool), i + m = fl.length → commits_Commit_right.l0 (m + 1) ok fl (fl.length : Int) (i : Int) n fl = some (ok && oks fl i m) := by
  intro m
  induction m with
  | zero =>
    intro i ok hi
    unfold commits_Commit_right.l0 oks
    rw [if_neg (by omega), Bool.and_true]
  | succ m ih =>
    intro i ok hi
    have e2 : wrap64 ((i : Int) + 1) = ((i + 1 : Nat) : Int) := by unfold wrap64; omega
    have hr := tright_f (rd_path hp i (by omega))
    unfold commits_Commit_right.l0 oks
    rw [if_pos (by omega), if_pos (by omega), if_pos (by omega), e2, hr, Option.bind_some]
    generalize hf : rd_T56 fl (i : Int) = f
    have hF := ih (i + 1) false (by omega)
    have hT := ih (i + 1) true (by omega)
    rw [Bool.false_and] at hF
    rw [Bool.true_and] at hT
    cases ok with
    | false => rw [if_neg (by simp), hF, Bool.false_and]
    | true =>
      rw [if_pos rfl, Bool.true_and]
      by_cases c1 : rgt f.f0 = true
      rotate_left
      · rw [if_neg c1, hF, decide_eq_false (fun h => c1 h.1), Bool.false_and]
      rw [if_pos c1]
      by_cases c2 : f.f1 ≥ 0
      rotate_left
      · rw [if_neg c2, hF, decide_eq_false (fun h => c2 h.2.1), Bool.false_and]
      rw [if_pos c2]
      by_cases c3 : f.f1 ≤ 1099511627776
      rotate_left
      · rw [if_neg c3, hF, decide_eq_false (fun h => c3 h.2.2.1), Bool.false_and]
      rw [if_pos c3]
      by_cases c4 : (f.f2.size : Int) ≤ 65536
      rotate_left
      · rw [if_neg c4, hF, decide_eq_false (fun h => c4 (by have := h.2.2.2.1; omega)), Bool.false_and]
      rw [if_pos c4]
      have c4n : f.f2.size ≤ 65536 := by omega
      by_cases c5 : (i : Int) = 0
      · rw [if_pos c5, hT, decide_eq_true ⟨c1, c2, c3, c4n, .inl (by omega)⟩, Bool.true_and]
      · have e3 : wrap64 ((i : Int) - 1) = ((i - 1 : Nat) : Int) := by unfold wrap64; omega
        rw [if_neg c5, e3, if_pos (by omega), if_pos (by omega)]
        rw [ih (i + 1) _ (by omega)]
        congr 1
        congr 1
        cases hb : Op.bytesLess ((rd_T56 fl ((i - 1 : Nat) : Int)).f0).toList f.f0.toList with
        | true => exact (decide_eq_true ⟨c1, c2, c3, c4n, .inr hb⟩).symm
        | false => exact (decide_eq_false (fun h => h.2.2.2.2.elim (fun h2 => c5 (by omega)) (fun h2 => by rw [hb] at h2; cases h2))).symm
theorem oks_all (fl : List S56) : ∀ (m i : Nat), oks fl i m = (List.range' i m).all fun j => decide (fokd fl j (rd_T56 fl (j : Int)))
  | 0, _ => rfl
  | m + 1, i => by
    unfold oks
    rw [oks_all fl m (i + 1)]
    rfl
theorem cright_f (n : Int) (fl : List S56) (hp : ∀ f ∈ fl, f.f0.size ≤ 1000000000) (hlen : fl.length ≤ 1000000000) : commits_Commit_right.f (fl.length + 2) n fl = some (rightd n fl) := by
  have hl := fun ok => cright_l0 n fl hp hlen fl.length 0 ok (by omega)
  have hj : ∀ ok, commits_Commit_right.j0 (fl.length + 2) ok n fl = some (ok && oks fl 0 fl.length) := fun ok => by
    unfold commits_Commit_right.j0
    exact hl ok
  have hr : rightd n fl = (decide (0 ≤ n ∧ n ≤ 1099511627776 ∧ fl.length ≤ 1024) && oks fl 0 fl.length) := by
    unfold rightd
    rw [oks_all, List.range_eq_range']
  unfold commits_Commit_right.f
  rw [hj, hj, hr]
  by_cases c1 : n ≥ 0
  · rw [if_pos c1]
    by_cases c2 : n ≤ 1099511627776
    · rw [if_pos c2]
      congr 2
      rw [decide_eq_decide]
      omega
    · rw [if_neg c2, decide_eq_false (fun h => c2 h.2.1)]
  · rw [if_neg c1, decide_eq_false (fun h => c1 h.1)]
end Go.Proofs.Ytnemnhfdjofckaa.Co

namespace Go.Proofs.Ytnemnhfdjofckaa.Co
open Go Go.RowKit Go.Proofs.YtnemnhfdjofckaaW.PrintWords Go.Proofs.Ytnemnhfdjofckaa.Print
theorem low_k (a : Int) (n : Nat) (hn : n ≤ 8) (l : List Int) (hl : l.length ≤ 999999000) : ∀ j, commits_low.f (n + 1 + j) l a (n : Int) = some (l ++ lowd a 0 n)
  | 0 => low_f a n hn l hl
  | j + 1 => commits_low.mono _ _ _ _ _ (low_k a n hn l hl j)
theorem rlow_k (a : Int) (n : Nat) (hn : n ≤ 8) : ∀ j, headgateref20_low.f (n + 1 + j) a (n : Int) = some (lowd a 0 n)
  | 0 => rlow_f a n hn
  | j + 1 => headgateref20_low.mono _ _ _ _ (rlow_k a n hn j)
/-- A file's bytes. -/
def fileb (f : S56) : List Int := [(f.f0.size : Int) % 256] ++ bytesOf f.f0 ++ lowd f.f1 0 8 ++ lowd (f.f2.size : Int) 0 4 ++ bytesOf f.f2
/-- The bytes of m files from the i-th on. -/
def restb (fl : List S56) : Nat → Nat → List Int
  | _, 0 => []
  | i, m + 1 => fileb (rd_T56 fl (i : Int)) ++ restb fl (i + 1) m
theorem fileb_length (f : S56) : (fileb f).length = 1 + f.f0.size + 8 + 4 + f.f2.size := by
  unfold fileb
  rw [List.length_append, List.length_append, List.length_append, List.length_append, bytesOf_length, bytesOf_length, lowd_length, lowd_length]
  rfl
theorem cbytes_l0 (fl : List S56) (hv : ∀ i : Nat, i < fl.length → 0 ≤ (rd_T56 fl (i : Int)).f1 ∧ (rd_T56 fl (i : Int)).f1 ≤ 1099511627776) (hlen : fl.length ≤ 1000000000) : ∀ (m i : Nat) (acc : List Int), i + m = fl.length → acc.length + (restb fl i m).length ≤ 999000000 →
    commits_Commit_bytes.l0 (m + 10) acc fl (fl.length : Int) (i : Int) = some (acc ++ restb fl i m) := by
  intro m
  induction m with
  | zero =>
    intro i acc hi _
    unfold commits_Commit_bytes.l0 restb
    rw [if_neg (by omega), List.append_nil]
  | succ m ih =>
    intro i acc hi hb
    have e2 : wrap64 ((i : Int) + 1) = ((i + 1 : Nat) : Int) := by unfold wrap64; omega
    have hvi := hv i (by omega)
    rw [show m + 1 + 10 = (m + 10) + 1 by omega]
    unfold commits_Commit_bytes.l0
    unfold restb at hb ⊢
    rw [List.length_append, fileb_length] at hb
    have hih := ih (i + 1) (acc ++ fileb (rd_T56 fl (i : Int))) (by omega) (by rw [List.length_append, fileb_length]; omega)
    generalize rd_T56 fl (i : Int) = f at *
    have u1 : IntKind.u64.wrap f.f1 = f.f1 := by rw [IntKind.wrap_u64]; omega
    have u2 : IntKind.u64.wrap ((f.f2.size : Int)) = (f.f2.size : Int) := by rw [IntKind.wrap_u64]; omega
    have l1 : (acc ++ [(f.f0.size : Int) % 256]).length = acc.length + 1 := by simp
    have k1 := low_k f.f1 8 (by decide) ((acc ++ [(f.f0.size : Int) % 256]) ++ bytesOf f.f0) (by rw [List.length_append, l1, bytesOf_length]; omega) (m + 1)
    have k2 := low_k (f.f2.size : Int) 4 (by decide) (((acc ++ [(f.f0.size : Int) % 256]) ++ bytesOf f.f0) ++ lowd f.f1 0 8) (by rw [List.length_append, List.length_append, l1, bytesOf_length, lowd_length]; omega) (m + 5)
    rw [show 8 + 1 + (m + 1) = m + 10 by omega] at k1
    rw [show 4 + 1 + (m + 5) = m + 10 by omega] at k2
    have k1' : commits_low.f (m + 10) ((acc ++ [(f.f0.size : Int) % 256]) ++ bytesOf f.f0) f.f1 8 = _ := k1
    have k2' : commits_low.f (m + 10) (((acc ++ [(f.f0.size : Int) % 256]) ++ bytesOf f.f0) ++ lowd f.f1 0 8) (f.f2.size : Int) 4 = _ := k2
    rw [if_pos (by omega), if_pos (by omega), if_pos (by omega), if_pos (by omega), Option.bind_some, if_pos (by rw [l1]; omega), u1, k1', Option.bind_some, u2, k2', Option.bind_some, if_pos (by rw [List.length_append, List.length_append, List.length_append, l1, bytesOf_length, lowd_length, lowd_length]; omega), e2]
    have ee : (((acc ++ [(f.f0.size : Int) % 256]) ++ bytesOf f.f0) ++ lowd f.f1 0 8) ++ lowd (f.f2.size : Int) 0 4 ++ bytesOf f.f2 = acc ++ fileb f := by
      unfold fileb
      simp only [List.append_assoc]
    rw [ee, hih, List.append_assoc]
theorem cbytes_f (n : Int) (fl : List S56) (hv : ∀ i : Nat, i < fl.length → 0 ≤ (rd_T56 fl (i : Int)).f1 ∧ (rd_T56 fl (i : Int)).f1 ≤ 1099511627776) (hlen : fl.length ≤ 1000000000) (hb : (restb fl 0 fl.length).length ≤ 999000000) :
    commits_Commit_bytes.f (fl.length + 10) n fl = some (restb fl 0 fl.length) := by
  unfold commits_Commit_bytes.f
  exact cbytes_l0 fl hv hlen fl.length 0 [] (by omega) (by simpa using hb)
end Go.Proofs.Ytnemnhfdjofckaa.Co

namespace Go.Proofs.Ytnemnhfdjofckaa.Co
open Go Go.RowKit Go.Proofs.YtnemnhfdjofckaaW.PrintWords Go.Proofs.Ytnemnhfdjofckaa.Print
theorem rbytes_l0 (n : Int) (fl : List S56) (hlen : fl.length ≤ 1000000000) : ∀ (m i : Nat) (acc : List Int), i + m = fl.length → acc.length + (restb fl i m).length ≤ 999000000 →
    headgateref20_Bytes.l0 (m + 10) acc (i : Int) n fl = some (acc ++ restb fl i m) := by
  intro m
  induction m with
  | zero =>
    intro i acc hi _
    unfold headgateref20_Bytes.l0 restb
    rw [if_neg (by omega), List.append_nil]
  | succ m ih =>
    intro i acc hi hb
    have e2 : wrap64 ((i : Int) + 1) = ((i + 1 : Nat) : Int) := by unfold wrap64; omega
    rw [show m + 1 + 10 = (m + 10) + 1 by omega]
    unfold headgateref20_Bytes.l0
    unfold restb at hb ⊢
    rw [List.length_append, fileb_length] at hb
    have hih := ih (i + 1) (acc ++ fileb (rd_T56 fl (i : Int))) (by omega) (by rw [List.length_append, fileb_length]; omega)
    generalize rd_T56 fl (i : Int) = f at *
    have l1 : (acc ++ [(f.f0.size : Int) % 256]).length = acc.length + 1 := by simp
    have k1 := rlow_k f.f1 8 (by decide) (m + 1)
    have k2 := rlow_k (f.f2.size : Int) 4 (by decide) (m + 5)
    rw [show 8 + 1 + (m + 1) = m + 10 by omega] at k1
    rw [show 4 + 1 + (m + 5) = m + 10 by omega] at k2
    have k1' : headgateref20_low.f (m + 10) f.f1 8 = _ := k1
    have k2' : headgateref20_low.f (m + 10) (f.f2.size : Int) 4 = _ := k2
    rw [if_pos (by omega), if_pos (by omega), if_pos (by omega), Option.bind_some, if_pos (by rw [l1]; omega), Option.bind_some, k1', Option.bind_some, if_pos (by rw [List.length_append, l1, bytesOf_length, lowd_length]; omega), Option.bind_some, k2', Option.bind_some,
      if_pos (by rw [List.length_append, List.length_append, l1, bytesOf_length, lowd_length, lowd_length]; omega), Option.bind_some, if_pos (by rw [List.length_append, List.length_append, List.length_append, l1, bytesOf_length, lowd_length, lowd_length]; omega), e2]
    have ee : (((acc ++ [(f.f0.size : Int) % 256]) ++ bytesOf f.f0) ++ lowd f.f1 0 8) ++ lowd (f.f2.size : Int) 0 4 ++ bytesOf f.f2 = acc ++ fileb f := by
      unfold fileb
      simp only [List.append_assoc]
    rw [ee, hih, List.append_assoc]
theorem rbytes_f (n : Int) (fl : List S56) (hlen : fl.length ≤ 1000000000) (hb : (restb fl 0 fl.length).length ≤ 999000000) :
    headgateref20_Bytes.f (fl.length + 10) n fl = some (restb fl 0 fl.length) := by
  unfold headgateref20_Bytes.f
  exact rbytes_l0 n fl hlen fl.length 0 [] (by omega) (by simpa using hb)
end Go.Proofs.Ytnemnhfdjofckaa.Co

namespace Go.Proofs.Ytnemnhfdjofckaa.Rd
open Go Go.RowKit Go.WideShapes Go.Proofs.YtnemnhfdjofckaaW.PrintWords Go.Proofs.Ytnemnhfdjofckaa.Print
theorem cells_get {w : World} {a : Addr} {n : Nat} {es : List Value} (h : w.cells? 0 a n = some es) : es.length = n ∧ ∀ (i : Nat) (u : Value), es[i]? = some u → w.cell? (a.add i) = some u := by
  unfold World.cells? at h
  split at h
  · obtain ⟨h1, h2⟩ := mapM_some h
    rw [List.length_range] at h1
    refine ⟨h1, fun i u hu => ?_⟩
    have hi : i < n := by rw [← h1]; exact (List.getElem?_eq_some_iff.1 hu).1
    obtain ⟨y, hy, hf⟩ := h2 i i (List.getElem?_range hi)
    rw [hu] at hy
    cases hy
    exact hf
  · cases h
theorem some_list {α : Type} {p : Nat → α → Prop} : ∀ (n : Nat), (∀ i, i < n → ∃ x, p i x) → ∃ l : List α, l.length = n ∧ ∀ i x, l[i]? = some x → p i x
  | 0, _ => ⟨[], rfl, by simp⟩
  | n + 1, h => by
    obtain ⟨l, hl, hp⟩ := some_list n (fun i hi => h i (by omega))
    obtain ⟨x, hx⟩ := h n (by omega)
    refine ⟨l ++ [x], by simp [hl], fun i y hy => ?_⟩
    rcases Nat.lt_trichotomy i n with h1 | h1 | h1
    · rw [List.getElem?_append_left (by omega)] at hy
      exact hp i y hy
    · subst h1
      rw [List.getElem?_append_right (by omega), hl, Nat.sub_self] at hy
      simp at hy
      subst hy
      exact hx
    · rw [List.getElem?_eq_none (by simp; omega)] at hy
      cases hy
theorem add_more (a : Addr) (i j : Nat) : (a.add i).add j = a.add (i + j) := by
  unfold Addr.add
  by_cases h1 : i = 0
  · subst h1; simp
  · by_cases h2 : j = 0
    · subst h2; simp [h1]
    · simp [h1, h2, Nat.add_assoc]
/-- A slice that reads, as a row; 'nil' has no room. -/
theorem rd_C {α : Type} (K : Kd α) {P : Program} {w : World} {t e : TypeId} (ht : P.underlying t = some (.slice e)) (hs : P.cellsOf e = K.sz) (hr : ∀ cs, Rd P w e cs → ∃ x, K.K w x cs) {cs : List Value} (h : Rd P w t cs) :
    ∃ A l c, cs = [.slice A l.length c] ∧ l.length ≤ c ∧ l.length ≤ maxLen ∧ K.C w A l.length l ∧ (A = none → l.length = 0 ∧ c = 0) := by
  obtain ⟨a, len, cap, rfl, hh⟩ := rd_slice ht h
  rcases hh with ⟨rfl, rfl, rfl⟩ | ⟨ad, rfl, hlc, hcm, _, hel⟩
  · exact ⟨none, [], 0, rfl, Nat.le_refl _, by unfold maxLen; simp, Kd.C_nil K w, fun _ => ⟨rfl, rfl⟩⟩
  · rw [hs] at hel
    obtain ⟨l, hl, hp⟩ := some_list (p := fun i (x : α) => ∃ es, w.cells? 0 (ad.add (i * K.sz)) K.sz = some es ∧ K.K w x es) len (fun i hi => by
      obtain ⟨es, h1, h2⟩ := hel i (by omega)
      obtain ⟨x, hx⟩ := hr es h2
      exact ⟨x, es, h1, hx⟩)
    refine ⟨some ad, l, cap, by rw [hl], by omega, by omega, ⟨rfl, by unfold maxLen at hcm; omega, fun _ => ⟨ad, rfl, fun j p hj => ?_⟩⟩, fun e => by cases e⟩
    obtain ⟨es, h1, h2⟩ := hp j p hj
    obtain ⟨h3, h4⟩ := cells_get h1
    refine ⟨es, h3, h2, fun i u hu => ?_⟩
    rw [← add_more]
    exact h4 i u hu
theorem arg_C {α : Type} (K : Kd α) {P : Program} {w : World} {t e : TypeId} (ht : P.underlying t = some (.slice e)) (hs : P.cellsOf e = K.sz) (hr : ∀ cs, Rd P w e cs → ∃ x, K.K w x cs) {v : Value} (h : Arg P w t v) :
    ∃ A l c, v = .slice A l.length c ∧ l.length ≤ c ∧ l.length ≤ maxLen ∧ K.C w A l.length l ∧ (A = none → l.length = 0 ∧ c = 0) := by
  obtain ⟨⟨b, ho⟩, hrd⟩ := h
  obtain ⟨a, len, cap, rfl⟩ := okWide_slice ht ho
  obtain ⟨A, l, c, h1, h2⟩ := rd_C K ht hs hr hrd
  simp [Value.cells] at h1
  obtain ⟨rfl, rfl, rfl⟩ := h1
  exact ⟨_, _, _, rfl, h2⟩
theorem field_at {fs : Array Field} {m : List (Nat × TypeId)} (h : fs.toList.map (fun f => (f.offset, f.type)) = m) {i o t : Nat} (hi : m[i]? = some (o, t)) : ∃ f, fs.toList[i]? = some f ∧ f.offset = o ∧ f.type = t := by
  subst h
  rw [List.getElem?_map] at hi
  obtain ⟨f, hf, he⟩ := Option.map_eq_some_iff.1 hi
  exact ⟨f, hf, by simpa using congrArg Prod.fst he, by simpa using congrArg Prod.snd he⟩
end Go.Proofs.Ytnemnhfdjofckaa.Rd

namespace Go.Proofs.Ytnemnhfdjofckaa.Co
open Go Go.RowKit Go.Proofs.YtnemnhfdjofckaaW.PrintWords Go.Proofs.Ytnemnhfdjofckaa.Print
theorem same_l0 (l : List (List Int)) (hl : l.length ≤ 1000000000) : ∀ m i : Nat, i + m = l.length → headgateref20_Same.l0 (m + 1) l l (i : Int) = some true := by
  intro m
  induction m with
  | zero =>
    intro i hi
    unfold headgateref20_Same.l0
    rw [if_neg (by omega)]
  | succ m ih =>
    intro i hi
    unfold headgateref20_Same.l0
    rw [if_pos (by omega), if_pos (by omega), if_pos (by omega), if_pos rfl, show wrap64 ((i : Int) + 1) = ((i + 1 : Nat) : Int) by unfold wrap64; omega]
    exact ih (i + 1) (by omega)
theorem same_f (l : List (List Int)) (hl : l.length ≤ 1000000000) : headgateref20_Same.f (l.length + 1) l l = some true := by
  unfold headgateref20_Same.f
  rw [if_pos rfl]
  exact same_l0 l hl l.length 0 (by omega)
/-- Few files, and short ones. -/
def Small (fl : List S56) : Prop := fl.length ≤ 8 ∧ ∀ f ∈ fl, f.f0.size ≤ 100 ∧ f.f2.size ≤ 20060
/-- An answer, of few files if it is 'true'. -/
def Ans (r : Option (List S56 × Bool)) : Prop := ∃ r1 r2, r = some (r1, r2) ∧ (r2 = true → Small r1)
theorem ans_bad : Ans (some (([] : List S56), false)) := ⟨[], false, rfl, fun h => by cases h⟩
theorem files_l1 (l : List S54) (acc : List S56) (i : Nat) (p : ByteArray) (v : Int) (S : ByteArray) (times : Int) (hS : S.size ≤ 60) (ht : times ≤ 2000) (ha : acc.length ≤ 8)
    (hnext : ∀ con : ByteArray, con.size ≤ 20060 → ∃ k, Ans (headgatelaw20_files.l0 k l (acc ++ [⟨p, v, con⟩]) (wrap64 ((i : Int) + 1)))) :
    ∀ (m x8 : Nat) (x7 : ByteArray), x8 + m = 2001 → x7.size ≤ 20060 → ∃ k, Ans (headgatelaw20_files.l1 k l acc (i : Int) x7 (x8 : Int) p v S times) := by
  intro m
  induction m with
  | zero =>
    intro x8 x7 hm hx
    obtain ⟨k, hk⟩ := hnext x7 hx
    refine ⟨k + 1, ?_⟩
    unfold headgatelaw20_files.l1
    rw [if_neg (by omega), if_pos (by omega)]
    exact hk
  | succ m ih =>
    intro x8 x7 hm hx
    by_cases c1 : (x8 : Int) < times
    · by_cases c2 : (x7.size : Int) < 20000
      · obtain ⟨k, hk⟩ := ih (x8 + 1) (x7 ++ S) (by omega) (by rw [ByteArray.size_append]; omega)
        refine ⟨k + 1, ?_⟩
        unfold headgatelaw20_files.l1
        rw [if_pos c1, if_pos c2, if_pos (by omega), show wrap64 ((x8 : Int) + 1) = ((x8 + 1 : Nat) : Int) by unfold wrap64; omega]
        exact hk
      · obtain ⟨k, hk⟩ := hnext x7 hx
        refine ⟨k + 1, ?_⟩
        unfold headgatelaw20_files.l1
        rw [if_pos c1, if_neg c2, if_pos (by omega)]
        exact hk
    · obtain ⟨k, hk⟩ := hnext x7 hx
      refine ⟨k + 1, ?_⟩
      unfold headgatelaw20_files.l1
      rw [if_neg c1, if_pos (by omega)]
      exact hk
theorem files_l0 (l : List S54) : ∀ (d i : Nat) (acc : List S56), i + d = 8 → acc.length = i → Small acc → ∃ k, Ans (headgatelaw20_files.l0 k l acc (i : Int)) := by
  intro d
  induction d with
  | zero =>
    intro i acc hi hl ha
    refine ⟨3, ?_⟩
    unfold headgatelaw20_files.l0
    by_cases c1 : (i : Int) < (l.length : Int)
    · rw [if_pos c1, if_pos (by omega), if_pos (by omega)]
      unfold headgatelaw20_files.j1
      rw [if_pos rfl]
      exact ans_bad
    · rw [if_neg c1]
      exact ⟨acc, true, rfl, fun _ => ha⟩
  | succ d ih =>
    intro i acc hi hl ha
    by_cases c1 : (i : Int) < (l.length : Int)
    rotate_left
    · refine ⟨1, ?_⟩
      unfold headgatelaw20_files.l0
      rw [if_neg c1]
      exact ⟨acc, true, rfl, fun _ => ha⟩
    have c2 : ¬ (i : Int) = 8 := by omega
    by_cases c3 : ((rd_T54 l (i : Int)).f2.size : Int) > 60
    · refine ⟨2, ?_⟩
      unfold headgatelaw20_files.l0
      rw [if_pos c1, if_pos (by omega), if_neg c2, if_pos c3]
      unfold headgatelaw20_files.j1
      rw [if_pos rfl]
      exact ans_bad
    by_cases c4 : ((rd_T54 l (i : Int)).f0.size : Int) > 100
    · refine ⟨2, ?_⟩
      unfold headgatelaw20_files.l0
      rw [if_pos c1, if_pos (by omega), if_neg c2, if_neg c3, if_pos c4]
      unfold headgatelaw20_files.j1
      rw [if_pos rfl]
      exact ans_bad
    by_cases c5 : (rd_T54 l (i : Int)).f3 < 0
    · refine ⟨2, ?_⟩
      unfold headgatelaw20_files.l0
      rw [if_pos c1, if_pos (by omega), if_neg c2, if_neg c3, if_neg c4, if_pos c5]
      unfold headgatelaw20_files.j1
      rw [if_pos rfl]
      exact ans_bad
    by_cases c6 : (rd_T54 l (i : Int)).f3 > 2000
    · refine ⟨2, ?_⟩
      unfold headgatelaw20_files.l0
      rw [if_pos c1, if_pos (by omega), if_neg c2, if_neg c3, if_neg c4, if_neg c5, decide_eq_true c6]
      unfold headgatelaw20_files.j1
      rw [if_pos rfl]
      exact ans_bad
    obtain ⟨k, hk⟩ := files_l1 l acc i (rd_T54 l (i : Int)).f0 (rd_T54 l (i : Int)).f1 (rd_T54 l (i : Int)).f2 (rd_T54 l (i : Int)).f3 (by omega) (by omega) (by omega) (fun con hcon => by
      rw [show wrap64 ((i : Int) + 1) = ((i + 1 : Nat) : Int) by unfold wrap64; omega]
      refine ih (i + 1) _ (by omega) (by rw [List.length_append, hl]; rfl) ⟨by rw [List.length_append, hl]; show i + 1 ≤ 8; omega, fun f hf => ?_⟩
      rcases List.mem_append.1 hf with h | h
      · exact ha.2 f h
      · obtain rfl : f = _ := by simpa using h
        exact ⟨by show (rd_T54 l (i : Int)).f0.size ≤ 100; omega, hcon⟩) 2001 0 ⟨#[]⟩ (by omega) (by decide)
    refine ⟨k + 2, ?_⟩
    unfold headgatelaw20_files.l0
    rw [if_pos c1, if_pos (by omega), if_neg c2, if_neg c3, if_neg c4, if_neg c5, decide_eq_false c6]
    unfold headgatelaw20_files.j1
    rw [if_neg (by simp)]
    exact hk
theorem files_f (l : List S54) : ∃ k r1 r2, headgatelaw20_files.f k l = some (r1, r2) ∧ (r2 = true → Small r1) := by
  obtain ⟨k, r1, r2, h1, h2⟩ := files_l0 l 8 0 [] (by omega) rfl ⟨by simp, by simp⟩
  exact ⟨k, r1, r2, h1, h2⟩
end Go.Proofs.Ytnemnhfdjofckaa.Co

namespace Go.Proofs.Ytnemnhfdjofckaa.Co
open Go Go.RowKit Rd Go.Proofs.YtnemnhfdjofckaaW.PrintWords Go.Proofs.Ytnemnhfdjofckaa.Print
theorem fields_big : ∃ fs, Try.prog.underlying 54 = some (.struct fs) ∧ fs.toList.map (fun f => (f.offset, f.type)) = [(0, 9), (1, 3), (2, 9), (3, 3)] := ⟨_, Try.underlying54, rfl⟩
theorem sz_big : Try.prog.cellsOf 9 = 1 ∧ Try.prog.cellsOf 3 = 1 ∧ Try.prog.cellsOf 54 = 4 := ⟨by kernel_rfl, by kernel_rfl, by kernel_rfl⟩
theorem rd_big {w : World} {cs : List Value} (h : Rd Try.prog w 54 cs) : ∃ x : S54, k54.K w x cs := by
  obtain ⟨fs, hu, hm⟩ := fields_big
  obtain ⟨z0, z1, z2⟩ := sz_big
  obtain ⟨hl, hr⟩ := rd_struct hu h
  rw [z2] at hl
  obtain ⟨v0, v1, v2, v3, rfl⟩ : ∃ v0 v1 v2 v3, cs = [v0, v1, v2, v3] := by
    match cs, hl with
    | [v0, v1, v2, v3], _ => exact ⟨_, _, _, _, rfl⟩
  have get : ∀ i o t, ([(0, 9), (1, 3), (2, 9), (3, 3)] : List (Nat × TypeId))[i]? = some (o, t) → Rd Try.prog w t (([v0, v1, v2, v3].drop o).take (Try.prog.cellsOf t)) := fun i o t hi => by
    obtain ⟨f, hf, ho, ht⟩ := Rd.field_at hm hi
    have := hr i f hf
    rw [ho, ht] at this
    exact this
  have g0 := get 0 _ _ rfl
  have g1 := get 1 _ _ rfl
  have g2 := get 2 _ _ rfl
  have g3 := get 3 _ _ rfl
  rw [z0] at g0 g2
  rw [z1] at g1 g3
  obtain ⟨p, h0, -⟩ := rd_string Try.underlying9 g0
  obtain ⟨v, h1, -⟩ := rd_int Try.underlying3 g1
  obtain ⟨s, h2, -⟩ := rd_string Try.underlying9 g2
  obtain ⟨n, h3, -⟩ := rd_int Try.underlying3 g3
  simp at h0 h1 h2 h3
  subst h0 h1 h2 h3
  exact ⟨⟨p, v, s, n⟩, k54_mk w _⟩
theorem arg_bigs {w : World} {v : Value} (h : Arg Try.prog w 22 v) : ∃ A l c, v = .slice A l.length c ∧ l.length ≤ c ∧ Kd.C k54 w A l.length l := by
  obtain ⟨A, l, c, h1, h2, _, h3, _⟩ := arg_C k54 Try.underlying22 sz_big.2.2 (fun cs hc => rd_big hc) h
  exact ⟨A, l, c, h1, h2, h3⟩
/-- The law's files: few, short ones, or the law is at its end. -/
theorem files_ok (w : World) (A : Option Addr) (c : Nat) (l : List S54) (hC : Kd.C k54 w A l.length l) (hc : l.length ≤ c) :
    Calls Try.prog 8 #[.slice A l.length c] w fun e w' => ∃ (A' : Option Addr) (c' : Nat) (fl : List S56) (ok : Bool), e = .returned (.tuple #[.slice A' fl.length c', .bool ok]) ∧ fl.length ≤ c' ∧ Kd.C k56 w' A' fl.length fl ∧ (ok = true → Small fl) ∧ Below w.heap.size w w' := by
  obtain ⟨k, r1, r2, hf, hs⟩ := files_f l
  refine (headgatelaw20_files.calls k A c l r1 r2 w hC hc hf).mono ?_
  rintro e w' ⟨v, rfl, hR, hB⟩
  obtain ⟨A', c', rfl, h1, h2⟩ := Kd.R_reads hR
  exact ⟨A', c', r1, r2, rfl, h1, h2, hs, hB⟩
end Go.Proofs.Ytnemnhfdjofckaa.Co

namespace Go.Proofs.Ytnemnhfdjofckaa.Co
open Go Go.RowKit Hp Go.Proofs.Ytnemnhfdjofckaa.Fr Go.Proofs.Ytnemnhfdjofckaa.Ck Go.Proofs.YtnemnhfdjofckaaW.PrintWords Go.Proofs.Ytnemnhfdjofckaa.Print Go.Proofs.Ytnemnhfdjofckaa.Rt
/-- A commit's records, and the error. -/
def encd (n : Int) (fl : List S56) : List (List Int) := if rightd n fl = true then recs n (restb fl 0 fl.length) else []
def encE (n : Int) (fl : List S56) : Int := if rightd n fl = true then 0 else 201
structure EncRes (w w' : World) (a : Option Addr) (c' : Nat) (R : List Rc) (n : Int) (fl : List S56) : Prop where
  cap : R.length ≤ c'
  row : w'.ownsRow w.heap.size 38 1 (.slice a R.length c') R.length (rcells R)
  ok : ∀ r ∈ R, RcOk w' r
  recs : R.map Rc.l = encd n fl
  bel : Below w.heap.size w w'
theorem restb_length (fl : List S56) (hs : ∀ f ∈ fl, f.f0.size ≤ 1000 ∧ f.f2.size ≤ 66000) : ∀ (m i : Nat), i + m = fl.length → (restb fl i m).length ≤ 67100 * m
  | 0, _, _ => by simp [restb]
  | m + 1, i, hi => by
    unfold restb
    rw [List.length_append, fileb_length]
    have h := restb_length fl hs m (i + 1) (by omega)
    have hf := hs _ (List.getElem_mem (show i < fl.length by omega))
    rw [← rd_of (List.getElem?_eq_getElem (show i < fl.length by omega))] at hf
    omega
theorem Small.wide {fl : List S56} (h : Small fl) : ∀ f ∈ fl, f.f0.size ≤ 1000 ∧ f.f2.size ≤ 66000 := fun f hf => by have := h.2 f hf; omega
theorem vers {n : Int} {fl : List S56} (h : rightd n fl = true) : ∀ i : Nat, i < fl.length → 0 ≤ (rd_T56 fl (i : Int)).f1 ∧ (rd_T56 fl (i : Int)).f1 ≤ 1099511627776 := fun i hi => by
  have h1 := ((rightd_iff n fl).1 h).2.2.2 i _ (List.getElem?_eq_getElem hi)
  rw [rd_of (List.getElem?_eq_getElem hi)]
  exact ⟨h1.2.1, h1.2.2.1⟩
theorem EncRes.bad {w w' : World} {n : Int} {fl : List S56} (hr : rightd n fl = false) (hB : Below w.heap.size w w') : EncRes w w' none 0 [] n fl :=
  ⟨Nat.le_refl _, World.ownsRow_nil _ _ _ _, by simp, by unfold encd; rw [hr]; rfl, hB⟩
theorem encE_bad {n : Int} {fl : List S56} (hr : rightd n fl = false) : encE n fl = 201 := by unfold encE; rw [hr]; rfl
theorem encE_good {n : Int} {fl : List S56} (hr : rightd n fl = true) : encE n fl = 0 := by unfold encE; rw [hr]; rfl
theorem encd_good {n : Int} {fl : List S56} (hr : rightd n fl = true) : encd n fl = recs n (restb fl 0 fl.length) := by unfold encd; rw [hr]; rfl
theorem path_ok {fl : List S56} (h : Small fl) : ∀ f ∈ fl, f.f0.size ≤ 1000000000 := fun f hf => by have := (h.2 f hf).1; omega
/-- commits.Encode. -/
theorem enc_any (n : Int) (A : Option Addr) (c : Nat) (fl : List S56) (w : World) (hC : Kd.C k56 w A fl.length fl) (hc : fl.length ≤ c) (hs : Small fl) :
    Calls Try.prog 10 #[.agg #[.int .i64 n, .slice A fl.length c]] w fun e w' => ∃ (a : Option Addr) (c' : Nat) (R : List Rc), e = .returned (.tuple #[.slice a R.length c', .int .i64 (encE n fl)]) ∧ EncRes w w' a c' R n fl := by
  have hlen := hs.1
  have hcr := cright_f n fl (path_ok hs) (by omega)
  cases hr : rightd n fl with
  | false =>
    rw [hr] at hcr
    refine (encode_bad _ n A c fl w hC hc hcr).mono ?_
    rintro e w' ⟨rfl, hB⟩
    exact ⟨none, 0, [], by rw [encE_bad hr]; rfl, EncRes.bad hr hB⟩
  | true =>
    rw [hr] at hcr
    obtain ⟨h0, h1, -, -⟩ := (rightd_iff n fl).1 hr
    have hlb := restb_length fl hs.wide fl.length 0 (by omega)
    have hcb := cbytes_f n fl (vers hr) (by omega) (by omega)
    rcases Nat.eq_zero_or_pos (restb fl 0 fl.length).length with hz | hp
    · have hz' := List.eq_nil_of_length_eq_zero hz
      rw [hz'] at hcb
      refine (encode_zero _ _ n A c fl w hC hc hcr hcb h0 h1).mono ?_
      rintro e w' ⟨a, c', R, rfl, k1, k2, k3, k4, k5⟩
      exact ⟨a, c', R, by rw [encE_good hr], k1, k2, k3, by rw [k4, encd_good hr, hz'], k5⟩
    · refine (encode_good _ _ n A c fl _ w hC hc hcr hcb h0 h1 (by omega) hp).mono ?_
      rintro e w' ⟨a, c', R, rfl, k1, k2, k3, k4, k5⟩
      exact ⟨a, c', R, by rw [encE_good hr], k1, k2, k3, by rw [k4, encd_good hr], k5⟩
/-- The document's Encode. -/
theorem renc_any (n : Int) (A : Option Addr) (c : Nat) (fl : List S56) (w : World) (hC : Kd.C k56 w A fl.length fl) (hc : fl.length ≤ c) (hs : Small fl) :
    Calls Try.prog 11 #[.agg #[.int .i64 n, .slice A fl.length c]] w fun e w' => ∃ (a : Option Addr) (c' : Nat) (R : List Rc), e = .returned (.tuple #[.slice a R.length c', .int .i64 (encE n fl)]) ∧ EncRes w w' a c' R n fl := by
  have hlen := hs.1
  cases hr : rightd n fl with
  | false =>
    refine (renc_bad n A c fl w hC (path_ok hs) (by omega) hr).mono ?_
    rintro e w' ⟨rfl, hB⟩
    exact ⟨none, 0, [], by rw [encE_bad hr]; rfl, EncRes.bad hr hB⟩
  | true =>
    have hlb := restb_length fl hs.wide fl.length 0 (by omega)
    have hcb := rbytes_f n fl (by omega) (by omega)
    rcases Nat.eq_zero_or_pos (restb fl 0 fl.length).length with hz | hp
    · refine (renc_zero _ n A c fl _ w hC hc (path_ok hs) (by omega) hr hcb hz).mono ?_
      rintro e w' ⟨a, c', R, rfl, k1, k2, k3, k4, k5⟩
      exact ⟨a, c', R, by rw [encE_good hr], k1, k2, k3, by rw [k4, encd_good hr], k5⟩
    · refine (renc_good _ n A c fl _ w hC hc (path_ok hs) (by omega) hr hcb (by omega) hp).mono ?_
      rintro e w' ⟨a, c', R, rfl, k1, k2, k3, k4, k5⟩
      exact ⟨a, c', R, by rw [encE_good hr], k1, k2, k3, by rw [k4, encd_good hr], k5⟩
end Go.Proofs.Ytnemnhfdjofckaa.Co

namespace Go.Proofs.Ytnemnhfdjofckaa.Co
open Go Go.RowKit Hp Go.Proofs.Ytnemnhfdjofckaa.Fr Go.Proofs.Ytnemnhfdjofckaa.Ck Go.Proofs.YtnemnhfdjofckaaW.PrintWords Go.Proofs.Ytnemnhfdjofckaa.Print Go.Proofs.Ytnemnhfdjofckaa.Rt
def aliveFile : S56 := ⟨⟨#[102]⟩, 2, ⟨#[104, 105]⟩⟩
theorem alive_right : rightd 5 [aliveFile] = true := by decide +kernel
def aliveRec : List Int := [5, 0, 0, 0, 0, 0, 0, 0, 0, 0, 1, 0, 1, 102, 2, 0, 0, 0, 0, 0, 0, 0, 2, 0, 0, 0, 104, 105]
theorem alive_recs : recs 5 (restb [aliveFile] 0 1) = [aliveRec] := by decide +kernel
theorem alive_len : (restb [aliveFile] 0 1).length = 16 := by decide +kernel
theorem file_C (w : World) (g : Nat) (f : S56) (h : w.heap[g]? = some (.cells #[.string f.f0, .int .i64 f.f1, .string f.f2] 56 (0, 0))) : Kd.C k56 w (some ⟨g, 0, none⟩) 1 [f] := by
  refine ⟨rfl, by decide, fun _ => ⟨_, rfl, fun j p hj => ?_⟩⟩
  match j, hj with
  | 0, hj =>
    cases hj
    refine ⟨[.string f.f0, .int .i64 f.f1, .string f.f2], rfl, k56_mk w f, fun i u hu => ?_⟩
    show w.cell? ((⟨g, 0, none⟩ : Addr).add (0 * 3 + i)) = _
    rw [Addr.add_mid, Nat.zero_mul, Nat.zero_add, Nat.zero_add, Rw.blk_cell h i]
    simpa using hu
set_option maxHeartbeats 4000000 in
set_option maxRecDepth 100000 in
theorem alive_ok (w : World) : Calls Try.prog 9 #[] w fun e w' => e = .returned (.bool true) ∧ Below w.heap.size w w' := by
  go_enter Try.func9, Try.ntmps9
  go_wp2_with fail
  obtain ⟨w1, hw1⟩ : ∃ w1, w.alloc (.cells #[.string ⟨#[102]⟩, .int .i64 2, .string ⟨#[104, 105]⟩] 56) = w1 := ⟨_, rfl⟩
  obtain ⟨b0, hb0⟩ : ∃ b0, w.heap.size = b0 := ⟨_, rfl⟩
  have hB1 : Below w.heap.size w w1 := by rw [← hw1]; exact (Below.refl _ _).alloc (Nat.le_refl _) _
  have g0 : w1.heap[b0]? = some (.cells #[.string ⟨#[102]⟩, .int .i64 2, .string ⟨#[104, 105]⟩] 56 (0, 0)) := by rw [← hw1, ← hb0]; exact heap_alloc_new _ _
  rw [hw1, hb0]
  have HB1 := Sh.mk hB1
  have henc := encode_good 3 11 5 (some ⟨b0, 0, none⟩) 1 [aliveFile] (restb [aliveFile] 0 1) w1 (file_C w1 b0 aliveFile g0) (by decide)
    ((cright_f 5 [aliveFile] (by decide) (by decide)).trans (congrArg some alive_right)) (cbytes_f 5 [aliveFile] (by decide) (by decide) (by show (restb [aliveFile] 0 1).length ≤ _; rw [alive_len]; decide)) (by decide) (by decide) (by rw [alive_len]; decide) (by rw [alive_len]; decide)
  have HENC := Sh.mk henc
  clear hw1 hb0 g0 hB1 henc
  refine HENC.out.mono ?_
  rintro e w2 ⟨a, c', R, rfl, hcap, hrow, hok, hrec, hB⟩
  rw [alive_recs] at hrec
  obtain ⟨r, hR⟩ : ∃ r, R = [r] := List.length_eq_one_iff.1 (by have := congrArg List.length hrec; simpa using this)
  subst hR
  have hrl : r.l = aliveRec := by simpa using hrec
  have hrk := hok r (by simp)
  obtain ⟨g, rfl⟩ : ∃ g, a = some ⟨g, 0, none⟩ := by
    rcases hrow.2 with ⟨_, h⟩ | ⟨g, cap, cur, e, _⟩
    · exact absurd h (by simp)
    · cases e
      exact ⟨g, rfl⟩
  have h1 := hrow.cells (g := g) rfl 0 (.slice r.A r.l.length r.c) rfl
  obtain ⟨ad, hA, hcs⟩ := hrk.byt (by rw [hrl]; decide)
  rw [hA, hrl] at h1
  have d_ : w2.cell? ⟨g, 0, none⟩ = some (.slice (some ad) 28 r.c) := by
    have h2 : w2.cell? ⟨g, 0, none⟩ = some (.slice (some ad) aliveRec.length r.c) := by simpa [Addr.add] using h1
    exact h2
  have x0 := hcs 0 5 (by rw [hrl]; rfl)
  have x10 := hcs 10 1 (by rw [hrl]; rfl)
  have e0_ : w2.cell? ad = some (.int .u8 5) := by simpa [Addr.add] using x0
  have e10_ : w2.cell? ⟨ad.block, ad.off + 10, none⟩ = some (.int .u8 1) := by simpa [Addr.add] using x10
  have HB := Sh.mk (HB1.out.trans (hB.mono HB1.out.size))
  clear hB hrow hok hrec hrk h1 hA hrl hcs x0 x10 hcap HENC
  go_wp2_with fail
  go_ret
  exact ⟨rfl, HB.out⟩
end Go.Proofs.Ytnemnhfdjofckaa.Co

namespace Go.Proofs.Ytnemnhfdjofckaa.Co
open Go Go.RowKit Hp Rd Go.Proofs.Ytnemnhfdjofckaa.Fr Go.Proofs.Ytnemnhfdjofckaa.Ck Go.Proofs.YtnemnhfdjofckaaW.PrintWords Go.Proofs.Ytnemnhfdjofckaa.Print Go.Proofs.Ytnemnhfdjofckaa.Rt
theorem drawn_below {w w' : World} (h : Drawn0 w w') : Below w.heap.size w w' := by
  obtain ⟨n, rfl⟩ := h
  exact pw_below_drewN (Below.refl _ _) n
theorem recs_len (n : Int) (bs : List Int) (h : bs.length ≤ 1000000) : (recs n bs).length ≤ 1000 ∧ ∀ r ∈ recs n bs, r.length ≤ 5000 := by
  constructor
  · unfold recs
    rw [List.length_map, List.length_range]
    unfold count
    omega
  · intro r hr
    unfold recs at hr
    obtain ⟨i, _, rfl⟩ := List.mem_map.1 hr
    unfold recd
    rw [List.length_append, List.length_append, List.length_append, lowd_length, lowd_length, lowd_length, List.length_take]
    omega
theorem encd_len (n : Int) (fl : List S56) (hs : Small fl) : (encd n fl).length ≤ 1000 ∧ ∀ r ∈ encd n fl, r.length ≤ 5000 := by
  unfold encd
  split
  · have h1 := restb_length fl hs.wide fl.length 0 (by omega)
    exact recs_len n _ (by have := hs.1; omega)
  · simp
/-- Records, as Same reads them. -/
theorem EncRes.C {w w' w2 : World} {a : Option Addr} {c' : Nat} {R : List Rc} {n : Int} {fl : List S56} (h : EncRes w w' a c' R n fl) (hs : Small fl) (hb : Below w'.heap.size w' w2) : Kd.C (Kd.slice 5 (Kd.int .u8)) w2 a (encd n fl).length (encd n fl) ∧ R.length = (encd n fl).length := by
  have hl : R.length = (encd n fl).length := by rw [← h.recs, List.length_map]
  obtain ⟨h1, h2⟩ := encd_len n fl hs
  have hC := rows_C h.row rfl h.ok (by omega) (fun r hr => by
    have : r.l ∈ R.map Rc.l := List.mem_map.2 ⟨r, hr, rfl⟩
    rw [h.recs] at this
    have := h2 _ this
    omega)
  rw [h.recs, hl] at hC
  exact ⟨Kd.C_below hC hb, hl⟩
set_option maxHeartbeats 4000000 in
set_option maxRecDepth 100000 in
theorem commitsEncodes_calls (v0 v1 : Value) (W : World) (a0 : Arg Try.prog W 3 v0) (a1 : Arg Try.prog W 22 v1) : Calls Try.prog 3 #[v0, v1] W fun e w' => e = .returned (.bool true) ∧ Below W.heap.size W w' := by
  obtain ⟨n, rfl, -⟩ := arg_int Try.underlying3 a0
  obtain ⟨A, l, c, rfl, hc, hC⟩ := arg_bigs a1
  clear a0 a1
  have HF := Sh.mk (files_ok W A c l hC hc)
  clear hC hc
  go_enter Try.func3, Try.ntmps3
  go_wp2_with fail
  refine HF.out.mono ?_
  rintro e w1 ⟨A1, c1, fl, ok, rfl, hc1, hC1, hsm, hB1⟩
  have HB1 := Sh.mk hB1
  cases ok with
  | false =>
    clear hB1 hC1 hsm hc1 HF
    go_wp2_with fail
    refine (alive_ok w1).mono ?_
    rintro e w2 ⟨rfl, hB⟩
    have HB2 := Sh.mk (HB1.out.trans (hB.mono HB1.out.size))
    clear hB
    go_wp2_with fail
    go_ret
    exact ⟨rfl, HB2.out⟩
  | true =>
    have HS := Sh.mk (hsm rfl)
    have HC1 := Sh.mk hC1
    have HCC := Sh.mk hc1
    have HE := Sh.mk (enc_any n A1 c1 fl w1 hC1 hc1 HS.out)
    clear hB1 hC1 hsm hc1 HF
    go_wp2_with fail
    refine HE.out.mono ?_
    rintro e w2 ⟨a2, c2, R2, rfl, h2⟩
    have HR2 := Sh.mk h2
    have HE2 := Sh.mk (renc_any n A1 c1 fl w2 (Kd.C_below HC1.out h2.bel) HCC.out HS.out)
    clear h2 HE
    go_wp2_with fail
    refine HE2.out.mono ?_
    rintro e w3 ⟨a3, c3, R3, rfl, h3⟩
    obtain ⟨k2, l2⟩ := HR2.out.C HS.out h3.bel
    obtain ⟨k3, l3⟩ := h3.C HS.out (Below.refl _ _)
    have hsame := headgateref20_Same.calls ((encd n fl).length + 1) a2 c2 (encd n fl) a3 c3 (encd n fl) true w3 k2 (by rw [← l2]; exact HR2.out.cap) k3 (by rw [← l3]; exact h3.cap) (same_f _ (by have := (encd_len n fl HS.out).1; omega))
    rw [← l2] at hsame
    have hsame2 : Calls Try.prog 12 #[.slice a2 R2.length c2, .slice a3 R3.length c3] w3 fun e w' => e = .returned (.bool true) ∧ Drawn0 w3 w' := by rw [l3, ← l2]; exact hsame
    have HSA := Sh.mk hsame2
    have HB3 := Sh.mk (HB1.out.trans ((HR2.out.bel.trans (h3.bel.mono HR2.out.bel.size)).mono HB1.out.size))
    clear hsame hsame2 k2 k3 l2 l3 h3 HE2
    go_wp2_with fail
    refine HSA.out.mono ?_
    rintro e w4 ⟨rfl, hd⟩
    have HB4 := Sh.mk (HB3.out.trans ((drawn_below hd).mono HB3.out.size))
    clear hd
    go_wp2_with fail
    refine (alive_ok w4).mono ?_
    rintro e w5 ⟨rfl, hB⟩
    have HB5 := Sh.mk (HB4.out.trans (hB.mono HB4.out.size))
    clear hB
    go_wp2_with fail
    go_ret
    exact ⟨rfl, HB5.out⟩
end Go.Proofs.Ytnemnhfdjofckaa.Co
