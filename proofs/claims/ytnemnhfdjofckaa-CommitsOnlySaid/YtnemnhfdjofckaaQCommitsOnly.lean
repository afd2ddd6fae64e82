/- CommitsOnly, walked. -/
import Derived.Test.YtnemnhfdjofckaaQF
import Derived.Test.YtnemnhfdjofckaaQC
namespace Go.Proofs.Ytnemnhfdjofckaa.Co
open Go Go.RowKit Hp Rd Go.Proofs.Ytnemnhfdjofckaa.Fr Go.Proofs.Ytnemnhfdjofckaa.Ck Go.Proofs.YtnemnhfdjofckaaW.PrintWords Go.Proofs.YtnemnhfdjofckaaW.PrintMore Go.Proofs.Ytnemnhfdjofckaa.Print Go.Proofs.Ytnemnhfdjofckaa.Rt
set_option maxHeartbeats 8000000 in
set_option maxRecDepth 100000 in
theorem commitsOnly_calls (v0 : Value) (W : World) (a0 : Arg Try.prog W 27 v0) : Calls Try.prog 6 #[v0] W fun e w' => e = .returned (.bool true) ∧ Below W.heap.size W w' := by
  obtain ⟨A, L, c, rfl, hc, -, hC, hb⟩ := arg_recs a0
  clear a0
  obtain ⟨NL, hNL⟩ : ∃ NL, L.length = NL := ⟨_, rfl⟩
  have HNL := Sh.mk hNL
  have HC := Sh.mk hC
  have HCC := Sh.mk hc
  have HF := Sh.mk (few_call W A c L hC hc hb)
  rw [hNL] at hc ⊢
  have hF := HF.out
  rw [hNL] at hF
  clear hC hb hNL HF
  go_enter Try.func6, Try.ntmps6
  go_wp2_with fail
  refine hF.mono ?_
  rintro e w1 ⟨b, rfl, hrec, hB1⟩
  have HB1 := Sh.mk hB1
  cases b with
  | false =>
    clear hB1 hrec hF hc
    go_wp2_with fail
    refine (alive_ok w1).mono ?_
    rintro e w2 ⟨rfl, hB⟩
    have HB2 := Sh.mk (HB1.out.trans (hB.mono HB1.out.size))
    clear hB
    go_wp2_with fail
    go_ret
    exact ⟨rfl, HB2.out⟩
  | true =>
    obtain ⟨hR, h12⟩ := hrec rfl
    have HR := Sh.mk hR
    have hall := all_call w1 A c L (Kd.C_below HC.out hB1) HCC.out hR
    rw [HNL.out] at hall
    have H12 := Sh.mk h12
    clear hB1 hrec hF hR h12 hc
    go_wp2_with fail
    refine hall.mono ?_
    rintro e w2 ⟨A2, c2, rfl, hc2, hC2, hB2⟩
    obtain ⟨al, hal⟩ : ∃ l, alld (NL + 1) L = l := ⟨_, rfl⟩
    have hall2 := alld_len (NL + 1) L HR.out
    rw [hal] at hc2 hC2 hall2 ⊢
    obtain ⟨K, hK⟩ : ∃ K, al.length = K := ⟨_, rfl⟩
    have HK := Sh.mk hK
    have HAL := Sh.mk hal
    have HC2 := Sh.mk hC2
    have HK12 := Sh.mk (show K ≤ 12 from by have := H12.out; have := HNL.out; omega)
    have HB12 := Sh.mk (HB1.out.trans (hB2.mono HB1.out.size))
    rw [hK] at hc2 ⊢
    clear hall hC2 hB2 hal hK hall2 hc2
    obtain ⟨j0, hj, hy0, hy1, hy2⟩ := info_parts infoSl
    go_wp2_with fail
    go_loopg [5, 6] K (fun kq v5 v6 w' => ∃ (i p : Nat) (R : List Rc), i + kq = K ∧ v6 = .int .i64 (i : Int) ∧ Sh (R.map Rc.l = L.take p ∧ p ≤ NL ∧ i ≤ p) ∧ Sh (alld (NL + 1 - i) (L.drop p) = al.drop i) ∧ Sh (w'.ownsRow w2.heap.size 38 1 v5 R.length (rcells R)) ∧ Sh (∀ r ∈ R, RcOk w' r) ∧ Sh (Below w2.heap.size w2 w'))
    case atStart => exact ⟨0, 0, [], by omega, rfl, ⟨rfl, Nat.zero_le _, Nat.le_refl _⟩, ⟨by rw [List.drop_zero, List.drop_zero]; exact HAL.out⟩, ⟨World.ownsRow_nil _ _ _ _⟩, ⟨by simp⟩, ⟨Below.refl _ _⟩⟩
    case round =>
      obtain ⟨i, p, R, hik, rfl, HRP, HAD, HROW, HOK, HB⟩ := hrel
      have HI := Sh.mk hik
      cases gk with
      | zero =>
        obtain rfl : i = K := by omega
        have kk : ¬ (i : Int) < (i : Int) := by omega
        obtain ⟨a5, c5, rfl⟩ := own_slice HROW.out
        have hRl : R.length = p := by have := congrArg List.length HRP.out.1; rw [List.length_map, List.length_take, HNL.out] at this; have := HRP.out.2.1; omega
        have hend : (decd (L.drop p)).2.2.2 ≠ 0 := alld_end (k := NL + 1 - i) (by have := HRP.out; omega) (by rw [HAD.out]; exact List.drop_eq_nil_of_le (by rw [HK.out]; exact Nat.le_refl _))
        obtain ⟨Q, hQ⟩ : ∃ Q, R.length = Q := ⟨_, rfl⟩
        have HQ := Sh.mk hQ
        have HQP := Sh.mk (hQ.symm.trans hRl)
        have hQN : ¬ (NL : Int) < (Q : Int) := by have := HRP.out.2.1; omega
        have hQc : Q ≤ c := by have := HRP.out.2.1; have := HCC.out; rw [HNL.out] at this; omega
        have hQL : Q ≤ NL := by omega
        have hB1r := HB12.out.trans (HB.out.mono HB12.out.size)
        have hCr := Kd.C_below HC.out hB1r
        have hCt := Kd.C_take hCr (m := Q) (by rw [HNL.out]; exact hQL)
        have hlt : (L.take Q).length = Q := by rw [List.length_take, HNL.out]; omega
        have hRC := rows_C HROW.out rfl HOK.out (by have := H12.out; omega) (fun r hr => by
          have : r.l ∈ L.take p := by rw [← HRP.out.1]; exact List.mem_map.2 ⟨r, hr, rfl⟩
          have := (HR.out.2 _ (List.mem_of_mem_take this)).1
          omega)
        have hcap : Q ≤ c5 := by
          rcases HROW.out.2 with ⟨e1, h⟩ | ⟨g, cap, cur, e, _, _, hn, _⟩
          · omega
          · cases e
            omega
        have hsame := same04_call wr a5 A c5 c (L.take Q) (by rw [hlt]; rw [HRP.out.1, hQ, ← HQP.out] at hRC; exact hRC) (by rw [hlt]; exact hcap) hCt (by rw [hlt]; exact hQc) (by rw [hlt]; have := H12.out; omega)
        rw [hlt] at hsame
        have HS := Sh.mk hsame
        have HEND := Sh.mk hend
        have HBR := Sh.mk hB1r
        have HCR := Sh.mk hCr
        rw [hQ]
        clear hsame hend hB1r hCr hCt hRC hcap hlt hRl hik hQ hQL
        go_wp2_with ((with_reducible refine Rw.at_slot 48 ?_); refine Rw.wpList_upto rfl 27 38 _ _ rfl Try.underlying27 1 (by kernel_rfl) rfl rfl hQc ?_)
        refine HS.out.mono ?_
        rintro e w3 ⟨rfl, hB3⟩
        have HB3 := Sh.mk (HBR.out.trans (hB3.mono HBR.out.size))
        have hQL : Q ≤ NL := by omega
        have hdr := Kd.C_drop (Kd.C_below HCR.out hB3) (m := Q) (c := c) (by rw [HNL.out]; exact hQL) (by have := HCC.out; exact this)
        have HDR := Sh.mk hdr
        clear hB3 hdr HS hQN
        go_wp2_with ((with_reducible refine Rw.at_slot 54 ?_); refine Rw.wpList_fromn rfl 27 38 _ _ rfl Try.underlying27 1 (by kernel_rfl) rfl rfl hQL ?_; intro A' hA'; have HA' := Sh.mk hA'; clear hA')
        have hdec := dec_call w3 A' (c - Q) (L.drop Q) (by rw [HA'.out]; exact HDR.out) (by rw [List.length_drop, HNL.out]; have := HCC.out; rw [HNL.out] at this; omega) (HR.out.drop Q)
        rw [List.length_drop, HNL.out] at hdec
        refine hdec.mono ?_
        rintro e w4 ⟨A4, c4, rfl, -, -, hB4⟩
        have HB4 := Sh.mk (HB3.out.trans (hB4.mono HB3.out.size))
        obtain ⟨er, her⟩ : ∃ er, (decd (L.drop Q)).2.2.2 = er := ⟨_, rfl⟩
        have hne : (er != 0) = true := by
          have := HEND.out
          rw [← HQP.out, her] at this
          simpa using this
        rw [her]
        generalize (decd (L.drop Q)).1 = x1
        generalize (decd (L.drop Q)).2.1.length = x2
        generalize (decd (L.drop Q)).2.2.1 = x3
        clear hB4 hdec her hQL hQc
        obtain ⟨b10, hb10⟩ : ∃ b10, w4.heap.size = b10 := ⟨_, rfl⟩
        obtain ⟨w5, hw5⟩ : ∃ w5, w4.alloc (.cells #[.int .i64 0, .slice none 0 0] 32) = w5 := ⟨_, rfl⟩
        have h5 : w5.heap[b10]? = some (.cells #[.int .i64 0, .slice none 0 0] 32 (0, 0)) := by rw [← hw5, ← hb10]; exact heap_alloc_new _ _
        have hB5 : Below w4.heap.size w4 w5 := by rw [← hw5]; exact (Below.refl _ _).alloc (Nat.le_refl _) _
        obtain ⟨w6, z1, -, z3, -⟩ := Rw.put_row (P := Try.prog) (cs := [.int .i64 x1, .slice A4 x2 c4]) h5 rfl (by simp [Value.oneCell']) Try.underlying32 rfl sizeCom
        have hB6 : Below w4.heap.size w4 w6 := hB5.trans (z3.below (B := w4.heap.size) hB5.size (fun k hk e => by omega))
        have HB6 := Sh.mk (HB4.out.trans (hB6.mono HB4.out.size))
        clear z3 hB6 hB5 h5
        go_upto_region 17 with ((with_reducible refine Rw.at_store 10 56 ?_); (try simp only [hw5, hb10]); refine Rw.wpList_put rfl 32 (.tmp 10) (.tmp 56) rfl rfl rfl z1 ?_)
        clear z1 hw5 hb10
        go_wp2_with fail
        refine (alive_ok w6).mono ?_
        rintro e w7 ⟨rfl, hB7⟩
        have HB7 := Sh.mk (HB6.out.trans (hB7.mono HB6.out.size))
        clear hB7
        go_wp2_with fail
        go_ret
        exact ⟨rfl, HB7.out⟩
      | succ g1_ =>
        have hiK : i < K := by omega
        have kk : (i : Int) < (K : Int) := by omega
        obtain ⟨x, hx⟩ : ∃ x, al[i]? = some x := ⟨_, List.getElem?_eq_getElem (by rw [HK.out]; exact hiK)⟩
        have hxe : al.drop i = x :: al.drop (i + 1) := by
          have h1 := List.drop_eq_getElem_cons (l := al) (i := i) (by rw [HK.out]; exact hiK)
          rw [List.getElem?_eq_getElem (by rw [HK.out]; exact hiK)] at hx
          rw [h1, Option.some.inj hx]
        have had : alld (NL + 1 - i) (L.drop p) = x :: al.drop (i + 1) := HAD.out.trans hxe
        obtain ⟨k', n, hke, hg, hnext⟩ := alld_step (HR.out.drop p) had
        obtain ⟨hf1, hf2⟩ := recs_good (HR.out.drop p) hg
        have hC2r := Kd.C_below HC2.out HB.out
        obtain ⟨g2, o2, rfl, hat⟩ := coms_at hC2r (by rw [HK.out]; omega)
        obtain ⟨A3, c3, hrange, hc3, hC3⟩ := hat i (S32of x) (by rw [List.getElem?_map, hx]; rfl)
        have hld := run_loadAt_mid (P := Try.prog) wr g2 (o2 + i * 2) 32 [.int .i64 x.1, .slice A3 x.2.length c3] _ hrange Try.underlying32 rfl sizeCom
        have henc := enc_right x.1 A3 c3 x.2 wr hC3 hc3 hg.right (by
          rw [hf1]
          have h1 := (joind_ok (HR.out.drop p) n hg.le).1
          have h2 := hg.le
          rw [List.length_drop, HNL.out] at h2
          have := H12.out
          omega)
        have hreq : encd x.1 x.2 = (L.drop p).take n := by rw [encd_flat hg.right, hf2]
        have hnp : p + n ≤ NL := by have h0 := hg.pos; have := hg.le; rw [List.length_drop, HNL.out] at this; omega
        have HX := Sh.mk hreq
        have HNP := Sh.mk (And.intro hnp hg.pos)
        have HNX := Sh.mk (show alld k' (L.drop (p + n)) = al.drop (i + 1) from by rw [← List.drop_drop]; exact hnext)
        have HKE := Sh.mk hke
        have HENC := Sh.mk henc
        have W6 : Sh (wrap64 ((i : Int) + 1) = ((i + 1 : Nat) : Int)) := ⟨by have := HK12.out; unfold wrap64; omega⟩
        have HIK := Sh.mk hiK
        clear hx hxe had hke hg hnext hf1 hf2 hC2r hat hrange hc3 hC3 henc hreq hnp hiK hik
        go_wp2_with ((with_reducible refine Rw.at_slot 30 ?_); refine Rw.wpList_get rfl 32 (.tmp 29) rfl rfl hld ?_)
        refine HENC.out.mono ?_
        rintro e w3 ⟨a, cR, R2, rfl, hE⟩
        have hrowx : w3.ownsRow w2.heap.size 38 1 u5 R.length (rcells R) := row_kept HROW.out (Kept.of_below (S := fun _ => False) hE.bel) (fun _ _ e => e)
        obtain ⟨hcn, hcc⟩ := hE.cells
        have hml : R2.length = n := by
          have := congrArg List.length hE.recs
          rw [List.length_map, HX.out, List.length_take, List.length_drop, HNL.out] at this
          have := HNP.out
          omega
        have hRl : R.length = p := by have := congrArg List.length HRP.out.1; rw [List.length_map, List.length_take, HNL.out] at this; have := HRP.out.2.1; omega
        have hsx : w2.heap.size ≤ w3.heap.size := Nat.le_trans HB.out.size hE.bel.size
        have hnum : R.length + R2.length ≤ maxLen ∧ (R.length + R2.length) * 24 ≤ 140737488355328 := by
          have h1 := HNP.out
          have h2 := H12.out
          rw [hml, hRl]
          constructor
          · unfold maxLen; omega
          · omega
        have hlr : (rcells R2).length = R2.length * 1 := by unfold rcells; rw [List.length_map, Nat.mul_one]
        have HE := Sh.mk hE
        have HRL := Sh.mk (And.intro hRl hml)
        have HROWX := Sh.mk hrowx
        clear hE hml hRl HENC hld
        go_wp2_with ((with_reducible refine Rw.at_slot 38 ?_); refine Rw.wpList_append_src rfl _ _ 27 rfl w2.heap.size 38 j0 (.slice none 0 0) 1 24 Try.underlying27 hj hy0 hy1 hy2 rfl (by decide) u5 R.length (rcells R) rfl hrowx a R2.length cR (rcells R2) rfl hcn hlr hcc (rcells_one R2) hnum.1 hnum.2 hsx ?_)
        intro v7 w4 hown4 hgrow _
        have hK4 : Kept (fun k => u5.ownBlock = some k) w3 w4 := (Kept.refl (fun k => u5.ownBlock = some k) w3).grown hgrow (fun k e => .inr e)
        have hB4 : Below w2.heap.size w2 w4 := (HB.out.trans (HE.out.bel.mono HB.out.size)).grown hgrow hsx (fun k e => (hrowx.lt k e).1)
        have HOWN := Sh.mk hown4
        have HK4 := Sh.mk hK4
        have HB4 := Sh.mk hB4
        clear hown4 hgrow hK4 hB4 hrowx hcn hcc hsx hnum hlr
        go_wp2_with fail
        go_roundg g1_
        case measure => have := HI.out; omega
        case rel => exact ⟨i + 1, p + n, R ++ R2, by have := HI.out; omega, (by first | rfl | (rw [W6.out])), ⟨by rw [List.map_append, HRP.out.1, HE.out.recs, HX.out, List.take_add], HNP.out.1, by have := HRP.out.2.2; have := HNP.out.2; omega⟩, ⟨by
          have := HNX.out
          have hk := HKE.out
          rw [show NL + 1 - (i + 1) = k' by omega]
          exact this⟩, ⟨by rw [rcells_app, List.length_append]; exact HOWN.out⟩, ⟨fun r hr => by
          rcases List.mem_append.1 hr with h | h
          · have h1 := (HOK.out r h).kept (Kept.of_below (S := fun _ => False) HE.out.bel) (fun _ _ e => e)
            exact h1.kept HK4.out (fun ad e => own_ne HROWX.out h1 ad e)
          · exact (HE.out.ok r h).kept HK4.out (fun ad e => own_ne HROWX.out (HE.out.ok r h) ad e)⟩, HB4⟩
end Go.Proofs.Ytnemnhfdjofckaa.Co
