/- CommitsBack, walked. -/
import Derived.Test.YtnemnhfdjofckaaQF
import Derived.Test.YtnemnhfdjofckaaQC
namespace Go.Proofs.Ytnemnhfdjofckaa.Co
open Go Go.RowKit Hp Rd Go.Proofs.Ytnemnhfdjofckaa.Fr Go.Proofs.Ytnemnhfdjofckaa.Ck Go.Proofs.YtnemnhfdjofckaaW.PrintWords Go.Proofs.YtnemnhfdjofckaaW.PrintMore Go.Proofs.Ytnemnhfdjofckaa.Print Go.Proofs.Ytnemnhfdjofckaa.Rt
set_option maxHeartbeats 8000000 in
set_option maxRecDepth 100000 in
theorem commitsBack_calls (v0 v1 v2 : Value) (W : World) (a0 : Arg Try.prog W 3 v0) (a1 : Arg Try.prog W 22 v1) (a2 : Arg Try.prog W 27 v2) : Calls Try.prog 5 #[v0, v1, v2] W fun e w' => e = .returned (.bool true) ∧ Below W.heap.size W w' := by
  obtain ⟨n, rfl, -⟩ := arg_int Try.underlying3 a0
  obtain ⟨A, l, c, rfl, hc, hC⟩ := arg_bigs a1
  obtain ⟨AM, more, cm, rfl, hcm, -, hCM, hbm, hAM⟩ := arg_recs0 a2
  have HAM := Sh.mk hAM
  clear hAM
  clear a0 a1 a2
  have HF := Sh.mk (files_ok W A c l hC hc)
  obtain ⟨NM, hNM⟩ : ∃ NM, more.length = NM := ⟨_, rfl⟩
  have HNM := Sh.mk hNM
  have HCM := Sh.mk hCM
  have HCMC := Sh.mk hcm
  have HBM := Sh.mk hbm
  rw [hNM]
  clear hC hc hCM hcm hbm hNM
  go_enter Try.func5, Try.ntmps5
  go_wp2_with fail
  refine HF.out.mono ?_
  rintro e w1 ⟨A1, c1, fl, ok, rfl, hc1, hC1, hsm, hB1⟩
  have HB1 := Sh.mk hB1
  have HSM := Sh.mk hsm
  have HC1 := Sh.mk hC1
  have HCC1 := Sh.mk hc1
  have hfew := few_call w1 AM cm more (Kd.C_below HCM.out hB1) HCMC.out HBM.out
  rw [HNM.out] at hfew
  clear hB1 hsm hC1 hc1 HF
  go_wp2_with fail
  refine hfew.mono ?_
  rintro e w2 ⟨b, rfl, hrec, hB2⟩
  have HB2 := Sh.mk (HB1.out.trans (hB2.mono HB1.out.size))
  have HC2 := Sh.mk (Kd.C_below HC1.out hB2)
  clear hB2 hfew
  by_cases hob : ok = true ∧ b = true
  rotate_left
  · have hq : ok = false ∨ (ok = true ∧ b = false) := by
      cases ok <;> cases b <;> simp_all
    clear hob hrec
    rcases hq with rfl | ⟨rfl, rfl⟩
    · go_wp2_with fail
      refine (alive_ok w2).mono ?_
      rintro e w3 ⟨rfl, hB⟩
      have HB3 := Sh.mk (HB2.out.trans (hB.mono HB2.out.size))
      clear hB
      go_wp2_with fail
      go_ret
      exact ⟨rfl, HB3.out⟩
    · go_wp2_with fail
      refine (alive_ok w2).mono ?_
      rintro e w3 ⟨rfl, hB⟩
      have HB3 := Sh.mk (HB2.out.trans (hB.mono HB2.out.size))
      clear hB
      go_wp2_with fail
      go_ret
      exact ⟨rfl, HB3.out⟩
  obtain ⟨rfl, rfl⟩ := hob
  have HRM := Sh.mk (hrec rfl)
  have henc := enc_any n A1 c1 fl w2 HC2.out HCC1.out HSM.out
  clear hrec
  go_wp2_with fail
  refine henc.mono ?_
  rintro e w3 ⟨a3, c3, R, rfl, hE⟩
  have HB3 := Sh.mk (HB2.out.trans (hE.bel.mono HB2.out.size))
  cases hrr : rightd n fl with
  | false =>
    have hR0 : R.length = 0 := by
      have := congrArg List.length hE.recs
      rw [List.length_map] at this
      unfold encd at this
      rw [hrr] at this
      exact this
    rw [encE_bad hrr, hR0]
    clear henc hE hR0 hrr
    go_wp2_with fail
    refine (alive_ok w3).mono ?_
    rintro e w4 ⟨rfl, hB⟩
    have HB4 := Sh.mk (HB3.out.trans (hB.mono HB3.out.size))
    clear hB
    go_wp2_with fail
    go_ret
    exact ⟨rfl, HB4.out⟩
  | true =>
    have HRR := Sh.mk hrr
    have hrec := hE.recs
    rw [encd_flat hrr] at hrec
    obtain ⟨hRo, hRn⟩ := recs_ok (n := n) HSM.out
    obtain ⟨RS, hRS⟩ : ∃ RS, recs n (flat fl) = RS := ⟨_, rfl⟩
    have hg0 := good_recs hrr (by have := small_count HSM.out; omega) []
    have hgM := good_recs hrr (by have := small_count HSM.out; omega) more
    rw [← recs_count n (flat fl), hRS] at hg0 hgM
    rw [hRS] at hrec hRo hRn
    rw [List.append_nil] at hg0
    obtain ⟨Q, hQ⟩ : ∃ Q, RS.length = Q := ⟨_, rfl⟩
    have hRQ : R.length = Q := by rw [← hQ, ← hrec, List.length_map]
    rw [hQ] at hg0 hgM hRn
    rw [encE_good hrr, hRQ]
    obtain ⟨M, hM, hMok, hMc⟩ := rows_in HCM.out
    have hMl : M.length = NM := by rw [← HNM.out, ← hM, List.length_map]
    have HREC := Sh.mk hrec
    have HRO := Sh.mk hRo
    have HG0 := Sh.mk hg0
    have HGM := Sh.mk hgM
    have HQ := Sh.mk (show RS.length = Q ∧ R.length = Q ∧ M.length = NM from ⟨hQ, hRQ, hMl⟩)
    have HQ2 := Sh.mk (show Q ≤ 200 ∧ NM ≤ 12 ∧ 0 < Q from ⟨hRn, by have := HRM.out.2; have := HNM.out; omega, hg0.pos⟩)
    have HM := Sh.mk (And.intro hM hMok)
    have HMC := Sh.mk hMc
    have HE := Sh.mk hE
    obtain ⟨j0, hj, hy0, hy1, hy2⟩ := info_parts infoSl
    clear henc hrr hrec hRo hRn hRS hg0 hgM hQ hRQ hM hMok hMc hMl hE
    go_upto_region 8 with (fail)
    obtain ⟨wa, hwa⟩ : ∃ wa, w3.alloc (.cells #[] 38) = wa := ⟨_, rfl⟩
    obtain ⟨ba, hba⟩ : ∃ ba, w3.heap.size = ba := ⟨_, rfl⟩
    have hBa : Below w3.heap.size w3 wa := by rw [← hwa]; exact (Below.refl _ _).alloc (Nat.le_refl _) _
    have hha : wa.heap[ba]? = some (.cells #[] 38 (0, 0)) := by rw [← hwa, ← hba]; exact heap_alloc_new _ _
    have hrow0 : wa.ownsRow ba 38 1 (.slice (some ⟨ba, 0, none⟩) 0 0) 0 [] := ⟨rfl, .inr ⟨ba, 0, #[], rfl, Nat.le_refl _, hha, Nat.le_refl _, by unfold maxLen; decide, rfl, rfl⟩⟩
    rw [hba] at hBa
    have HBA := Sh.mk hBa
    have HBAE := Sh.mk hba
    obtain ⟨hcn, hcc⟩ := HE.out.cells
    rw [HQ.out.2.1] at hcn
    have hccA : ∀ ad, a3 = some ad → ∀ j u, (rcells R)[j]? = some u → wa.cell? (ad.add j) = some u := fun ad e j u hu => by
      have h1 := hcc ad e j u hu
      exact (hBa.cell (p := ad.add j) (by rw [← hba]; exact World.block_lt_of_cell? w3 _ h1)).trans h1
    have hlr : (rcells R).length = Q * 1 := by unfold rcells; rw [List.length_map, HQ.out.2.1, Nat.mul_one]
    have hsz : ba ≤ wa.heap.size := Nat.le_of_lt (lt_of_heap hha)
    have hnum : 0 + Q ≤ maxLen ∧ (0 + Q) * 24 ≤ 140737488355328 := by have := HQ2.out; constructor; (unfold maxLen; omega); omega
    have HROW0 := Sh.mk hrow0
    clear hha hBa hcc
    go_wp2_with (first | ((with_reducible refine Rw.at_slot 52 ?_); (try simp only [hwa, hba]); refine Rw.wpList_append_src rfl _ _ 27 rfl ba 38 j0 (.slice none 0 0) 1 24 Try.underlying27 hj hy0 hy1 hy2 rfl (by decide) (.slice (some ⟨ba, 0, none⟩) 0 0) 0 [] rfl hrow0 a3 Q c3 (rcells R) rfl hcn hlr hccA (rcells_one R) hnum.1 hnum.2 hsz ?_))
    intro v6 w4 hown4 hgrow _
    have hB4 : Below ba w3 w4 := HBA.out.grown hgrow hsz (fun k e => (hrow0.lt k e).1)
    have hBW4 : Below W.heap.size W w4 := HB3.out.trans (hB4.mono (by have := HB3.out.size; have := HBAE.out; omega))
    have hcmn : AM = none → NM = 0 ∧ cm = 0 := fun e => ⟨by rw [← HNM.out]; exact (HAM.out e).1, (HAM.out e).2⟩
    have hccM : ∀ ad, AM = some ad → ∀ j u, (rcells M)[j]? = some u → w4.cell? (ad.add j) = some u := fun ad e j u hu => by
      have h1 := HMC.out ad e j u hu
      exact (hBW4.cell (p := ad.add j) (World.block_lt_of_cell? W _ h1)).trans h1
    have hlm : (rcells M).length = NM * 1 := by unfold rcells; rw [List.length_map, HQ.out.2.2, Nat.mul_one]
    have hsz4 : ba ≤ w4.heap.size := Nat.le_trans hsz hgrow.size
    have hnum4 : Q + NM ≤ maxLen ∧ (Q + NM) * 24 ≤ 140737488355328 := by have := HQ2.out; constructor; (unfold maxLen; omega); omega
    have HB4 := Sh.mk hB4
    have HBW4 := Sh.mk hBW4
    clear hgrow hcn hccA hlr hnum hB4 hBW4 hrow0
    go_wp2_with ((with_reducible refine Rw.at_slot 54 ?_); refine Rw.wpList_append_src rfl _ _ 27 rfl ba 38 j0 (.slice none 0 0) 1 24 Try.underlying27 hj hy0 hy1 hy2 rfl (by decide) v6 Q (rcells R) rfl hown4 AM NM cm (rcells M) rfl hcmn hlm hccM (rcells_one M) hnum4.1 hnum4.2 hsz4 ?_)
    intro v8 w5 hown5 hgrow _
    obtain ⟨a5, c5, rfl⟩ := own_slice hown5
    have hB5 : Below ba w3 w5 := HB4.out.grown hgrow hsz4 (fun k e => (hown4.lt k e).1)
    have hB35 : Below w3.heap.size w3 w5 := by rw [HBAE.out]; exact hB5
    have hBW5 : Below W.heap.size W w5 := HB3.out.trans (hB35.mono HB3.out.size)
    rw [← rcells_app] at hown5
    have hlen5 : (R ++ M).length = Q + NM := by rw [List.length_append, HQ.out.2.1, HQ.out.2.2]
    have hmap5 : (R ++ M).map Rc.l = RS ++ more := by rw [List.map_append, HREC.out, HM.out.1]
    have hlenL : (RS ++ more).length = Q + NM := by rw [List.length_append, HQ.out.1, HNM.out]
    have hRecs : Recs (RS ++ more) := HRO.out.append HRM.out.1 (by rw [HQ.out.1, HNM.out]; have := HQ2.out; omega)
    have hC5 := rows_C2 hown5 hlen5 (fun r hr => by
      rcases List.mem_append.1 hr with h | h
      · exact ⟨(HE.out.ok r h).len, (HE.out.ok r h).byt.below hB35⟩
      · exact ⟨(HM.out.2 r h).1, (HM.out.2 r h).2.below hBW5⟩) (by have := HQ2.out; omega) (fun r hr => by
      have : r.l ∈ RS ++ more := by rw [← hmap5]; exact List.mem_map.2 ⟨r, hr, rfl⟩
      have := (hRecs.2 _ this).1
      omega)
    rw [hmap5] at hC5
    have hcap5 : Q + NM ≤ c5 := by
      rcases hown5.2 with ⟨e1, h⟩ | ⟨g, cap, cur, e, _, _, hn, _⟩
      · have := HQ2.out; omega
      · cases e
        exact hn
    have hdec := dec_call w5 a5 c5 (RS ++ more) (by rw [hlenL]; exact hC5) (by rw [hlenL]; exact hcap5) hRecs
    rw [hlenL, HGM.out.decd] at hdec
    have HB35 := Sh.mk hB35
    have HBW5 := Sh.mk hBW5
    clear hown4 hown5 hgrow hB5 hB35 hBW5 hlen5 hmap5 hlenL hRecs hC5 hcap5 hcmn hccM hlm hsz4 hnum4 hsz hwa hba
    go_wp2_with fail
    refine hdec.mono ?_
    rintro e w6 ⟨A6, c6, rfl, hc6, hC6, hB6⟩
    have HB36 := Sh.mk (HB35.out.trans (hB6.mono HB35.out.size))
    have HC6 := Sh.mk hC6
    have HCC6 := Sh.mk hc6
    obtain ⟨FL, hFL⟩ : ∃ FL, fl.length = FL := ⟨_, rfl⟩
    have HFL := Sh.mk hFL
    dsimp only
    rw [hFL]
    obtain ⟨b12, hb12⟩ : ∃ b12, w6.heap.size = b12 := ⟨_, rfl⟩
    obtain ⟨w7, hw7⟩ : ∃ w7, w6.alloc (.cells #[.int .i64 0, .slice none 0 0] 32) = w7 := ⟨_, rfl⟩
    have h7 : w7.heap[b12]? = some (.cells #[.int .i64 0, .slice none 0 0] 32 (0, 0)) := by rw [← hw7, ← hb12]; exact heap_alloc_new _ _
    have hB7 : Below w6.heap.size w6 w7 := by rw [← hw7]; exact (Below.refl _ _).alloc (Nat.le_refl _) _
    obtain ⟨w8, z1, -, z3, z4⟩ := Rw.put_row (P := Try.prog) (cs := [.int .i64 n, .slice A6 FL c6]) h7 rfl (by simp [Value.oneCell']) Try.underlying32 rfl sizeCom
    have hB8 : Below w6.heap.size w6 w8 := hB7.trans (z3.below (B := w6.heap.size) hB7.size (fun k hk e => by omega))
    have HB38 := Sh.mk (HB36.out.trans (hB8.mono HB36.out.size))
    have HZ8 := Sh.mk z4
    have hsame := same07_call w8 A6 A1 c6 c1 fl (Kd.C_below HC6.out hB8) HCC6.out (Kd.C_below HC2.out (HE.out.bel.trans (HB38.out.mono HE.out.bel.size))) HCC1.out (by have := HSM.out.1; omega)
    rw [hFL] at hsame
    have m0_ := (Rw.blk_cell z4 0).trans (rfl : _ = some (Value.int .i64 n))
    have m1_ := (Rw.blk_cell z4 1).trans (rfl : _ = some (Value.slice A6 FL c6))
    clear hB6 hC6 hc6 hdec hFL hB7 h7 z3 z4 hB8
    go_upto_region 9 with ((with_reducible refine Rw.at_store 12 56 ?_); (try simp only [hw7, hb12]); refine Rw.wpList_put rfl 32 (.tmp 12) (.tmp 56) rfl rfl rfl z1 ?_)
    clear z1 hw7 hb12
    go_wp2_with fail
    refine hsame.mono ?_
    rintro e w9 ⟨rfl, hB9⟩
    have HB39 := Sh.mk (HB38.out.trans (hB9.mono HB38.out.size))
    replace m0_ := (hB9.cell (p := ⟨b12, 0, none⟩) (lt_of_heap HZ8.out)).trans m0_
    clear hB9 hsame m1_
    go_wp2_with fail
    have hCR := rows_C HE.out.row rfl HE.out.ok (by have := HQ.out.2.1; have := HQ2.out; omega) (fun r hr => by
      have : r.l ∈ RS := by rw [← HREC.out]; exact List.mem_map.2 ⟨r, hr, rfl⟩
      have := (HRO.out.2 _ this).1
      omega)
    rw [HREC.out, HQ.out.2.1] at hCR
    have HCR := Sh.mk hCR
    have HQC := Sh.mk (show Q ≤ c3 from by have := HE.out.cap; rw [HQ.out.2.1] at this; exact this)
    clear hCR m0_
    go_loopg [16] Q (fun kq v16 w' => ∃ i : Nat, i + kq = Q ∧ v16 = .int .i64 (i : Int) ∧ Sh (Below w3.heap.size w3 w'))
    case atStart => exact ⟨0, by omega, rfl, HB39⟩
    case round =>
      obtain ⟨i, hik, rfl, HB⟩ := hrel
      have HI := Sh.mk hik
      cases gk with
      | zero =>
        obtain rfl : i = Q := by omega
        have kk : ¬ (i : Int) < (i : Int) := by omega
        have HBW := Sh.mk (HB3.out.trans (HB.out.mono HB3.out.size))
        clear hik
        go_wp2_with fail
        refine (alive_ok wr).mono ?_
        rintro e w10 ⟨rfl, hB10⟩
        have HB10 := Sh.mk (HB.out.trans (hB10.mono HB.out.size))
        have hall := all_call w10 a3 c3 RS (by rw [HQ.out.1]; exact Kd.C_below HCR.out HB10.out) (by rw [HQ.out.1]; exact HQC.out) HRO.out
        have hone : (alld (RS.length + 1) RS).length = 1 := by
          rw [alld_good HG0.out, List.drop_eq_nil_of_le (by rw [HQ.out.1]; exact Nat.le_refl _), alld_nil]
          rfl
        rw [hone, HQ.out.1] at hall
        clear hB10 hone
        go_wp2_with fail
        refine hall.mono ?_
        rintro e w11 ⟨A11, c11, rfl, -, -, hB11⟩
        have HB11 := Sh.mk (HB3.out.trans ((HB10.out.trans (hB11.mono HB10.out.size)).mono HB3.out.size))
        clear hB11 hall
        go_wp2_with fail
        go_ret
        exact ⟨rfl, HB11.out⟩
      | succ g1_ =>
        have hiQ : i < Q := by omega
        have kk : (i : Int) < (Q : Int) := by omega
        have hic : i ≤ c3 := by have := HQC.out; omega
        have hlt : (RS.take i).length = i := by rw [List.length_take, HQ.out.1]; omega
        have hdec := dec_call wr a3 c3 (RS.take i) (Kd.C_take (by rw [HQ.out.1]; exact Kd.C_below HCR.out HB.out) (by rw [HQ.out.1]; omega)) (by rw [hlt]; exact hic) (HRO.out.take i)
        rw [hlt, good_short HG0.out hiQ] at hdec
        have W16 : Sh (wrap64 ((i : Int) + 1) = ((i + 1 : Nat) : Int)) := ⟨by have := HQ2.out; unfold wrap64; omega⟩
        clear hik hiQ hlt
        go_wp2_with ((with_reducible refine Rw.at_slot 90 ?_); refine Rw.wpList_upto rfl 27 38 _ _ rfl Try.underlying27 1 (by kernel_rfl) rfl rfl hic ?_)
        refine hdec.mono ?_
        rintro e w10 ⟨A10, c10, rfl, -, -, hB10⟩
        have HB10 := Sh.mk (HB.out.trans (hB10.mono HB.out.size))
        have hsh : short.1 = 0 ∧ short.2.1.length = 0 ∧ short.2.2.1 = 0 ∧ short.2.2.2 = 42 := ⟨rfl, rfl, rfl, rfl⟩
        obtain ⟨s1, s2, s3, s4⟩ := hsh
        rw [s1, s2, s3, s4]
        obtain ⟨b17, hb17⟩ : ∃ b17, w10.heap.size = b17 := ⟨_, rfl⟩
        obtain ⟨wb, hwb⟩ : ∃ wb, w10.alloc (.cells #[.int .i64 0, .slice none 0 0] 32) = wb := ⟨_, rfl⟩
        have hhb : wb.heap[b17]? = some (.cells #[.int .i64 0, .slice none 0 0] 32 (0, 0)) := by rw [← hwb, ← hb17]; exact heap_alloc_new _ _
        have hBb : Below w10.heap.size w10 wb := by rw [← hwb]; exact (Below.refl _ _).alloc (Nat.le_refl _) _
        obtain ⟨w12, z1, -, z3, z4⟩ := Rw.put_row (P := Try.prog) (cs := [.int .i64 0, .slice A10 0 c10]) hhb rfl (by simp [Value.oneCell']) Try.underlying32 rfl sizeCom
        have hB12 : Below w10.heap.size w10 w12 := hBb.trans (z3.below (B := w10.heap.size) hBb.size (fun k hk e => by omega))
        have HB12 := Sh.mk (HB10.out.trans (hB12.mono HB10.out.size))
        have m1_ := (Rw.blk_cell z4 1).trans (rfl : _ = some (Value.slice A10 0 c10))
        clear hB10 hdec hBb hhb z3 z4 hB12 s1 s2 s3 s4 hic
        go_upto_region 16 with ((with_reducible refine Rw.at_store 17 92 ?_); (try simp only [hwb, hb17]); refine Rw.wpList_put rfl 32 (.tmp 17) (.tmp 92) rfl rfl rfl z1 ?_)
        clear z1 hwb hb17
        go_wp2_with fail
        go_roundg g1_
        case measure => have := HI.out; omega
        case rel => exact ⟨i + 1, by have := HI.out; omega, (by first | rfl | (rw [W16.out])), HB12⟩
end Go.Proofs.Ytnemnhfdjofckaa.Co
