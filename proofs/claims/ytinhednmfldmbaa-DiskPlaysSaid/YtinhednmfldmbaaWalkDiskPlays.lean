/- DiskPlays, walked. -/
import Derived.Test.YtinhednmfldmbaaBoth
import Derived.Lib.SliceRun
import Derived.Deep.LoopGhost
import Derived.Deep.CutBlock
import Derived.Deep.DeepCutAuto
namespace Go.Proofs.Ytinhednmfldmbaa.Dk
open Go Go.RowKit Hp Rd
set_option maxHeartbeats 16000000 in
set_option maxRecDepth 100000 in
theorem diskPlays_calls (v0 v1 : Value) (w : World) (h0 : Arg Try.prog w 3 v0) (h1 : Arg Try.prog w 22 v1) : Calls Try.prog 3 #[v0, v1] w fun e w' => e = .returned (.bool true) ∧ Below w.heap.size w w' := by
  have mixed : Try.prog.follows Departure.mixedOrders = true := by kernel_rfl
  obtain ⟨n, rfl, hn⟩ := arg_int Try.underlying3 h0
  obtain ⟨ops, hlen, a0, c0, rfl, hops⟩ := arg_opsF h1
  obtain ⟨hn1, hn2⟩ := lit_range hn
  clear h0 h1 hn
  by_cases hbig : 12 < n ∧ n ≤ 65536
  · obtain ⟨k1, k2⟩ := hbig
    go_enter Try.func3, Try.ntmps3
    go_wp2_with fail
    refine (alive_calls _).mono ?_
    rintro e w1 ⟨rfl, hb⟩
    go_wp2_with fail
    go_ret
    exact ⟨rfl, hb⟩
  by_cases hbad : n < 1 ∨ 65536 < n
  · by_cases hlow : n < 1
    · have k1 : ¬ (12 < n) := by omega
      go_enter Try.func3, Try.ntmps3
      go_wp2_with fail
      refine (new_bad n _ hbad).mono ?_
      rintro e w1 ⟨rfl, rfl⟩
      go_wp2_with fail
      refine (refNew_bad n _ hbad).mono ?_
      rintro e w1 ⟨rfl, rfl⟩
      go_wp2_with fail
      refine (alive_calls _).mono ?_
      rintro e w1 ⟨rfl, hb⟩
      go_wp2_with fail
      go_ret
      exact ⟨rfl, hb⟩
    · have k1 : 12 < n := by omega
      have k2 : ¬ (n ≤ 65536) := by omega
      go_enter Try.func3, Try.ntmps3
      go_wp2_with fail
      refine (new_bad n _ hbad).mono ?_
      rintro e w1 ⟨rfl, rfl⟩
      go_wp2_with fail
      refine (refNew_bad n _ hbad).mono ?_
      rintro e w1 ⟨rfl, rfl⟩
      go_wp2_with fail
      refine (alive_calls _).mono ?_
      rintro e w1 ⟨rfl, hb⟩
      go_wp2_with fail
      go_ret
      exact ⟨rfl, hb⟩
  obtain ⟨sz, rfl⟩ : ∃ sz : Nat, n = (sz : Int) := Int.eq_ofNat_of_zero_le (by omega)
  have k1 : ¬ ((12 : Int) < (sz : Int)) := by omega
  have hs1 : 1 ≤ sz := by omega
  have hs2 : sz ≤ 65536 := by omega
  go_enter Try.func3, Try.ntmps3
  go_wp2_with fail
  refine (new_calls sz w (by omega) (by omega)).mono ?_
  rintro e w1 ⟨b, m1, m2, rfl, hb1, hft, hD⟩
  go_wp2_with fail
  refine (refNew_ok sz w1 hs1 hs2).mono ?_
  rintro e w2 ⟨rb, gf, cf, fs, rfl, hb2, hR⟩
  have hB : Both w w2 b m1 m2 (.slice none 0 0) ⟨sz, fun _ => none, fun _ => none, []⟩ (fun i => w1.heap.size ≤ i ∧ i < w2.heap.size) rb gf cf (.slice none 0 0) fs [] ⟨sz, fun _ => zeros, []⟩ := by
    have s1 := hb1.size
    refine ⟨hD.below hb2, hR, Alike.new sz hs1 hs2, hb1.trans (hb2.mono s1), hft, fun i hi => by omega, fun i hi hf => ?_, fun c hc => by simp at hc⟩
    have := hD.lt i hf
    omega
  clear hb1 hb2 hft hD hR
  go_upto_block 0 with (fail)
  go_cut [] (fun wx => Sh (Below w.heap.size w wx))
  case first =>
    go_wp2_with fail
    go_loopg [5, 7, 9] (min ops.length 40) (fun kq v5 v7 v9 w' => ∃ (i b m1 m2 : Nat) (sv : Value) (D : St) (F : Nat → Prop) (rb gf cf : Nat) (vc : Value) (fs vs : List Value) (R : RSt), v5 = .pointer (some ⟨b, 0, none⟩) ∧ v7 = .pointer (some ⟨rb, 0, none⟩) ∧ v9 = .int .i64 (i : Int) ∧ i + kq = min ops.length 40 ∧ D.calls.length ≤ i ∧ Sh (Both w w' b m1 m2 sv D F rb gf cf vc fs vs R))
    case atStart => exact ⟨0, _, _, _, _, _, _, _, _, _, _, _, _, _, rfl, rfl, rfl, by omega, Nat.le_refl _, ⟨hB⟩⟩
    case round =>
      clear hB
      obtain ⟨i, b, m1, m2, sv, D, F, rb, gf, cf, vc, fs, vs, R, rfl, rfl, rfl, hi, hcl, ⟨hL⟩⟩ := hrel
      cases gk with
      | zero =>
        by_cases hq : (i : Int) < (ops.length : Int)
        · have hq2 : ¬ ((i : Int) < 40) := by omega
          go_wp2_with fail
          go_meet
          case rel => exact ⟨hL.below⟩
        · go_wp2_with fail
          go_meet
          case rel => exact ⟨hL.below⟩
      | succ g1_ =>
        have hq : (i : Int) < (ops.length : Int) := by omega
        have hq2 : (i : Int) < 40 := by omega
        have q0 : (0 : Int) ≤ (i : Int) := by omega
        obtain ⟨o, ho⟩ : ∃ o, ops[i]? = some o := ⟨_, List.getElem?_eq_getElem (by omega)⟩
        obtain ⟨g, off, vb, vk, rfl, hop⟩ := hops i o ho
        have x0 := bcell' hL.below hop.c0
        have x1 := bcell' hL.below hop.c1
        have x2 := bcell' hL.below hop.c2
        have x3 := bcell' hL.below hop.c3
        have x4 := bcell' hL.below hop.c4
        obtain ⟨ab, cb, rfl, hb0, hb1⟩ := hop.rb
        obtain ⟨ak, ck, rfl, hk0, hk1⟩ := hop.rk
        go_upto_block 2 with (fail)
        obtain ⟨w3, hw3⟩ : ∃ w3, wr.alloc (.cells #[.int .i64 o.kind, .int .i64 o.n, .slice ab o.b.length cb, .slice ak o.keep.length ck, .int .i64 o.torn] 34) = w3 := ⟨_, rfl⟩
        obtain ⟨q, hqq⟩ : ∃ q, wr.heap.size = q := ⟨_, rfl⟩
        have hba : Below wr.heap.size wr w3 := by rw [← hw3]; exact (Below.refl _ _).alloc (Nat.le_refl _) _
        have hL3 := hL.step (S := fun _ => False) (Kept.of_below hba) (fun _ _ e => e)
        have hh3 : w3.heap[q]? = some (.cells #[.int .i64 o.kind, .int .i64 o.n, .slice ab o.b.length cb, .slice ak o.keep.length ck, .int .i64 o.torn] 34 (0, 0)) := by rw [← hw3, ← hqq]; exact heap_alloc_new _ _
        have y0 : w3.cell? ⟨q, 0, none⟩ = some (.int .i64 o.kind) := by simp [World.cell?, hh3]
        have y1 : w3.cell? ⟨q, 1, none⟩ = some (.int .i64 o.n) := by simp [World.cell?, hh3]
        have y2 : w3.cell? ⟨q, 2, none⟩ = some (.slice ab o.b.length cb) := by simp [World.cell?, hh3]
        have y3 : w3.cell? ⟨q, 3, none⟩ = some (.slice ak o.keep.length ck) := by simp [World.cell?, hh3]
        have y4 : w3.cell? ⟨q, 4, none⟩ = some (.int .i64 o.torn) := by simp [World.cell?, hh3]
        have hqD : ∀ i, foot b m1 m2 sv i → i < q := fun i hi => by rw [← hqq]; exact hL.disk.lt i hi
        have hqF : ∀ i, F i → i < q := fun i hi => by rw [← hqq]; exact hL.ref.lt i hi
        have hq3 : q < w3.heap.size := by rw [← hw3, ← hqq]; simp
        rw [hw3, hqq]
        clear hw3 hqq hba x0 x1 x2 x3 x4 hh3
        go_cut [5, 7, 11, 69] (fun v5 v7 v11 _ wx => v11 = .bool true ∧ ∃ (b m1 m2 : Nat) (sv : Value) (D : St) (F : Nat → Prop) (rb gf cf : Nat) (vc : Value) (fs vs : List Value) (R : RSt), v5 = .pointer (some ⟨b, 0, none⟩) ∧ v7 = .pointer (some ⟨rb, 0, none⟩) ∧ D.calls.length ≤ i + 1 ∧ Sh (Both w wx b m1 m2 sv D F rb gf cf vc fs vs R))
        case first =>
          have hRl : R.calls.length = D.calls.length := by rw [hL3.alike.calls]
          by_cases hk1_ : o.kind = 1
          · rw [hk1_] at y0 ⊢
            clear hk1_
            go_upto_region 16 with (fail)
            go_cut [12] (fun v12 wx => Sh (Below w3.heap.size w3 wx ∧ wx.ownsRow w3.heap.size 5 1 v12 o.b.length (o.b.map (Value.int .u8))))
            case first =>
              cases ab with
              | none =>
                obtain ⟨hbn, rfl⟩ := hb0 rfl
                have hl0 : o.b.length = 0 := by rw [hbn]; rfl
                rw [hl0] at y2
                go_wp2_with fail
                go_meet
                case rel =>
                  rw [hbn]
                  exact ⟨(Below.refl _ _).alloc (Nat.le_refl _) _, rfl, .inr ⟨w3.heap.size, 0, #[], rfl, Nat.le_refl _, heap_alloc_new _ _, Nat.le_refl _, by unfold maxLen; omega, rfl, rfl⟩⟩
              | some ad =>
                obtain ⟨-, hbc⟩ := hb1 ad rfl
                have hbc3 : ∀ (j : Nat) (u : Int), o.b[j]? = some u → (w3.alloc (.cells #[] 5)).cell? (ad.add j) = some (.int .u8 u) := fun j u hu => bcell' ((hL3.below).alloc hL3.below.size _) (hbc j u hu)
                go_wp2_with (at_builtin; refine wpList_all rfl _ _ rfl rfl w3.heap.size (heap_alloc_new _ _) ad cb o.b rfl rfl hbc3 hop.len ?_)
                intro v' W' hbW ho
                obtain ⟨a12, c12, rfl⟩ := own_len ho
                go_wp2_with fail
                go_meet
                case rel => exact ⟨((Below.refl w3.heap.size w3).alloc (Nat.le_refl _) _).trans (hbW.mono (by simp)), ho⟩
            case rest =>
              obtain ⟨hbO, hO⟩ := hcut
              obtain ⟨w4, hw4_⟩ : ∃ w4, w4 = wc := ⟨_, rfl⟩
              subst hw4_
              obtain ⟨a12, c12, rfl⟩ := own_len hO
              have hL4 := hL3.step (S := fun _ => False) (Kept.of_below hbO) (fun _ _ e => e)
              replace y1 := bcell' hbO y1
              replace y2 := bcell' hbO y2
              have hs34 := hbO.size
              have hs03 := hL3.below.size
              have hO4 := OwnB.of hO
              have hOlt := hO.lt
              obtain ⟨d0, -, -, -⟩ := hL4.disk.cells
              have hss := hL4.alike.size
              go_upto_region 17 with (fail)
              go_cut [11] (fun v11 wx => v11 = .bool true ∧ ∃ (D' : St) (sv' : Value) (F' : Nat → Prop) (vc' : Value) (vs' : List Value) (R' : RSt), D'.calls.length ≤ i + 1 ∧ Sh (Both w wx b m1 m2 sv' D' F' rb gf cf vc' fs vs' R' ∧ OwnB wx (.slice a12 o.b.length c12) o.b.length ∧ ∀ k, (Value.slice a12 o.b.length c12).ownBlock = some k → w.heap.size ≤ k ∧ ¬ foot b m1 m2 sv' k ∧ ¬ F' k))
              case first =>
                have hLd := hL4.step (S := fun _ => False) (Kept.refl _ w4).drew (fun _ _ e => e)
                have hOd := hO4.kept (S := fun _ => False) (Kept.refl _ w4).drew (fun _ _ e => e)
                have hOa : ∀ k, (Value.slice a12 o.b.length c12).ownBlock = some k → w.heap.size ≤ k ∧ ¬ foot b m1 m2 sv k ∧ ¬ F k := fun k hk => by
                  obtain ⟨h5, h6⟩ := hOlt k hk
                  exact ⟨by omega, fun hf => by have := hqD k hf; omega, fun hf => by have := hqF k hf; omega⟩
                by_cases hnb : o.n < 0 ∨ D.size ≤ o.n
                · refine Mo.region 10 [0, 0, 2, 0, 15, 0, 0, 64, 0, 256, 1023] (fun w' => w' = w4.drew) (fun _ => Eq) (fun _ _ => True) (fun k _ v _ => k = 4 → v = .int .i64 21) rfl (fun _ => trivial) (fun _ _ _ h k => k ▸ h) (fun _ _ _ _ _ _ _ _ _ h => h) (fun _ _ _ _ _ _ _ _ _ => trivial) mixed (by kernel_rfl) ?_
                  simp only [List.take_succ_cons, List.take_zero, List.drop_succ_cons, List.drop_zero]
                  refine Mo.val (v := ?_) (fun _ => rfl) (by rfl) (fun _ _ _ hk_ => (by cases hk_)) ?_ ?_
                  rotate_left
                  · (intro w' hT hP hF; cases hT; go_simp; with_reducible rfl)
                  simp only [Act.put, List.setIfInBounds_toArray, List.set_cons_zero, List.set_cons_succ]
                  refine Mo.val (v := ?_) (fun _ => rfl) (by rfl) (fun _ _ _ hk_ => (by cases hk_)) ?_ ?_
                  rotate_left
                  · (intro w' hT hP hF; cases hT; go_simp; with_reducible rfl)
                  simp only [Act.put, List.setIfInBounds_toArray, List.set_cons_zero, List.set_cons_succ]
                  refine Mo.val (v := ?_) (fun _ => rfl) (by rfl) (fun _ _ _ hk_ => (by cases hk_)) ?_ ?_
                  rotate_left
                  · (intro w' hT hP hF; cases hT; go_simp; with_reducible rfl)
                  simp only [Act.put, List.setIfInBounds_toArray, List.set_cons_zero, List.set_cons_succ]
                  refine Mo.val (v := ?_) (fun _ => rfl) (by rfl) (fun _ _ _ hk_ => (by cases hk_)) ?_ ?_
                  rotate_left
                  · (intro w' hT hP hF; cases hT; go_simp; with_reducible rfl)
                  simp only [Act.put, List.setIfInBounds_toArray, List.set_cons_zero, List.set_cons_succ]
                  refine Mo.any (by rfl) ?_ ?_
                  · intro w' hT hP hF
                    cases hT
                    go_simp
                    show Calls _ _ _ _ _
                    refine (write_bad b D.size o.n _ w4.drew d0 hnb).mono ?_
                    rintro e w5 ⟨rfl, rfl⟩
                    exact ⟨_, rfl, rfl, rfl⟩
                  simp only [Act.put, List.setIfInBounds_toArray, List.set_cons_zero, List.set_cons_succ]
                  rintro v4 ⟨_, _, hv4⟩
                  obtain rfl := hv4 trivial
                  refine Mo.val (v := ?_) (fun _ => rfl) (by rfl) (fun _ _ _ hk_ => (by cases hk_)) ?_ ?_
                  rotate_left
                  · (intro w' hT hP hF; cases hT; go_simp; with_reducible rfl)
                  simp only [Act.put, List.setIfInBounds_toArray, List.set_cons_zero, List.set_cons_succ]
                  refine Mo.val (v := ?_) (fun _ => rfl) (by rfl) (fun _ _ _ hk_ => (by cases hk_)) ?_ ?_
                  rotate_left
                  · (intro w' hT hP hF; cases hT; go_simp; with_reducible rfl)
                  simp only [Act.put, List.setIfInBounds_toArray, List.set_cons_zero, List.set_cons_succ]
                  refine Mo.val (v := ?_) (fun _ => rfl) (by rfl) (fun _ _ _ hk_ => (by cases hk_)) ?_ ?_
                  rotate_left
                  · (intro w' hT hP hF; cases hT; go_simp; with_reducible rfl)
                  simp only [Act.put, List.setIfInBounds_toArray, List.set_cons_zero, List.set_cons_succ]
                  refine Mo.val (v := ?_) (fun _ => rfl) (by rfl) (fun _ _ _ hk_ => (by cases hk_)) ?_ ?_
                  rotate_left
                  · (intro w' hT hP hF; cases hT; go_simp; with_reducible rfl)
                  simp only [Act.put, List.setIfInBounds_toArray, List.set_cons_zero, List.set_cons_succ]
                  refine Mo.val (v := ?_) (fun _ => rfl) (by rfl) (fun _ _ _ hk_ => (by cases hk_)) ?_ ?_
                  rotate_left
                  · (intro w' hT hP hF; cases hT; go_simp; with_reducible rfl)
                  simp only [Act.put, List.setIfInBounds_toArray, List.set_cons_zero, List.set_cons_succ]
                  refine Mo.done ?_
                  rintro w' rfl - -
                  go_wp2_with fail
                  refine (refWrite_bad hLd.ref o.n _ (by omega)).mono ?_
                  rintro e w5 ⟨rfl, rfl⟩
                  go_wp2_with fail
                  go_meet
                  case rel => exact ⟨rfl, D, sv, F, vc, vs, R, by omega, ⟨hLd, hOd, hOa⟩⟩
                by_cases hbl : o.b.length = 32
                · obtain ⟨nn, hnn⟩ : ∃ nn : Nat, o.n = (nn : Int) := Int.eq_ofNat_of_zero_le (by omega)
                  have hR0 := Row32.of_row hop.rb hbl
                  obtain ⟨gB, oB, cB, heB, hltB, -⟩ := hR0.block
                  have hbw : Below w.heap.size w w4 := hL4.below
                  have hw : ∀ w', Kept (foot b m1 m2 sv) w4 w' → DiskIs w' b m1 m2 sv D → Calls Try.prog 14 #[.pointer (some ⟨b, 0, none⟩), .int .i64 o.n, .slice a12 o.b.length c12] w' fun e w'' => ∃ sv', e = .returned (.int .i64 0) ∧ DiskIs w'' b m1 m2 sv' (D.write o.n o.b) ∧ Kept (foot b m1 m2 sv) w' w'' ∧ ∀ i, sv'.ownBlock = some i → sv.ownBlock = some i ∨ w'.heap.size ≤ i := fun w' K hd => by
                    have hO' := own_kept hO K (fun i hi hf => by have := hqD i hf; have := (hOlt i hi).1; omega)
                    rw [hbl] at hO' ⊢
                    obtain ⟨-, g', off', cp, he, hr⟩ := Row32.own hO' hbl
                    rw [he]
                    refine write_ok b m1 m2 sv D o.n g' off' cp o.b w' hd (by omega) (by omega) hbl hr (fun e => ?_) (by omega)
                    have h5 := hqD g' (.inr (.inr (.inr e)))
                    obtain ⟨rfl, rfl⟩ : a12 = some ⟨g', off', none⟩ ∧ c12 = cp := by simpa using he
                    have h6 := (hO'.lt g' rfl).1
                    omega
                  have hwr : ∀ w', Kept (foot b m1 m2 sv) w4 w' → RefIs w' F rb gf cf vc fs vs R → Calls Try.prog 15 #[.pointer (some ⟨rb, 0, none⟩), .int .i64 o.n, .slice ab o.b.length cb] w' fun e w'' => ∃ vc' vs', e = .returned (.int .i64 0) ∧ RefIs w'' (fun i => F i ∨ (w'.heap.size ≤ i ∧ i < w''.heap.size)) rb gf cf vc' fs vs' (R.add o.n o.b) ∧ Kept F w' w'' := fun w' K hd => by
                    have hb' : Below w.heap.size w w' := hbw.trans (K.below hbw.size (fun i hi hf => by have := hL4.newD i hf; omega))
                    have hR1 := hR0.below hb'
                    rw [heB] at hR1 ⊢
                    rw [hnn]
                    refine refWrite_ok hd nn (by omega) gB oB cB o.b hR1 (fun e => ?_) (by omega)
                    have := hL4.newR gB (hd.inF.2.2 gB e)
                    omega
                  have HBL := Sh.mk hbl
                  have hon : 0 ≤ o.n := by omega
                  have honR : o.n < R.size := by omega
                  clear hnn heB hbl hss
                  have y1' : ∀ w', Kept (foot b m1 m2 sv) w4 w' → w'.cell? ⟨q, 1, none⟩ = some (.int .i64 o.n) := fun w' K => kept_cell' K y1 (fun hf => by have := hqD q hf; omega)
                  have y2' : ∀ w', Kept (foot b m1 m2 sv) w4 w' → w'.cell? ⟨q, 2, none⟩ = some (.slice ab o.b.length cb) := fun w' K => kept_cell' K y2 (fun hf => by have := hqD q hf; omega)
                  refine Mo.region 10 [0, 0, 2, 0, 15, 0, 0, 64, 0, 256, 1023] (fun w' => Kept (foot b m1 m2 sv) w4 w') (TrP b m1 m2 sv) (fun k w' => k = 4 → DiskIs w' b m1 m2 sv D) (PsiP b m1 m2 sv (D.write o.n o.b) w4) (Kept.refl _ _).drew (fun _ _ => hLd.disk) (fun k u u' hu ht => hu.trans ht.kept (fun _ _ e => e)) (fun _ _ _ _ _ _ hjk _ ht h => psiP_stays hjk ht h) ?hpre mixed (by kernel_rfl) ?_
                  case hpre =>
                    intro j_ k u u' hjk hb hu ht hp_ e
                    subst e
                    unfold TrP at ht
                    split at ht
                    · rename_i h4
                      exact absurd h4.symm hjk
                    · exact ht ▸ hp_ rfl
                  simp only [List.take_succ_cons, List.take_zero, List.drop_succ_cons, List.drop_zero]
                  refine Mo.val (v := ?_) (fun _ => rfl) (by rfl) (fun _ _ _ => trivial) ?_ ?_
                  rotate_left
                  · (intro w' hT hP hF; skip; go_simp; with_reducible rfl)
                  simp only [Act.put, List.setIfInBounds_toArray, List.set_cons_zero, List.set_cons_succ]
                  refine Mo.val (v := ?_) (fun _ => rfl) (by rfl) (fun _ _ _ => trivial) ?_ ?_
                  rotate_left
                  · (intro w' hT hP hF; skip; go_simp; with_reducible rfl)
                  simp only [Act.put, List.setIfInBounds_toArray, List.set_cons_zero, List.set_cons_succ]
                  refine Mo.val (v := ?_) (fun _ => rfl) (by rfl) (fun _ _ _ => trivial) ?_ ?_
                  rotate_left
                  · (intro w' hT hP hF; have hc := y1' w' hT; go_simp; with_reducible rfl)
                  simp only [Act.put, List.setIfInBounds_toArray, List.set_cons_zero, List.set_cons_succ]
                  refine Mo.val (v := ?_) (fun _ => rfl) (by rfl) (fun _ _ _ => trivial) ?_ ?_
                  rotate_left
                  · (intro w' hT hP hF; skip; go_simp; with_reducible rfl)
                  simp only [Act.put, List.setIfInBounds_toArray, List.set_cons_zero, List.set_cons_succ]
                  refine Mo.any (by rfl) ?_ ?_
                  · intro w' hT hP hF
                    have hs4 := hT.size
                    go_simp
                    show Calls _ _ _ _ _
                    refine (hw w' hT (hP rfl)).mono ?_
                    rintro e w5 ⟨sv', rfl, hD', hK', hsv'⟩
                    refine ⟨_, rfl, ?_, ?_⟩
                    · unfold TrP
                      rw [if_pos rfl]
                      exact hK'
                    · unfold PsiP
                      rw [if_pos rfl]
                      refine ⟨rfl, sv', hD', fun i hi => ?_⟩
                      rcases hsv' i hi with h5 | h5
                      · exact .inl h5
                      · exact .inr (by omega)
                  simp only [Act.put, List.setIfInBounds_toArray, List.set_cons_zero, List.set_cons_succ]
                  rintro v4 ⟨wx, -, hx⟩
                  unfold PsiP at hx
                  rw [if_pos rfl] at hx
                  obtain ⟨rfl, -⟩ := hx
                  refine Mo.val (v := ?_) (fun _ => rfl) (by rfl) (fun _ _ _ => trivial) ?_ ?_
                  rotate_left
                  · (intro w' hT hP hF; skip; go_simp; with_reducible rfl)
                  simp only [Act.put, List.setIfInBounds_toArray, List.set_cons_zero, List.set_cons_succ]
                  refine Mo.val (v := ?_) (fun _ => rfl) (by rfl) (fun _ _ _ => trivial) ?_ ?_
                  rotate_left
                  · (intro w' hT hP hF; skip; go_simp; with_reducible rfl)
                  simp only [Act.put, List.setIfInBounds_toArray, List.set_cons_zero, List.set_cons_succ]
                  refine Mo.val (v := ?_) (fun _ => rfl) (by rfl) (fun _ _ _ => trivial) ?_ ?_
                  rotate_left
                  · (intro w' hT hP hF; have hc := y1' w' hT; go_simp; with_reducible rfl)
                  simp only [Act.put, List.setIfInBounds_toArray, List.set_cons_zero, List.set_cons_succ]
                  refine Mo.val (v := ?_) (fun _ => rfl) (by rfl) (fun _ _ _ => trivial) ?_ ?_
                  rotate_left
                  · (intro w' hT hP hF; skip; go_simp; with_reducible rfl)
                  simp only [Act.put, List.setIfInBounds_toArray, List.set_cons_zero, List.set_cons_succ]
                  refine Mo.val (v := ?_) (fun _ => rfl) (by rfl) (fun _ _ _ => trivial) ?_ ?_
                  rotate_left
                  · (intro w' hT hP hF; have hc := y2' w' hT; go_simp; with_reducible rfl)
                  simp only [Act.put, List.setIfInBounds_toArray, List.set_cons_zero, List.set_cons_succ]
                  refine Mo.done ?_
                  intro w' hT hF _
                  have hF4 := hF 4
                  simp (decide := true) only [Mo.upd, if_true, if_false] at hF4
                  unfold PsiP at hF4
                  rw [if_pos rfl] at hF4
                  obtain ⟨-, sv', hD', hsv'⟩ := hF4
                  have hR' := hL4.ref.kept hT (fun i hi => hL4.apart i hi)
                  clear hF y1' y2'
                  go_wp2_with fail
                  refine (hwr w' hT hR').mono ?_
                  rintro e w6 ⟨vc', vs', rfl, hR2, K2⟩
                  have hnx := hL4.next hD' hT hsv' hR2 K2 (hL4.alike.write hon HBL.out) (fun c hc => by
                    rcases List.mem_append.1 hc with hc | hc
                    · exact hL4.cs c hc
                    · rw [List.mem_singleton.1 hc]; exact honR)
                  have hs4 := hT.size
                  have hOx := (hO4.kept hT (fun i hi hf => by have := hqD i hf; have := (hOlt i hi).1; omega)).kept K2 (fun i hi hf => by have := hqF i hf; have := (hOlt i hi).1; omega)
                  have hOb : ∀ k, (Value.slice a12 o.b.length c12).ownBlock = some k → w.heap.size ≤ k ∧ ¬ foot b m1 m2 sv' k ∧ ¬ (F k ∨ (w'.heap.size ≤ k ∧ k < w6.heap.size)) := fun k hk => by
                    obtain ⟨h5, h6⟩ := hOlt k hk
                    refine ⟨by omega, fun hf => ?_, fun hf => ?_⟩
                    · rcases hf with hf | hf | hf | hf
                      · have := hqD k (.inl hf); omega
                      · have := hqD k (.inr (.inl hf)); omega
                      · have := hqD k (.inr (.inr (.inl hf))); omega
                      · rcases hsv' k hf with h7 | h7
                        · have := hqD k (.inr (.inr (.inr h7))); omega
                        · omega
                    · rcases hf with hf | hf
                      · have := hqF k hf; omega
                      · omega
                  clear hw hwr
                  go_wp2_with fail
                  go_meet
                  case rel => exact ⟨rfl, _, sv', _, vc', vs', _, (by simp [St.write]; omega), ⟨hnx, hOx, hOb⟩⟩
                · refine Mo.region 10 [0, 0, 2, 0, 15, 0, 0, 64, 0, 256, 1023] (fun w' => w' = w4.drew) (fun _ => Eq) (fun _ _ => True) (fun k _ v _ => k = 4 → v = .int .i64 1) rfl (fun _ => trivial) (fun _ _ _ h k => k ▸ h) (fun _ _ _ _ _ _ _ _ _ h => h) (fun _ _ _ _ _ _ _ _ _ => trivial) mixed (by kernel_rfl) ?_
                  simp only [List.take_succ_cons, List.take_zero, List.drop_succ_cons, List.drop_zero]
                  refine Mo.val (v := ?_) (fun _ => rfl) (by rfl) (fun _ _ _ hk_ => (by cases hk_)) ?_ ?_
                  rotate_left
                  · (intro w' hT hP hF; cases hT; go_simp; with_reducible rfl)
                  simp only [Act.put, List.setIfInBounds_toArray, List.set_cons_zero, List.set_cons_succ]
                  refine Mo.val (v := ?_) (fun _ => rfl) (by rfl) (fun _ _ _ hk_ => (by cases hk_)) ?_ ?_
                  rotate_left
                  · (intro w' hT hP hF; cases hT; go_simp; with_reducible rfl)
                  simp only [Act.put, List.setIfInBounds_toArray, List.set_cons_zero, List.set_cons_succ]
                  refine Mo.val (v := ?_) (fun _ => rfl) (by rfl) (fun _ _ _ hk_ => (by cases hk_)) ?_ ?_
                  rotate_left
                  · (intro w' hT hP hF; cases hT; go_simp; with_reducible rfl)
                  simp only [Act.put, List.setIfInBounds_toArray, List.set_cons_zero, List.set_cons_succ]
                  refine Mo.val (v := ?_) (fun _ => rfl) (by rfl) (fun _ _ _ hk_ => (by cases hk_)) ?_ ?_
                  rotate_left
                  · (intro w' hT hP hF; cases hT; go_simp; with_reducible rfl)
                  simp only [Act.put, List.setIfInBounds_toArray, List.set_cons_zero, List.set_cons_succ]
                  refine Mo.any (by rfl) ?_ ?_
                  · intro w' hT hP hF
                    cases hT
                    go_simp
                    show Calls _ _ _ _ _
                    refine (write_short b D.size o.n _ _ _ w4.drew d0 (by omega) (by omega) hbl).mono ?_
                    rintro e w5 ⟨rfl, rfl⟩
                    exact ⟨_, rfl, rfl, rfl⟩
                  simp only [Act.put, List.setIfInBounds_toArray, List.set_cons_zero, List.set_cons_succ]
                  rintro v4 ⟨_, _, hv4⟩
                  obtain rfl := hv4 trivial
                  refine Mo.val (v := ?_) (fun _ => rfl) (by rfl) (fun _ _ _ hk_ => (by cases hk_)) ?_ ?_
                  rotate_left
                  · (intro w' hT hP hF; cases hT; go_simp; with_reducible rfl)
                  simp only [Act.put, List.setIfInBounds_toArray, List.set_cons_zero, List.set_cons_succ]
                  refine Mo.val (v := ?_) (fun _ => rfl) (by rfl) (fun _ _ _ hk_ => (by cases hk_)) ?_ ?_
                  rotate_left
                  · (intro w' hT hP hF; cases hT; go_simp; with_reducible rfl)
                  simp only [Act.put, List.setIfInBounds_toArray, List.set_cons_zero, List.set_cons_succ]
                  refine Mo.val (v := ?_) (fun _ => rfl) (by rfl) (fun _ _ _ hk_ => (by cases hk_)) ?_ ?_
                  rotate_left
                  · (intro w' hT hP hF; cases hT; go_simp; with_reducible rfl)
                  simp only [Act.put, List.setIfInBounds_toArray, List.set_cons_zero, List.set_cons_succ]
                  refine Mo.val (v := ?_) (fun _ => rfl) (by rfl) (fun _ _ _ hk_ => (by cases hk_)) ?_ ?_
                  rotate_left
                  · (intro w' hT hP hF; cases hT; go_simp; with_reducible rfl)
                  simp only [Act.put, List.setIfInBounds_toArray, List.set_cons_zero, List.set_cons_succ]
                  refine Mo.val (v := ?_) (fun _ => rfl) (by rfl) (fun _ _ _ hk_ => (by cases hk_)) ?_ ?_
                  rotate_left
                  · (intro w' hT hP hF; cases hT; go_simp; with_reducible rfl)
                  simp only [Act.put, List.setIfInBounds_toArray, List.set_cons_zero, List.set_cons_succ]
                  refine Mo.done ?_
                  rintro w' rfl - -
                  go_wp2_with fail
                  refine (refWrite_short hLd.ref o.n (by omega) (by omega) _ _ _ hbl).mono ?_
                  rintro e w5 ⟨rfl, rfl⟩
                  go_wp2_with fail
                  go_meet
                  case rel => exact ⟨rfl, D, sv, F, vc, vs, R, by omega, ⟨hLd, hOd, hOa⟩⟩
              case rest =>
                obtain ⟨rfl, D5, sv5, F5, vc5, vs5, R5, hcl5, ⟨hL5, hO5, hOb5⟩⟩ := hcut
                obtain ⟨w5, hw5_⟩ : ∃ w5, w5 = wc := ⟨_, rfl⟩
                subst hw5_
                clear hO hO4 hOlt d0 y0 y1 y2 y3 y4
                go_upto_block 3 with (fail)
                go_wp2_with fail
                go_loopg [13] o.b.length (fun kq v13 w' => ∃ k : Nat, v13 = .int .i64 (k : Int) ∧ k + kq = o.b.length ∧ Sh (Kept (fun i => (Value.slice a12 o.b.length c12).ownBlock = some i) w5 w' ∧ OwnB w' (.slice a12 o.b.length c12) o.b.length))
                case atStart => exact ⟨0, rfl, by omega, ⟨Kept.refl _ _, hO5⟩⟩
                case round =>
                  obtain ⟨k, rfl, hk, ⟨hK, hOw⟩⟩ := hrel
                  cases gk with
                  | zero =>
                    have q1 : ¬ ((k : Int) < (o.b.length : Int)) := by omega
                    have hL6 := hL5.step hK (fun j hj e => by
                      obtain ⟨h5, h6, h7⟩ := hOb5 j e
                      rcases hj with hj | hj | hj
                      · exact h6 hj
                      · exact h7 hj
                      · omega)
                    go_wp2_with fail
                    go_meet
                    case rel => exact ⟨rfl, _, _, _, _, _, _, _, _, _, _, _, _, _, rfl, rfl, hcl5, ⟨hL6⟩⟩
                  | succ g2_ =>
                    have hlenb := hop.len
                    have q1 : (k : Int) < (o.b.length : Int) := by omega
                    have q2 : (0 : Int) ≤ (k : Int) := by omega
                    obtain hz | ⟨g3, c3, cur, he, hh3, hc3⟩ := hOw
                    · omega
                    obtain ⟨rfl, rfl⟩ : a12 = some ⟨g3, 0, none⟩ ∧ c12 = c3 := by simpa using he
                    obtain ⟨x, hx⟩ := hc3 k (by omega)
                    have z1 : wr.cell? ⟨g3, k, none⟩ = some (.int .u8 x) := by simp [World.cell?, hh3, hx]
                    have z2 : wr.frozen? ⟨g3, k, none⟩ = false := by simp [World.frozen?, hh3]
                    clear he
                    go_wp2_with fail
                    go_roundg g2_
                    case measure => omega
                    case rel => exact ⟨k + 1, by go_num, (Nat.add_right_comm k 1 g2_).trans hk, ⟨hK.setCell (p := ⟨g3, k, none⟩) (Or.inr rfl) _, OwnB.set hh3 hc3⟩⟩
          by_cases hk2_ : o.kind = 2
          · rw [hk2_] at y0
            go_wp2_with fail
            refine (sync_ok b m1 m2 sv D w3 hL3.disk (by omega)).mono ?_
            rintro e w4 ⟨sv', rfl, hD', K', hsv'⟩
            have hR' := hL3.ref.kept K' (fun i hi => hL3.apart i hi)
            go_wp2_with fail
            refine (refSync_ok hR' (by omega)).mono ?_
            rintro e w5 ⟨vc', vs', rfl, hR2, K2⟩
            have hsz := hL3.ref.pos
            have hnx := hL3.next hD' K' hsv' hR2 K2 hL3.alike.sync (fun c hc => by
              rcases List.mem_append.1 hc with hc | hc
              · exact hL3.cs c hc
              · rw [List.mem_singleton.1 hc]; show (-1 : Int) < R.size; omega)
            go_wp2_with fail
            go_meet
            case rel => exact ⟨rfl, _, _, _, _, _, _, _, _, _, _, _, _, _, rfl, rfl, (by simp [St.sync]; omega), ⟨hnx⟩⟩
          by_cases hk3_ : o.kind = 3
          · rw [hk3_] at y0
            have hkw : Row1 w3 Value.bool (.slice ak o.keep.length ck) o.keep := row1_below hop.rk hL3.below
            go_wp2_with fail
            refine (cut_ok b m1 m2 sv D o.n o.torn o.keep _ w3 hL3.disk hop.wn hop.wt hkw (by omega)).mono ?_
            rintro e w4 ⟨b', m1', m2', rfl, hD', hb4, hft⟩
            have hkw4 := row1_below hkw hb4
            have hL4 := hL3.step (S := fun _ => False) (Kept.of_below hb4) (fun _ _ e => e)
            replace y1 := bcell' hb4 y1
            replace y3 := bcell' hb4 y3
            replace y4 := bcell' hb4 y4
            have hpos := hL3.disk.ok.pos
            have hle := hL3.disk.ok.le
            have hss := hL3.alike.size
            go_wp2_with fail
            refine (refCut_ok hL4.ref o.n o.torn o.keep _ hop.wn hop.wt hkw4 (by omega) (by omega) (by omega) hL4.cs).mono ?_
            rintro e w5 ⟨rb', gf', cf', fs', rfl, hb5, hR5⟩
            have hL5 := hL4.step (S := fun _ => False) (Kept.of_below hb5) (fun _ _ e => e)
            go_wp2_with fail
            refine (alike_both hL5 (by omega)).mono ?_
            rintro e w6 ⟨rfl, hb6⟩
            have hnx := hL3.cut hD' hb4 hft hb5 hR5 hb6 (hL3.alike.cut' o.n o.torn o.keep) rfl
            go_wp2_with fail
            go_meet
            case rel => exact ⟨rfl, _, _, _, _, _, _, _, _, _, _, _, _, _, rfl, rfl, (by simp [St.cut]), ⟨hnx⟩⟩
          · go_wp2_with fail
            go_meet
            case rel => exact ⟨rfl, _, _, _, _, _, _, _, _, _, _, _, _, _, rfl, rfl, (by omega), ⟨hL3⟩⟩
        case rest =>
          obtain ⟨rfl, b', m1', m2', sv', D', F', rb', gf', cf', vc', fs', vs', R', rfl, rfl, hcl', ⟨hn⟩⟩ := hcut
          go_wp2_with fail
          refine (alike_both hn (by omega)).mono ?_
          rintro e w4 ⟨rfl, hb4⟩
          have hn4 := hn.step (S := fun _ => False) (Kept.of_below hb4) (fun _ _ e => e)
          go_wp2_with fail
          go_roundg g1_
          case measure => omega
          case rel => exact ⟨i + 1, _, _, _, _, _, _, _, _, _, _, _, _, _, rfl, rfl, by go_num, by omega, hcl', ⟨hn4⟩⟩
  case rest =>
    obtain ⟨hb⟩ := hcut
    go_wp2_with fail
    refine (alive_calls _).mono ?_
    rintro e w1 ⟨rfl, hb'⟩
    go_wp2_with fail
    go_ret
    exact ⟨rfl, hb.trans (hb'.mono hb.size)⟩
end Go.Proofs.Ytinhednmfldmbaa.Dk
