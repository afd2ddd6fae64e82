/- The two disks, compared. -/
import Derived.Test.YtinhednmfldmbaaRef6
namespace Go.Proofs.Ytinhednmfldmbaa.Dk
open Go Go.RowKit Hp Rd

set_option maxHeartbeats 2000000 in
set_option maxRecDepth 100000 in
theorem alike_calls {F : Nat → Prop} {w : World} {b m1 m2 rb gf cf : Nat} {sv vc : Value} {D : St} {fs vs : List Value} {R : RSt} (hD : DiskIs w b m1 m2 sv D) (hR : RefIs w F rb gf cf vc fs vs R) (hs : D.size = R.size) (hc : D.calls.length = R.calls.length) (hat : ∀ n : Nat, (n : Int) < D.size → D.at n = R.at n) (hl : R.calls.length < 1000000000000) :
    Calls Try.prog 20 #[.pointer (some ⟨b, 0, none⟩), .pointer (some ⟨rb, 0, none⟩)] w fun e w' => e = .returned (.bool true) ∧ Below w.heap.size w w' := by
  have mixed : Try.prog.follows Departure.mixedOrders = true := by kernel_rfl
  obtain ⟨c0, -, -, c3⟩ := hD.cells
  obtain ⟨a, c, rfl⟩ := own_len hD.row
  obtain ⟨a', c', rfl⟩ := own_len hR.crow
  have hh := hR.head
  have r0 : w.cell? ⟨rb, 0, none⟩ = some (.int .i64 R.size) := by simp [World.cell?, hh]
  have r2 : w.cell? ⟨rb, 2, none⟩ = some (.slice a' R.calls.length c') := by simp [World.cell?, hh]
  obtain ⟨sz, hsz⟩ : ∃ sz : Nat, R.size = (sz : Int) := Int.eq_ofNat_of_zero_le hR.pos
  have hszD : D.size = (sz : Int) := hs.trans hsz
  have hszle : sz ≤ 65536 := by have := hD.ok.le; omega
  rw [hszD] at c0
  rw [hsz] at r0
  rw [hc] at c3
  obtain ⟨nc, hnc⟩ : ∃ nc, R.calls.length = nc := ⟨_, rfl⟩
  rw [hnc] at r2 c3
  clear hh
  go_enter Try.func20, Try.ntmps20
  go_upto_region 1 with (fail)
  refine Mo.region 16 [0, 1, 0, 4, 12, 28, 63, 127, 255, 511, 255, 1279, 3327, 7423, 15615, 32767, 65535] (fun w' => w' = w.drew) (fun _ => Eq) (fun _ _ => True) (fun k _ v _ => (k = 1 → v = .int .i64 sz) ∧ (k = 9 → v = .int .i64 nc)) rfl (fun _ => trivial) (fun _ _ _ h k => k ▸ h) (fun _ _ _ _ _ _ _ _ _ h => h) (fun _ _ _ _ _ _ _ _ _ => trivial) mixed (by kernel_rfl) ?_
  simp only [List.take_succ_cons, List.take_zero, List.drop_succ_cons, List.drop_zero]
  refine Mo.val (v := ?_) (fun _ => rfl) (by rfl) (fun _ _ _ => ⟨fun h => (by cases h), fun h => (by cases h)⟩) ?_ ?_
  rotate_left
  · (intro w' hT hP hF; cases hT; go_simp; with_reducible rfl)
  simp only [Act.put, List.setIfInBounds_toArray, List.set_cons_zero, List.set_cons_succ]
  refine Mo.any (by rfl) ?_ ?_
  · intro w' hT hP hF
    cases hT
    go_simp
    show Calls _ _ _ _ _
    refine (blocks_calls b sz w.drew c0).mono ?_
    rintro e w1 ⟨rfl, rfl⟩
    exact ⟨_, rfl, rfl, by simp⟩
  simp only [Act.put, List.setIfInBounds_toArray, List.set_cons_zero, List.set_cons_succ]
  rintro v12 ⟨_, _, hv12, -⟩
  obtain rfl := hv12 trivial
  refine Mo.val (v := ?_) (fun _ => rfl) (by rfl) (fun _ _ _ => ⟨fun h => (by cases h), fun h => (by cases h)⟩) ?_ ?_
  rotate_left
  · (intro w' hT hP hF; cases hT; go_simp; with_reducible rfl)
  simp only [Act.put, List.setIfInBounds_toArray, List.set_cons_zero, List.set_cons_succ]
  refine Mo.val (v := ?_) (fun _ => rfl) (by rfl) (fun _ _ _ => ⟨fun h => (by cases h), fun h => (by cases h)⟩) ?_ ?_
  rotate_left
  · (intro w' hT hP hF; cases hT; go_simp; with_reducible rfl)
  simp only [Act.put, List.setIfInBounds_toArray, List.set_cons_zero, List.set_cons_succ]
  refine Mo.val (v := ?_) (fun _ => rfl) (by rfl) (fun _ _ _ => ⟨fun h => (by cases h), fun h => (by cases h)⟩) ?_ ?_
  rotate_left
  · (intro w' hT hP hF; cases hT; go_simp; with_reducible rfl)
  simp only [Act.put, List.setIfInBounds_toArray, List.set_cons_zero, List.set_cons_succ]
  refine Mo.val (v := ?_) (fun _ => rfl) (by rfl) (fun _ _ _ => ⟨fun h => (by cases h), fun h => (by cases h)⟩) ?_ ?_
  rotate_left
  · (intro w' hT hP hF; cases hT; go_simp; with_reducible rfl)
  simp only [Act.put, List.setIfInBounds_toArray, List.set_cons_zero, List.set_cons_succ]
  refine Mo.val (v := ?_) (fun _ => rfl) (by rfl) (fun _ _ _ => ⟨fun h => (by cases h), fun h => (by cases h)⟩) ?_ ?_
  rotate_left
  · (intro w' hT hP hF; cases hT; go_simp; with_reducible rfl)
  simp only [Act.put, List.setIfInBounds_toArray, List.set_cons_zero, List.set_cons_succ]
  refine Mo.val (v := ?_) (fun _ => rfl) (by rfl) (fun _ _ _ => ⟨fun h => (by cases h), fun h => (by cases h)⟩) ?_ ?_
  rotate_left
  · (intro w' hT hP hF; cases hT; go_simp; with_reducible rfl)
  simp only [Act.put, List.setIfInBounds_toArray, List.set_cons_zero, List.set_cons_succ]
  refine Mo.val (v := ?_) (fun _ => rfl) (by rfl) (fun _ _ _ => ⟨fun h => (by cases h), fun h => (by cases h)⟩) ?_ ?_
  rotate_left
  · (intro w' hT hP hF; cases hT; go_simp; with_reducible rfl)
  simp only [Act.put, List.setIfInBounds_toArray, List.set_cons_zero, List.set_cons_succ]
  refine Mo.any (by rfl) ?_ ?_
  · intro w' hT hP hF
    cases hT
    go_simp
    show Calls _ _ _ _ _
    refine (calls_calls b a nc c w.drew c3).mono ?_
    rintro e w1 ⟨rfl, rfl⟩
    exact ⟨_, rfl, rfl, by simp⟩
  simp only [Act.put, List.setIfInBounds_toArray, List.set_cons_zero, List.set_cons_succ]
  rintro v20 ⟨_, _, -, hv20⟩
  obtain rfl := hv20 trivial
  refine Mo.val (v := ?_) (fun _ => rfl) (by rfl) (fun _ _ _ => ⟨fun h => (by cases h), fun h => (by cases h)⟩) ?_ ?_
  rotate_left
  · (intro w' hT hP hF; cases hT; go_simp; with_reducible rfl)
  simp only [Act.put, List.setIfInBounds_toArray, List.set_cons_zero, List.set_cons_succ]
  refine Mo.val (v := ?_) (fun _ => rfl) (by rfl) (fun _ _ _ => ⟨fun h => (by cases h), fun h => (by cases h)⟩) ?_ ?_
  rotate_left
  · (intro w' hT hP hF; cases hT; go_simp; with_reducible rfl)
  simp only [Act.put, List.setIfInBounds_toArray, List.set_cons_zero, List.set_cons_succ]
  refine Mo.val (v := ?_) (fun _ => rfl) (by rfl) (fun _ _ _ => ⟨fun h => (by cases h), fun h => (by cases h)⟩) ?_ ?_
  rotate_left
  · (intro w' hT hP hF; cases hT; go_simp; with_reducible rfl)
  simp only [Act.put, List.setIfInBounds_toArray, List.set_cons_zero, List.set_cons_succ]
  refine Mo.val (v := ?_) (fun _ => rfl) (by rfl) (fun _ _ _ => ⟨fun h => (by cases h), fun h => (by cases h)⟩) ?_ ?_
  rotate_left
  · (intro w' hT hP hF; cases hT; go_simp; with_reducible rfl)
  simp only [Act.put, List.setIfInBounds_toArray, List.set_cons_zero, List.set_cons_succ]
  refine Mo.val (v := ?_) (fun _ => rfl) (by rfl) (fun _ _ _ => ⟨fun h => (by cases h), fun h => (by cases h)⟩) ?_ ?_
  rotate_left
  · (intro w' hT hP hF; cases hT; go_simp; with_reducible rfl)
  simp only [Act.put, List.setIfInBounds_toArray, List.set_cons_zero, List.set_cons_succ]
  refine Mo.val (v := ?_) (fun _ => rfl) (by rfl) (fun _ _ _ => ⟨fun h => (by cases h), fun h => (by cases h)⟩) ?_ ?_
  rotate_left
  · (intro w' hT hP hF; cases hT; go_simp; with_reducible rfl)
  simp only [Act.put, List.setIfInBounds_toArray, List.set_cons_zero, List.set_cons_succ]
  refine Mo.done ?_
  rintro w' rfl - -
  go_upto_block 0 with (fail)
  have hD0 := hD.kept (S := fun _ => False) (Kept.refl _ w).drew (fun _ _ e => e)
  have hR0 := hR.kept (S := fun _ => False) (Kept.refl _ w).drew (fun _ _ e => e)
  obtain ⟨w0, hw0⟩ : ∃ w0, w.drew = w0 := ⟨_, rfl⟩
  have hb0 : Below w.heap.size w w0 := by rw [← hw0]; exact (Below.refl _ _).drew
  have r0' : w0.cell? ⟨rb, 0, none⟩ = some (.int .i64 sz) := by rw [← hw0]; exact r0
  rw [hw0] at hD0 hR0 ⊢
  clear r0 r2 c0 c3 hw0
  go_cut [] (fun wx => Sh (Below w0.heap.size w0 wx))
  case first =>
    go_wp2_with fail
    go_loopg [5] (sz + 1) (fun kq v5 w' => ∃ n : Nat, v5 = .int .i64 (n : Int) ∧ n + kq = sz + 1 ∧ Sh (Below w0.heap.size w0 w'))
    case atStart => exact ⟨0, rfl, by omega, ⟨Below.refl _ _⟩⟩
    case round =>
      obtain ⟨n, rfl, hn, ⟨hbr⟩⟩ := hrel
      have hDr := hD0.below hbr
      have hRr := hR0.kept (Kept.of_below (S := fun _ => False) hbr) (fun _ _ e => e)
      have rr0 := bcell' hbr r0'
      cases gk with
      | zero =>
        have q : ¬ ((n : Int) ≤ (sz : Int)) := by omega
        have q' : (sz : Int) < (n : Int) := by omega
        go_wp2_with fail
        go_meet
        case rel => exact ⟨hbr⟩
      | succ g1_ =>
        have q : (n : Int) ≤ (sz : Int) := by omega
        have q0 : (0 : Int) ≤ (n : Int) := by omega
        by_cases hns : n = sz
        · subst hns
          obtain ⟨d0, -, -, -⟩ := hDr.cells
          go_wp2_with fail
          refine (read_bad b D.size n wr d0 (Or.inr (by omega))).mono ?_
          rintro e w3 ⟨rfl, rfl⟩
          go_wp2_with fail
          refine (refRead_bad hRr n (Or.inr (by omega))).mono ?_
          rintro e w3 ⟨rfl, rfl⟩
          go_wp2_with fail
          refine (same_nil wr).mono ?_
          rintro e w3 ⟨rfl, rfl⟩
          go_wp2_with fail
          go_roundg g1_
          case measure => omega
          case rel => exact ⟨n + 1, by go_num, by omega, ⟨hbr⟩⟩
        · go_wp2_with fail
          refine (read_ok b m1 m2 _ D n wr hDr (by omega) (by omega)).mono ?_
          rintro e w3 ⟨v3, rfl, hb3, how3⟩
          have hv3 := Row32.own how3 (D.at_length hDr.ok n)
          have hR3 := hRr.kept (Kept.of_below (S := fun _ => False) hb3) (fun _ _ e => e)
          go_wp2_with fail
          refine (refRead_ok hR3 n (by omega) hl).mono ?_
          rintro e w4 ⟨v4, rfl, rfl, hv4⟩
          have hv4' := hv4.1
          rw [← hat n (by omega)] at hv4'
          go_wp2_with fail
          refine (same_calls v3 v4 (D.at n) w3 hv3 hv4').mono ?_
          rintro e w5 ⟨rfl, rfl⟩
          go_wp2_with fail
          go_roundg g1_
          case measure => omega
          case rel => exact ⟨n + 1, by go_num, by omega, ⟨hbr.trans (hb3.mono hbr.size)⟩⟩
  case rest =>
    go_wp2_with fail
    go_ret
    exact ⟨rfl, hb0.trans (hcut.out.mono hb0.size)⟩
end Go.Proofs.Ytinhednmfldmbaa.Dk
