-- written by hgprint.py (this work's own call of the kit's printer, with texts of its own for some functions)
import Derived.Test.YthedaphclgiknaaPrint0
import Derived.Test.YthedaphclgiknaaPrintF7
import Derived.Test.YthedaphclgiknaaPrintF6
namespace Go.Proofs.Ythedaphclgiknaa.Print
open Go.RowKit Go.Proofs.YthedaphclgiknaaW.PrintWords Go.Proofs.YthedaphclgiknaaW.PrintLast Go.Proofs.YthedaphclgiknaaW.PrintMore
attribute [local go_sem] Go.Proofs.Ythedaphclgiknaa.Goto.Jumps_ret Go.Proofs.Ythedaphclgiknaa.Goto.Jumps_normal Go.Proofs.Ythedaphclgiknaa.Goto.Jumps_exit Go.Proofs.Ythedaphclgiknaa.Goto.Jumps_panic Go.Proofs.Ythedaphclgiknaa.Goto.Jumps_outgrown max2_int min2_int max_two min_two max_three min_three max_four min_four   -- for this text's walks alone
open Go.Proofs.YthedaphclgiknaaW.PrintWords Go.Proofs.Ythedaphclgiknaa
set_option linter.unusedVariables false
set_option linter.unusedSimpArgs false

/-! ### headgatelaw16_SpaceRead: function 3 -/
mutual
def headgatelaw16_SpaceRead.j0 : Nat → ByteArray → ByteArray → Bool → Option (Bool)
  | 0, _, _, _ => none
  | k + 1, x0, x1, x16 => if x16 = true then ((headgatelaw16_alive.f).bind fun t112 => (some t112)) else ((space_List.f x0).bind fun t113 => ((space_List.f x1).bind fun t114 => (if ((t113.toList == t114.toList) != (x0.toList == x1.toList)) = true then (headgatelaw16_SpaceRead.j1 k t113 true) else (if (t113.size : Int) < 2 then (headgatelaw16_SpaceRead.j1 k t113 true) else (if 0 ≤ (wrap64 ((t113.size : Int) - 1)) then (if (wrap64 ((t113.size : Int) - 1)) < (t113.size : Int) then (if (bt t113 (wrap64 ((t113.size : Int) - 1))) = 10 then (if 0 ≤ (wrap64 ((t113.size : Int) - 2)) then (if (wrap64 ((t113.size : Int) - 2)) < (t113.size : Int) then (headgatelaw16_SpaceRead.j1 k t113 ((bt t113 (wrap64 ((t113.size : Int) - 2))) != 36)) else (none)) else (none)) else (headgatelaw16_SpaceRead.j1 k t113 true)) else (none)) else (none))))))
def headgatelaw16_SpaceRead.j1 : Nat → ByteArray → Bool → Option (Bool)
  | 0, _, _ => none
  | k + 1, x5, x49 => if x49 = true then (some false) else (headgatelaw16_SpaceRead.l0 k x5 0 0)
def headgatelaw16_SpaceRead.l0 : Nat → ByteArray → Int → Int → Option (Bool)
  | 0, _, _, _ => none
  | k + 1, x5, x7, x8 => if x8 < (x5.size : Int) then (if 0 ≤ x8 then (if (bt x5 x8) = 10 then (headgatelaw16_SpaceRead.l0 k x5 0 (wrap64 (x8 + 1))) else (if (wrap64 (x7 + 1)) > 70 then (some false) else (if (bt x5 x8) < 32 then (some false) else (if (bt x5 x8) > 126 then (some false) else (headgatelaw16_SpaceRead.l0 k x5 (wrap64 (x7 + 1)) (wrap64 (x8 + 1))))))) else (none)) else ((headgatelaw16_alive.f).bind fun t115 => (some t115))
end
def headgatelaw16_SpaceRead.f (k : Nat) (a0 : ByteArray) (a1 : ByteArray) : Option (Bool) := if (a0.size : Int) > 1100 then (headgatelaw16_SpaceRead.j0 k a0 a1 true) else (headgatelaw16_SpaceRead.j0 k a0 a1 (decide ((a1.size : Int) > 1100)))
theorem headgatelaw16_SpaceRead.mono_l : ∀ k, (∀ y0 y1 y2, LeO (headgatelaw16_SpaceRead.j0 k y0 y1 y2) (headgatelaw16_SpaceRead.j0 (k + 1) y0 y1 y2)) ∧ (∀ y0 y1, LeO (headgatelaw16_SpaceRead.j1 k y0 y1) (headgatelaw16_SpaceRead.j1 (k + 1) y0 y1)) ∧ (∀ y0 y1 y2, LeO (headgatelaw16_SpaceRead.l0 k y0 y1 y2) (headgatelaw16_SpaceRead.l0 (k + 1) y0 y1 y2))
  | 0 => ⟨fun _ _ _ r h => by simp [headgatelaw16_SpaceRead.j0] at h, fun _ _ r h => by simp [headgatelaw16_SpaceRead.j1] at h, fun _ _ _ r h => by simp [headgatelaw16_SpaceRead.l0] at h⟩
  | k + 1 => by
    obtain ⟨ih0, ih1, ih2⟩ := headgatelaw16_SpaceRead.mono_l k
    refine ⟨?_, ?_, ?_⟩
    · intro y0 y1 y2
      unfold headgatelaw16_SpaceRead.j0
      repeat' first
      | (with_reducible exact ih0 _ _ _)
      | (with_reducible exact ih1 _ _)
      | (with_reducible exact ih2 _ _ _)
      | (with_reducible exact LeO.refl _)
      | (with_reducible exact LeO.none _)
      | (with_reducible refine LeO.ite ?_ ?_)
      | (with_reducible refine LeO.bind ?_ (fun _ => ?_))
      | exact ih0 _ _ _
      | exact ih1 _ _
      | exact ih2 _ _ _
      | exact LeO.none _
      | refine LeO.ite ?_ ?_
      | refine LeO.bind ?_ (fun _ => ?_)
    · intro y0 y1
      unfold headgatelaw16_SpaceRead.j1
      repeat' first
      | (with_reducible exact ih0 _ _ _)
      | (with_reducible exact ih1 _ _)
      | (with_reducible exact ih2 _ _ _)
      | (with_reducible exact LeO.refl _)
      | (with_reducible exact LeO.none _)
      | (with_reducible refine LeO.ite ?_ ?_)
      | (with_reducible refine LeO.bind ?_ (fun _ => ?_))
      | exact ih0 _ _ _
      | exact ih1 _ _
      | exact ih2 _ _ _
      | exact LeO.none _
      | refine LeO.ite ?_ ?_
      | refine LeO.bind ?_ (fun _ => ?_)
    · intro y0 y1 y2
      unfold headgatelaw16_SpaceRead.l0
      repeat' first
      | (with_reducible exact ih0 _ _ _)
      | (with_reducible exact ih1 _ _)
      | (with_reducible exact ih2 _ _ _)
      | (with_reducible exact LeO.refl _)
      | (with_reducible exact LeO.none _)
      | (with_reducible refine LeO.ite ?_ ?_)
      | (with_reducible refine LeO.bind ?_ (fun _ => ?_))
      | exact ih0 _ _ _
      | exact ih1 _ _
      | exact ih2 _ _ _
      | exact LeO.none _
      | refine LeO.ite ?_ ?_
      | refine LeO.bind ?_ (fun _ => ?_)
theorem headgatelaw16_SpaceRead.mono : ∀ a0 a1 k, LeO (headgatelaw16_SpaceRead.f k a0 a1) (headgatelaw16_SpaceRead.f (k + 1) a0 a1) := by
  intro a0 a1 k
  obtain ⟨ih0, ih1, ih2⟩ := headgatelaw16_SpaceRead.mono_l k
  unfold headgatelaw16_SpaceRead.f
  repeat' first
      | (with_reducible exact ih0 _ _ _)
      | (with_reducible exact ih1 _ _)
      | (with_reducible exact ih2 _ _ _)
      | (with_reducible exact LeO.refl _)
      | (with_reducible exact LeO.none _)
      | (with_reducible refine LeO.ite ?_ ?_)
      | (with_reducible refine LeO.bind ?_ (fun _ => ?_))
      | exact ih0 _ _ _
      | exact ih1 _ _
      | exact ih2 _ _ _
      | exact LeO.none _
      | refine LeO.ite ?_ ?_
      | refine LeO.bind ?_ (fun _ => ?_)
set_option maxHeartbeats 8000000 in
set_option maxRecDepth 100000 in
theorem headgatelaw16_SpaceRead.calls (k : Nat) (a0 : ByteArray) (a1 : ByteArray) (r : Bool) (w : World) (h : headgatelaw16_SpaceRead.f k a0 a1 = some r) :
    Calls Try.prog 3 #[.string a0, .string a1] w fun e w' => e = .returned (.bool r) ∧ Below w.heap.size w w' := by
  have HB := Aside0.mk (Below.refl w.heap.size w)
  have H : (if (a0.size : Int) > 1100 then (headgatelaw16_SpaceRead.j0 k a0 a1 true) else (headgatelaw16_SpaceRead.j0 k a0 a1 (decide ((a1.size : Int) > 1100)))) = some r := h
  clear h
  have HC3 := Aside0.mk H
  clear H
  go_enter Try.func3, Try.ntmps3
  go_upto_region 1 with (fail)
  go_cut [16] (fun v16 wc => ∃ (kq : Nat) (x16_2 : Bool), v16 = .bool x16_2 ∧ Aside0 (headgatelaw16_SpaceRead.j0 kq a0 a1 x16_2 = some r) ∧ Aside0 (kq ≤ k) ∧ Aside0 (Below w.heap.size w wc))
  case first =>
    have H := HC3.out
    clear HC3
    by_cases c4 : (a0.size : Int) > 1100
    · rw [if_pos c4] at H
      have c4b0 : decide (1100 < (a0.size : Int)) = true := decide_eq_true c4
      have c4b1 : decide (1100 < a0.size) = true := decide_eq_true (by omega)
      clear c4
      (first | rw [c4b0] | (simp only [i64_w, i32_w]; rw [c4b0]) | skip)
      have H' := Aside0.mk H
      clear H
      go_wp2
      go_meet
      case rel => exact ⟨_, (true), (by first | rfl | (simp; done) | (simp [*]; done)), H', ⟨by first | omega | exact Nat.le_refl _⟩, ⟨by repeat (first | (with_reducible first | exact HB.out | apply below_alloc | apply pw_below_drewN | apply below_drew1) | exact HB.out)⟩⟩
    · rw [if_neg c4] at H
      have c4b0 : decide (1100 < (a0.size : Int)) = false := decide_eq_false c4
      have c4b1 : decide (1100 < a0.size) = false := decide_eq_false (by omega)
      clear c4
      (first | rw [c4b0] | (simp only [i64_w, i32_w]; rw [c4b0]) | skip)
      have H' := Aside0.mk H
      clear H
      go_wp2
      go_meet
      case rel => exact ⟨_, (decide ((a1.size : Int) > 1100)), (by first | rfl | (simp; done) | (simp [*]; done)), H', ⟨by first | omega | exact Nat.le_refl _⟩, ⟨by repeat (first | (with_reducible first | exact HB.out | apply below_alloc | apply pw_below_drewN | apply below_drew1) | exact HB.out)⟩⟩
  case rest =>
    clear HC3
    try clear p2
    try clear c3
    try clear c4
    try clear c4b0
    try clear c4b1
    obtain ⟨kq, x16_2, rfl, HA, HJ2, HB⟩ := hcut
    cases kq with
    | zero => exact absurd HA.out (by simp [headgatelaw16_SpaceRead.j0])
    | succ kj2 =>
      have H := HA.out
      clear HA
      simp only [headgatelaw16_SpaceRead.j0] at H
      by_cases c5 : x16_2 = true
      · subst c5
        have H1 : ((headgatelaw16_alive.f).bind fun t112 => (some t112)) = some r := by rw [if_pos rfl] at H; exact H
        clear H
        have H := H1
        clear H1
        replace H := Option.bind_eq_some_iff.mp H
        obtain ⟨t112, A60, H⟩ := H
        replace H : (some t112) = some r := H
        have A6 := Aside0.mk A60
        clear A60
        obtain rfl := Option.some.inj H
        go_wp2_with (first | ((with_reducible refine gate_callee (f := 6) rfl ?_); refine goesL_ (some 17) rfl rfl Try.func6 (by kernel_rfl) rfl #[] rfl (by (try simp only [List.map_toArray, List.map_cons, List.map_nil]); first | done | rfl | (simp only [List.length_drop, List.length_take]; rfl)) ?_; (with_reducible refine (headgatelaw16_alive.calls  t112 _ A6.out).mono ?_); rintro e w7 ⟨rfl, hb⟩; refine ⟨_, rfl, ?_⟩; have n0_ := Aside0.mk (below_step (by repeat (first | (with_reducible first | exact HB.out | apply below_alloc | apply pw_below_drewN | apply below_drew1) | exact HB.out)) hb); clear HB; have HB := n0_; clear n0_; (try clear hb); (try clear hb2); (try clear hk); (try clear hi)))
        go_ret
        exact ⟨by first | rfl | (simp [errW_none, errW_some] <;> rfl) | (simp [*, errW_none, errW_some] <;> rfl), by repeat (first | (with_reducible first | exact HB.out | apply below_alloc | apply pw_below_drewN | apply below_drew1) | exact HB.out)⟩
      · replace c5 := Bool.eq_false_iff.mpr c5
        subst c5
        have H1 : ((space_List.f a0).bind fun t113 => ((space_List.f a1).bind fun t114 => (if ((t113.toList == t114.toList) != (a0.toList == a1.toList)) = true then (headgatelaw16_SpaceRead.j1 kj2 t113 true) else (if (t113.size : Int) < 2 then (headgatelaw16_SpaceRead.j1 kj2 t113 true) else (if 0 ≤ (wrap64 ((t113.size : Int) - 1)) then (if (wrap64 ((t113.size : Int) - 1)) < (t113.size : Int) then (if (bt t113 (wrap64 ((t113.size : Int) - 1))) = 10 then (if 0 ≤ (wrap64 ((t113.size : Int) - 2)) then (if (wrap64 ((t113.size : Int) - 2)) < (t113.size : Int) then (headgatelaw16_SpaceRead.j1 kj2 t113 ((bt t113 (wrap64 ((t113.size : Int) - 2))) != 36)) else (none)) else (none)) else (headgatelaw16_SpaceRead.j1 kj2 t113 true)) else (none)) else (none)))))) = some r := by rw [if_neg (show ¬ (false = true) by decide)] at H; exact H
        clear H
        have H := H1
        clear H1
        replace H := Option.bind_eq_some_iff.mp H
        obtain ⟨t113, A80, H⟩ := H
        replace H : ((space_List.f a1).bind fun t114 => (if ((t113.toList == t114.toList) != (a0.toList == a1.toList)) = true then (headgatelaw16_SpaceRead.j1 kj2 t113 true) else (if (t113.size : Int) < 2 then (headgatelaw16_SpaceRead.j1 kj2 t113 true) else (if 0 ≤ (wrap64 ((t113.size : Int) - 1)) then (if (wrap64 ((t113.size : Int) - 1)) < (t113.size : Int) then (if (bt t113 (wrap64 ((t113.size : Int) - 1))) = 10 then (if 0 ≤ (wrap64 ((t113.size : Int) - 2)) then (if (wrap64 ((t113.size : Int) - 2)) < (t113.size : Int) then (headgatelaw16_SpaceRead.j1 kj2 t113 ((bt t113 (wrap64 ((t113.size : Int) - 2))) != 36)) else (none)) else (none)) else (headgatelaw16_SpaceRead.j1 kj2 t113 true)) else (none)) else (none))))) = some r := H
        have A8 := Aside0.mk A80
        clear A80
        replace H := Option.bind_eq_some_iff.mp H
        obtain ⟨t114, A90, H⟩ := H
        replace H : (if ((t113.toList == t114.toList) != (a0.toList == a1.toList)) = true then (headgatelaw16_SpaceRead.j1 kj2 t113 true) else (if (t113.size : Int) < 2 then (headgatelaw16_SpaceRead.j1 kj2 t113 true) else (if 0 ≤ (wrap64 ((t113.size : Int) - 1)) then (if (wrap64 ((t113.size : Int) - 1)) < (t113.size : Int) then (if (bt t113 (wrap64 ((t113.size : Int) - 1))) = 10 then (if 0 ≤ (wrap64 ((t113.size : Int) - 2)) then (if (wrap64 ((t113.size : Int) - 2)) < (t113.size : Int) then (headgatelaw16_SpaceRead.j1 kj2 t113 ((bt t113 (wrap64 ((t113.size : Int) - 2))) != 36)) else (none)) else (none)) else (headgatelaw16_SpaceRead.j1 kj2 t113 true)) else (none)) else (none)))) = some r := H
        have A9 := Aside0.mk A90
        clear A90
        have HC10 := Aside0.mk H
        clear H
        go_upto_region 5 with (first | ((with_reducible refine gate_callee (f := 7) rfl ?_); refine goesL_ (some 19) rfl rfl Try.func7 (by kernel_rfl) rfl #[.string a0] rfl (by (try simp only [List.map_toArray, List.map_cons, List.map_nil]); first | done | rfl | (simp only [List.length_drop, List.length_take]; rfl)) ?_; (with_reducible refine (space_List.calls a0 t113 _ A8.out).mono ?_); rintro e w11 ⟨rfl, hb⟩; refine ⟨_, rfl, ?_⟩; have n0_ := Aside0.mk (below_step (by repeat (first | (with_reducible first | exact HB.out | apply below_alloc | apply pw_below_drewN | apply below_drew1) | exact HB.out)) hb); clear HB; have HB := n0_; clear n0_; (try clear hb); (try clear hb2); (try clear hk); (try clear hi)) | ((with_reducible refine gate_callee (f := 7) rfl ?_); refine goesL_ (some 21) rfl rfl Try.func7 (by kernel_rfl) rfl #[.string a1] rfl (by (try simp only [List.map_toArray, List.map_cons, List.map_nil]); first | done | rfl | (simp only [List.length_drop, List.length_take]; rfl)) ?_; (with_reducible refine (space_List.calls a1 t114 _ A9.out).mono ?_); rintro e w12 ⟨rfl, hb⟩; refine ⟨_, rfl, ?_⟩; have n0_ := Aside0.mk (below_step (by repeat (first | (with_reducible first | exact HB.out | apply below_alloc | apply pw_below_drewN | apply below_drew1) | exact HB.out)) hb); clear HB; have HB := n0_; clear n0_; (try clear hb); (try clear hb2); (try clear hk); (try clear hi)))
        (try simp only [Act.put, List.setIfInBounds_toArray, List.set_cons_zero, List.set_cons_succ])
        go_cut [49] (fun v49 wc => ∃ (kq : Nat) (x49_9 : Bool), v49 = .bool x49_9 ∧ Aside0 (headgatelaw16_SpaceRead.j1 kq t113 x49_9 = some r) ∧ Aside0 (kq ≤ kj2) ∧ Aside0 (Below w.heap.size w wc))
        case first =>
          have H := HC10.out
          clear HC10
          by_cases c13 : ((t113.toList == t114.toList) != (a0.toList == a1.toList)) = true
          · rw [if_pos c13] at H
            have c13b0 : ((t113.toList == t114.toList) != (a0.toList == a1.toList)) = true := c13
            (try (have c13b1 : decide ((t113.toList == t114.toList) = (a0.toList == a1.toList)) = false := by simpa using c13))
            (try (have c13b2 : ((t113.toList == t114.toList) == (a0.toList == a1.toList)) = false := by simpa using c13))
            (try (have c13b3 : ¬ ((t113.toList == t114.toList) = (a0.toList == a1.toList)) := by simpa using c13))
            clear c13
            (first | rw [c13b0] | (simp only [i64_w, i32_w]; rw [c13b0]) | skip)
            have H' := Aside0.mk H
            clear H
            go_wp2
            go_meet
            case rel => exact ⟨_, (true), (by first | rfl | (simp; done) | (simp [*]; done)), H', ⟨by have := HJ2.out; first | omega | exact Nat.le_refl _⟩, ⟨by repeat (first | (with_reducible first | exact HB.out | apply below_alloc | apply pw_below_drewN | apply below_drew1) | exact HB.out)⟩⟩
          · rw [if_neg c13] at H
            have c13b0 : ((t113.toList == t114.toList) != (a0.toList == a1.toList)) = false := by simpa using c13
            (try (have c13b1 : decide ((t113.toList == t114.toList) = (a0.toList == a1.toList)) = true := by simpa using c13))
            (try (have c13b2 : ((t113.toList == t114.toList) == (a0.toList == a1.toList)) = true := by simpa using c13))
            clear c13
            (first | rw [c13b0] | (simp only [i64_w, i32_w]; rw [c13b0]) | skip)
            by_cases c14 : (t113.size : Int) < 2
            · rw [if_pos c14] at H
              have c14b0 : decide ((t113.size : Int) < 2) = true := decide_eq_true c14
              have c14b1 : decide (t113.size < 2) = true := decide_eq_true (by omega)
              clear c14
              have H' := Aside0.mk H
              clear H
              go_wp2
              go_meet
              case rel => exact ⟨_, (true), (by first | rfl | (simp; done) | (simp [*]; done)), H', ⟨by have := HJ2.out; first | omega | exact Nat.le_refl _⟩, ⟨by repeat (first | (with_reducible first | exact HB.out | apply below_alloc | apply pw_below_drewN | apply below_drew1) | exact HB.out)⟩⟩
            · rw [if_neg c14] at H
              have c14b0 : decide ((t113.size : Int) < 2) = false := decide_eq_false c14
              have c14b1 : decide (t113.size < 2) = false := decide_eq_false (by omega)
              clear c14
              obtain ⟨ji15, hji15⟩ : ∃ j_ : Int, (wrap64 ((t113.size : Int) - 1)) = j_ := ⟨_, rfl⟩
              replace H : (if 0 ≤ (ji15) then (if (ji15) < (t113.size : Int) then (if (bt t113 (ji15)) = 10 then (if 0 ≤ (wrap64 ((t113.size : Int) - 2)) then (if (wrap64 ((t113.size : Int) - 2)) < (t113.size : Int) then (headgatelaw16_SpaceRead.j1 kj2 t113 ((bt t113 (wrap64 ((t113.size : Int) - 2))) != 36)) else (none)) else (none)) else (headgatelaw16_SpaceRead.j1 kj2 t113 true)) else (none)) else (none)) = some r := by first | (rw [hji15] at H; exact H) | (simp only [hji15] at H ⊢; exact H)
              have hji15w : (IntKind.i64.wrap ((t113.size : Int) - 1)) = ji15 := (i64_w _).trans hji15
              by_cases c16 : 0 ≤ (ji15)
              · rw [if_pos c16] at H
                have c16b0 : decide (0 ≤ (ji15)) = true := decide_eq_true c16
                clear c16
                by_cases c17 : (ji15) < (t113.size : Int)
                · rw [if_pos c17] at H
                  have c17b0 : decide ((ji15) < (t113.size : Int)) = true := decide_eq_true c17
                  clear c17
                  by_cases c19 : (bt t113 (ji15)) = 10
                  · rw [if_pos c19] at H
                    have c19b0 : ((bt t113 (ji15)) == 10) = true := beq_iff_eq.mpr c19
                    have c19b1 : ((bt t113 (ji15)) != 10) = false := bne_eq_false_iff_eq.mpr c19
                    clear c19
                    obtain ⟨ji20, hji20⟩ : ∃ j_ : Int, (wrap64 ((t113.size : Int) - 2)) = j_ := ⟨_, rfl⟩
                    replace H : (if 0 ≤ (ji20) then (if (ji20) < (t113.size : Int) then (headgatelaw16_SpaceRead.j1 kj2 t113 ((bt t113 (ji20)) != 36)) else (none)) else (none)) = some r := by first | (rw [hji20] at H; exact H) | (simp only [hji20] at H ⊢; exact H)
                    have hji20w : (IntKind.i64.wrap ((t113.size : Int) - 2)) = ji20 := (i64_w _).trans hji20
                    by_cases c21 : 0 ≤ (ji20)
                    · rw [if_pos c21] at H
                      have c21b0 : decide (0 ≤ (ji20)) = true := decide_eq_true c21
                      clear c21
                      by_cases c22 : (ji20) < (t113.size : Int)
                      · rw [if_pos c22] at H
                        have c22b0 : decide ((ji20) < (t113.size : Int)) = true := decide_eq_true c22
                        clear c22
                        have H' := Aside0.mk H
                        clear H
                        have p18 : 0 ≤ ((ji15) : Int) := of_decide_eq_true (by first | (with_reducible assumption) | assumption)
                        have q18 : (ji15) < (t113.size : Int) := of_decide_eq_true (by first | (with_reducible assumption) | assumption)
                        have hx18 := bt_at t113 (ji15)
                        replace p18 := eq_true p18
                        replace q18 := eq_true q18
                        have p23 : 0 ≤ ((ji20) : Int) := of_decide_eq_true (by first | (with_reducible assumption) | assumption)
                        have q23 : (ji20) < (t113.size : Int) := of_decide_eq_true (by first | (with_reducible assumption) | assumption)
                        have hx23 := bt_at t113 (ji20)
                        replace p23 := eq_true p23
                        replace q23 := eq_true q23
                        go_wp2
                        go_meet
                        case rel => exact ⟨_, (((bt t113 (ji20)) != 36)), (by first | rfl | (simp; done) | (simp only [← hji20] <;> (first | rfl | simp)) | (simp [*]; done)), H', ⟨by have := HJ2.out; first | omega | exact Nat.le_refl _⟩, ⟨by repeat (first | (with_reducible first | exact HB.out | apply below_alloc | apply pw_below_drewN | apply below_drew1) | exact HB.out)⟩⟩
                      · rw [if_neg c22] at H
                        exact absurd H (by simp)
                    · rw [if_neg c21] at H
                      exact absurd H (by simp)
                  · rw [if_neg c19] at H
                    have c19b0 : ((bt t113 (ji15)) == 10) = false := beq_eq_false_iff_ne.mpr c19
                    have c19b1 : ((bt t113 (ji15)) != 10) = true := bne_iff_ne.mpr c19
                    have H' := Aside0.mk H
                    clear H
                    have p18 : 0 ≤ ((ji15) : Int) := of_decide_eq_true (by first | (with_reducible assumption) | assumption)
                    have q18 : (ji15) < (t113.size : Int) := of_decide_eq_true (by first | (with_reducible assumption) | assumption)
                    have hx18 := bt_at t113 (ji15)
                    replace p18 := eq_true p18
                    replace q18 := eq_true q18
                    go_wp2
                    go_meet
                    case rel => exact ⟨_, (true), (by first | rfl | (simp; done) | (simp [*]; done)), H', ⟨by have := HJ2.out; first | omega | exact Nat.le_refl _⟩, ⟨by repeat (first | (with_reducible first | exact HB.out | apply below_alloc | apply pw_below_drewN | apply below_drew1) | exact HB.out)⟩⟩
                · rw [if_neg c17] at H
                  exact absurd H (by simp)
              · rw [if_neg c16] at H
                exact absurd H (by simp)
        case rest =>
          clear HC10
          try clear c1
          try clear p1
          try clear q1
          try clear hx1
          try clear c2
          try clear p2
          try clear q2
          try clear hx2
          try clear c3
          try clear c4
          try clear c4b0
          try clear c4b1
          try clear c5
          try clear c6
          try clear p6
          try clear c7
          try clear c13
          try clear c13b0
          try clear c13b1
          try clear c13b2
          try clear c14
          try clear c14b0
          try clear c14b1
          try clear c16
          try clear c16b0
          try clear c17
          try clear c17b0
          try clear p18
          try clear q18
          try clear hx18
          try clear c19
          try clear c19b0
          try clear c19b1
          try clear c21
          try clear c21b0
          try clear c22
          try clear c22b0
          try clear p23
          try clear q23
          try clear hx23
          try clear p18
          try clear p2
          try clear p23
          try clear q18
          try clear q23
          obtain ⟨kq, x49_9, rfl, HA, HJ9, HB⟩ := hcut
          cases kq with
          | zero => exact absurd HA.out (by simp [headgatelaw16_SpaceRead.j1])
          | succ kj9 =>
            have H := HA.out
            clear HA
            simp only [headgatelaw16_SpaceRead.j1] at H
            by_cases c24 : x49_9 = true
            · subst c24
              have H1 : (some false) = some r := by rw [if_pos rfl] at H; exact H
              clear H
              have H := H1
              clear H1
              obtain rfl := Option.some.inj H
              go_wp2
              go_ret
              exact ⟨by first | rfl | (simp [errW_none, errW_some] <;> rfl) | (simp [*, errW_none, errW_some] <;> rfl), by repeat (first | (with_reducible first | exact HB.out | apply below_alloc | apply pw_below_drewN | apply below_drew1) | exact HB.out)⟩
            · replace c24 := Bool.eq_false_iff.mpr c24
              subst c24
              have H1 : (headgatelaw16_SpaceRead.l0 kj9 t113 0 0) = some r := by rw [if_neg (show ¬ (false = true) by decide)] at H; exact H
              clear H
              have H := H1
              clear H1
              have H' := Aside0.mk H
              clear H
              go_wp2
              go_loopg [7, 8] kj9 (fun kq v7 v8 w' => ∃ (x7_3 : Int) (x8_3 : Int), v7 = .int .i64 x7_3 ∧ v8 = .int .i64 x8_3 ∧ Aside0 (headgatelaw16_SpaceRead.l0 kq t113 x7_3 x8_3 = some r) ∧ Aside0 (kq ≤ kj9) ∧ Aside0 (Below w.heap.size w w'))
              case atStart => exact ⟨(0), (0), (by first | rfl | (simp; done) | (simp [*]; done)), (by first | rfl | (simp; done) | (simp [*]; done)), H', ⟨Nat.le_refl _⟩, ⟨by repeat (first | (with_reducible first | exact HB.out | apply below_alloc | apply pw_below_drewN | apply below_drew1) | exact HB.out)⟩⟩
              case round =>
                clear H'
                try clear c1
                try clear p1
                try clear q1
                try clear hx1
                try clear c2
                try clear p2
                try clear q2
                try clear hx2
                try clear c3
                try clear c4
                try clear c4b0
                try clear c4b1
                try clear c5
                try clear c6
                try clear p6
                try clear c7
                try clear c13
                try clear c13b0
                try clear c13b1
                try clear c13b2
                try clear c14
                try clear c14b0
                try clear c14b1
                try clear c16
                try clear c16b0
                try clear c17
                try clear c17b0
                try clear p18
                try clear q18
                try clear hx18
                try clear c19
                try clear c19b0
                try clear c19b1
                try clear c21
                try clear c21b0
                try clear c22
                try clear c22b0
                try clear p23
                try clear q23
                try clear hx23
                try clear c24
                try clear p1
                try clear p18
                try clear p2
                try clear p23
                try clear p6
                try clear q1
                try clear q18
                try clear q2
                try clear q23
                obtain ⟨x7_3, x8_3, rfl, rfl, HA, HK3, HB⟩ := hrel
                cases gk with
                | zero => exact absurd HA.out (by simp [headgatelaw16_SpaceRead.l0])
                | succ k3 =>
                  have H := HA.out
                  clear HA
                  simp only [headgatelaw16_SpaceRead.l0] at H
                  by_cases c25 : x8_3 < (t113.size : Int)
                  · rw [if_pos c25] at H
                    have c25b0 : decide (x8_3 < (t113.size : Int)) = true := decide_eq_true c25
                    clear c25
                    by_cases c26 : 0 ≤ x8_3
                    · rw [if_pos c26] at H
                      have c26b0 : decide (0 ≤ x8_3) = true := decide_eq_true c26
                      clear c26
                      by_cases c28 : (bt t113 x8_3) = 10
                      · rw [if_pos c28] at H
                        have c28b0 : ((bt t113 x8_3) == 10) = true := beq_iff_eq.mpr c28
                        have c28b1 : ((bt t113 x8_3) != 10) = false := bne_eq_false_iff_eq.mpr c28
                        clear c28
                        have H' := Aside0.mk H
                        clear H
                        have p27 : 0 ≤ (x8_3 : Int) := of_decide_eq_true (by first | (with_reducible assumption) | assumption)
                        have q27 : x8_3 < (t113.size : Int) := of_decide_eq_true (by first | (with_reducible assumption) | assumption)
                        have hx27 := bt_at t113 x8_3
                        replace p27 := eq_true p27
                        replace q27 := eq_true q27
                        go_wp2
                        go_roundg k3
                        case measure => have := HJ2.out; have := HJ9.out; have := HK3.out; omega
                        case rel => exact ⟨(0), (wrap64 (x8_3 + 1)), (by first | rfl | (simp; done) | (simp [*]; done)), (by first | rfl | (simp; done) | (simp [*]; done)), H', ⟨by have := HJ2.out; have := HJ9.out; have := HK3.out; omega⟩, ⟨by repeat (first | (with_reducible first | exact HB.out | apply below_alloc | apply pw_below_drewN | apply below_drew1) | exact HB.out)⟩⟩
                      · rw [if_neg c28] at H
                        have c28b0 : ((bt t113 x8_3) == 10) = false := beq_eq_false_iff_ne.mpr c28
                        have c28b1 : ((bt t113 x8_3) != 10) = true := bne_iff_ne.mpr c28
                        by_cases c29 : (wrap64 (x7_3 + 1)) > 70
                        · rw [if_pos c29] at H
                          have c29b0 : decide (70 < (wrap64 (x7_3 + 1))) = true := decide_eq_true c29
                          clear c29
                          obtain rfl := Option.some.inj H
                          have p27 : 0 ≤ (x8_3 : Int) := of_decide_eq_true (by first | (with_reducible assumption) | assumption)
                          have q27 : x8_3 < (t113.size : Int) := of_decide_eq_true (by first | (with_reducible assumption) | assumption)
                          have hx27 := bt_at t113 x8_3
                          replace p27 := eq_true p27
                          replace q27 := eq_true q27
                          go_wp2
                          go_ret
                          exact ⟨by first | rfl | (simp [errW_none, errW_some] <;> rfl) | (simp [*, errW_none, errW_some] <;> rfl), by repeat (first | (with_reducible first | exact HB.out | apply below_alloc | apply pw_below_drewN | apply below_drew1) | exact HB.out)⟩
                        · rw [if_neg c29] at H
                          have c29b0 : decide (70 < (wrap64 (x7_3 + 1))) = false := decide_eq_false c29
                          clear c29
                          by_cases c31 : (bt t113 x8_3) < 32
                          · rw [if_pos c31] at H
                            have c31b0 : decide ((bt t113 x8_3) < 32) = true := decide_eq_true c31
                            clear c31
                            obtain rfl := Option.some.inj H
                            have p27 : 0 ≤ (x8_3 : Int) := of_decide_eq_true (by first | (with_reducible assumption) | assumption)
                            have q27 : x8_3 < (t113.size : Int) := of_decide_eq_true (by first | (with_reducible assumption) | assumption)
                            have hx27 := bt_at t113 x8_3
                            replace p27 := eq_true p27
                            replace q27 := eq_true q27
                            have p30 : 0 ≤ (x8_3 : Int) := of_decide_eq_true (by first | (with_reducible assumption) | assumption)
                            have q30 : x8_3 < (t113.size : Int) := of_decide_eq_true (by first | (with_reducible assumption) | assumption)
                            have hx30 := bt_at t113 x8_3
                            replace p30 := eq_true p30
                            replace q30 := eq_true q30
                            go_wp2
                            go_ret
                            exact ⟨by first | rfl | (simp [errW_none, errW_some] <;> rfl) | (simp [*, errW_none, errW_some] <;> rfl), by repeat (first | (with_reducible first | exact HB.out | apply below_alloc | apply pw_below_drewN | apply below_drew1) | exact HB.out)⟩
                          · rw [if_neg c31] at H
                            have c31b0 : decide ((bt t113 x8_3) < 32) = false := decide_eq_false c31
                            clear c31
                            by_cases c33 : (bt t113 x8_3) > 126
                            · rw [if_pos c33] at H
                              have c33b0 : decide (126 < (bt t113 x8_3)) = true := decide_eq_true c33
                              clear c33
                              obtain rfl := Option.some.inj H
                              have p27 : 0 ≤ (x8_3 : Int) := of_decide_eq_true (by first | (with_reducible assumption) | assumption)
                              have q27 : x8_3 < (t113.size : Int) := of_decide_eq_true (by first | (with_reducible assumption) | assumption)
                              have hx27 := bt_at t113 x8_3
                              replace p27 := eq_true p27
                              replace q27 := eq_true q27
                              have p30 : 0 ≤ (x8_3 : Int) := of_decide_eq_true (by first | (with_reducible assumption) | assumption)
                              have q30 : x8_3 < (t113.size : Int) := of_decide_eq_true (by first | (with_reducible assumption) | assumption)
                              have hx30 := bt_at t113 x8_3
                              replace p30 := eq_true p30
                              replace q30 := eq_true q30
                              have p32 : 0 ≤ (x8_3 : Int) := of_decide_eq_true (by first | (with_reducible assumption) | assumption)
                              have q32 : x8_3 < (t113.size : Int) := of_decide_eq_true (by first | (with_reducible assumption) | assumption)
                              have hx32 := bt_at t113 x8_3
                              replace p32 := eq_true p32
                              replace q32 := eq_true q32
                              go_wp2
                              go_ret
                              exact ⟨by first | rfl | (simp [errW_none, errW_some] <;> rfl) | (simp [*, errW_none, errW_some] <;> rfl), by repeat (first | (with_reducible first | exact HB.out | apply below_alloc | apply pw_below_drewN | apply below_drew1) | exact HB.out)⟩
                            · rw [if_neg c33] at H
                              have c33b0 : decide (126 < (bt t113 x8_3)) = false := decide_eq_false c33
                              clear c33
                              have H' := Aside0.mk H
                              clear H
                              have p27 : 0 ≤ (x8_3 : Int) := of_decide_eq_true (by first | (with_reducible assumption) | assumption)
                              have q27 : x8_3 < (t113.size : Int) := of_decide_eq_true (by first | (with_reducible assumption) | assumption)
                              have hx27 := bt_at t113 x8_3
                              replace p27 := eq_true p27
                              replace q27 := eq_true q27
                              have p30 : 0 ≤ (x8_3 : Int) := of_decide_eq_true (by first | (with_reducible assumption) | assumption)
                              have q30 : x8_3 < (t113.size : Int) := of_decide_eq_true (by first | (with_reducible assumption) | assumption)
                              have hx30 := bt_at t113 x8_3
                              replace p30 := eq_true p30
                              replace q30 := eq_true q30
                              have p32 : 0 ≤ (x8_3 : Int) := of_decide_eq_true (by first | (with_reducible assumption) | assumption)
                              have q32 : x8_3 < (t113.size : Int) := of_decide_eq_true (by first | (with_reducible assumption) | assumption)
                              have hx32 := bt_at t113 x8_3
                              replace p32 := eq_true p32
                              replace q32 := eq_true q32
                              go_wp2
                              go_roundg k3
                              case measure => have := HJ2.out; have := HJ9.out; have := HK3.out; omega
                              case rel => exact ⟨(wrap64 (x7_3 + 1)), (wrap64 (x8_3 + 1)), (by first | rfl | (simp; done) | (simp [*]; done)), (by first | rfl | (simp; done) | (simp [*]; done)), H', ⟨by have := HJ2.out; have := HJ9.out; have := HK3.out; omega⟩, ⟨by repeat (first | (with_reducible first | exact HB.out | apply below_alloc | apply pw_below_drewN | apply below_drew1) | exact HB.out)⟩⟩
                    · rw [if_neg c26] at H
                      exact absurd H (by simp)
                  · rw [if_neg c25] at H
                    have c25b0 : decide (x8_3 < (t113.size : Int)) = false := decide_eq_false c25
                    clear c25
                    replace H := Option.bind_eq_some_iff.mp H
                    obtain ⟨t115, A340, H⟩ := H
                    replace H : (some t115) = some r := H
                    have A34 := Aside0.mk A340
                    clear A340
                    obtain rfl := Option.some.inj H
                    go_wp2_with (first | ((with_reducible refine gate_callee (f := 6) rfl ?_); refine goesL_ (some 76) rfl rfl Try.func6 (by kernel_rfl) rfl #[] rfl (by (try simp only [List.map_toArray, List.map_cons, List.map_nil]); first | done | rfl | (simp only [List.length_drop, List.length_take]; rfl)) ?_; (with_reducible refine (headgatelaw16_alive.calls  t115 _ A34.out).mono ?_); rintro e w35 ⟨rfl, hb⟩; refine ⟨_, rfl, ?_⟩; have n0_ := Aside0.mk (below_step (by repeat (first | (with_reducible first | exact HB.out | apply below_alloc | apply pw_below_drewN | apply below_drew1) | exact HB.out)) hb); clear HB; have HB := n0_; clear n0_; (try clear hb); (try clear hb2); (try clear hk); (try clear hi)))
                    go_ret
                    exact ⟨by first | rfl | (simp [errW_none, errW_some] <;> rfl) | (simp [*, errW_none, errW_some] <;> rfl), by repeat (first | (with_reducible first | exact HB.out | apply below_alloc | apply pw_below_drewN | apply below_drew1) | exact HB.out)⟩

/-- THE ONE PURE STATEMENT of headgatelaw16_SpaceRead: yours. -/
def headgatelaw16_SpaceRead.Pure : Prop := ∀ (a0 : ByteArray) (a1 : ByteArray), a0.size ≤ 140737488351232 → a1.size ≤ 140737488351232 → ∃ k, headgatelaw16_SpaceRead.f k a0 a1 = some true
theorem headgatelaw16_SpaceRead.walk (P : headgatelaw16_SpaceRead.Pure) (a0 : ByteArray) (a1 : ByteArray) (w : World) (w0 : a0.size ≤ 140737488351232) (w1 : a1.size ≤ 140737488351232) :
    Calls Try.prog 3 #[.string a0, .string a1] w fun e w' => e = .returned (.bool true) ∧ Below w.heap.size w w' := by
  obtain ⟨k, h⟩ := P a0 a1 w0 w1
  refine (headgatelaw16_SpaceRead.calls k a0 a1 true w h).mono ?_
  rintro e w' ⟨rfl, hd⟩
  exact ⟨rfl, hd⟩

end Go.Proofs.Ythedaphclgiknaa.Print
