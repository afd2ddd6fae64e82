-- written by hgprint.py (this work's own call of the kit's printer, with texts of its own for some functions)
import Derived.Test.YthedaphclgiknaaDoorPrint0
import Derived.Test.YthedaphclgiknaaDoorPrintF6
import Derived.Test.YthedaphclgiknaaDoorPrintF8
import Derived.Test.YthedaphclgiknaaDoorPrintF5
import Derived.Test.YthedaphclgiknaaDoorPrintF11
namespace Go.Proofs.YthedaphclgiknaaDoor.Print
open Go.RowKit Go.Proofs.YthedaphclgiknaaDoorW.PrintWords Go.Proofs.YthedaphclgiknaaDoorW.PrintLast Go.Proofs.YthedaphclgiknaaDoorW.PrintMore
attribute [local go_sem] Go.Proofs.YthedaphclgiknaaDoor.Goto.Jumps_ret Go.Proofs.YthedaphclgiknaaDoor.Goto.Jumps_normal Go.Proofs.YthedaphclgiknaaDoor.Goto.Jumps_exit Go.Proofs.YthedaphclgiknaaDoor.Goto.Jumps_panic Go.Proofs.YthedaphclgiknaaDoor.Goto.Jumps_outgrown max2_int min2_int max_two min_two max_three min_three max_four min_four   -- for this text's walks alone
open Go.Proofs.YthedaphclgiknaaDoorW.PrintWords Go.Proofs.YthedaphclgiknaaDoor
set_option linter.unusedVariables false
set_option linter.unusedSimpArgs false

/-! ### headgatelaw16_SpaceParts: function 4 -/
mutual
def headgatelaw16_SpaceParts.j0 : Nat → ByteArray → ByteArray → Bool → Option (Bool)
  | 0, _, _, _ => none
  | k + 1, x0, x1, x23 => if x23 = true then ((headgatelaw16_alive.f).bind fun t149 => (some t149)) else ((space_First.f x0).bind fun bt150 => ((space_Append.f x0 x1).bind fun bt153 => (if bt150.2.2 = true then (headgatelaw16_SpaceParts.j1 k x0 x1 bt153.1 bt153.2 true) else (headgatelaw16_SpaceParts.j1 k x0 x1 bt153.1 bt153.2 (bt153.2 != 0)))))
def headgatelaw16_SpaceParts.j1 : Nat → ByteArray → ByteArray → ByteArray → Int → Bool → Option (Bool)
  | 0, _, _, _, _, _ => none
  | k + 1, x0, x1, x8, x9, x41 => if x41 = true then ((headgatelaw16_alive.f).bind fun t155 => (if t155 = true then (some ((x9 == 0) == (decide ((wrap64 ((x0.size : Int) + (x1.size : Int))) < 1024)))) else (some false))) else ((space_First.f x8).bind fun bt156 => ((space_Lines.f x8).bind fun t159 => ((space_Lines.f x1).bind fun t162 => (if bt156.2.2 = true then (if bt156.1.toList = x0.toList then (if bt156.2.1.toList = x1.toList then (if (t159.length : Int) = (wrap64 ((t162.length : Int) + 1)) then (if 0 < (t159.length : Int) then (headgatelaw16_SpaceParts.j2 k t159 t162 ((rdOf ByteArray.empty t159 0).toList != x0.toList)) else (none)) else (headgatelaw16_SpaceParts.j2 k t159 t162 true)) else (headgatelaw16_SpaceParts.j2 k t159 t162 true)) else (headgatelaw16_SpaceParts.j2 k t159 t162 true)) else (headgatelaw16_SpaceParts.j2 k t159 t162 true)))))
def headgatelaw16_SpaceParts.j2 : Nat → List ByteArray → List ByteArray → Bool → Option (Bool)
  | 0, _, _, _ => none
  | k + 1, x13, x14, x90 => if x90 = true then (some false) else (headgatelaw16_SpaceParts.l0 k x13 x14 0)
def headgatelaw16_SpaceParts.l0 : Nat → List ByteArray → List ByteArray → Int → Option (Bool)
  | 0, _, _, _ => none
  | k + 1, x13, x14, x15 => if x15 < (x14.length : Int) then (if 0 ≤ (wrap64 (x15 + 1)) then (if (wrap64 (x15 + 1)) < (x13.length : Int) then (if 0 ≤ x15 then (if (rdOf ByteArray.empty x13 (wrap64 (x15 + 1))).toList = (rdOf ByteArray.empty x14 x15).toList then (headgatelaw16_SpaceParts.l0 k x13 x14 (wrap64 (x15 + 1))) else (some false)) else (none)) else (none)) else (none)) else ((headgatelaw16_alive.f).bind fun t168 => (some t168))
end
def headgatelaw16_SpaceParts.f (k : Nat) (a0 : ByteArray) (a1 : ByteArray) : Option (Bool) := if (a0.size : Int) > 1100 then (headgatelaw16_SpaceParts.j0 k a0 a1 true) else (headgatelaw16_SpaceParts.j0 k a0 a1 (decide ((a1.size : Int) > 1100)))
theorem headgatelaw16_SpaceParts.mono_l : ∀ k, (∀ y0 y1 y2, LeO (headgatelaw16_SpaceParts.j0 k y0 y1 y2) (headgatelaw16_SpaceParts.j0 (k + 1) y0 y1 y2)) ∧ (∀ y0 y1 y2 y3 y4, LeO (headgatelaw16_SpaceParts.j1 k y0 y1 y2 y3 y4) (headgatelaw16_SpaceParts.j1 (k + 1) y0 y1 y2 y3 y4)) ∧ (∀ y0 y1 y2, LeO (headgatelaw16_SpaceParts.j2 k y0 y1 y2) (headgatelaw16_SpaceParts.j2 (k + 1) y0 y1 y2)) ∧ (∀ y0 y1 y2, LeO (headgatelaw16_SpaceParts.l0 k y0 y1 y2) (headgatelaw16_SpaceParts.l0 (k + 1) y0 y1 y2))
  | 0 => ⟨fun _ _ _ r h => by simp [headgatelaw16_SpaceParts.j0] at h, fun _ _ _ _ _ r h => by simp [headgatelaw16_SpaceParts.j1] at h, fun _ _ _ r h => by simp [headgatelaw16_SpaceParts.j2] at h, fun _ _ _ r h => by simp [headgatelaw16_SpaceParts.l0] at h⟩
  | k + 1 => by
    obtain ⟨ih0, ih1, ih2, ih3⟩ := headgatelaw16_SpaceParts.mono_l k
    refine ⟨?_, ?_, ?_, ?_⟩
    · intro y0 y1 y2
      unfold headgatelaw16_SpaceParts.j0
      repeat' first
      | (with_reducible exact ih0 _ _ _)
      | (with_reducible exact ih1 _ _ _ _ _)
      | (with_reducible exact ih2 _ _ _)
      | (with_reducible exact ih3 _ _ _)
      | (with_reducible exact LeO.refl _)
      | (with_reducible exact LeO.none _)
      | (with_reducible refine LeO.ite ?_ ?_)
      | (with_reducible refine LeO.bind ?_ (fun _ => ?_))
      | exact ih0 _ _ _
      | exact ih1 _ _ _ _ _
      | exact ih2 _ _ _
      | exact ih3 _ _ _
      | exact LeO.none _
      | refine LeO.ite ?_ ?_
      | refine LeO.bind ?_ (fun _ => ?_)
    · intro y0 y1 y2 y3 y4
      unfold headgatelaw16_SpaceParts.j1
      repeat' first
      | (with_reducible exact ih0 _ _ _)
      | (with_reducible exact ih1 _ _ _ _ _)
      | (with_reducible exact ih2 _ _ _)
      | (with_reducible exact ih3 _ _ _)
      | (with_reducible exact LeO.refl _)
      | (with_reducible exact LeO.none _)
      | (with_reducible refine LeO.ite ?_ ?_)
      | (with_reducible refine LeO.bind ?_ (fun _ => ?_))
      | exact ih0 _ _ _
      | exact ih1 _ _ _ _ _
      | exact ih2 _ _ _
      | exact ih3 _ _ _
      | exact LeO.none _
      | refine LeO.ite ?_ ?_
      | refine LeO.bind ?_ (fun _ => ?_)
    · intro y0 y1 y2
      unfold headgatelaw16_SpaceParts.j2
      repeat' first
      | (with_reducible exact ih0 _ _ _)
      | (with_reducible exact ih1 _ _ _ _ _)
      | (with_reducible exact ih2 _ _ _)
      | (with_reducible exact ih3 _ _ _)
      | (with_reducible exact LeO.refl _)
      | (with_reducible exact LeO.none _)
      | (with_reducible refine LeO.ite ?_ ?_)
      | (with_reducible refine LeO.bind ?_ (fun _ => ?_))
      | exact ih0 _ _ _
      | exact ih1 _ _ _ _ _
      | exact ih2 _ _ _
      | exact ih3 _ _ _
      | exact LeO.none _
      | refine LeO.ite ?_ ?_
      | refine LeO.bind ?_ (fun _ => ?_)
    · intro y0 y1 y2
      unfold headgatelaw16_SpaceParts.l0
      repeat' first
      | (with_reducible exact ih0 _ _ _)
      | (with_reducible exact ih1 _ _ _ _ _)
      | (with_reducible exact ih2 _ _ _)
      | (with_reducible exact ih3 _ _ _)
      | (with_reducible exact LeO.refl _)
      | (with_reducible exact LeO.none _)
      | (with_reducible refine LeO.ite ?_ ?_)
      | (with_reducible refine LeO.bind ?_ (fun _ => ?_))
      | exact ih0 _ _ _
      | exact ih1 _ _ _ _ _
      | exact ih2 _ _ _
      | exact ih3 _ _ _
      | exact LeO.none _
      | refine LeO.ite ?_ ?_
      | refine LeO.bind ?_ (fun _ => ?_)
theorem headgatelaw16_SpaceParts.mono : ∀ a0 a1 k, LeO (headgatelaw16_SpaceParts.f k a0 a1) (headgatelaw16_SpaceParts.f (k + 1) a0 a1) := by
  intro a0 a1 k
  obtain ⟨ih0, ih1, ih2, ih3⟩ := headgatelaw16_SpaceParts.mono_l k
  unfold headgatelaw16_SpaceParts.f
  repeat' first
      | (with_reducible exact ih0 _ _ _)
      | (with_reducible exact ih1 _ _ _ _ _)
      | (with_reducible exact ih2 _ _ _)
      | (with_reducible exact ih3 _ _ _)
      | (with_reducible exact LeO.refl _)
      | (with_reducible exact LeO.none _)
      | (with_reducible refine LeO.ite ?_ ?_)
      | (with_reducible refine LeO.bind ?_ (fun _ => ?_))
      | exact ih0 _ _ _
      | exact ih1 _ _ _ _ _
      | exact ih2 _ _ _
      | exact ih3 _ _ _
      | exact LeO.none _
      | refine LeO.ite ?_ ?_
      | refine LeO.bind ?_ (fun _ => ?_)
set_option maxHeartbeats 8000000 in
set_option maxRecDepth 100000 in
theorem headgatelaw16_SpaceParts.calls (k : Nat) (a0 : ByteArray) (a1 : ByteArray) (r : Bool) (w : World) (h : headgatelaw16_SpaceParts.f k a0 a1 = some r) :
    Calls Tryd.prog 4 #[.string a0, .string a1] w fun e w' => e = .returned (.bool r) ∧ Below w.heap.size w w' := by
  have HB := Aside0.mk (Below.refl w.heap.size w)
  have H : (if (a0.size : Int) > 1100 then (headgatelaw16_SpaceParts.j0 k a0 a1 true) else (headgatelaw16_SpaceParts.j0 k a0 a1 (decide ((a1.size : Int) > 1100)))) = some r := h
  clear h
  have HC3 := Aside0.mk H
  clear H
  go_enter Tryd.func4, Tryd.ntmps4
  go_upto_region 1 with (fail)
  repeat (go_quiet (fail); go_upto_region 1 with (fail))
  go_cut [23] (fun v23 wc => ∃ (kq : Nat) (x23_2 : Bool), v23 = .bool x23_2 ∧ Aside0 (headgatelaw16_SpaceParts.j0 kq a0 a1 x23_2 = some r) ∧ Aside0 (kq ≤ k) ∧ Aside0 (Below w.heap.size w wc))
  case first =>
    have H := HC3.out
    clear HC3
    by_cases c4 : (a0.size : Int) > 1100
    · rw [if_pos c4] at H
      have c4b0 : decide (1100 < (a0.size : Int)) = true := decide_eq_true c4
      have c4b1 : decide (1100 < a0.size) = true := decide_eq_true (by omega)
      clear c4
      (first | rw [c4b0] | (simp only [i64_w, i32_w]; rw [c4b0]) | skip)
      have H' := Aside0.mk H
      clear H
      go_wp2
      repeat (go_quiet (fail); try go_wp2)
      go_meet
      case rel => exact ⟨_, (true), (by first | rfl | (simp; done) | (simp [*]; done)), H', ⟨by first | omega | exact Nat.le_refl _⟩, ⟨by repeat (first | (with_reducible first | exact HB.out | apply below_alloc | apply pw_below_drewN | apply below_drew1) | exact HB.out)⟩⟩
    · rw [if_neg c4] at H
      have c4b0 : decide (1100 < (a0.size : Int)) = false := decide_eq_false c4
      have c4b1 : decide (1100 < a0.size) = false := decide_eq_false (by omega)
      clear c4
      (first | rw [c4b0] | (simp only [i64_w, i32_w]; rw [c4b0]) | skip)
      have H' := Aside0.mk H
      clear H
      go_wp2
      repeat (go_quiet (fail); try go_wp2)
      go_meet
      case rel => exact ⟨_, (decide ((a1.size : Int) > 1100)), (by first | rfl | (simp; done) | (simp [*]; done)), H', ⟨by first | omega | exact Nat.le_refl _⟩, ⟨by repeat (first | (with_reducible first | exact HB.out | apply below_alloc | apply pw_below_drewN | apply below_drew1) | exact HB.out)⟩⟩
  case rest =>
    clear HC3
    try clear p2
    try clear c4
    try clear c4b0
    try clear c4b1
    obtain ⟨kq, x23_2, rfl, HA, HJ2, HB⟩ := hcut
    cases kq with
    | zero => exact absurd HA.out (by simp [headgatelaw16_SpaceParts.j0])
    | succ kj2 =>
      have H := HA.out
      clear HA
      simp only [headgatelaw16_SpaceParts.j0] at H
      by_cases c5 : x23_2 = true
      · subst c5
        have H1 : ((headgatelaw16_alive.f).bind fun t149 => (some t149)) = some r := by rw [if_pos rfl] at H; exact H
        clear H
        have H := H1
        clear H1
        replace H := Option.bind_eq_some_iff.mp H
        obtain ⟨t149, A60, H⟩ := H
        replace H : (some t149) = some r := H
        have A6 := Aside0.mk A60
        clear A60
        obtain rfl := Option.some.inj H
        go_wp2_with (first | (go_at_call 5; (with_reducible refine (headgatelaw16_alive.calls  t149 _ A6.out).mono ?_); rintro e w7 ⟨rfl, hb⟩; have n0_ := Aside0.mk (below_step (by repeat (first | (with_reducible first | exact HB.out | apply below_alloc | apply pw_below_drewN | apply below_drew1) | exact HB.out)) hb); clear HB; have HB := n0_; clear n0_; (try clear hb); (try clear hb2); (try clear hk); (try clear hi)))
        repeat (go_quiet (first | (go_at_call 5; (with_reducible refine (headgatelaw16_alive.calls  t149 _ A6.out).mono ?_); rintro e w7 ⟨rfl, hb⟩; have n0_ := Aside0.mk (below_step (by repeat (first | (with_reducible first | exact HB.out | apply below_alloc | apply pw_below_drewN | apply below_drew1) | exact HB.out)) hb); clear HB; have HB := n0_; clear n0_; (try clear hb); (try clear hb2); (try clear hk); (try clear hi))); try go_wp2_with (first | (go_at_call 5; (with_reducible refine (headgatelaw16_alive.calls  t149 _ A6.out).mono ?_); rintro e w7 ⟨rfl, hb⟩; have n0_ := Aside0.mk (below_step (by repeat (first | (with_reducible first | exact HB.out | apply below_alloc | apply pw_below_drewN | apply below_drew1) | exact HB.out)) hb); clear HB; have HB := n0_; clear n0_; (try clear hb); (try clear hb2); (try clear hk); (try clear hi))))
        go_ret
        exact ⟨by first | rfl | (simp [errW_none, errW_some] <;> rfl) | (simp [*, errW_none, errW_some] <;> rfl), by repeat (first | (with_reducible first | exact HB.out | apply below_alloc | apply pw_below_drewN | apply below_drew1) | exact HB.out)⟩
      · replace c5 := Bool.eq_false_iff.mpr c5
        subst c5
        have H1 : ((space_First.f a0).bind fun bt150 => ((space_Append.f a0 a1).bind fun bt153 => (if bt150.2.2 = true then (headgatelaw16_SpaceParts.j1 kj2 a0 a1 bt153.1 bt153.2 true) else (headgatelaw16_SpaceParts.j1 kj2 a0 a1 bt153.1 bt153.2 (bt153.2 != 0))))) = some r := by rw [if_neg (show ¬ (false = true) by decide)] at H; exact H
        clear H
        have H := H1
        clear H1
        replace H := Option.bind_eq_some_iff.mp H
        obtain ⟨⟨t150, t151, t152⟩, A80, H⟩ := H
        replace H : ((space_Append.f a0 a1).bind fun bt153 => (if t152 = true then (headgatelaw16_SpaceParts.j1 kj2 a0 a1 bt153.1 bt153.2 true) else (headgatelaw16_SpaceParts.j1 kj2 a0 a1 bt153.1 bt153.2 (bt153.2 != 0)))) = some r := H
        have A8 := Aside0.mk A80
        clear A80
        replace H := Option.bind_eq_some_iff.mp H
        obtain ⟨⟨t153, t154⟩, A90, H⟩ := H
        replace H : (if t152 = true then (headgatelaw16_SpaceParts.j1 kj2 a0 a1 t153 t154 true) else (headgatelaw16_SpaceParts.j1 kj2 a0 a1 t153 t154 (t154 != 0))) = some r := H
        have A9 := Aside0.mk A90
        clear A90
        have HC10 := Aside0.mk H
        clear H
        go_upto_region 5 with (first | (go_at_call 8; (with_reducible refine (space_First.calls a0 t150 t151 t152 _ A8.out).mono ?_); rintro e w' ⟨rfl, ⟨nd, rfl⟩⟩; (try first | exact ⟨rfl, _, World.drewN_drewN _ _ _⟩ | exact ⟨rfl, _, Eq.trans (World.drewN_drewN _ _ _) (congrArg (World.drewN _) (Nat.add_assoc _ _ _))⟩)) | (go_at_call 6; (with_reducible refine (space_Append.calls a0 a1 t153 t154 _ A9.out).mono ?_); rintro e w' ⟨rfl, ⟨nd, rfl⟩⟩; (try first | exact ⟨rfl, _, World.drewN_drewN _ _ _⟩ | exact ⟨rfl, _, Eq.trans (World.drewN_drewN _ _ _) (congrArg (World.drewN _) (Nat.add_assoc _ _ _))⟩)))
        repeat (go_quiet (first | (go_at_call 8; (with_reducible refine (space_First.calls a0 t150 t151 t152 _ A8.out).mono ?_); rintro e w' ⟨rfl, ⟨nd, rfl⟩⟩; (try first | exact ⟨rfl, _, World.drewN_drewN _ _ _⟩ | exact ⟨rfl, _, Eq.trans (World.drewN_drewN _ _ _) (congrArg (World.drewN _) (Nat.add_assoc _ _ _))⟩)) | (go_at_call 6; (with_reducible refine (space_Append.calls a0 a1 t153 t154 _ A9.out).mono ?_); rintro e w' ⟨rfl, ⟨nd, rfl⟩⟩; (try first | exact ⟨rfl, _, World.drewN_drewN _ _ _⟩ | exact ⟨rfl, _, Eq.trans (World.drewN_drewN _ _ _) (congrArg (World.drewN _) (Nat.add_assoc _ _ _))⟩))); go_upto_region 5 with (first | (go_at_call 8; (with_reducible refine (space_First.calls a0 t150 t151 t152 _ A8.out).mono ?_); rintro e w' ⟨rfl, ⟨nd, rfl⟩⟩; (try first | exact ⟨rfl, _, World.drewN_drewN _ _ _⟩ | exact ⟨rfl, _, Eq.trans (World.drewN_drewN _ _ _) (congrArg (World.drewN _) (Nat.add_assoc _ _ _))⟩)) | (go_at_call 6; (with_reducible refine (space_Append.calls a0 a1 t153 t154 _ A9.out).mono ?_); rintro e w' ⟨rfl, ⟨nd, rfl⟩⟩; (try first | exact ⟨rfl, _, World.drewN_drewN _ _ _⟩ | exact ⟨rfl, _, Eq.trans (World.drewN_drewN _ _ _) (congrArg (World.drewN _) (Nat.add_assoc _ _ _))⟩))))
        (try simp only [Act.put, List.setIfInBounds_toArray, List.set_cons_zero, List.set_cons_succ])
        go_cut [41] (fun v41 wc => ∃ (kq : Nat) (x41_9 : Bool), v41 = .bool x41_9 ∧ Aside0 (headgatelaw16_SpaceParts.j1 kq a0 a1 t153 t154 x41_9 = some r) ∧ Aside0 (kq ≤ kj2) ∧ Aside0 (Below w.heap.size w wc))
        case first =>
          have H := HC10.out
          clear HC10
          by_cases c11 : t152 = true
          · subst c11
            have H1 : (headgatelaw16_SpaceParts.j1 kj2 a0 a1 t153 t154 true) = some r := by rw [if_pos rfl] at H; exact H
            clear H
            have H := H1
            clear H1
            have H' := Aside0.mk H
            clear H
            go_wp2
            repeat (go_quiet (fail); try go_wp2)
            go_meet
            case rel => exact ⟨_, (true), (by first | rfl | (simp; done) | (simp [*]; done)), H', ⟨by have := HJ2.out; first | omega | exact Nat.le_refl _⟩, ⟨by repeat (first | (with_reducible first | exact HB.out | apply below_alloc | apply pw_below_drewN | apply below_drew1) | exact HB.out)⟩⟩
          · replace c11 := Bool.eq_false_iff.mpr c11
            subst c11
            have H1 : (headgatelaw16_SpaceParts.j1 kj2 a0 a1 t153 t154 (t154 != 0)) = some r := by rw [if_neg (show ¬ (false = true) by decide)] at H; exact H
            clear H
            have H := H1
            clear H1
            have H' := Aside0.mk H
            clear H
            go_wp2
            repeat (go_quiet (fail); try go_wp2)
            go_meet
            case rel => exact ⟨_, ((t154 != 0)), (by first | rfl | (simp; done) | (simp [*]; done)), H', ⟨by have := HJ2.out; first | omega | exact Nat.le_refl _⟩, ⟨by repeat (first | (with_reducible first | exact HB.out | apply below_alloc | apply pw_below_drewN | apply below_drew1) | exact HB.out)⟩⟩
        case rest =>
          clear HC10
          try clear c1
          try clear p2
          try clear c4
          try clear c4b0
          try clear c4b1
          try clear c5
          try clear c11
          try clear p2
          obtain ⟨kq, x41_9, rfl, HA, HJ9, HB⟩ := hcut
          cases kq with
          | zero => exact absurd HA.out (by simp [headgatelaw16_SpaceParts.j1])
          | succ kj9 =>
            have H := HA.out
            clear HA
            simp only [headgatelaw16_SpaceParts.j1] at H
            by_cases c12 : x41_9 = true
            · subst c12
              have H1 : ((headgatelaw16_alive.f).bind fun t155 => (if t155 = true then (some ((t154 == 0) == (decide ((wrap64 ((a0.size : Int) + (a1.size : Int))) < 1024)))) else (some false))) = some r := by rw [if_pos rfl] at H; exact H
              clear H
              have H := H1
              clear H1
              replace H := Option.bind_eq_some_iff.mp H
              obtain ⟨t155, A130, H⟩ := H
              replace H : (if t155 = true then (some ((t154 == 0) == (decide ((wrap64 ((a0.size : Int) + (a1.size : Int))) < 1024)))) else (some false)) = some r := H
              have A13 := Aside0.mk A130
              clear A130
              by_cases c14 : t155 = true
              · subst c14
                have H1 : (some ((t154 == 0) == (decide ((wrap64 ((a0.size : Int) + (a1.size : Int))) < 1024)))) = some r := by rw [if_pos rfl] at H; exact H
                clear H
                have H := H1
                clear H1
                obtain rfl := Option.some.inj H
                go_wp2_with (first | (go_at_call 5; (with_reducible refine (headgatelaw16_alive.calls  true _ A13.out).mono ?_); rintro e w15 ⟨rfl, hb⟩; have n0_ := Aside0.mk (below_step (by repeat (first | (with_reducible first | exact HB.out | apply below_alloc | apply pw_below_drewN | apply below_drew1) | exact HB.out)) hb); clear HB; have HB := n0_; clear n0_; (try clear hb); (try clear hb2); (try clear hk); (try clear hi)))
                repeat (go_quiet (first | (go_at_call 5; (with_reducible refine (headgatelaw16_alive.calls  true _ A13.out).mono ?_); rintro e w15 ⟨rfl, hb⟩; have n0_ := Aside0.mk (below_step (by repeat (first | (with_reducible first | exact HB.out | apply below_alloc | apply pw_below_drewN | apply below_drew1) | exact HB.out)) hb); clear HB; have HB := n0_; clear n0_; (try clear hb); (try clear hb2); (try clear hk); (try clear hi))); try go_wp2_with (first | (go_at_call 5; (with_reducible refine (headgatelaw16_alive.calls  true _ A13.out).mono ?_); rintro e w15 ⟨rfl, hb⟩; have n0_ := Aside0.mk (below_step (by repeat (first | (with_reducible first | exact HB.out | apply below_alloc | apply pw_below_drewN | apply below_drew1) | exact HB.out)) hb); clear HB; have HB := n0_; clear n0_; (try clear hb); (try clear hb2); (try clear hk); (try clear hi))))
                go_ret
                exact ⟨by first | rfl | (simp [errW_none, errW_some] <;> rfl) | (simp [*, errW_none, errW_some] <;> rfl), by repeat (first | (with_reducible first | exact HB.out | apply below_alloc | apply pw_below_drewN | apply below_drew1) | exact HB.out)⟩
              · replace c14 := Bool.eq_false_iff.mpr c14
                subst c14
                have H1 : (some false) = some r := by rw [if_neg (show ¬ (false = true) by decide)] at H; exact H
                clear H
                have H := H1
                clear H1
                obtain rfl := Option.some.inj H
                go_wp2_with (first | (go_at_call 5; (with_reducible refine (headgatelaw16_alive.calls  false _ A13.out).mono ?_); rintro e w16 ⟨rfl, hb⟩; have n0_ := Aside0.mk (below_step (by repeat (first | (with_reducible first | exact HB.out | apply below_alloc | apply pw_below_drewN | apply below_drew1) | exact HB.out)) hb); clear HB; have HB := n0_; clear n0_; (try clear hb); (try clear hb2); (try clear hk); (try clear hi)))
                repeat (go_quiet (first | (go_at_call 5; (with_reducible refine (headgatelaw16_alive.calls  false _ A13.out).mono ?_); rintro e w16 ⟨rfl, hb⟩; have n0_ := Aside0.mk (below_step (by repeat (first | (with_reducible first | exact HB.out | apply below_alloc | apply pw_below_drewN | apply below_drew1) | exact HB.out)) hb); clear HB; have HB := n0_; clear n0_; (try clear hb); (try clear hb2); (try clear hk); (try clear hi))); try go_wp2_with (first | (go_at_call 5; (with_reducible refine (headgatelaw16_alive.calls  false _ A13.out).mono ?_); rintro e w16 ⟨rfl, hb⟩; have n0_ := Aside0.mk (below_step (by repeat (first | (with_reducible first | exact HB.out | apply below_alloc | apply pw_below_drewN | apply below_drew1) | exact HB.out)) hb); clear HB; have HB := n0_; clear n0_; (try clear hb); (try clear hb2); (try clear hk); (try clear hi))))
                go_ret
                exact ⟨by first | rfl | (simp [errW_none, errW_some] <;> rfl) | (simp [*, errW_none, errW_some] <;> rfl), by repeat (first | (with_reducible first | exact HB.out | apply below_alloc | apply pw_below_drewN | apply below_drew1) | exact HB.out)⟩
            · replace c12 := Bool.eq_false_iff.mpr c12
              subst c12
              have H1 : ((space_First.f t153).bind fun bt156 => ((space_Lines.f t153).bind fun t159 => ((space_Lines.f a1).bind fun t162 => (if bt156.2.2 = true then (if bt156.1.toList = a0.toList then (if bt156.2.1.toList = a1.toList then (if (t159.length : Int) = (wrap64 ((t162.length : Int) + 1)) then (if 0 < (t159.length : Int) then (headgatelaw16_SpaceParts.j2 kj9 t159 t162 ((rdOf ByteArray.empty t159 0).toList != a0.toList)) else (none)) else (headgatelaw16_SpaceParts.j2 kj9 t159 t162 true)) else (headgatelaw16_SpaceParts.j2 kj9 t159 t162 true)) else (headgatelaw16_SpaceParts.j2 kj9 t159 t162 true)) else (headgatelaw16_SpaceParts.j2 kj9 t159 t162 true))))) = some r := by rw [if_neg (show ¬ (false = true) by decide)] at H; exact H
              clear H
              have H := H1
              clear H1
              replace H := Option.bind_eq_some_iff.mp H
              obtain ⟨⟨t156, t157, t158⟩, A170, H⟩ := H
              replace H : ((space_Lines.f t153).bind fun t159 => ((space_Lines.f a1).bind fun t162 => (if t158 = true then (if t156.toList = a0.toList then (if t157.toList = a1.toList then (if (t159.length : Int) = (wrap64 ((t162.length : Int) + 1)) then (if 0 < (t159.length : Int) then (headgatelaw16_SpaceParts.j2 kj9 t159 t162 ((rdOf ByteArray.empty t159 0).toList != a0.toList)) else (none)) else (headgatelaw16_SpaceParts.j2 kj9 t159 t162 true)) else (headgatelaw16_SpaceParts.j2 kj9 t159 t162 true)) else (headgatelaw16_SpaceParts.j2 kj9 t159 t162 true)) else (headgatelaw16_SpaceParts.j2 kj9 t159 t162 true)))) = some r := H
              have A17 := Aside0.mk A170
              clear A170
              replace H := Option.bind_eq_some_iff.mp H
              obtain ⟨t159, A180, H⟩ := H
              replace H : ((space_Lines.f a1).bind fun t162 => (if t158 = true then (if t156.toList = a0.toList then (if t157.toList = a1.toList then (if (t159.length : Int) = (wrap64 ((t162.length : Int) + 1)) then (if 0 < (t159.length : Int) then (headgatelaw16_SpaceParts.j2 kj9 t159 t162 ((rdOf ByteArray.empty t159 0).toList != a0.toList)) else (none)) else (headgatelaw16_SpaceParts.j2 kj9 t159 t162 true)) else (headgatelaw16_SpaceParts.j2 kj9 t159 t162 true)) else (headgatelaw16_SpaceParts.j2 kj9 t159 t162 true)) else (headgatelaw16_SpaceParts.j2 kj9 t159 t162 true))) = some r := H
              have A18 := Aside0.mk A180
              clear A180
              replace H := Option.bind_eq_some_iff.mp H
              obtain ⟨t162, A190, H⟩ := H
              replace H : (if t158 = true then (if t156.toList = a0.toList then (if t157.toList = a1.toList then (if (t159.length : Int) = (wrap64 ((t162.length : Int) + 1)) then (if 0 < (t159.length : Int) then (headgatelaw16_SpaceParts.j2 kj9 t159 t162 ((rdOf ByteArray.empty t159 0).toList != a0.toList)) else (none)) else (headgatelaw16_SpaceParts.j2 kj9 t159 t162 true)) else (headgatelaw16_SpaceParts.j2 kj9 t159 t162 true)) else (headgatelaw16_SpaceParts.j2 kj9 t159 t162 true)) else (headgatelaw16_SpaceParts.j2 kj9 t159 t162 true)) = some r := H
              have A19 := Aside0.mk A190
              clear A190
              have HC20 := Aside0.mk H
              clear H
              go_upto_region 10 with (first | (go_at_call 8; (with_reducible refine (space_First.calls t153 t156 t157 t158 _ A17.out).mono ?_); rintro e w' ⟨rfl, ⟨nd, rfl⟩⟩; (try first | exact ⟨rfl, _, World.drewN_drewN _ _ _⟩ | exact ⟨rfl, _, Eq.trans (World.drewN_drewN _ _ _) (congrArg (World.drewN _) (Nat.add_assoc _ _ _))⟩)) | (go_at_call 11; (with_reducible refine (space_Lines.calls t153 t159 _ A18.out).mono ?_); rintro e w21 ⟨v160, rfl, ho0, hb⟩; have n0_ := Aside0.mk (Kd.R_lower ho0 (below_size (by repeat (first | (with_reducible first | exact HB.out | apply below_alloc | apply pw_below_drewN | apply below_drew1) | exact HB.out)))); have n1_ := Aside0.mk (below_step (by repeat (first | (with_reducible first | exact HB.out | apply below_alloc | apply pw_below_drewN | apply below_drew1) | exact HB.out)) hb); clear HB; have HO161 := n0_; have HB := n1_; clear n0_ n1_; (try clear hb); (try clear hb2); (try clear hk); (try clear hi); (try clear ho0)) | (go_at_call 11; (with_reducible refine (space_Lines.calls a1 t162 _ A19.out).mono ?_); rintro e w22 ⟨v163, rfl, ho0, hb⟩; have n0_ := Aside0.mk (Kd.R_elder' (by (with_reducible repeat (first | apply Kd.R_alloc | apply Kd.R_drewN | apply Kd.R_drew)); exact HO161.out) (Kd.R_base ho0) hb); have n1_ := Aside0.mk (Kd.R_lower (Kd.R_new' ho0 (Kd.R_lt (by (with_reducible repeat (first | apply Kd.R_alloc | apply Kd.R_drewN | apply Kd.R_drew)); exact HO161.out))) (below_size (by repeat (first | (with_reducible first | exact HB.out | apply below_alloc | apply pw_below_drewN | apply below_drew1) | exact HB.out)))); have n2_ := Aside0.mk (below_step (by repeat (first | (with_reducible first | exact HB.out | apply below_alloc | apply pw_below_drewN | apply below_drew1) | exact HB.out)) hb); clear HO161; clear HB; have HO161 := n0_; have HO164 := n1_; have HB := n2_; clear n0_ n1_ n2_; (try clear hb); (try clear hb2); (try clear hk); (try clear hi); (try clear ho0)))
              repeat (go_quiet (first | (go_at_call 8; (with_reducible refine (space_First.calls t153 t156 t157 t158 _ A17.out).mono ?_); rintro e w' ⟨rfl, ⟨nd, rfl⟩⟩; (try first | exact ⟨rfl, _, World.drewN_drewN _ _ _⟩ | exact ⟨rfl, _, Eq.trans (World.drewN_drewN _ _ _) (congrArg (World.drewN _) (Nat.add_assoc _ _ _))⟩)) | (go_at_call 11; (with_reducible refine (space_Lines.calls t153 t159 _ A18.out).mono ?_); rintro e w21 ⟨v160, rfl, ho0, hb⟩; have n0_ := Aside0.mk (Kd.R_lower ho0 (below_size (by repeat (first | (with_reducible first | exact HB.out | apply below_alloc | apply pw_below_drewN | apply below_drew1) | exact HB.out)))); have n1_ := Aside0.mk (below_step (by repeat (first | (with_reducible first | exact HB.out | apply below_alloc | apply pw_below_drewN | apply below_drew1) | exact HB.out)) hb); clear HB; have HO161 := n0_; have HB := n1_; clear n0_ n1_; (try clear hb); (try clear hb2); (try clear hk); (try clear hi); (try clear ho0)) | (go_at_call 11; (with_reducible refine (space_Lines.calls a1 t162 _ A19.out).mono ?_); rintro e w22 ⟨v163, rfl, ho0, hb⟩; have n0_ := Aside0.mk (Kd.R_elder' (by (with_reducible repeat (first | apply Kd.R_alloc | apply Kd.R_drewN | apply Kd.R_drew)); exact HO161.out) (Kd.R_base ho0) hb); have n1_ := Aside0.mk (Kd.R_lower (Kd.R_new' ho0 (Kd.R_lt (by (with_reducible repeat (first | apply Kd.R_alloc | apply Kd.R_drewN | apply Kd.R_drew)); exact HO161.out))) (below_size (by repeat (first | (with_reducible first | exact HB.out | apply below_alloc | apply pw_below_drewN | apply below_drew1) | exact HB.out)))); have n2_ := Aside0.mk (below_step (by repeat (first | (with_reducible first | exact HB.out | apply below_alloc | apply pw_below_drewN | apply below_drew1) | exact HB.out)) hb); clear HO161; clear HB; have HO161 := n0_; have HO164 := n1_; have HB := n2_; clear n0_ n1_ n2_; (try clear hb); (try clear hb2); (try clear hk); (try clear hi); (try clear ho0))); go_upto_region 10 with (first | (go_at_call 8; (with_reducible refine (space_First.calls t153 t156 t157 t158 _ A17.out).mono ?_); rintro e w' ⟨rfl, ⟨nd, rfl⟩⟩; (try first | exact ⟨rfl, _, World.drewN_drewN _ _ _⟩ | exact ⟨rfl, _, Eq.trans (World.drewN_drewN _ _ _) (congrArg (World.drewN _) (Nat.add_assoc _ _ _))⟩)) | (go_at_call 11; (with_reducible refine (space_Lines.calls t153 t159 _ A18.out).mono ?_); rintro e w21 ⟨v160, rfl, ho0, hb⟩; have n0_ := Aside0.mk (Kd.R_lower ho0 (below_size (by repeat (first | (with_reducible first | exact HB.out | apply below_alloc | apply pw_below_drewN | apply below_drew1) | exact HB.out)))); have n1_ := Aside0.mk (below_step (by repeat (first | (with_reducible first | exact HB.out | apply below_alloc | apply pw_below_drewN | apply below_drew1) | exact HB.out)) hb); clear HB; have HO161 := n0_; have HB := n1_; clear n0_ n1_; (try clear hb); (try clear hb2); (try clear hk); (try clear hi); (try clear ho0)) | (go_at_call 11; (with_reducible refine (space_Lines.calls a1 t162 _ A19.out).mono ?_); rintro e w22 ⟨v163, rfl, ho0, hb⟩; have n0_ := Aside0.mk (Kd.R_elder' (by (with_reducible repeat (first | apply Kd.R_alloc | apply Kd.R_drewN | apply Kd.R_drew)); exact HO161.out) (Kd.R_base ho0) hb); have n1_ := Aside0.mk (Kd.R_lower (Kd.R_new' ho0 (Kd.R_lt (by (with_reducible repeat (first | apply Kd.R_alloc | apply Kd.R_drewN | apply Kd.R_drew)); exact HO161.out))) (below_size (by repeat (first | (with_reducible first | exact HB.out | apply below_alloc | apply pw_below_drewN | apply below_drew1) | exact HB.out)))); have n2_ := Aside0.mk (below_step (by repeat (first | (with_reducible first | exact HB.out | apply below_alloc | apply pw_below_drewN | apply below_drew1) | exact HB.out)) hb); clear HO161; clear HB; have HO161 := n0_; have HO164 := n1_; have HB := n2_; clear n0_ n1_ n2_; (try clear hb); (try clear hb2); (try clear hk); (try clear hi); (try clear ho0))))
              (try simp only [Act.put, List.setIfInBounds_toArray, List.set_cons_zero, List.set_cons_succ])
              go_cut [90] (fun v90 wc => ∃ (kq : Nat) (x90_19 : Bool), v90 = .bool x90_19 ∧ Aside0 (headgatelaw16_SpaceParts.j2 kq t159 t162 x90_19 = some r) ∧ Aside0 (kq ≤ kj9) ∧ Aside0 (Kd.R Kd.string 9 wc w.heap.size (fun k_ => some k_ ≠ (v163 : Value).ownBlock) v160 t159) ∧ Aside0 (Kd.R Kd.string 9 wc w.heap.size (fun k_ => some k_ ≠ (v160 : Value).ownBlock) v163 t162) ∧ Aside0 (Below w.heap.size w wc))
              case first =>
                have H := HC20.out
                clear HC20
                by_cases c23 : t158 = true
                · subst c23
                  have H1 : (if t156.toList = a0.toList then (if t157.toList = a1.toList then (if (t159.length : Int) = (wrap64 ((t162.length : Int) + 1)) then (if 0 < (t159.length : Int) then (headgatelaw16_SpaceParts.j2 kj9 t159 t162 ((rdOf ByteArray.empty t159 0).toList != a0.toList)) else (none)) else (headgatelaw16_SpaceParts.j2 kj9 t159 t162 true)) else (headgatelaw16_SpaceParts.j2 kj9 t159 t162 true)) else (headgatelaw16_SpaceParts.j2 kj9 t159 t162 true)) = some r := by rw [if_pos rfl] at H; exact H
                  clear H
                  have H := H1
                  clear H1
                  by_cases c24 : t156.toList = a0.toList
                  · rw [if_pos c24] at H
                    have c24b0 : (t156.toList == a0.toList) = true := beq_iff_eq.mpr c24
                    have c24b1 : (t156.toList != a0.toList) = false := bne_eq_false_iff_eq.mpr c24
                    clear c24
                    (first | rw [c24b0] | (simp only [i64_w, i32_w]; rw [c24b0]) | skip)
                    by_cases c25 : t157.toList = a1.toList
                    · rw [if_pos c25] at H
                      have c25b0 : (t157.toList == a1.toList) = true := beq_iff_eq.mpr c25
                      have c25b1 : (t157.toList != a1.toList) = false := bne_eq_false_iff_eq.mpr c25
                      clear c25
                      by_cases c26 : (t159.length : Int) = (wrap64 ((t162.length : Int) + 1))
                      · rw [if_pos c26] at H
                        have c26b0 : ((t159.length : Int) == (wrap64 ((t162.length : Int) + 1))) = true := beq_iff_eq.mpr c26
                        have c26b1 : ((t159.length : Int) != (wrap64 ((t162.length : Int) + 1))) = false := bne_eq_false_iff_eq.mpr c26
                        clear c26
                        by_cases c27 : 0 < (t159.length : Int)
                        · rw [if_pos c27] at H
                          have c27b0 : decide (0 < (t159.length : Int)) = true := decide_eq_true c27
                          have c27b1 : decide (0 < t159.length) = true := decide_eq_true (by omega)
                          clear c27
                          have H' := Aside0.mk H
                          clear H
                          obtain ⟨Ao28, co28, eo28⟩ := Kd.R_slice HO161.out
                          subst eo28
                          obtain ⟨Ao29, co29, eo29⟩ := Kd.R_slice HO164.out
                          subst eo29
                          have p165 : 0 ≤ (0 : Int) := (by omega)
                          have q165 : 0 < (t159.length : Int) := of_decide_eq_true (by first | (with_reducible assumption) | assumption)
                          obtain ⟨ad165, e165, hx165_0⟩ := Kd.at_string (Kd.R_reads' HO161.out).2.2 0 p165 q165
                          cases e165
                          have qi165 : (0 < t159.length) = True := eq_true (by omega)
                          (try rw [show ((0 : Int)).toNat = 0 from rfl] at hx165_0)
                          (try rw [Addr.add_zero'] at hx165_0)
                          replace p165 := eq_true p165
                          replace q165 := eq_true q165
                          go_wp2
                          repeat (go_quiet (fail); try go_wp2)
                          go_meet
                          case rel => exact ⟨_, (((rdOf ByteArray.empty t159 0).toList != a0.toList)), (by first | rfl | (simp; done) | (simp [*]; done)), H', ⟨by have := HJ2.out; have := HJ9.out; first | omega | exact Nat.le_refl _⟩, ⟨by (with_reducible repeat (first | apply Kd.R_alloc | apply Kd.R_drewN | apply Kd.R_drew)); exact Kd.R_mono HO161.out (fun _ hk => hk.2)⟩, ⟨by (with_reducible repeat (first | apply Kd.R_alloc | apply Kd.R_drewN | apply Kd.R_drew)); exact Kd.R_mono HO164.out (fun _ hk => hk.2)⟩, ⟨by repeat (first | (with_reducible first | exact HB.out | apply below_alloc | apply pw_below_drewN | apply below_drew1) | exact HB.out)⟩⟩
                        · rw [if_neg c27] at H
                          exact absurd H (by simp)
                      · rw [if_neg c26] at H
                        have c26b0 : ((t159.length : Int) == (wrap64 ((t162.length : Int) + 1))) = false := beq_eq_false_iff_ne.mpr c26
                        have c26b1 : ((t159.length : Int) != (wrap64 ((t162.length : Int) + 1))) = true := bne_iff_ne.mpr c26
                        have H' := Aside0.mk H
                        clear H
                        obtain ⟨Ao30, co30, eo30⟩ := Kd.R_slice HO161.out
                        subst eo30
                        obtain ⟨Ao31, co31, eo31⟩ := Kd.R_slice HO164.out
                        subst eo31
                        go_wp2
                        repeat (go_quiet (fail); try go_wp2)
                        go_meet
                        case rel => exact ⟨_, (true), (by first | rfl | (simp; done) | (simp [*]; done)), H', ⟨by have := HJ2.out; have := HJ9.out; first | omega | exact Nat.le_refl _⟩, ⟨by (with_reducible repeat (first | apply Kd.R_alloc | apply Kd.R_drewN | apply Kd.R_drew)); exact Kd.R_mono HO161.out (fun _ hk => hk.2)⟩, ⟨by (with_reducible repeat (first | apply Kd.R_alloc | apply Kd.R_drewN | apply Kd.R_drew)); exact Kd.R_mono HO164.out (fun _ hk => hk.2)⟩, ⟨by repeat (first | (with_reducible first | exact HB.out | apply below_alloc | apply pw_below_drewN | apply below_drew1) | exact HB.out)⟩⟩
                    · rw [if_neg c25] at H
                      have c25b0 : (t157.toList == a1.toList) = false := beq_eq_false_iff_ne.mpr c25
                      have c25b1 : (t157.toList != a1.toList) = true := bne_iff_ne.mpr c25
                      have H' := Aside0.mk H
                      clear H
                      go_wp2
                      repeat (go_quiet (fail); try go_wp2)
                      go_meet
                      case rel => exact ⟨_, (true), (by first | rfl | (simp; done) | (simp [*]; done)), H', ⟨by have := HJ2.out; have := HJ9.out; first | omega | exact Nat.le_refl _⟩, ⟨by (with_reducible repeat (first | apply Kd.R_alloc | apply Kd.R_drewN | apply Kd.R_drew)); exact Kd.R_mono HO161.out (fun _ hk => hk.2)⟩, ⟨by (with_reducible repeat (first | apply Kd.R_alloc | apply Kd.R_drewN | apply Kd.R_drew)); exact Kd.R_mono HO164.out (fun _ hk => hk.2)⟩, ⟨by repeat (first | (with_reducible first | exact HB.out | apply below_alloc | apply pw_below_drewN | apply below_drew1) | exact HB.out)⟩⟩
                  · rw [if_neg c24] at H
                    have c24b0 : (t156.toList == a0.toList) = false := beq_eq_false_iff_ne.mpr c24
                    have c24b1 : (t156.toList != a0.toList) = true := bne_iff_ne.mpr c24
                    (first | rw [c24b0] | (simp only [i64_w, i32_w]; rw [c24b0]) | skip)
                    have H' := Aside0.mk H
                    clear H
                    go_wp2
                    repeat (go_quiet (fail); try go_wp2)
                    go_meet
                    case rel => exact ⟨_, (true), (by first | rfl | (simp; done) | (simp [*]; done)), H', ⟨by have := HJ2.out; have := HJ9.out; first | omega | exact Nat.le_refl _⟩, ⟨by (with_reducible repeat (first | apply Kd.R_alloc | apply Kd.R_drewN | apply Kd.R_drew)); exact Kd.R_mono HO161.out (fun _ hk => hk.2)⟩, ⟨by (with_reducible repeat (first | apply Kd.R_alloc | apply Kd.R_drewN | apply Kd.R_drew)); exact Kd.R_mono HO164.out (fun _ hk => hk.2)⟩, ⟨by repeat (first | (with_reducible first | exact HB.out | apply below_alloc | apply pw_below_drewN | apply below_drew1) | exact HB.out)⟩⟩
                · replace c23 := Bool.eq_false_iff.mpr c23
                  subst c23
                  have H1 : (headgatelaw16_SpaceParts.j2 kj9 t159 t162 true) = some r := by rw [if_neg (show ¬ (false = true) by decide)] at H; exact H
                  clear H
                  have H := H1
                  clear H1
                  have H' := Aside0.mk H
                  clear H
                  go_wp2
                  repeat (go_quiet (fail); try go_wp2)
                  go_meet
                  case rel => exact ⟨_, (true), (by first | rfl | (simp; done) | (simp [*]; done)), H', ⟨by have := HJ2.out; have := HJ9.out; first | omega | exact Nat.le_refl _⟩, ⟨by (with_reducible repeat (first | apply Kd.R_alloc | apply Kd.R_drewN | apply Kd.R_drew)); exact Kd.R_mono HO161.out (fun _ hk => hk.2)⟩, ⟨by (with_reducible repeat (first | apply Kd.R_alloc | apply Kd.R_drewN | apply Kd.R_drew)); exact Kd.R_mono HO164.out (fun _ hk => hk.2)⟩, ⟨by repeat (first | (with_reducible first | exact HB.out | apply below_alloc | apply pw_below_drewN | apply below_drew1) | exact HB.out)⟩⟩
              case rest =>
                clear HC20
                try clear c1
                try clear p1
                try clear q1
                try clear hx1
                try clear qi1
                try clear c2
                try clear p2
                try clear c4
                try clear c4b0
                try clear c4b1
                try clear c5
                try clear p6
                try clear c11
                try clear c12
                try clear c14
                try clear p16
                try clear q16
                try clear hx16
                try clear qi16
                try clear c23
                try clear c24
                try clear c24b0
                try clear c24b1
                try clear c25
                try clear c25b0
                try clear c25b1
                try clear c26
                try clear c26b0
                try clear c26b1
                try clear c27
                try clear c27b0
                try clear c27b1
                try clear hx165_0
                try clear p165
                try clear p2
                try clear q165
                obtain ⟨kq, x90_19, rfl, HA, HJ19, HO_13, HO_14, HB⟩ := hcut
                cases kq with
                | zero => exact absurd HA.out (by simp [headgatelaw16_SpaceParts.j2])
                | succ kj19 =>
                  have H := HA.out
                  clear HA
                  simp only [headgatelaw16_SpaceParts.j2] at H
                  by_cases c32 : x90_19 = true
                  · subst c32
                    have H1 : (some false) = some r := by rw [if_pos rfl] at H; exact H
                    clear H
                    have H := H1
                    clear H1
                    obtain rfl := Option.some.inj H
                    go_wp2
                    repeat (go_quiet (fail); try go_wp2)
                    go_ret
                    exact ⟨by first | rfl | (simp [errW_none, errW_some] <;> rfl) | (simp [*, errW_none, errW_some] <;> rfl), by repeat (first | (with_reducible first | exact HB.out | apply below_alloc | apply pw_below_drewN | apply below_drew1) | exact HB.out)⟩
                  · replace c32 := Bool.eq_false_iff.mpr c32
                    subst c32
                    have H1 : (headgatelaw16_SpaceParts.l0 kj19 t159 t162 0) = some r := by rw [if_neg (show ¬ (false = true) by decide)] at H; exact H
                    clear H
                    have H := H1
                    clear H1
                    have H' := Aside0.mk H
                    clear H
                    go_wp2
                    repeat (go_quiet (fail); try go_wp2)
                    go_loopg [15] kj19 (fun kq v15 w' => ∃ (x15_4 : Int), v15 = .int .i64 x15_4 ∧ Aside0 (headgatelaw16_SpaceParts.l0 kq t159 t162 x15_4 = some r) ∧ Aside0 (kq ≤ kj19) ∧ Aside0 (Kd.R Kd.string 9 w' w.heap.size (fun k_ => some k_ ≠ (v163 : Value).ownBlock) v160 t159) ∧ Aside0 (Kd.R Kd.string 9 w' w.heap.size (fun k_ => some k_ ≠ (v160 : Value).ownBlock) v163 t162) ∧ Aside0 (Below w.heap.size w w'))
                    case atStart => exact ⟨(0), (by first | rfl | (simp; done) | (simp [*]; done)), H', ⟨Nat.le_refl _⟩, ⟨by (with_reducible repeat (first | apply Kd.R_alloc | apply Kd.R_drewN | apply Kd.R_drew)); exact HO_13.out⟩, ⟨by (with_reducible repeat (first | apply Kd.R_alloc | apply Kd.R_drewN | apply Kd.R_drew)); exact HO_14.out⟩, ⟨by repeat (first | (with_reducible first | exact HB.out | apply below_alloc | apply pw_below_drewN | apply below_drew1) | exact HB.out)⟩⟩
                    case round =>
                      clear H'
                      try clear c1
                      try clear p1
                      try clear q1
                      try clear hx1
                      try clear qi1
                      try clear c2
                      try clear p2
                      try clear c3
                      try clear c4
                      try clear c4b0
                      try clear c4b1
                      try clear c5
                      try clear p6
                      try clear c11
                      try clear c12
                      try clear c14
                      try clear p16
                      try clear q16
                      try clear hx16
                      try clear qi16
                      try clear c23
                      try clear c24
                      try clear c24b0
                      try clear c24b1
                      try clear c25
                      try clear c25b0
                      try clear c25b1
                      try clear c26
                      try clear c26b0
                      try clear c26b1
                      try clear c27
                      try clear c27b0
                      try clear c27b1
                      try clear c32
                      try clear hx165_0
                      try clear p1
                      try clear p16
                      try clear p165
                      try clear p2
                      try clear p6
                      try clear q1
                      try clear q16
                      try clear q165
                      obtain ⟨x15_4, rfl, HA, HK4, HO_13, HO_14, HB⟩ := hrel
                      cases gk with
                      | zero => exact absurd HA.out (by simp [headgatelaw16_SpaceParts.l0])
                      | succ k4 =>
                        have H := HA.out
                        clear HA
                        simp only [headgatelaw16_SpaceParts.l0] at H
                        by_cases c33 : x15_4 < (t162.length : Int)
                        · rw [if_pos c33] at H
                          have c33b0 : decide (x15_4 < (t162.length : Int)) = true := decide_eq_true c33
                          clear c33
                          obtain ⟨ji34, hji34⟩ : ∃ j_ : Int, (wrap64 (x15_4 + 1)) = j_ := ⟨_, rfl⟩
                          replace H : (if 0 ≤ (ji34) then (if (ji34) < (t159.length : Int) then (if 0 ≤ x15_4 then (if (rdOf ByteArray.empty t159 (ji34)).toList = (rdOf ByteArray.empty t162 x15_4).toList then (headgatelaw16_SpaceParts.l0 k4 t159 t162 ji34) else (some false)) else (none)) else (none)) else (none)) = some r := by first | (rw [hji34] at H; exact H) | (simp only [hji34] at H ⊢; exact H)
                          have hji34w : (IntKind.i64.wrap (x15_4 + 1)) = ji34 := (i64_w _).trans hji34
                          by_cases c35 : 0 ≤ (ji34)
                          · rw [if_pos c35] at H
                            have c35b0 : decide (0 ≤ (ji34)) = true := decide_eq_true c35
                            clear c35
                            by_cases c36 : (ji34) < (t159.length : Int)
                            · rw [if_pos c36] at H
                              have c36b0 : decide ((ji34) < (t159.length : Int)) = true := decide_eq_true c36
                              clear c36
                              by_cases c37 : 0 ≤ x15_4
                              · rw [if_pos c37] at H
                                have c37b0 : decide (0 ≤ x15_4) = true := decide_eq_true c37
                                clear c37
                                by_cases c38 : (rdOf ByteArray.empty t159 (ji34)).toList = (rdOf ByteArray.empty t162 x15_4).toList
                                · rw [if_pos c38] at H
                                  have c38b0 : ((rdOf ByteArray.empty t159 (ji34)).toList == (rdOf ByteArray.empty t162 x15_4).toList) = true := beq_iff_eq.mpr c38
                                  have c38b1 : ((rdOf ByteArray.empty t159 (ji34)).toList != (rdOf ByteArray.empty t162 x15_4).toList) = false := bne_eq_false_iff_eq.mpr c38
                                  clear c38
                                  have H' := Aside0.mk H
                                  clear H
                                  obtain ⟨Ao39, co39, eo39⟩ := Kd.R_slice HO_14.out
                                  subst eo39
                                  obtain ⟨Ao40, co40, eo40⟩ := Kd.R_slice HO_13.out
                                  subst eo40
                                  have p166 : 0 ≤ ((ji34) : Int) := of_decide_eq_true (by first | (with_reducible assumption) | assumption)
                                  have q166 : (ji34) < (t159.length : Int) := of_decide_eq_true (by first | (with_reducible assumption) | assumption)
                                  obtain ⟨ad166, e166, hx166_0⟩ := Kd.at_string (Kd.R_reads' HO_13.out).2.2 (ji34) p166 q166
                                  cases e166
                                  replace p166 := eq_true p166
                                  replace q166 := eq_true q166
                                  have p167 : 0 ≤ (x15_4 : Int) := of_decide_eq_true (by first | (with_reducible assumption) | assumption)
                                  have q167 : x15_4 < (t162.length : Int) := of_decide_eq_true (by first | (with_reducible assumption) | assumption)
                                  obtain ⟨ad167, e167, hx167_0⟩ := Kd.at_string (Kd.R_reads' HO_14.out).2.2 x15_4 p167 q167
                                  cases e167
                                  replace p167 := eq_true p167
                                  replace q167 := eq_true q167
                                  go_wp2
                                  repeat (go_quiet (fail); try go_wp2)
                                  go_roundg k4
                                  case measure => have := HJ2.out; have := HJ9.out; have := HJ19.out; have := HK4.out; omega
                                  case rel => exact ⟨(ji34), (by first | rfl | (simp; done) | (simp only [← hji34] <;> (first | rfl | simp)) | (simp [*]; done)), H', ⟨by have := HJ2.out; have := HJ9.out; have := HJ19.out; have := HK4.out; omega⟩, ⟨by (with_reducible repeat (first | apply Kd.R_alloc | apply Kd.R_drewN | apply Kd.R_drew)); exact HO_13.out⟩, ⟨by (with_reducible repeat (first | apply Kd.R_alloc | apply Kd.R_drewN | apply Kd.R_drew)); exact HO_14.out⟩, ⟨by repeat (first | (with_reducible first | exact HB.out | apply below_alloc | apply pw_below_drewN | apply below_drew1) | exact HB.out)⟩⟩
                                · rw [if_neg c38] at H
                                  have c38b0 : ((rdOf ByteArray.empty t159 (ji34)).toList == (rdOf ByteArray.empty t162 x15_4).toList) = false := beq_eq_false_iff_ne.mpr c38
                                  have c38b1 : ((rdOf ByteArray.empty t159 (ji34)).toList != (rdOf ByteArray.empty t162 x15_4).toList) = true := bne_iff_ne.mpr c38
                                  obtain rfl := Option.some.inj H
                                  obtain ⟨Ao41, co41, eo41⟩ := Kd.R_slice HO_14.out
                                  subst eo41
                                  obtain ⟨Ao42, co42, eo42⟩ := Kd.R_slice HO_13.out
                                  subst eo42
                                  have p166 : 0 ≤ ((ji34) : Int) := of_decide_eq_true (by first | (with_reducible assumption) | assumption)
                                  have q166 : (ji34) < (t159.length : Int) := of_decide_eq_true (by first | (with_reducible assumption) | assumption)
                                  obtain ⟨ad166, e166, hx166_0⟩ := Kd.at_string (Kd.R_reads' HO_13.out).2.2 (ji34) p166 q166
                                  cases e166
                                  replace p166 := eq_true p166
                                  replace q166 := eq_true q166
                                  have p167 : 0 ≤ (x15_4 : Int) := of_decide_eq_true (by first | (with_reducible assumption) | assumption)
                                  have q167 : x15_4 < (t162.length : Int) := of_decide_eq_true (by first | (with_reducible assumption) | assumption)
                                  obtain ⟨ad167, e167, hx167_0⟩ := Kd.at_string (Kd.R_reads' HO_14.out).2.2 x15_4 p167 q167
                                  cases e167
                                  replace p167 := eq_true p167
                                  replace q167 := eq_true q167
                                  go_wp2
                                  repeat (go_quiet (fail); try go_wp2)
                                  go_ret
                                  exact ⟨by first | rfl | (simp [errW_none, errW_some] <;> rfl) | (simp only [← hji34]; first | rfl | (simp [errW_none, errW_some] <;> rfl)) | (simp [*, errW_none, errW_some] <;> rfl), by repeat (first | (with_reducible first | exact HB.out | apply below_alloc | apply pw_below_drewN | apply below_drew1) | exact HB.out)⟩
                              · rw [if_neg c37] at H
                                exact absurd H (by simp)
                            · rw [if_neg c36] at H
                              exact absurd H (by simp)
                          · rw [if_neg c35] at H
                            exact absurd H (by simp)
                        · rw [if_neg c33] at H
                          have c33b0 : decide (x15_4 < (t162.length : Int)) = false := decide_eq_false c33
                          clear c33
                          replace H := Option.bind_eq_some_iff.mp H
                          obtain ⟨t168, A430, H⟩ := H
                          replace H : (some t168) = some r := H
                          have A43 := Aside0.mk A430
                          clear A430
                          obtain rfl := Option.some.inj H
                          obtain ⟨Ao44, co44, eo44⟩ := Kd.R_slice HO_14.out
                          subst eo44
                          go_wp2_with (first | (go_at_call 5; (with_reducible refine (headgatelaw16_alive.calls  t168 _ A43.out).mono ?_); rintro e w45 ⟨rfl, hb⟩; have n0_ := Aside0.mk (Kd.R_below (by (with_reducible repeat (first | apply Kd.R_alloc | apply Kd.R_drewN | apply Kd.R_drew)); exact HO_13.out) hb); have n1_ := Aside0.mk (Kd.R_below (by (with_reducible repeat (first | apply Kd.R_alloc | apply Kd.R_drewN | apply Kd.R_drew)); exact HO_14.out) hb); have n2_ := Aside0.mk (below_step (by repeat (first | (with_reducible first | exact HB.out | apply below_alloc | apply pw_below_drewN | apply below_drew1) | exact HB.out)) hb); clear HO_13; clear HO_14; clear HB; have HO_13 := n0_; have HO_14 := n1_; have HB := n2_; clear n0_ n1_ n2_; (try clear hb); (try clear hb2); (try clear hk); (try clear hi)))
                          repeat (go_quiet (first | (go_at_call 5; (with_reducible refine (headgatelaw16_alive.calls  t168 _ A43.out).mono ?_); rintro e w45 ⟨rfl, hb⟩; have n0_ := Aside0.mk (Kd.R_below (by (with_reducible repeat (first | apply Kd.R_alloc | apply Kd.R_drewN | apply Kd.R_drew)); exact HO_13.out) hb); have n1_ := Aside0.mk (Kd.R_below (by (with_reducible repeat (first | apply Kd.R_alloc | apply Kd.R_drewN | apply Kd.R_drew)); exact HO_14.out) hb); have n2_ := Aside0.mk (below_step (by repeat (first | (with_reducible first | exact HB.out | apply below_alloc | apply pw_below_drewN | apply below_drew1) | exact HB.out)) hb); clear HO_13; clear HO_14; clear HB; have HO_13 := n0_; have HO_14 := n1_; have HB := n2_; clear n0_ n1_ n2_; (try clear hb); (try clear hb2); (try clear hk); (try clear hi))); try go_wp2_with (first | (go_at_call 5; (with_reducible refine (headgatelaw16_alive.calls  t168 _ A43.out).mono ?_); rintro e w45 ⟨rfl, hb⟩; have n0_ := Aside0.mk (Kd.R_below (by (with_reducible repeat (first | apply Kd.R_alloc | apply Kd.R_drewN | apply Kd.R_drew)); exact HO_13.out) hb); have n1_ := Aside0.mk (Kd.R_below (by (with_reducible repeat (first | apply Kd.R_alloc | apply Kd.R_drewN | apply Kd.R_drew)); exact HO_14.out) hb); have n2_ := Aside0.mk (below_step (by repeat (first | (with_reducible first | exact HB.out | apply below_alloc | apply pw_below_drewN | apply below_drew1) | exact HB.out)) hb); clear HO_13; clear HO_14; clear HB; have HO_13 := n0_; have HO_14 := n1_; have HB := n2_; clear n0_ n1_ n2_; (try clear hb); (try clear hb2); (try clear hk); (try clear hi))))
                          go_ret
                          exact ⟨by first | rfl | (simp [errW_none, errW_some] <;> rfl) | (simp [*, errW_none, errW_some] <;> rfl), by repeat (first | (with_reducible first | exact HB.out | apply below_alloc | apply pw_below_drewN | apply below_drew1) | exact HB.out)⟩

/-- THE ONE PURE STATEMENT of headgatelaw16_SpaceParts: yours. -/
def headgatelaw16_SpaceParts.Pure : Prop := ∀ (a0 : ByteArray) (a1 : ByteArray), a0.size ≤ 140737488351232 → a1.size ≤ 140737488351232 → ∃ k, headgatelaw16_SpaceParts.f k a0 a1 = some true
theorem headgatelaw16_SpaceParts.walk (P : headgatelaw16_SpaceParts.Pure) (a0 : ByteArray) (a1 : ByteArray) (w : World) (w0 : a0.size ≤ 140737488351232) (w1 : a1.size ≤ 140737488351232) :
    Calls Tryd.prog 4 #[.string a0, .string a1] w fun e w' => e = .returned (.bool true) ∧ Below w.heap.size w w' := by
  obtain ⟨k, h⟩ := P a0 a1 w0 w1
  refine (headgatelaw16_SpaceParts.calls k a0 a1 true w h).mono ?_
  rintro e w' ⟨rfl, hd⟩
  exact ⟨rfl, hd⟩

end Go.Proofs.YthedaphclgiknaaDoor.Print
