-- written by hgprint.py (this work's own call of the kit's printer, with texts of its own for some functions)
import Derived.Test.YtmchfjieafffbaaPrint0
import Derived.Test.YtmchfjieafffbaaPrintF19
import Derived.Test.YtmchfjieafffbaaPrintF18
import Derived.Test.YtmchfjieafffbaaPrintF22
namespace Go.Proofs.Ytmchfjieafffbaa.Print
open Go.RowKit Go.Proofs.YtmchfjieafffbaaW.PrintWords Go.Proofs.YtmchfjieafffbaaW.PrintLast Go.Proofs.YtmchfjieafffbaaW.PrintMore
attribute [local go_sem] Go.Proofs.Ytmchfjieafffbaa.Goto.Jumps_ret Go.Proofs.Ytmchfjieafffbaa.Goto.Jumps_normal Go.Proofs.Ytmchfjieafffbaa.Goto.Jumps_exit Go.Proofs.Ytmchfjieafffbaa.Goto.Jumps_panic Go.Proofs.Ytmchfjieafffbaa.Goto.Jumps_outgrown max2_int min2_int max_two min_two max_three min_three max_four min_four   -- for this text's walks alone
open Go.Proofs.YtmchfjieafffbaaW.PrintWords Go.Proofs.Ytmchfjieafffbaa
set_option linter.unusedVariables false
set_option linter.unusedSimpArgs false

/-! ### headgatelaw04_RecordByte: function 9 -/
mutual
def headgatelaw04_RecordByte.j0 : Nat → List Int → Int → Int → List Int → Bool → Option (Bool)
  | 0, _, _, _, _, _ => none
  | k + 1, x0, x1, x2, x7, x22 => if x22 = true then ((headgatelaw04_alive.f).bind fun t278 => (some t278)) else (if (x7.length : Int) = 0 then (some false) else (if x1 < 0 then (headgatelaw04_RecordByte.j1 k x0 (wrap64 (-(wrap64 (x1 + 1)))) x2 x7) else (headgatelaw04_RecordByte.j1 k x0 x1 x2 x7)))
def headgatelaw04_RecordByte.j1 : Nat → List Int → Int → Int → List Int → Option (Bool)
  | 0, _, _, _, _ => none
  | k + 1, x0, x1, x2, x7 => if (x7.length : Int) = 0 then (none) else (if 0 ≤ (Int.tmod x1 (x7.length : Int)) then (if (Int.tmod x1 (x7.length : Int)) < (x7.length : Int) then ((record_Take.f k (x7.set ((Int.tmod x1 (x7.length : Int)) : Int).toNat (Go.bits .xor .u8 (rd x7 (Int.tmod x1 (x7.length : Int))) x2))).bind fun bt281 => (if bt281.2.2 = 0 then ((headgatelaw04_alive.f).bind fun t286 => (if t286 = true then (if (Int.tmod x1 (x7.length : Int)) = 1 then (if bt281.2.1 < (x7.length : Int) then (some (decide ((bt281.1.length : Int) < (x0.length : Int)))) else (some false)) else (if (Int.tmod x1 (x7.length : Int)) = 2 then (if bt281.2.1 < (x7.length : Int) then (some (decide ((bt281.1.length : Int) < (x0.length : Int)))) else (some false)) else (some false))) else (some false))) else ((headgatelaw04_alive.f).bind fun t287 => (if t287 = true then (if (bt281.1.length : Int) = 0 then (if bt281.2.1 = 0 then (if bt281.2.2 = 41 then (some true) else (if (Int.tmod x1 (x7.length : Int)) = 1 then (some true) else (some ((Int.tmod x1 (x7.length : Int)) == 2)))) else (some false)) else (some false)) else (some false))))) else (none)) else (none))
end
def headgatelaw04_RecordByte.f (k : Nat) (l0 : List Int) (a1 : Int) (a2 : Int) : Option (Bool) := (record_Wrap.f k l0).bind fun bt274 => (if bt274.2 = 0 then (headgatelaw04_RecordByte.j0 k l0 a1 a2 bt274.1 (a2 == 0)) else (headgatelaw04_RecordByte.j0 k l0 a1 a2 bt274.1 true))
theorem headgatelaw04_RecordByte.mono_l : ∀ k, (∀ y0 y1 y2 y3 y4, LeO (headgatelaw04_RecordByte.j0 k y0 y1 y2 y3 y4) (headgatelaw04_RecordByte.j0 (k + 1) y0 y1 y2 y3 y4)) ∧ (∀ y0 y1 y2 y3, LeO (headgatelaw04_RecordByte.j1 k y0 y1 y2 y3) (headgatelaw04_RecordByte.j1 (k + 1) y0 y1 y2 y3))
  | 0 => ⟨fun _ _ _ _ _ r h => by simp [headgatelaw04_RecordByte.j0] at h, fun _ _ _ _ r h => by simp [headgatelaw04_RecordByte.j1] at h⟩
  | k + 1 => by
    obtain ⟨ih0, ih1⟩ := headgatelaw04_RecordByte.mono_l k
    refine ⟨?_, ?_⟩
    · intro y0 y1 y2 y3 y4
      unfold headgatelaw04_RecordByte.j0
      repeat' first
      | (with_reducible exact ih0 _ _ _ _ _)
      | (with_reducible exact ih1 _ _ _ _)
      | (with_reducible exact record_Take.mono _ _)
      | (with_reducible exact record_Wrap.mono _ _)
      | (with_reducible exact LeO.refl _)
      | (with_reducible exact LeO.none _)
      | (with_reducible refine LeO.ite ?_ ?_)
      | (with_reducible refine LeO.bind ?_ (fun _ => ?_))
      | exact ih0 _ _ _ _ _
      | exact ih1 _ _ _ _
      | exact record_Take.mono _ _
      | exact record_Wrap.mono _ _
      | exact LeO.none _
      | refine LeO.ite ?_ ?_
      | refine LeO.bind ?_ (fun _ => ?_)
    · intro y0 y1 y2 y3
      unfold headgatelaw04_RecordByte.j1
      repeat' first
      | (with_reducible exact ih0 _ _ _ _ _)
      | (with_reducible exact ih1 _ _ _ _)
      | (with_reducible exact record_Take.mono _ _)
      | (with_reducible exact record_Wrap.mono _ _)
      | (with_reducible exact LeO.refl _)
      | (with_reducible exact LeO.none _)
      | (with_reducible refine LeO.ite ?_ ?_)
      | (with_reducible refine LeO.bind ?_ (fun _ => ?_))
      | exact ih0 _ _ _ _ _
      | exact ih1 _ _ _ _
      | exact record_Take.mono _ _
      | exact record_Wrap.mono _ _
      | exact LeO.none _
      | refine LeO.ite ?_ ?_
      | refine LeO.bind ?_ (fun _ => ?_)
theorem headgatelaw04_RecordByte.mono : ∀ a0 a1 a2 k, LeO (headgatelaw04_RecordByte.f k a0 a1 a2) (headgatelaw04_RecordByte.f (k + 1) a0 a1 a2) := by
  intro a0 a1 a2 k
  obtain ⟨ih0, ih1⟩ := headgatelaw04_RecordByte.mono_l k
  unfold headgatelaw04_RecordByte.f
  repeat' first
      | (with_reducible exact ih0 _ _ _ _ _)
      | (with_reducible exact ih1 _ _ _ _)
      | (with_reducible exact record_Take.mono _ _)
      | (with_reducible exact record_Wrap.mono _ _)
      | (with_reducible exact LeO.refl _)
      | (with_reducible exact LeO.none _)
      | (with_reducible refine LeO.ite ?_ ?_)
      | (with_reducible refine LeO.bind ?_ (fun _ => ?_))
      | exact ih0 _ _ _ _ _
      | exact ih1 _ _ _ _
      | exact record_Take.mono _ _
      | exact record_Wrap.mono _ _
      | exact LeO.none _
      | refine LeO.ite ?_ ?_
      | refine LeO.bind ?_ (fun _ => ?_)
set_option maxHeartbeats 8000000 in
set_option maxRecDepth 100000 in
theorem headgatelaw04_RecordByte.calls (k : Nat) (A0 : Option Addr) (c0 : Nat) (l0 : List Int) (a1 : Int) (a2 : Int) (r : Bool) (w : World) (hr0 : Kd.C (Kd.int .u8) w A0 l0.length l0) (hc0 : l0.length ≤ c0) (h : headgatelaw04_RecordByte.f k l0 a1 a2 = some r) :
    Calls Try.prog 9 #[.slice A0 l0.length c0, .int .i64 a1, .int .u8 a2] w fun e w' => e = .returned (.bool r) ∧ Below w.heap.size w w' := by
  have HR0 := Aside0.mk hr0
  have HC0 := Aside0.mk hc0
  clear hr0 hc0
  have HB := Aside0.mk (Below.refl w.heap.size w)
  have H : ((record_Wrap.f k l0).bind fun bt274 => (if bt274.2 = 0 then (headgatelaw04_RecordByte.j0 k l0 a1 a2 bt274.1 (a2 == 0)) else (headgatelaw04_RecordByte.j0 k l0 a1 a2 bt274.1 true))) = some r := h
  clear h
  replace H := Option.bind_eq_some_iff.mp H
  obtain ⟨⟨t274, t275⟩, A40, H⟩ := H
  replace H : (if t275 = 0 then (headgatelaw04_RecordByte.j0 k l0 a1 a2 t274 (a2 == 0)) else (headgatelaw04_RecordByte.j0 k l0 a1 a2 t274 true)) = some r := H
  have A4 := Aside0.mk A40
  clear A40
  have HC5 := Aside0.mk H
  clear H
  go_enter Try.func9, Try.ntmps9
  go_upto_region 2 with (first | ((with_reducible refine gate_callee (f := 19) rfl ?_); refine goesL_ (some 14) rfl rfl Try.func19 (by kernel_rfl) rfl #[.slice A0 l0.length c0] rfl (by (try simp only [List.map_toArray, List.map_cons, List.map_nil]); first | done | rfl | (simp only [List.length_drop, List.length_take]; rfl)) ?_; (with_reducible refine (record_Wrap.calls k _ _ l0 t274 t275 _ ?side1 ?side2 A4.out).mono ?_); (case side1 => repeat (first | exact HR0.out | (with_reducible refine Kd.C_alloc ?_ _) | (with_reducible refine Kd.C_drewN ?_ _) | (with_reducible refine Kd.C_drew ?_))); (case side2 => exact HC0.out); rintro e w6 ⟨v276, rfl, ho0, hb⟩; refine ⟨_, rfl, ?_⟩; have n0_ := Aside0.mk (Kd.R_lower ho0 (below_size (by repeat (first | (with_reducible first | exact HB.out | apply below_alloc | apply pw_below_drewN | apply below_drew1) | exact HB.out)))); have n1_ := Aside0.mk (below_step (by repeat (first | (with_reducible first | exact HB.out | apply below_alloc | apply pw_below_drewN | apply below_drew1) | exact HB.out)) hb); clear HB; have HO277 := n0_; have HB := n1_; clear n0_ n1_; (try clear hb); (try clear hb2); (try clear hk); (try clear hi); (try clear ho0)))
  (try simp only [Act.put, List.setIfInBounds_toArray, List.set_cons_zero, List.set_cons_succ])
  go_cut [22] (fun v22 wc => ∃ (kq : Nat) (x22_4 : Bool), v22 = .bool x22_4 ∧ Aside0 (headgatelaw04_RecordByte.j0 kq l0 a1 a2 t274 x22_4 = some r) ∧ Aside0 (kq ≤ k) ∧ Aside0 (Kd.R (Kd.int .u8) 5 wc w.heap.size (fun _ => True) v276 t274) ∧ Aside0 (Below w.heap.size w wc))
  case first =>
    have H := HC5.out
    clear HC5
    by_cases c7 : t275 = 0
    · rw [if_pos c7] at H
      have c7b0 : (t275 == 0) = true := beq_iff_eq.mpr c7
      have c7b1 : (t275 != 0) = false := bne_eq_false_iff_eq.mpr c7
      clear c7
      (first | rw [c7b0] | (simp only [i64_w, i32_w]; rw [c7b0]) | skip)
      have H' := Aside0.mk H
      clear H
      go_wp2
      go_meet
      case rel => exact ⟨_, ((a2 == 0)), (by first | rfl | (simp; done) | (simp [*]; done)), H', ⟨by first | omega | exact Nat.le_refl _⟩, ⟨by (with_reducible repeat (first | apply Kd.R_alloc | apply Kd.R_drewN | apply Kd.R_drew)); exact HO277.out⟩, ⟨by repeat (first | (with_reducible first | exact HB.out | apply below_alloc | apply pw_below_drewN | apply below_drew1) | exact HB.out)⟩⟩
    · rw [if_neg c7] at H
      have c7b0 : (t275 == 0) = false := beq_eq_false_iff_ne.mpr c7
      have c7b1 : (t275 != 0) = true := bne_iff_ne.mpr c7
      (first | rw [c7b0] | (simp only [i64_w, i32_w]; rw [c7b0]) | skip)
      have H' := Aside0.mk H
      clear H
      go_wp2
      go_meet
      case rel => exact ⟨_, (true), (by first | rfl | (simp; done) | (simp [*]; done)), H', ⟨by first | omega | exact Nat.le_refl _⟩, ⟨by (with_reducible repeat (first | apply Kd.R_alloc | apply Kd.R_drewN | apply Kd.R_drew)); exact HO277.out⟩, ⟨by repeat (first | (with_reducible first | exact HB.out | apply below_alloc | apply pw_below_drewN | apply below_drew1) | exact HB.out)⟩⟩
  case rest =>
    clear HC5
    try clear c1
    try clear p2
    try clear c7
    try clear c7b0
    try clear c7b1
    obtain ⟨kq, x22_4, rfl, HA, HJ4, HO_7, HB⟩ := hcut
    cases kq with
    | zero => exact absurd HA.out (by simp [headgatelaw04_RecordByte.j0])
    | succ kj4 =>
      have H := HA.out
      clear HA
      simp only [headgatelaw04_RecordByte.j0] at H
      by_cases c8 : x22_4 = true
      · subst c8
        have H1 : ((headgatelaw04_alive.f).bind fun t278 => (some t278)) = some r := by rw [if_pos rfl] at H; exact H
        clear H
        have H := H1
        clear H1
        replace H := Option.bind_eq_some_iff.mp H
        obtain ⟨t278, A90, H⟩ := H
        replace H : (some t278) = some r := H
        have A9 := Aside0.mk A90
        clear A90
        obtain rfl := Option.some.inj H
        go_wp2_with (first | ((with_reducible refine gate_callee (f := 18) rfl ?_); refine goesL_ (some 23) rfl rfl Try.func18 (by kernel_rfl) rfl #[] rfl (by (try simp only [List.map_toArray, List.map_cons, List.map_nil]); first | done | rfl | (simp only [List.length_drop, List.length_take]; rfl)) ?_; (with_reducible refine (headgatelaw04_alive.calls  t278 _ A9.out).mono ?_); rintro e w10 ⟨rfl, hb⟩; refine ⟨_, rfl, ?_⟩; have n0_ := Aside0.mk (Kd.R_below (by (with_reducible repeat (first | apply Kd.R_alloc | apply Kd.R_drewN | apply Kd.R_drew)); exact HO_7.out) hb); have n1_ := Aside0.mk (below_step (by repeat (first | (with_reducible first | exact HB.out | apply below_alloc | apply pw_below_drewN | apply below_drew1) | exact HB.out)) hb); clear HO_7; clear HB; have HO_7 := n0_; have HB := n1_; clear n0_ n1_; (try clear hb); (try clear hb2); (try clear hk); (try clear hi)))
        go_ret
        exact ⟨by first | rfl | (simp [errW_none, errW_some] <;> rfl) | (simp [*, errW_none, errW_some] <;> rfl), by repeat (first | (with_reducible first | exact HB.out | apply below_alloc | apply pw_below_drewN | apply below_drew1) | exact HB.out)⟩
      · replace c8 := Bool.eq_false_iff.mpr c8
        subst c8
        have H1 : (if (t274.length : Int) = 0 then (some false) else (if a1 < 0 then (headgatelaw04_RecordByte.j1 kj4 l0 (wrap64 (-(wrap64 (a1 + 1)))) a2 t274) else (headgatelaw04_RecordByte.j1 kj4 l0 a1 a2 t274))) = some r := by rw [if_neg (show ¬ (false = true) by decide)] at H; exact H
        clear H
        have H := H1
        clear H1
        by_cases c11 : (t274.length : Int) = 0
        · rw [if_pos c11] at H
          have c11b0 : ((t274.length : Int) == 0) = true := beq_iff_eq.mpr c11
          have c11b1 : ((t274.length : Int) != 0) = false := bne_eq_false_iff_eq.mpr c11
          clear c11
          obtain rfl := Option.some.inj H
          obtain ⟨Ao12, co12, eo12⟩ := Kd.R_slice HO_7.out
          subst eo12
          go_wp2
          go_ret
          exact ⟨by first | rfl | (simp [errW_none, errW_some] <;> rfl) | (simp [*, errW_none, errW_some] <;> rfl), by repeat (first | (with_reducible first | exact HB.out | apply below_alloc | apply pw_below_drewN | apply below_drew1) | exact HB.out)⟩
        · rw [if_neg c11] at H
          have c11b0 : ((t274.length : Int) == 0) = false := beq_eq_false_iff_ne.mpr c11
          have c11b1 : ((t274.length : Int) != 0) = true := bne_iff_ne.mpr c11
          have c11b2 : ¬ (t274 = []) := fun h_ => c11 (by rw [h_]; rfl)
          have HC13 := Aside0.mk H
          clear H
          obtain ⟨Ao14, co14, eo14⟩ := Kd.R_slice HO_7.out
          subst eo14
          go_upto_if 28 with (fail)
          go_cut [1] (fun v1 wc => ∃ (kq : Nat) (x1_12 : Int), v1 = .int .i64 x1_12 ∧ Aside0 (headgatelaw04_RecordByte.j1 kq l0 x1_12 a2 t274 = some r) ∧ Aside0 (kq ≤ kj4) ∧ Aside0 (Kd.R (Kd.int .u8) 5 wc w.heap.size (fun _ => True) (.slice Ao14 t274.length co14) t274) ∧ Aside0 (Below w.heap.size w wc))
          case first =>
            have H := HC13.out
            clear HC13
            by_cases c15 : a1 < 0
            · rw [if_pos c15] at H
              have c15b0 : decide (a1 < 0) = true := decide_eq_true c15
              clear c15
              (first | rw [c15b0] | (simp only [i64_w, i32_w]; rw [c15b0]) | skip)
              have H' := Aside0.mk H
              clear H
              go_wp2
              go_meet
              case rel => exact ⟨_, (wrap64 (-(wrap64 (a1 + 1)))), (by first | rfl | (simp; done) | (simp [*]; done)), H', ⟨by have := HJ4.out; first | omega | exact Nat.le_refl _⟩, ⟨by (with_reducible repeat (first | apply Kd.R_alloc | apply Kd.R_drewN | apply Kd.R_drew)); exact HO_7.out⟩, ⟨by repeat (first | (with_reducible first | exact HB.out | apply below_alloc | apply pw_below_drewN | apply below_drew1) | exact HB.out)⟩⟩
            · rw [if_neg c15] at H
              have c15b0 : decide (a1 < 0) = false := decide_eq_false c15
              clear c15
              (first | rw [c15b0] | (simp only [i64_w, i32_w]; rw [c15b0]) | skip)
              have H' := Aside0.mk H
              clear H
              go_wp2
              go_meet
              case rel => exact ⟨_, (a1), (by first | rfl | (simp; done) | (simp [*]; done)), H', ⟨by have := HJ4.out; first | omega | exact Nat.le_refl _⟩, ⟨by (with_reducible repeat (first | apply Kd.R_alloc | apply Kd.R_drewN | apply Kd.R_drew)); exact HO_7.out⟩, ⟨by repeat (first | (with_reducible first | exact HB.out | apply below_alloc | apply pw_below_drewN | apply below_drew1) | exact HB.out)⟩⟩
          case rest =>
            clear HC13
            try clear c1
            try clear p2
            try clear p6
            try clear c7
            try clear c7b0
            try clear c7b1
            try clear c8
            try clear c9
            try clear c11
            try clear c11b0
            try clear c11b1
            try clear c11b2
            try clear c15
            try clear c15b0
            try clear p2
            obtain ⟨kq, x1_12, rfl, HA, HJ12, HO_7, HB⟩ := hcut
            cases kq with
            | zero => exact absurd HA.out (by simp [headgatelaw04_RecordByte.j1])
            | succ kj12 =>
              have H := HA.out
              clear HA
              simp only [headgatelaw04_RecordByte.j1] at H
              by_cases c16 : (t274.length : Int) = 0
              · rw [if_pos c16] at H
                exact absurd H (by simp)
              · rw [if_neg c16] at H
                have c16b0 : ((t274.length : Int) == 0) = false := beq_eq_false_iff_ne.mpr c16
                have c16b1 : ((t274.length : Int) != 0) = true := bne_iff_ne.mpr c16
                have c16b2 : ¬ (t274 = []) := fun h_ => c16 (by rw [h_]; rfl)
                obtain ⟨ji17, hji17⟩ : ∃ j_ : Int, (Int.tmod x1_12 (t274.length : Int)) = j_ := ⟨_, rfl⟩
                replace H : (if 0 ≤ (ji17) then (if (ji17) < (t274.length : Int) then ((record_Take.f kj12 (t274.set ((ji17) : Int).toNat (Go.bits .xor .u8 (rd t274 (ji17)) a2))).bind fun bt281 => (if bt281.2.2 = 0 then ((headgatelaw04_alive.f).bind fun t286 => (if t286 = true then (if (ji17) = 1 then (if bt281.2.1 < (t274.length : Int) then (some (decide ((bt281.1.length : Int) < (l0.length : Int)))) else (some false)) else (if (ji17) = 2 then (if bt281.2.1 < (t274.length : Int) then (some (decide ((bt281.1.length : Int) < (l0.length : Int)))) else (some false)) else (some false))) else (some false))) else ((headgatelaw04_alive.f).bind fun t287 => (if t287 = true then (if (bt281.1.length : Int) = 0 then (if bt281.2.1 = 0 then (if bt281.2.2 = 41 then (some true) else (if (ji17) = 1 then (some true) else (some ((ji17) == 2)))) else (some false)) else (some false)) else (some false))))) else (none)) else (none)) = some r := by first | (rw [hji17] at H; exact H) | (simp only [hji17] at H ⊢; exact H)
                by_cases c18 : 0 ≤ (ji17)
                · rw [if_pos c18] at H
                  have c18b0 : decide (0 ≤ (ji17)) = true := decide_eq_true c18
                  clear c18
                  by_cases c19 : (ji17) < (t274.length : Int)
                  · rw [if_pos c19] at H
                    have c19b0 : decide ((ji17) < (t274.length : Int)) = true := decide_eq_true c19
                    clear c19
                    obtain ⟨y280, hy280⟩ : ∃ y_ : List Int, y_ = (t274.set ((ji17) : Int).toNat (Go.bits .xor .u8 (rd t274 (ji17)) a2)) := ⟨_, rfl⟩
                    replace H : ((record_Take.f kj12 y280).bind fun bt281 => (if bt281.2.2 = 0 then ((headgatelaw04_alive.f).bind fun t286 => (if t286 = true then (if (ji17) = 1 then (if bt281.2.1 < (t274.length : Int) then (some (decide ((bt281.1.length : Int) < (l0.length : Int)))) else (some false)) else (if (ji17) = 2 then (if bt281.2.1 < (t274.length : Int) then (some (decide ((bt281.1.length : Int) < (l0.length : Int)))) else (some false)) else (some false))) else (some false))) else ((headgatelaw04_alive.f).bind fun t287 => (if t287 = true then (if (bt281.1.length : Int) = 0 then (if bt281.2.1 = 0 then (if bt281.2.2 = 41 then (some true) else (if (ji17) = 1 then (some true) else (some ((ji17) == 2)))) else (some false)) else (some false)) else (some false))))) = some r := by first | (rw [hy280]; with_reducible exact H) | (have H2_ := (Option.bind_some _ _).symm.trans H; rw [hy280]; with_reducible exact H2_) | (have H2_ := (Option.bind_some _ _).symm.trans H; with_reducible exact H2_) | with_reducible exact H | (rw [hy280]; exact H) | exact H
                    have Ny280 := Aside0.mk hy280
                    clear hy280
                    replace H := Option.bind_eq_some_iff.mp H
                    obtain ⟨⟨t281, t282, t283⟩, A210, H⟩ := H
                    replace H : (if t283 = 0 then ((headgatelaw04_alive.f).bind fun t286 => (if t286 = true then (if (ji17) = 1 then (if t282 < (t274.length : Int) then (some (decide ((t281.length : Int) < (l0.length : Int)))) else (some false)) else (if (ji17) = 2 then (if t282 < (t274.length : Int) then (some (decide ((t281.length : Int) < (l0.length : Int)))) else (some false)) else (some false))) else (some false))) else ((headgatelaw04_alive.f).bind fun t287 => (if t287 = true then (if (t281.length : Int) = 0 then (if t282 = 0 then (if t283 = 41 then (some true) else (if (ji17) = 1 then (some true) else (some ((ji17) == 2)))) else (some false)) else (some false)) else (some false)))) = some r := H
                    have A21 := Aside0.mk A210
                    clear A210
                    by_cases c22 : t283 = 0
                    · rw [if_pos c22] at H
                      have c22b0 : (t283 == 0) = true := beq_iff_eq.mpr c22
                      have c22b1 : (t283 != 0) = false := bne_eq_false_iff_eq.mpr c22
                      clear c22
                      replace H := Option.bind_eq_some_iff.mp H
                      obtain ⟨t286, A230, H⟩ := H
                      replace H : (if t286 = true then (if (ji17) = 1 then (if t282 < (t274.length : Int) then (some (decide ((t281.length : Int) < (l0.length : Int)))) else (some false)) else (if (ji17) = 2 then (if t282 < (t274.length : Int) then (some (decide ((t281.length : Int) < (l0.length : Int)))) else (some false)) else (some false))) else (some false)) = some r := H
                      have A23 := Aside0.mk A230
                      clear A230
                      by_cases c24 : t286 = true
                      · subst c24
                        have H1 : (if (ji17) = 1 then (if t282 < (t274.length : Int) then (some (decide ((t281.length : Int) < (l0.length : Int)))) else (some false)) else (if (ji17) = 2 then (if t282 < (t274.length : Int) then (some (decide ((t281.length : Int) < (l0.length : Int)))) else (some false)) else (some false))) = some r := by rw [if_pos rfl] at H; exact H
                        clear H
                        have H := H1
                        clear H1
                        by_cases c25 : (ji17) = 1
                        · rw [if_pos c25] at H
                          have c25b0 : ((ji17) == 1) = true := beq_iff_eq.mpr c25
                          have c25b1 : ((ji17) != 1) = false := bne_eq_false_iff_eq.mpr c25
                          clear c25
                          by_cases c26 : t282 < (t274.length : Int)
                          · rw [if_pos c26] at H
                            have c26b0 : decide (t282 < (t274.length : Int)) = true := decide_eq_true c26
                            clear c26
                            obtain rfl := Option.some.inj H
                            have p279 : 0 ≤ ((ji17) : Int) := of_decide_eq_true (by first | (with_reducible assumption) | assumption)
                            have q279 : (ji17) < (t274.length : Int) := of_decide_eq_true (by first | (with_reducible assumption) | assumption)
                            obtain ⟨ad279, e279, hx279_0⟩ := Kd.at_int (Kd.R_reads' HO_7.out).2.2 (ji17) p279 q279
                            cases e279
                            replace p279 := eq_true p279
                            replace q279 := eq_true q279
                            have p20 : 0 ≤ ((ji17) : Int) := of_decide_eq_true (by first | (with_reducible assumption) | assumption)
                            have q20 : ((ji17) : Int) < ((t274.length : Int) : Int) := of_decide_eq_true (by first | (with_reducible assumption) | assumption)
                            obtain ⟨go20, co20, eo20, gb20, gl20, cl20, HG20⟩ := Kd.R_form HO_7.out (by omega)
                            (first | cases eo20 | (injection eo20 with ea_ en_ ec_; (first | subst ea_ | (injection ea_ with ea_; subst ea_)); subst ec_; clear en_))
                            have GB20 := Aside0.mk gb20
                            have GG20 := Aside0.mk HG20
                            clear gb20 gl20 HG20
                            (first | simp only [add_plain] at hx279_0 | skip)
                            obtain ⟨hx20_0, hf20_0⟩ := Kd.R_celln 0 HO_7.out ((ji17) : Int) p20 q20
                            replace p20 := eq_true p20
                            replace q20 := eq_true q20
                            have HP27 := Kd.R_putg HO_7.out ((ji17) : Int) (Go.bits .xor .u8 (rd t274 (ji17)) a2)
                            go_wp2_with (first | ((with_reducible refine gate_store (t := 5) (p := 44) rfl ?_); refine store_event (t := 5) (p := 44) (v := ?vo_w28) (w1 := (wc.setCell ⟨go20, ((ji17) : Int).toNat, none⟩ (.int .u8 (Go.bits .xor .u8 (rd t274 (ji17)) a2)))) ?hg ?ho ?hn ?hr ?_; (case ho => rfl); (case hg => rfl); (case hn => rfl); (case hr => first | (go_simp; done) | (go_simp; rfl)); intro w28 hw; have hg : wc.grownBy w28 (some go20) := (by rw [hw]; exact HP27.2); have hp_ : Kd.R (Kd.int .u8) 5 w28 w.heap.size (fun _ => True) (.slice (some ⟨go20, 0, none⟩) t274.length co14) y280 := (by rw [hw, Ny280.out]; exact HP27.1); clear HP27; have n0_ := Aside0.mk (hp_); have n1_ := Aside0.mk ((by rw [hw]; exact below_set (HB.out) GB20.out : Below w.heap.size w w28)); clear HO_7; clear HB; have HO_7 := n0_; have HB := n1_; clear n0_ n1_; clear hg hw hp_) | ((with_reducible refine gate_callee (f := 22) rfl ?_); refine goesL_ (some 47) rfl rfl Try.func22 (by kernel_rfl) rfl #[.slice (some ⟨go20, 0, none⟩) y280.length co14] rfl (by (try simp only [List.map_toArray, List.map_cons, List.map_nil]); first | done | (rw [show y280.length = t274.length from (Kd.R_reads' HO_7.out).1.symm] <;> rfl) | rfl | (simp only [List.length_drop, List.length_take]; rfl)) ?_; (with_reducible refine (record_Take.calls kj12 _ _ y280 t281 t282 t283 _ ?side1 ?side2 A21.out).mono ?_); (case side1 => repeat (first | exact (Kd.R_reads' HO_7.out).2.2 | (with_reducible refine Kd.C_alloc ?_ _) | (with_reducible refine Kd.C_drewN ?_ _) | (with_reducible refine Kd.C_drew ?_))); (case side2 => rw [show y280.length = t274.length from (Kd.R_reads' HO_7.out).1.symm]; exact (Kd.R_reads' HO_7.out).2.1); rintro e w29 ⟨v284, rfl, ho0, hb⟩; refine ⟨_, rfl, ?_⟩; have n0_ := Aside0.mk (Kd.R_elder' (by (with_reducible repeat (first | apply Kd.R_alloc | apply Kd.R_drewN | apply Kd.R_drew)); exact HO_7.out) (Kd.R_base ho0) hb); have n1_ := Aside0.mk (Kd.R_lower (Kd.R_new' ho0 (Kd.R_lt (by (with_reducible repeat (first | apply Kd.R_alloc | apply Kd.R_drewN | apply Kd.R_drew)); exact HO_7.out))) (below_size (by repeat (first | (with_reducible first | exact HB.out | apply below_alloc | apply pw_below_drewN | apply below_drew1) | exact HB.out)))); have n2_ := Aside0.mk (below_step (by repeat (first | (with_reducible first | exact HB.out | apply below_alloc | apply pw_below_drewN | apply below_drew1) | exact HB.out)) hb); clear HO_7; clear HB; have HO_7 := n0_; have HO285 := n1_; have HB := n2_; clear n0_ n1_ n2_; (try clear hb); (try clear hb2); (try clear hk); (try clear hi); (try clear ho0)) | ((with_reducible refine gate_callee (f := 18) rfl ?_); refine goesL_ (some 53) rfl rfl Try.func18 (by kernel_rfl) rfl #[] rfl (by (try simp only [List.map_toArray, List.map_cons, List.map_nil]); first | done | rfl | (simp only [List.length_drop, List.length_take]; rfl)) ?_; (with_reducible refine (headgatelaw04_alive.calls  true _ A23.out).mono ?_); rintro e w30 ⟨rfl, hb⟩; refine ⟨_, rfl, ?_⟩; have n0_ := Aside0.mk (Kd.R_below (by (with_reducible repeat (first | apply Kd.R_alloc | apply Kd.R_drewN | apply Kd.R_drew)); exact HO_7.out) hb); have n1_ := Aside0.mk (Kd.R_below (by (with_reducible repeat (first | apply Kd.R_alloc | apply Kd.R_drewN | apply Kd.R_drew)); exact HO285.out) hb); have n2_ := Aside0.mk (below_step (by repeat (first | (with_reducible first | exact HB.out | apply below_alloc | apply pw_below_drewN | apply below_drew1) | exact HB.out)) hb); clear HO_7; clear HO285; clear HB; have HO_7 := n0_; have HO285 := n1_; have HB := n2_; clear n0_ n1_ n2_; (try clear hb); (try clear hb2); (try clear hk); (try clear hi); obtain ⟨Ao31, co31, eo31⟩ := Kd.R_slice HO285.out; subst eo31))
                            go_ret
                            exact ⟨by first | rfl | (simp [errW_none, errW_some] <;> rfl) | (simp only [← hji17]; first | rfl | (simp [errW_none, errW_some] <;> rfl)) | (simp [*, errW_none, errW_some] <;> rfl), by repeat (first | (with_reducible first | exact HB.out | apply below_alloc | apply pw_below_drewN | apply below_drew1) | exact HB.out)⟩
                          · rw [if_neg c26] at H
                            have c26b0 : decide (t282 < (t274.length : Int)) = false := decide_eq_false c26
                            clear c26
                            obtain rfl := Option.some.inj H
                            have p279 : 0 ≤ ((ji17) : Int) := of_decide_eq_true (by first | (with_reducible assumption) | assumption)
                            have q279 : (ji17) < (t274.length : Int) := of_decide_eq_true (by first | (with_reducible assumption) | assumption)
                            obtain ⟨ad279, e279, hx279_0⟩ := Kd.at_int (Kd.R_reads' HO_7.out).2.2 (ji17) p279 q279
                            cases e279
                            replace p279 := eq_true p279
                            replace q279 := eq_true q279
                            have p20 : 0 ≤ ((ji17) : Int) := of_decide_eq_true (by first | (with_reducible assumption) | assumption)
                            have q20 : ((ji17) : Int) < ((t274.length : Int) : Int) := of_decide_eq_true (by first | (with_reducible assumption) | assumption)
                            obtain ⟨go20, co20, eo20, gb20, gl20, cl20, HG20⟩ := Kd.R_form HO_7.out (by omega)
                            (first | cases eo20 | (injection eo20 with ea_ en_ ec_; (first | subst ea_ | (injection ea_ with ea_; subst ea_)); subst ec_; clear en_))
                            have GB20 := Aside0.mk gb20
                            have GG20 := Aside0.mk HG20
                            clear gb20 gl20 HG20
                            (first | simp only [add_plain] at hx279_0 | skip)
                            obtain ⟨hx20_0, hf20_0⟩ := Kd.R_celln 0 HO_7.out ((ji17) : Int) p20 q20
                            replace p20 := eq_true p20
                            replace q20 := eq_true q20
                            have HP32 := Kd.R_putg HO_7.out ((ji17) : Int) (Go.bits .xor .u8 (rd t274 (ji17)) a2)
                            go_wp2_with (first | ((with_reducible refine gate_store (t := 5) (p := 44) rfl ?_); refine store_event (t := 5) (p := 44) (v := ?vo_w33) (w1 := (wc.setCell ⟨go20, ((ji17) : Int).toNat, none⟩ (.int .u8 (Go.bits .xor .u8 (rd t274 (ji17)) a2)))) ?hg ?ho ?hn ?hr ?_; (case ho => rfl); (case hg => rfl); (case hn => rfl); (case hr => first | (go_simp; done) | (go_simp; rfl)); intro w33 hw; have hg : wc.grownBy w33 (some go20) := (by rw [hw]; exact HP32.2); have hp_ : Kd.R (Kd.int .u8) 5 w33 w.heap.size (fun _ => True) (.slice (some ⟨go20, 0, none⟩) t274.length co14) y280 := (by rw [hw, Ny280.out]; exact HP32.1); clear HP32; have n0_ := Aside0.mk (hp_); have n1_ := Aside0.mk ((by rw [hw]; exact below_set (HB.out) GB20.out : Below w.heap.size w w33)); clear HO_7; clear HB; have HO_7 := n0_; have HB := n1_; clear n0_ n1_; clear hg hw hp_) | ((with_reducible refine gate_callee (f := 22) rfl ?_); refine goesL_ (some 47) rfl rfl Try.func22 (by kernel_rfl) rfl #[.slice (some ⟨go20, 0, none⟩) y280.length co14] rfl (by (try simp only [List.map_toArray, List.map_cons, List.map_nil]); first | done | (rw [show y280.length = t274.length from (Kd.R_reads' HO_7.out).1.symm] <;> rfl) | rfl | (simp only [List.length_drop, List.length_take]; rfl)) ?_; (with_reducible refine (record_Take.calls kj12 _ _ y280 t281 t282 t283 _ ?side1 ?side2 A21.out).mono ?_); (case side1 => repeat (first | exact (Kd.R_reads' HO_7.out).2.2 | (with_reducible refine Kd.C_alloc ?_ _) | (with_reducible refine Kd.C_drewN ?_ _) | (with_reducible refine Kd.C_drew ?_))); (case side2 => rw [show y280.length = t274.length from (Kd.R_reads' HO_7.out).1.symm]; exact (Kd.R_reads' HO_7.out).2.1); rintro e w34 ⟨v284, rfl, ho0, hb⟩; refine ⟨_, rfl, ?_⟩; have n0_ := Aside0.mk (Kd.R_elder' (by (with_reducible repeat (first | apply Kd.R_alloc | apply Kd.R_drewN | apply Kd.R_drew)); exact HO_7.out) (Kd.R_base ho0) hb); have n1_ := Aside0.mk (Kd.R_lower (Kd.R_new' ho0 (Kd.R_lt (by (with_reducible repeat (first | apply Kd.R_alloc | apply Kd.R_drewN | apply Kd.R_drew)); exact HO_7.out))) (below_size (by repeat (first | (with_reducible first | exact HB.out | apply below_alloc | apply pw_below_drewN | apply below_drew1) | exact HB.out)))); have n2_ := Aside0.mk (below_step (by repeat (first | (with_reducible first | exact HB.out | apply below_alloc | apply pw_below_drewN | apply below_drew1) | exact HB.out)) hb); clear HO_7; clear HB; have HO_7 := n0_; have HO285 := n1_; have HB := n2_; clear n0_ n1_ n2_; (try clear hb); (try clear hb2); (try clear hk); (try clear hi); (try clear ho0)) | ((with_reducible refine gate_callee (f := 18) rfl ?_); refine goesL_ (some 53) rfl rfl Try.func18 (by kernel_rfl) rfl #[] rfl (by (try simp only [List.map_toArray, List.map_cons, List.map_nil]); first | done | rfl | (simp only [List.length_drop, List.length_take]; rfl)) ?_; (with_reducible refine (headgatelaw04_alive.calls  true _ A23.out).mono ?_); rintro e w35 ⟨rfl, hb⟩; refine ⟨_, rfl, ?_⟩; have n0_ := Aside0.mk (Kd.R_below (by (with_reducible repeat (first | apply Kd.R_alloc | apply Kd.R_drewN | apply Kd.R_drew)); exact HO_7.out) hb); have n1_ := Aside0.mk (Kd.R_below (by (with_reducible repeat (first | apply Kd.R_alloc | apply Kd.R_drewN | apply Kd.R_drew)); exact HO285.out) hb); have n2_ := Aside0.mk (below_step (by repeat (first | (with_reducible first | exact HB.out | apply below_alloc | apply pw_below_drewN | apply below_drew1) | exact HB.out)) hb); clear HO_7; clear HO285; clear HB; have HO_7 := n0_; have HO285 := n1_; have HB := n2_; clear n0_ n1_ n2_; (try clear hb); (try clear hb2); (try clear hk); (try clear hi)))
                            go_ret
                            exact ⟨by first | rfl | (simp [errW_none, errW_some] <;> rfl) | (simp only [← hji17]; first | rfl | (simp [errW_none, errW_some] <;> rfl)) | (simp [*, errW_none, errW_some] <;> rfl), by repeat (first | (with_reducible first | exact HB.out | apply below_alloc | apply pw_below_drewN | apply below_drew1) | exact HB.out)⟩
                        · rw [if_neg c25] at H
                          have c25b0 : ((ji17) == 1) = false := beq_eq_false_iff_ne.mpr c25
                          have c25b1 : ((ji17) != 1) = true := bne_iff_ne.mpr c25
                          by_cases c36 : (ji17) = 2
                          · rw [if_pos c36] at H
                            have c36b0 : ((ji17) == 2) = true := beq_iff_eq.mpr c36
                            have c36b1 : ((ji17) != 2) = false := bne_eq_false_iff_eq.mpr c36
                            clear c36
                            by_cases c37 : t282 < (t274.length : Int)
                            · rw [if_pos c37] at H
                              have c37b0 : decide (t282 < (t274.length : Int)) = true := decide_eq_true c37
                              clear c37
                              obtain rfl := Option.some.inj H
                              have p279 : 0 ≤ ((ji17) : Int) := of_decide_eq_true (by first | (with_reducible assumption) | assumption)
                              have q279 : (ji17) < (t274.length : Int) := of_decide_eq_true (by first | (with_reducible assumption) | assumption)
                              obtain ⟨ad279, e279, hx279_0⟩ := Kd.at_int (Kd.R_reads' HO_7.out).2.2 (ji17) p279 q279
                              cases e279
                              replace p279 := eq_true p279
                              replace q279 := eq_true q279
                              have p20 : 0 ≤ ((ji17) : Int) := of_decide_eq_true (by first | (with_reducible assumption) | assumption)
                              have q20 : ((ji17) : Int) < ((t274.length : Int) : Int) := of_decide_eq_true (by first | (with_reducible assumption) | assumption)
                              obtain ⟨go20, co20, eo20, gb20, gl20, cl20, HG20⟩ := Kd.R_form HO_7.out (by omega)
                              (first | cases eo20 | (injection eo20 with ea_ en_ ec_; (first | subst ea_ | (injection ea_ with ea_; subst ea_)); subst ec_; clear en_))
                              have GB20 := Aside0.mk gb20
                              have GG20 := Aside0.mk HG20
                              clear gb20 gl20 HG20
                              (first | simp only [add_plain] at hx279_0 | skip)
                              obtain ⟨hx20_0, hf20_0⟩ := Kd.R_celln 0 HO_7.out ((ji17) : Int) p20 q20
                              replace p20 := eq_true p20
                              replace q20 := eq_true q20
                              have HP38 := Kd.R_putg HO_7.out ((ji17) : Int) (Go.bits .xor .u8 (rd t274 (ji17)) a2)
                              go_wp2_with (first | ((with_reducible refine gate_store (t := 5) (p := 44) rfl ?_); refine store_event (t := 5) (p := 44) (v := ?vo_w39) (w1 := (wc.setCell ⟨go20, ((ji17) : Int).toNat, none⟩ (.int .u8 (Go.bits .xor .u8 (rd t274 (ji17)) a2)))) ?hg ?ho ?hn ?hr ?_; (case ho => rfl); (case hg => rfl); (case hn => rfl); (case hr => first | (go_simp; done) | (go_simp; rfl)); intro w39 hw; have hg : wc.grownBy w39 (some go20) := (by rw [hw]; exact HP38.2); have hp_ : Kd.R (Kd.int .u8) 5 w39 w.heap.size (fun _ => True) (.slice (some ⟨go20, 0, none⟩) t274.length co14) y280 := (by rw [hw, Ny280.out]; exact HP38.1); clear HP38; have n0_ := Aside0.mk (hp_); have n1_ := Aside0.mk ((by rw [hw]; exact below_set (HB.out) GB20.out : Below w.heap.size w w39)); clear HO_7; clear HB; have HO_7 := n0_; have HB := n1_; clear n0_ n1_; clear hg hw hp_) | ((with_reducible refine gate_callee (f := 22) rfl ?_); refine goesL_ (some 47) rfl rfl Try.func22 (by kernel_rfl) rfl #[.slice (some ⟨go20, 0, none⟩) y280.length co14] rfl (by (try simp only [List.map_toArray, List.map_cons, List.map_nil]); first | done | (rw [show y280.length = t274.length from (Kd.R_reads' HO_7.out).1.symm] <;> rfl) | rfl | (simp only [List.length_drop, List.length_take]; rfl)) ?_; (with_reducible refine (record_Take.calls kj12 _ _ y280 t281 t282 t283 _ ?side1 ?side2 A21.out).mono ?_); (case side1 => repeat (first | exact (Kd.R_reads' HO_7.out).2.2 | (with_reducible refine Kd.C_alloc ?_ _) | (with_reducible refine Kd.C_drewN ?_ _) | (with_reducible refine Kd.C_drew ?_))); (case side2 => rw [show y280.length = t274.length from (Kd.R_reads' HO_7.out).1.symm]; exact (Kd.R_reads' HO_7.out).2.1); rintro e w40 ⟨v284, rfl, ho0, hb⟩; refine ⟨_, rfl, ?_⟩; have n0_ := Aside0.mk (Kd.R_elder' (by (with_reducible repeat (first | apply Kd.R_alloc | apply Kd.R_drewN | apply Kd.R_drew)); exact HO_7.out) (Kd.R_base ho0) hb); have n1_ := Aside0.mk (Kd.R_lower (Kd.R_new' ho0 (Kd.R_lt (by (with_reducible repeat (first | apply Kd.R_alloc | apply Kd.R_drewN | apply Kd.R_drew)); exact HO_7.out))) (below_size (by repeat (first | (with_reducible first | exact HB.out | apply below_alloc | apply pw_below_drewN | apply below_drew1) | exact HB.out)))); have n2_ := Aside0.mk (below_step (by repeat (first | (with_reducible first | exact HB.out | apply below_alloc | apply pw_below_drewN | apply below_drew1) | exact HB.out)) hb); clear HO_7; clear HB; have HO_7 := n0_; have HO285 := n1_; have HB := n2_; clear n0_ n1_ n2_; (try clear hb); (try clear hb2); (try clear hk); (try clear hi); (try clear ho0)) | ((with_reducible refine gate_callee (f := 18) rfl ?_); refine goesL_ (some 53) rfl rfl Try.func18 (by kernel_rfl) rfl #[] rfl (by (try simp only [List.map_toArray, List.map_cons, List.map_nil]); first | done | rfl | (simp only [List.length_drop, List.length_take]; rfl)) ?_; (with_reducible refine (headgatelaw04_alive.calls  true _ A23.out).mono ?_); rintro e w41 ⟨rfl, hb⟩; refine ⟨_, rfl, ?_⟩; have n0_ := Aside0.mk (Kd.R_below (by (with_reducible repeat (first | apply Kd.R_alloc | apply Kd.R_drewN | apply Kd.R_drew)); exact HO_7.out) hb); have n1_ := Aside0.mk (Kd.R_below (by (with_reducible repeat (first | apply Kd.R_alloc | apply Kd.R_drewN | apply Kd.R_drew)); exact HO285.out) hb); have n2_ := Aside0.mk (below_step (by repeat (first | (with_reducible first | exact HB.out | apply below_alloc | apply pw_below_drewN | apply below_drew1) | exact HB.out)) hb); clear HO_7; clear HO285; clear HB; have HO_7 := n0_; have HO285 := n1_; have HB := n2_; clear n0_ n1_ n2_; (try clear hb); (try clear hb2); (try clear hk); (try clear hi); obtain ⟨Ao42, co42, eo42⟩ := Kd.R_slice HO285.out; subst eo42))
                              go_ret
                              exact ⟨by first | rfl | (simp [errW_none, errW_some] <;> rfl) | (simp only [← hji17]; first | rfl | (simp [errW_none, errW_some] <;> rfl)) | (simp [*, errW_none, errW_some] <;> rfl), by repeat (first | (with_reducible first | exact HB.out | apply below_alloc | apply pw_below_drewN | apply below_drew1) | exact HB.out)⟩
                            · rw [if_neg c37] at H
                              have c37b0 : decide (t282 < (t274.length : Int)) = false := decide_eq_false c37
                              clear c37
                              obtain rfl := Option.some.inj H
                              have p279 : 0 ≤ ((ji17) : Int) := of_decide_eq_true (by first | (with_reducible assumption) | assumption)
                              have q279 : (ji17) < (t274.length : Int) := of_decide_eq_true (by first | (with_reducible assumption) | assumption)
                              obtain ⟨ad279, e279, hx279_0⟩ := Kd.at_int (Kd.R_reads' HO_7.out).2.2 (ji17) p279 q279
                              cases e279
                              replace p279 := eq_true p279
                              replace q279 := eq_true q279
                              have p20 : 0 ≤ ((ji17) : Int) := of_decide_eq_true (by first | (with_reducible assumption) | assumption)
                              have q20 : ((ji17) : Int) < ((t274.length : Int) : Int) := of_decide_eq_true (by first | (with_reducible assumption) | assumption)
                              obtain ⟨go20, co20, eo20, gb20, gl20, cl20, HG20⟩ := Kd.R_form HO_7.out (by omega)
                              (first | cases eo20 | (injection eo20 with ea_ en_ ec_; (first | subst ea_ | (injection ea_ with ea_; subst ea_)); subst ec_; clear en_))
                              have GB20 := Aside0.mk gb20
                              have GG20 := Aside0.mk HG20
                              clear gb20 gl20 HG20
                              (first | simp only [add_plain] at hx279_0 | skip)
                              obtain ⟨hx20_0, hf20_0⟩ := Kd.R_celln 0 HO_7.out ((ji17) : Int) p20 q20
                              replace p20 := eq_true p20
                              replace q20 := eq_true q20
                              have HP43 := Kd.R_putg HO_7.out ((ji17) : Int) (Go.bits .xor .u8 (rd t274 (ji17)) a2)
                              go_wp2_with (first | ((with_reducible refine gate_store (t := 5) (p := 44) rfl ?_); refine store_event (t := 5) (p := 44) (v := ?vo_w44) (w1 := (wc.setCell ⟨go20, ((ji17) : Int).toNat, none⟩ (.int .u8 (Go.bits .xor .u8 (rd t274 (ji17)) a2)))) ?hg ?ho ?hn ?hr ?_; (case ho => rfl); (case hg => rfl); (case hn => rfl); (case hr => first | (go_simp; done) | (go_simp; rfl)); intro w44 hw; have hg : wc.grownBy w44 (some go20) := (by rw [hw]; exact HP43.2); have hp_ : Kd.R (Kd.int .u8) 5 w44 w.heap.size (fun _ => True) (.slice (some ⟨go20, 0, none⟩) t274.length co14) y280 := (by rw [hw, Ny280.out]; exact HP43.1); clear HP43; have n0_ := Aside0.mk (hp_); have n1_ := Aside0.mk ((by rw [hw]; exact below_set (HB.out) GB20.out : Below w.heap.size w w44)); clear HO_7; clear HB; have HO_7 := n0_; have HB := n1_; clear n0_ n1_; clear hg hw hp_) | ((with_reducible refine gate_callee (f := 22) rfl ?_); refine goesL_ (some 47) rfl rfl Try.func22 (by kernel_rfl) rfl #[.slice (some ⟨go20, 0, none⟩) y280.length co14] rfl (by (try simp only [List.map_toArray, List.map_cons, List.map_nil]); first | done | (rw [show y280.length = t274.length from (Kd.R_reads' HO_7.out).1.symm] <;> rfl) | rfl | (simp only [List.length_drop, List.length_take]; rfl)) ?_; (with_reducible refine (record_Take.calls kj12 _ _ y280 t281 t282 t283 _ ?side1 ?side2 A21.out).mono ?_); (case side1 => repeat (first | exact (Kd.R_reads' HO_7.out).2.2 | (with_reducible refine Kd.C_alloc ?_ _) | (with_reducible refine Kd.C_drewN ?_ _) | (with_reducible refine Kd.C_drew ?_))); (case side2 => rw [show y280.length = t274.length from (Kd.R_reads' HO_7.out).1.symm]; exact (Kd.R_reads' HO_7.out).2.1); rintro e w45 ⟨v284, rfl, ho0, hb⟩; refine ⟨_, rfl, ?_⟩; have n0_ := Aside0.mk (Kd.R_elder' (by (with_reducible repeat (first | apply Kd.R_alloc | apply Kd.R_drewN | apply Kd.R_drew)); exact HO_7.out) (Kd.R_base ho0) hb); have n1_ := Aside0.mk (Kd.R_lower (Kd.R_new' ho0 (Kd.R_lt (by (with_reducible repeat (first | apply Kd.R_alloc | apply Kd.R_drewN | apply Kd.R_drew)); exact HO_7.out))) (below_size (by repeat (first | (with_reducible first | exact HB.out | apply below_alloc | apply pw_below_drewN | apply below_drew1) | exact HB.out)))); have n2_ := Aside0.mk (below_step (by repeat (first | (with_reducible first | exact HB.out | apply below_alloc | apply pw_below_drewN | apply below_drew1) | exact HB.out)) hb); clear HO_7; clear HB; have HO_7 := n0_; have HO285 := n1_; have HB := n2_; clear n0_ n1_ n2_; (try clear hb); (try clear hb2); (try clear hk); (try clear hi); (try clear ho0)) | ((with_reducible refine gate_callee (f := 18) rfl ?_); refine goesL_ (some 53) rfl rfl Try.func18 (by kernel_rfl) rfl #[] rfl (by (try simp only [List.map_toArray, List.map_cons, List.map_nil]); first | done | rfl | (simp only [List.length_drop, List.length_take]; rfl)) ?_; (with_reducible refine (headgatelaw04_alive.calls  true _ A23.out).mono ?_); rintro e w46 ⟨rfl, hb⟩; refine ⟨_, rfl, ?_⟩; have n0_ := Aside0.mk (Kd.R_below (by (with_reducible repeat (first | apply Kd.R_alloc | apply Kd.R_drewN | apply Kd.R_drew)); exact HO_7.out) hb); have n1_ := Aside0.mk (Kd.R_below (by (with_reducible repeat (first | apply Kd.R_alloc | apply Kd.R_drewN | apply Kd.R_drew)); exact HO285.out) hb); have n2_ := Aside0.mk (below_step (by repeat (first | (with_reducible first | exact HB.out | apply below_alloc | apply pw_below_drewN | apply below_drew1) | exact HB.out)) hb); clear HO_7; clear HO285; clear HB; have HO_7 := n0_; have HO285 := n1_; have HB := n2_; clear n0_ n1_ n2_; (try clear hb); (try clear hb2); (try clear hk); (try clear hi)))
                              go_ret
                              exact ⟨by first | rfl | (simp [errW_none, errW_some] <;> rfl) | (simp only [← hji17]; first | rfl | (simp [errW_none, errW_some] <;> rfl)) | (simp [*, errW_none, errW_some] <;> rfl), by repeat (first | (with_reducible first | exact HB.out | apply below_alloc | apply pw_below_drewN | apply below_drew1) | exact HB.out)⟩
                          · rw [if_neg c36] at H
                            have c36b0 : ((ji17) == 2) = false := beq_eq_false_iff_ne.mpr c36
                            have c36b1 : ((ji17) != 2) = true := bne_iff_ne.mpr c36
                            obtain rfl := Option.some.inj H
                            have p279 : 0 ≤ ((ji17) : Int) := of_decide_eq_true (by first | (with_reducible assumption) | assumption)
                            have q279 : (ji17) < (t274.length : Int) := of_decide_eq_true (by first | (with_reducible assumption) | assumption)
                            obtain ⟨ad279, e279, hx279_0⟩ := Kd.at_int (Kd.R_reads' HO_7.out).2.2 (ji17) p279 q279
                            cases e279
                            replace p279 := eq_true p279
                            replace q279 := eq_true q279
                            have p20 : 0 ≤ ((ji17) : Int) := of_decide_eq_true (by first | (with_reducible assumption) | assumption)
                            have q20 : ((ji17) : Int) < ((t274.length : Int) : Int) := of_decide_eq_true (by first | (with_reducible assumption) | assumption)
                            obtain ⟨go20, co20, eo20, gb20, gl20, cl20, HG20⟩ := Kd.R_form HO_7.out (by omega)
                            (first | cases eo20 | (injection eo20 with ea_ en_ ec_; (first | subst ea_ | (injection ea_ with ea_; subst ea_)); subst ec_; clear en_))
                            have GB20 := Aside0.mk gb20
                            have GG20 := Aside0.mk HG20
                            clear gb20 gl20 HG20
                            (first | simp only [add_plain] at hx279_0 | skip)
                            obtain ⟨hx20_0, hf20_0⟩ := Kd.R_celln 0 HO_7.out ((ji17) : Int) p20 q20
                            replace p20 := eq_true p20
                            replace q20 := eq_true q20
                            have HP47 := Kd.R_putg HO_7.out ((ji17) : Int) (Go.bits .xor .u8 (rd t274 (ji17)) a2)
                            go_wp2_with (first | ((with_reducible refine gate_store (t := 5) (p := 44) rfl ?_); refine store_event (t := 5) (p := 44) (v := ?vo_w48) (w1 := (wc.setCell ⟨go20, ((ji17) : Int).toNat, none⟩ (.int .u8 (Go.bits .xor .u8 (rd t274 (ji17)) a2)))) ?hg ?ho ?hn ?hr ?_; (case ho => rfl); (case hg => rfl); (case hn => rfl); (case hr => first | (go_simp; done) | (go_simp; rfl)); intro w48 hw; have hg : wc.grownBy w48 (some go20) := (by rw [hw]; exact HP47.2); have hp_ : Kd.R (Kd.int .u8) 5 w48 w.heap.size (fun _ => True) (.slice (some ⟨go20, 0, none⟩) t274.length co14) y280 := (by rw [hw, Ny280.out]; exact HP47.1); clear HP47; have n0_ := Aside0.mk (hp_); have n1_ := Aside0.mk ((by rw [hw]; exact below_set (HB.out) GB20.out : Below w.heap.size w w48)); clear HO_7; clear HB; have HO_7 := n0_; have HB := n1_; clear n0_ n1_; clear hg hw hp_) | ((with_reducible refine gate_callee (f := 22) rfl ?_); refine goesL_ (some 47) rfl rfl Try.func22 (by kernel_rfl) rfl #[.slice (some ⟨go20, 0, none⟩) y280.length co14] rfl (by (try simp only [List.map_toArray, List.map_cons, List.map_nil]); first | done | (rw [show y280.length = t274.length from (Kd.R_reads' HO_7.out).1.symm] <;> rfl) | rfl | (simp only [List.length_drop, List.length_take]; rfl)) ?_; (with_reducible refine (record_Take.calls kj12 _ _ y280 t281 t282 t283 _ ?side1 ?side2 A21.out).mono ?_); (case side1 => repeat (first | exact (Kd.R_reads' HO_7.out).2.2 | (with_reducible refine Kd.C_alloc ?_ _) | (with_reducible refine Kd.C_drewN ?_ _) | (with_reducible refine Kd.C_drew ?_))); (case side2 => rw [show y280.length = t274.length from (Kd.R_reads' HO_7.out).1.symm]; exact (Kd.R_reads' HO_7.out).2.1); rintro e w49 ⟨v284, rfl, ho0, hb⟩; refine ⟨_, rfl, ?_⟩; have n0_ := Aside0.mk (Kd.R_elder' (by (with_reducible repeat (first | apply Kd.R_alloc | apply Kd.R_drewN | apply Kd.R_drew)); exact HO_7.out) (Kd.R_base ho0) hb); have n1_ := Aside0.mk (Kd.R_lower (Kd.R_new' ho0 (Kd.R_lt (by (with_reducible repeat (first | apply Kd.R_alloc | apply Kd.R_drewN | apply Kd.R_drew)); exact HO_7.out))) (below_size (by repeat (first | (with_reducible first | exact HB.out | apply below_alloc | apply pw_below_drewN | apply below_drew1) | exact HB.out)))); have n2_ := Aside0.mk (below_step (by repeat (first | (with_reducible first | exact HB.out | apply below_alloc | apply pw_below_drewN | apply below_drew1) | exact HB.out)) hb); clear HO_7; clear HB; have HO_7 := n0_; have HO285 := n1_; have HB := n2_; clear n0_ n1_ n2_; (try clear hb); (try clear hb2); (try clear hk); (try clear hi); (try clear ho0)) | ((with_reducible refine gate_callee (f := 18) rfl ?_); refine goesL_ (some 53) rfl rfl Try.func18 (by kernel_rfl) rfl #[] rfl (by (try simp only [List.map_toArray, List.map_cons, List.map_nil]); first | done | rfl | (simp only [List.length_drop, List.length_take]; rfl)) ?_; (with_reducible refine (headgatelaw04_alive.calls  true _ A23.out).mono ?_); rintro e w50 ⟨rfl, hb⟩; refine ⟨_, rfl, ?_⟩; have n0_ := Aside0.mk (Kd.R_below (by (with_reducible repeat (first | apply Kd.R_alloc | apply Kd.R_drewN | apply Kd.R_drew)); exact HO_7.out) hb); have n1_ := Aside0.mk (Kd.R_below (by (with_reducible repeat (first | apply Kd.R_alloc | apply Kd.R_drewN | apply Kd.R_drew)); exact HO285.out) hb); have n2_ := Aside0.mk (below_step (by repeat (first | (with_reducible first | exact HB.out | apply below_alloc | apply pw_below_drewN | apply below_drew1) | exact HB.out)) hb); clear HO_7; clear HO285; clear HB; have HO_7 := n0_; have HO285 := n1_; have HB := n2_; clear n0_ n1_ n2_; (try clear hb); (try clear hb2); (try clear hk); (try clear hi)))
                            go_ret
                            exact ⟨by first | rfl | (simp [errW_none, errW_some] <;> rfl) | (simp only [← hji17]; first | rfl | (simp [errW_none, errW_some] <;> rfl)) | (simp [*, errW_none, errW_some] <;> rfl), by repeat (first | (with_reducible first | exact HB.out | apply below_alloc | apply pw_below_drewN | apply below_drew1) | exact HB.out)⟩
                      · replace c24 := Bool.eq_false_iff.mpr c24
                        subst c24
                        have H1 : (some false) = some r := by rw [if_neg (show ¬ (false = true) by decide)] at H; exact H
                        clear H
                        have H := H1
                        clear H1
                        obtain rfl := Option.some.inj H
                        have p279 : 0 ≤ ((ji17) : Int) := of_decide_eq_true (by first | (with_reducible assumption) | assumption)
                        have q279 : (ji17) < (t274.length : Int) := of_decide_eq_true (by first | (with_reducible assumption) | assumption)
                        obtain ⟨ad279, e279, hx279_0⟩ := Kd.at_int (Kd.R_reads' HO_7.out).2.2 (ji17) p279 q279
                        cases e279
                        replace p279 := eq_true p279
                        replace q279 := eq_true q279
                        have p20 : 0 ≤ ((ji17) : Int) := of_decide_eq_true (by first | (with_reducible assumption) | assumption)
                        have q20 : ((ji17) : Int) < ((t274.length : Int) : Int) := of_decide_eq_true (by first | (with_reducible assumption) | assumption)
                        obtain ⟨go20, co20, eo20, gb20, gl20, cl20, HG20⟩ := Kd.R_form HO_7.out (by omega)
                        (first | cases eo20 | (injection eo20 with ea_ en_ ec_; (first | subst ea_ | (injection ea_ with ea_; subst ea_)); subst ec_; clear en_))
                        have GB20 := Aside0.mk gb20
                        have GG20 := Aside0.mk HG20
                        clear gb20 gl20 HG20
                        (first | simp only [add_plain] at hx279_0 | skip)
                        obtain ⟨hx20_0, hf20_0⟩ := Kd.R_celln 0 HO_7.out ((ji17) : Int) p20 q20
                        replace p20 := eq_true p20
                        replace q20 := eq_true q20
                        have HP51 := Kd.R_putg HO_7.out ((ji17) : Int) (Go.bits .xor .u8 (rd t274 (ji17)) a2)
                        go_wp2_with (first | ((with_reducible refine gate_store (t := 5) (p := 44) rfl ?_); refine store_event (t := 5) (p := 44) (v := ?vo_w52) (w1 := (wc.setCell ⟨go20, ((ji17) : Int).toNat, none⟩ (.int .u8 (Go.bits .xor .u8 (rd t274 (ji17)) a2)))) ?hg ?ho ?hn ?hr ?_; (case ho => rfl); (case hg => rfl); (case hn => rfl); (case hr => first | (go_simp; done) | (go_simp; rfl)); intro w52 hw; have hg : wc.grownBy w52 (some go20) := (by rw [hw]; exact HP51.2); have hp_ : Kd.R (Kd.int .u8) 5 w52 w.heap.size (fun _ => True) (.slice (some ⟨go20, 0, none⟩) t274.length co14) y280 := (by rw [hw, Ny280.out]; exact HP51.1); clear HP51; have n0_ := Aside0.mk (hp_); have n1_ := Aside0.mk ((by rw [hw]; exact below_set (HB.out) GB20.out : Below w.heap.size w w52)); clear HO_7; clear HB; have HO_7 := n0_; have HB := n1_; clear n0_ n1_; clear hg hw hp_) | ((with_reducible refine gate_callee (f := 22) rfl ?_); refine goesL_ (some 47) rfl rfl Try.func22 (by kernel_rfl) rfl #[.slice (some ⟨go20, 0, none⟩) y280.length co14] rfl (by (try simp only [List.map_toArray, List.map_cons, List.map_nil]); first | done | (rw [show y280.length = t274.length from (Kd.R_reads' HO_7.out).1.symm] <;> rfl) | rfl | (simp only [List.length_drop, List.length_take]; rfl)) ?_; (with_reducible refine (record_Take.calls kj12 _ _ y280 t281 t282 t283 _ ?side1 ?side2 A21.out).mono ?_); (case side1 => repeat (first | exact (Kd.R_reads' HO_7.out).2.2 | (with_reducible refine Kd.C_alloc ?_ _) | (with_reducible refine Kd.C_drewN ?_ _) | (with_reducible refine Kd.C_drew ?_))); (case side2 => rw [show y280.length = t274.length from (Kd.R_reads' HO_7.out).1.symm]; exact (Kd.R_reads' HO_7.out).2.1); rintro e w53 ⟨v284, rfl, ho0, hb⟩; refine ⟨_, rfl, ?_⟩; have n0_ := Aside0.mk (Kd.R_elder' (by (with_reducible repeat (first | apply Kd.R_alloc | apply Kd.R_drewN | apply Kd.R_drew)); exact HO_7.out) (Kd.R_base ho0) hb); have n1_ := Aside0.mk (Kd.R_lower (Kd.R_new' ho0 (Kd.R_lt (by (with_reducible repeat (first | apply Kd.R_alloc | apply Kd.R_drewN | apply Kd.R_drew)); exact HO_7.out))) (below_size (by repeat (first | (with_reducible first | exact HB.out | apply below_alloc | apply pw_below_drewN | apply below_drew1) | exact HB.out)))); have n2_ := Aside0.mk (below_step (by repeat (first | (with_reducible first | exact HB.out | apply below_alloc | apply pw_below_drewN | apply below_drew1) | exact HB.out)) hb); clear HO_7; clear HB; have HO_7 := n0_; have HO285 := n1_; have HB := n2_; clear n0_ n1_ n2_; (try clear hb); (try clear hb2); (try clear hk); (try clear hi); (try clear ho0)) | ((with_reducible refine gate_callee (f := 18) rfl ?_); refine goesL_ (some 53) rfl rfl Try.func18 (by kernel_rfl) rfl #[] rfl (by (try simp only [List.map_toArray, List.map_cons, List.map_nil]); first | done | rfl | (simp only [List.length_drop, List.length_take]; rfl)) ?_; (with_reducible refine (headgatelaw04_alive.calls  false _ A23.out).mono ?_); rintro e w54 ⟨rfl, hb⟩; refine ⟨_, rfl, ?_⟩; have n0_ := Aside0.mk (Kd.R_below (by (with_reducible repeat (first | apply Kd.R_alloc | apply Kd.R_drewN | apply Kd.R_drew)); exact HO_7.out) hb); have n1_ := Aside0.mk (Kd.R_below (by (with_reducible repeat (first | apply Kd.R_alloc | apply Kd.R_drewN | apply Kd.R_drew)); exact HO285.out) hb); have n2_ := Aside0.mk (below_step (by repeat (first | (with_reducible first | exact HB.out | apply below_alloc | apply pw_below_drewN | apply below_drew1) | exact HB.out)) hb); clear HO_7; clear HO285; clear HB; have HO_7 := n0_; have HO285 := n1_; have HB := n2_; clear n0_ n1_ n2_; (try clear hb); (try clear hb2); (try clear hk); (try clear hi)))
                        go_ret
                        exact ⟨by first | rfl | (simp [errW_none, errW_some] <;> rfl) | (simp only [← hji17]; first | rfl | (simp [errW_none, errW_some] <;> rfl)) | (simp [*, errW_none, errW_some] <;> rfl), by repeat (first | (with_reducible first | exact HB.out | apply below_alloc | apply pw_below_drewN | apply below_drew1) | exact HB.out)⟩
                    · rw [if_neg c22] at H
                      have c22b0 : (t283 == 0) = false := beq_eq_false_iff_ne.mpr c22
                      have c22b1 : (t283 != 0) = true := bne_iff_ne.mpr c22
                      replace H := Option.bind_eq_some_iff.mp H
                      obtain ⟨t287, A550, H⟩ := H
                      replace H : (if t287 = true then (if (t281.length : Int) = 0 then (if t282 = 0 then (if t283 = 41 then (some true) else (if (ji17) = 1 then (some true) else (some ((ji17) == 2)))) else (some false)) else (some false)) else (some false)) = some r := H
                      have A55 := Aside0.mk A550
                      clear A550
                      by_cases c56 : t287 = true
                      · subst c56
                        have H1 : (if (t281.length : Int) = 0 then (if t282 = 0 then (if t283 = 41 then (some true) else (if (ji17) = 1 then (some true) else (some ((ji17) == 2)))) else (some false)) else (some false)) = some r := by rw [if_pos rfl] at H; exact H
                        clear H
                        have H := H1
                        clear H1
                        by_cases c57 : (t281.length : Int) = 0
                        · rw [if_pos c57] at H
                          have c57b0 : ((t281.length : Int) == 0) = true := beq_iff_eq.mpr c57
                          have c57b1 : ((t281.length : Int) != 0) = false := bne_eq_false_iff_eq.mpr c57
                          clear c57
                          by_cases c58 : t282 = 0
                          · rw [if_pos c58] at H
                            have c58b0 : (t282 == 0) = true := beq_iff_eq.mpr c58
                            have c58b1 : (t282 != 0) = false := bne_eq_false_iff_eq.mpr c58
                            clear c58
                            by_cases c59 : t283 = 41
                            · rw [if_pos c59] at H
                              have c59b0 : (t283 == 41) = true := beq_iff_eq.mpr c59
                              have c59b1 : (t283 != 41) = false := bne_eq_false_iff_eq.mpr c59
                              clear c59
                              obtain rfl := Option.some.inj H
                              have p279 : 0 ≤ ((ji17) : Int) := of_decide_eq_true (by first | (with_reducible assumption) | assumption)
                              have q279 : (ji17) < (t274.length : Int) := of_decide_eq_true (by first | (with_reducible assumption) | assumption)
                              obtain ⟨ad279, e279, hx279_0⟩ := Kd.at_int (Kd.R_reads' HO_7.out).2.2 (ji17) p279 q279
                              cases e279
                              replace p279 := eq_true p279
                              replace q279 := eq_true q279
                              have p20 : 0 ≤ ((ji17) : Int) := of_decide_eq_true (by first | (with_reducible assumption) | assumption)
                              have q20 : ((ji17) : Int) < ((t274.length : Int) : Int) := of_decide_eq_true (by first | (with_reducible assumption) | assumption)
                              obtain ⟨go20, co20, eo20, gb20, gl20, cl20, HG20⟩ := Kd.R_form HO_7.out (by omega)
                              (first | cases eo20 | (injection eo20 with ea_ en_ ec_; (first | subst ea_ | (injection ea_ with ea_; subst ea_)); subst ec_; clear en_))
                              have GB20 := Aside0.mk gb20
                              have GG20 := Aside0.mk HG20
                              clear gb20 gl20 HG20
                              (first | simp only [add_plain] at hx279_0 | skip)
                              obtain ⟨hx20_0, hf20_0⟩ := Kd.R_celln 0 HO_7.out ((ji17) : Int) p20 q20
                              replace p20 := eq_true p20
                              replace q20 := eq_true q20
                              have HP60 := Kd.R_putg HO_7.out ((ji17) : Int) (Go.bits .xor .u8 (rd t274 (ji17)) a2)
                              go_wp2_with (first | ((with_reducible refine gate_store (t := 5) (p := 44) rfl ?_); refine store_event (t := 5) (p := 44) (v := ?vo_w61) (w1 := (wc.setCell ⟨go20, ((ji17) : Int).toNat, none⟩ (.int .u8 (Go.bits .xor .u8 (rd t274 (ji17)) a2)))) ?hg ?ho ?hn ?hr ?_; (case ho => rfl); (case hg => rfl); (case hn => rfl); (case hr => first | (go_simp; done) | (go_simp; rfl)); intro w61 hw; have hg : wc.grownBy w61 (some go20) := (by rw [hw]; exact HP60.2); have hp_ : Kd.R (Kd.int .u8) 5 w61 w.heap.size (fun _ => True) (.slice (some ⟨go20, 0, none⟩) t274.length co14) y280 := (by rw [hw, Ny280.out]; exact HP60.1); clear HP60; have n0_ := Aside0.mk (hp_); have n1_ := Aside0.mk ((by rw [hw]; exact below_set (HB.out) GB20.out : Below w.heap.size w w61)); clear HO_7; clear HB; have HO_7 := n0_; have HB := n1_; clear n0_ n1_; clear hg hw hp_) | ((with_reducible refine gate_callee (f := 22) rfl ?_); refine goesL_ (some 47) rfl rfl Try.func22 (by kernel_rfl) rfl #[.slice (some ⟨go20, 0, none⟩) y280.length co14] rfl (by (try simp only [List.map_toArray, List.map_cons, List.map_nil]); first | done | (rw [show y280.length = t274.length from (Kd.R_reads' HO_7.out).1.symm] <;> rfl) | rfl | (simp only [List.length_drop, List.length_take]; rfl)) ?_; (with_reducible refine (record_Take.calls kj12 _ _ y280 t281 t282 t283 _ ?side1 ?side2 A21.out).mono ?_); (case side1 => repeat (first | exact (Kd.R_reads' HO_7.out).2.2 | (with_reducible refine Kd.C_alloc ?_ _) | (with_reducible refine Kd.C_drewN ?_ _) | (with_reducible refine Kd.C_drew ?_))); (case side2 => rw [show y280.length = t274.length from (Kd.R_reads' HO_7.out).1.symm]; exact (Kd.R_reads' HO_7.out).2.1); rintro e w62 ⟨v284, rfl, ho0, hb⟩; refine ⟨_, rfl, ?_⟩; have n0_ := Aside0.mk (Kd.R_elder' (by (with_reducible repeat (first | apply Kd.R_alloc | apply Kd.R_drewN | apply Kd.R_drew)); exact HO_7.out) (Kd.R_base ho0) hb); have n1_ := Aside0.mk (Kd.R_lower (Kd.R_new' ho0 (Kd.R_lt (by (with_reducible repeat (first | apply Kd.R_alloc | apply Kd.R_drewN | apply Kd.R_drew)); exact HO_7.out))) (below_size (by repeat (first | (with_reducible first | exact HB.out | apply below_alloc | apply pw_below_drewN | apply below_drew1) | exact HB.out)))); have n2_ := Aside0.mk (below_step (by repeat (first | (with_reducible first | exact HB.out | apply below_alloc | apply pw_below_drewN | apply below_drew1) | exact HB.out)) hb); clear HO_7; clear HB; have HO_7 := n0_; have HO285 := n1_; have HB := n2_; clear n0_ n1_ n2_; (try clear hb); (try clear hb2); (try clear hk); (try clear hi); (try clear ho0)) | ((with_reducible refine gate_callee (f := 18) rfl ?_); refine goesL_ (some 75) rfl rfl Try.func18 (by kernel_rfl) rfl #[] rfl (by (try simp only [List.map_toArray, List.map_cons, List.map_nil]); first | done | rfl | (simp only [List.length_drop, List.length_take]; rfl)) ?_; (with_reducible refine (headgatelaw04_alive.calls  true _ A55.out).mono ?_); rintro e w63 ⟨rfl, hb⟩; refine ⟨_, rfl, ?_⟩; have n0_ := Aside0.mk (Kd.R_below (by (with_reducible repeat (first | apply Kd.R_alloc | apply Kd.R_drewN | apply Kd.R_drew)); exact HO_7.out) hb); have n1_ := Aside0.mk (Kd.R_below (by (with_reducible repeat (first | apply Kd.R_alloc | apply Kd.R_drewN | apply Kd.R_drew)); exact HO285.out) hb); have n2_ := Aside0.mk (below_step (by repeat (first | (with_reducible first | exact HB.out | apply below_alloc | apply pw_below_drewN | apply below_drew1) | exact HB.out)) hb); clear HO_7; clear HO285; clear HB; have HO_7 := n0_; have HO285 := n1_; have HB := n2_; clear n0_ n1_ n2_; (try clear hb); (try clear hb2); (try clear hk); (try clear hi); obtain ⟨Ao64, co64, eo64⟩ := Kd.R_slice HO285.out; subst eo64))
                              go_ret
                              exact ⟨by first | rfl | (simp [errW_none, errW_some] <;> rfl) | (simp only [← hji17]; first | rfl | (simp [errW_none, errW_some] <;> rfl)) | (simp [*, errW_none, errW_some] <;> rfl), by repeat (first | (with_reducible first | exact HB.out | apply below_alloc | apply pw_below_drewN | apply below_drew1) | exact HB.out)⟩
                            · rw [if_neg c59] at H
                              have c59b0 : (t283 == 41) = false := beq_eq_false_iff_ne.mpr c59
                              have c59b1 : (t283 != 41) = true := bne_iff_ne.mpr c59
                              by_cases c65 : (ji17) = 1
                              · rw [if_pos c65] at H
                                have c65b0 : ((ji17) == 1) = true := beq_iff_eq.mpr c65
                                have c65b1 : ((ji17) != 1) = false := bne_eq_false_iff_eq.mpr c65
                                clear c65
                                obtain rfl := Option.some.inj H
                                have p279 : 0 ≤ ((ji17) : Int) := of_decide_eq_true (by first | (with_reducible assumption) | assumption)
                                have q279 : (ji17) < (t274.length : Int) := of_decide_eq_true (by first | (with_reducible assumption) | assumption)
                                obtain ⟨ad279, e279, hx279_0⟩ := Kd.at_int (Kd.R_reads' HO_7.out).2.2 (ji17) p279 q279
                                cases e279
                                replace p279 := eq_true p279
                                replace q279 := eq_true q279
                                have p20 : 0 ≤ ((ji17) : Int) := of_decide_eq_true (by first | (with_reducible assumption) | assumption)
                                have q20 : ((ji17) : Int) < ((t274.length : Int) : Int) := of_decide_eq_true (by first | (with_reducible assumption) | assumption)
                                obtain ⟨go20, co20, eo20, gb20, gl20, cl20, HG20⟩ := Kd.R_form HO_7.out (by omega)
                                (first | cases eo20 | (injection eo20 with ea_ en_ ec_; (first | subst ea_ | (injection ea_ with ea_; subst ea_)); subst ec_; clear en_))
                                have GB20 := Aside0.mk gb20
                                have GG20 := Aside0.mk HG20
                                clear gb20 gl20 HG20
                                (first | simp only [add_plain] at hx279_0 | skip)
                                obtain ⟨hx20_0, hf20_0⟩ := Kd.R_celln 0 HO_7.out ((ji17) : Int) p20 q20
                                replace p20 := eq_true p20
                                replace q20 := eq_true q20
                                have HP66 := Kd.R_putg HO_7.out ((ji17) : Int) (Go.bits .xor .u8 (rd t274 (ji17)) a2)
                                go_wp2_with (first | ((with_reducible refine gate_store (t := 5) (p := 44) rfl ?_); refine store_event (t := 5) (p := 44) (v := ?vo_w67) (w1 := (wc.setCell ⟨go20, ((ji17) : Int).toNat, none⟩ (.int .u8 (Go.bits .xor .u8 (rd t274 (ji17)) a2)))) ?hg ?ho ?hn ?hr ?_; (case ho => rfl); (case hg => rfl); (case hn => rfl); (case hr => first | (go_simp; done) | (go_simp; rfl)); intro w67 hw; have hg : wc.grownBy w67 (some go20) := (by rw [hw]; exact HP66.2); have hp_ : Kd.R (Kd.int .u8) 5 w67 w.heap.size (fun _ => True) (.slice (some ⟨go20, 0, none⟩) t274.length co14) y280 := (by rw [hw, Ny280.out]; exact HP66.1); clear HP66; have n0_ := Aside0.mk (hp_); have n1_ := Aside0.mk ((by rw [hw]; exact below_set (HB.out) GB20.out : Below w.heap.size w w67)); clear HO_7; clear HB; have HO_7 := n0_; have HB := n1_; clear n0_ n1_; clear hg hw hp_) | ((with_reducible refine gate_callee (f := 22) rfl ?_); refine goesL_ (some 47) rfl rfl Try.func22 (by kernel_rfl) rfl #[.slice (some ⟨go20, 0, none⟩) y280.length co14] rfl (by (try simp only [List.map_toArray, List.map_cons, List.map_nil]); first | done | (rw [show y280.length = t274.length from (Kd.R_reads' HO_7.out).1.symm] <;> rfl) | rfl | (simp only [List.length_drop, List.length_take]; rfl)) ?_; (with_reducible refine (record_Take.calls kj12 _ _ y280 t281 t282 t283 _ ?side1 ?side2 A21.out).mono ?_); (case side1 => repeat (first | exact (Kd.R_reads' HO_7.out).2.2 | (with_reducible refine Kd.C_alloc ?_ _) | (with_reducible refine Kd.C_drewN ?_ _) | (with_reducible refine Kd.C_drew ?_))); (case side2 => rw [show y280.length = t274.length from (Kd.R_reads' HO_7.out).1.symm]; exact (Kd.R_reads' HO_7.out).2.1); rintro e w68 ⟨v284, rfl, ho0, hb⟩; refine ⟨_, rfl, ?_⟩; have n0_ := Aside0.mk (Kd.R_elder' (by (with_reducible repeat (first | apply Kd.R_alloc | apply Kd.R_drewN | apply Kd.R_drew)); exact HO_7.out) (Kd.R_base ho0) hb); have n1_ := Aside0.mk (Kd.R_lower (Kd.R_new' ho0 (Kd.R_lt (by (with_reducible repeat (first | apply Kd.R_alloc | apply Kd.R_drewN | apply Kd.R_drew)); exact HO_7.out))) (below_size (by repeat (first | (with_reducible first | exact HB.out | apply below_alloc | apply pw_below_drewN | apply below_drew1) | exact HB.out)))); have n2_ := Aside0.mk (below_step (by repeat (first | (with_reducible first | exact HB.out | apply below_alloc | apply pw_below_drewN | apply below_drew1) | exact HB.out)) hb); clear HO_7; clear HB; have HO_7 := n0_; have HO285 := n1_; have HB := n2_; clear n0_ n1_ n2_; (try clear hb); (try clear hb2); (try clear hk); (try clear hi); (try clear ho0)) | ((with_reducible refine gate_callee (f := 18) rfl ?_); refine goesL_ (some 75) rfl rfl Try.func18 (by kernel_rfl) rfl #[] rfl (by (try simp only [List.map_toArray, List.map_cons, List.map_nil]); first | done | rfl | (simp only [List.length_drop, List.length_take]; rfl)) ?_; (with_reducible refine (headgatelaw04_alive.calls  true _ A55.out).mono ?_); rintro e w69 ⟨rfl, hb⟩; refine ⟨_, rfl, ?_⟩; have n0_ := Aside0.mk (Kd.R_below (by (with_reducible repeat (first | apply Kd.R_alloc | apply Kd.R_drewN | apply Kd.R_drew)); exact HO_7.out) hb); have n1_ := Aside0.mk (Kd.R_below (by (with_reducible repeat (first | apply Kd.R_alloc | apply Kd.R_drewN | apply Kd.R_drew)); exact HO285.out) hb); have n2_ := Aside0.mk (below_step (by repeat (first | (with_reducible first | exact HB.out | apply below_alloc | apply pw_below_drewN | apply below_drew1) | exact HB.out)) hb); clear HO_7; clear HO285; clear HB; have HO_7 := n0_; have HO285 := n1_; have HB := n2_; clear n0_ n1_ n2_; (try clear hb); (try clear hb2); (try clear hk); (try clear hi); obtain ⟨Ao70, co70, eo70⟩ := Kd.R_slice HO285.out; subst eo70))
                                go_ret
                                exact ⟨by first | rfl | (simp [errW_none, errW_some] <;> rfl) | (simp only [← hji17]; first | rfl | (simp [errW_none, errW_some] <;> rfl)) | (simp [*, errW_none, errW_some] <;> rfl), by repeat (first | (with_reducible first | exact HB.out | apply below_alloc | apply pw_below_drewN | apply below_drew1) | exact HB.out)⟩
                              · rw [if_neg c65] at H
                                have c65b0 : ((ji17) == 1) = false := beq_eq_false_iff_ne.mpr c65
                                have c65b1 : ((ji17) != 1) = true := bne_iff_ne.mpr c65
                                obtain rfl := Option.some.inj H
                                have p279 : 0 ≤ ((ji17) : Int) := of_decide_eq_true (by first | (with_reducible assumption) | assumption)
                                have q279 : (ji17) < (t274.length : Int) := of_decide_eq_true (by first | (with_reducible assumption) | assumption)
                                obtain ⟨ad279, e279, hx279_0⟩ := Kd.at_int (Kd.R_reads' HO_7.out).2.2 (ji17) p279 q279
                                cases e279
                                replace p279 := eq_true p279
                                replace q279 := eq_true q279
                                have p20 : 0 ≤ ((ji17) : Int) := of_decide_eq_true (by first | (with_reducible assumption) | assumption)
                                have q20 : ((ji17) : Int) < ((t274.length : Int) : Int) := of_decide_eq_true (by first | (with_reducible assumption) | assumption)
                                obtain ⟨go20, co20, eo20, gb20, gl20, cl20, HG20⟩ := Kd.R_form HO_7.out (by omega)
                                (first | cases eo20 | (injection eo20 with ea_ en_ ec_; (first | subst ea_ | (injection ea_ with ea_; subst ea_)); subst ec_; clear en_))
                                have GB20 := Aside0.mk gb20
                                have GG20 := Aside0.mk HG20
                                clear gb20 gl20 HG20
                                (first | simp only [add_plain] at hx279_0 | skip)
                                obtain ⟨hx20_0, hf20_0⟩ := Kd.R_celln 0 HO_7.out ((ji17) : Int) p20 q20
                                replace p20 := eq_true p20
                                replace q20 := eq_true q20
                                have HP71 := Kd.R_putg HO_7.out ((ji17) : Int) (Go.bits .xor .u8 (rd t274 (ji17)) a2)
                                go_wp2_with (first | ((with_reducible refine gate_store (t := 5) (p := 44) rfl ?_); refine store_event (t := 5) (p := 44) (v := ?vo_w72) (w1 := (wc.setCell ⟨go20, ((ji17) : Int).toNat, none⟩ (.int .u8 (Go.bits .xor .u8 (rd t274 (ji17)) a2)))) ?hg ?ho ?hn ?hr ?_; (case ho => rfl); (case hg => rfl); (case hn => rfl); (case hr => first | (go_simp; done) | (go_simp; rfl)); intro w72 hw; have hg : wc.grownBy w72 (some go20) := (by rw [hw]; exact HP71.2); have hp_ : Kd.R (Kd.int .u8) 5 w72 w.heap.size (fun _ => True) (.slice (some ⟨go20, 0, none⟩) t274.length co14) y280 := (by rw [hw, Ny280.out]; exact HP71.1); clear HP71; have n0_ := Aside0.mk (hp_); have n1_ := Aside0.mk ((by rw [hw]; exact below_set (HB.out) GB20.out : Below w.heap.size w w72)); clear HO_7; clear HB; have HO_7 := n0_; have HB := n1_; clear n0_ n1_; clear hg hw hp_) | ((with_reducible refine gate_callee (f := 22) rfl ?_); refine goesL_ (some 47) rfl rfl Try.func22 (by kernel_rfl) rfl #[.slice (some ⟨go20, 0, none⟩) y280.length co14] rfl (by (try simp only [List.map_toArray, List.map_cons, List.map_nil]); first | done | (rw [show y280.length = t274.length from (Kd.R_reads' HO_7.out).1.symm] <;> rfl) | rfl | (simp only [List.length_drop, List.length_take]; rfl)) ?_; (with_reducible refine (record_Take.calls kj12 _ _ y280 t281 t282 t283 _ ?side1 ?side2 A21.out).mono ?_); (case side1 => repeat (first | exact (Kd.R_reads' HO_7.out).2.2 | (with_reducible refine Kd.C_alloc ?_ _) | (with_reducible refine Kd.C_drewN ?_ _) | (with_reducible refine Kd.C_drew ?_))); (case side2 => rw [show y280.length = t274.length from (Kd.R_reads' HO_7.out).1.symm]; exact (Kd.R_reads' HO_7.out).2.1); rintro e w73 ⟨v284, rfl, ho0, hb⟩; refine ⟨_, rfl, ?_⟩; have n0_ := Aside0.mk (Kd.R_elder' (by (with_reducible repeat (first | apply Kd.R_alloc | apply Kd.R_drewN | apply Kd.R_drew)); exact HO_7.out) (Kd.R_base ho0) hb); have n1_ := Aside0.mk (Kd.R_lower (Kd.R_new' ho0 (Kd.R_lt (by (with_reducible repeat (first | apply Kd.R_alloc | apply Kd.R_drewN | apply Kd.R_drew)); exact HO_7.out))) (below_size (by repeat (first | (with_reducible first | exact HB.out | apply below_alloc | apply pw_below_drewN | apply below_drew1) | exact HB.out)))); have n2_ := Aside0.mk (below_step (by repeat (first | (with_reducible first | exact HB.out | apply below_alloc | apply pw_below_drewN | apply below_drew1) | exact HB.out)) hb); clear HO_7; clear HB; have HO_7 := n0_; have HO285 := n1_; have HB := n2_; clear n0_ n1_ n2_; (try clear hb); (try clear hb2); (try clear hk); (try clear hi); (try clear ho0)) | ((with_reducible refine gate_callee (f := 18) rfl ?_); refine goesL_ (some 75) rfl rfl Try.func18 (by kernel_rfl) rfl #[] rfl (by (try simp only [List.map_toArray, List.map_cons, List.map_nil]); first | done | rfl | (simp only [List.length_drop, List.length_take]; rfl)) ?_; (with_reducible refine (headgatelaw04_alive.calls  true _ A55.out).mono ?_); rintro e w74 ⟨rfl, hb⟩; refine ⟨_, rfl, ?_⟩; have n0_ := Aside0.mk (Kd.R_below (by (with_reducible repeat (first | apply Kd.R_alloc | apply Kd.R_drewN | apply Kd.R_drew)); exact HO_7.out) hb); have n1_ := Aside0.mk (Kd.R_below (by (with_reducible repeat (first | apply Kd.R_alloc | apply Kd.R_drewN | apply Kd.R_drew)); exact HO285.out) hb); have n2_ := Aside0.mk (below_step (by repeat (first | (with_reducible first | exact HB.out | apply below_alloc | apply pw_below_drewN | apply below_drew1) | exact HB.out)) hb); clear HO_7; clear HO285; clear HB; have HO_7 := n0_; have HO285 := n1_; have HB := n2_; clear n0_ n1_ n2_; (try clear hb); (try clear hb2); (try clear hk); (try clear hi); obtain ⟨Ao75, co75, eo75⟩ := Kd.R_slice HO285.out; subst eo75))
                                go_ret
                                exact ⟨by first | rfl | (simp [errW_none, errW_some] <;> rfl) | (simp only [← hji17]; first | rfl | (simp [errW_none, errW_some] <;> rfl)) | (simp [*, errW_none, errW_some] <;> rfl), by repeat (first | (with_reducible first | exact HB.out | apply below_alloc | apply pw_below_drewN | apply below_drew1) | exact HB.out)⟩
                          · rw [if_neg c58] at H
                            have c58b0 : (t282 == 0) = false := beq_eq_false_iff_ne.mpr c58
                            have c58b1 : (t282 != 0) = true := bne_iff_ne.mpr c58
                            obtain rfl := Option.some.inj H
                            have p279 : 0 ≤ ((ji17) : Int) := of_decide_eq_true (by first | (with_reducible assumption) | assumption)
                            have q279 : (ji17) < (t274.length : Int) := of_decide_eq_true (by first | (with_reducible assumption) | assumption)
                            obtain ⟨ad279, e279, hx279_0⟩ := Kd.at_int (Kd.R_reads' HO_7.out).2.2 (ji17) p279 q279
                            cases e279
                            replace p279 := eq_true p279
                            replace q279 := eq_true q279
                            have p20 : 0 ≤ ((ji17) : Int) := of_decide_eq_true (by first | (with_reducible assumption) | assumption)
                            have q20 : ((ji17) : Int) < ((t274.length : Int) : Int) := of_decide_eq_true (by first | (with_reducible assumption) | assumption)
                            obtain ⟨go20, co20, eo20, gb20, gl20, cl20, HG20⟩ := Kd.R_form HO_7.out (by omega)
                            (first | cases eo20 | (injection eo20 with ea_ en_ ec_; (first | subst ea_ | (injection ea_ with ea_; subst ea_)); subst ec_; clear en_))
                            have GB20 := Aside0.mk gb20
                            have GG20 := Aside0.mk HG20
                            clear gb20 gl20 HG20
                            (first | simp only [add_plain] at hx279_0 | skip)
                            obtain ⟨hx20_0, hf20_0⟩ := Kd.R_celln 0 HO_7.out ((ji17) : Int) p20 q20
                            replace p20 := eq_true p20
                            replace q20 := eq_true q20
                            have HP76 := Kd.R_putg HO_7.out ((ji17) : Int) (Go.bits .xor .u8 (rd t274 (ji17)) a2)
                            go_wp2_with (first | ((with_reducible refine gate_store (t := 5) (p := 44) rfl ?_); refine store_event (t := 5) (p := 44) (v := ?vo_w77) (w1 := (wc.setCell ⟨go20, ((ji17) : Int).toNat, none⟩ (.int .u8 (Go.bits .xor .u8 (rd t274 (ji17)) a2)))) ?hg ?ho ?hn ?hr ?_; (case ho => rfl); (case hg => rfl); (case hn => rfl); (case hr => first | (go_simp; done) | (go_simp; rfl)); intro w77 hw; have hg : wc.grownBy w77 (some go20) := (by rw [hw]; exact HP76.2); have hp_ : Kd.R (Kd.int .u8) 5 w77 w.heap.size (fun _ => True) (.slice (some ⟨go20, 0, none⟩) t274.length co14) y280 := (by rw [hw, Ny280.out]; exact HP76.1); clear HP76; have n0_ := Aside0.mk (hp_); have n1_ := Aside0.mk ((by rw [hw]; exact below_set (HB.out) GB20.out : Below w.heap.size w w77)); clear HO_7; clear HB; have HO_7 := n0_; have HB := n1_; clear n0_ n1_; clear hg hw hp_) | ((with_reducible refine gate_callee (f := 22) rfl ?_); refine goesL_ (some 47) rfl rfl Try.func22 (by kernel_rfl) rfl #[.slice (some ⟨go20, 0, none⟩) y280.length co14] rfl (by (try simp only [List.map_toArray, List.map_cons, List.map_nil]); first | done | (rw [show y280.length = t274.length from (Kd.R_reads' HO_7.out).1.symm] <;> rfl) | rfl | (simp only [List.length_drop, List.length_take]; rfl)) ?_; (with_reducible refine (record_Take.calls kj12 _ _ y280 t281 t282 t283 _ ?side1 ?side2 A21.out).mono ?_); (case side1 => repeat (first | exact (Kd.R_reads' HO_7.out).2.2 | (with_reducible refine Kd.C_alloc ?_ _) | (with_reducible refine Kd.C_drewN ?_ _) | (with_reducible refine Kd.C_drew ?_))); (case side2 => rw [show y280.length = t274.length from (Kd.R_reads' HO_7.out).1.symm]; exact (Kd.R_reads' HO_7.out).2.1); rintro e w78 ⟨v284, rfl, ho0, hb⟩; refine ⟨_, rfl, ?_⟩; have n0_ := Aside0.mk (Kd.R_elder' (by (with_reducible repeat (first | apply Kd.R_alloc | apply Kd.R_drewN | apply Kd.R_drew)); exact HO_7.out) (Kd.R_base ho0) hb); have n1_ := Aside0.mk (Kd.R_lower (Kd.R_new' ho0 (Kd.R_lt (by (with_reducible repeat (first | apply Kd.R_alloc | apply Kd.R_drewN | apply Kd.R_drew)); exact HO_7.out))) (below_size (by repeat (first | (with_reducible first | exact HB.out | apply below_alloc | apply pw_below_drewN | apply below_drew1) | exact HB.out)))); have n2_ := Aside0.mk (below_step (by repeat (first | (with_reducible first | exact HB.out | apply below_alloc | apply pw_below_drewN | apply below_drew1) | exact HB.out)) hb); clear HO_7; clear HB; have HO_7 := n0_; have HO285 := n1_; have HB := n2_; clear n0_ n1_ n2_; (try clear hb); (try clear hb2); (try clear hk); (try clear hi); (try clear ho0)) | ((with_reducible refine gate_callee (f := 18) rfl ?_); refine goesL_ (some 75) rfl rfl Try.func18 (by kernel_rfl) rfl #[] rfl (by (try simp only [List.map_toArray, List.map_cons, List.map_nil]); first | done | rfl | (simp only [List.length_drop, List.length_take]; rfl)) ?_; (with_reducible refine (headgatelaw04_alive.calls  true _ A55.out).mono ?_); rintro e w79 ⟨rfl, hb⟩; refine ⟨_, rfl, ?_⟩; have n0_ := Aside0.mk (Kd.R_below (by (with_reducible repeat (first | apply Kd.R_alloc | apply Kd.R_drewN | apply Kd.R_drew)); exact HO_7.out) hb); have n1_ := Aside0.mk (Kd.R_below (by (with_reducible repeat (first | apply Kd.R_alloc | apply Kd.R_drewN | apply Kd.R_drew)); exact HO285.out) hb); have n2_ := Aside0.mk (below_step (by repeat (first | (with_reducible first | exact HB.out | apply below_alloc | apply pw_below_drewN | apply below_drew1) | exact HB.out)) hb); clear HO_7; clear HO285; clear HB; have HO_7 := n0_; have HO285 := n1_; have HB := n2_; clear n0_ n1_ n2_; (try clear hb); (try clear hb2); (try clear hk); (try clear hi); obtain ⟨Ao80, co80, eo80⟩ := Kd.R_slice HO285.out; subst eo80))
                            go_ret
                            exact ⟨by first | rfl | (simp [errW_none, errW_some] <;> rfl) | (simp only [← hji17]; first | rfl | (simp [errW_none, errW_some] <;> rfl)) | (simp [*, errW_none, errW_some] <;> rfl), by repeat (first | (with_reducible first | exact HB.out | apply below_alloc | apply pw_below_drewN | apply below_drew1) | exact HB.out)⟩
                        · rw [if_neg c57] at H
                          have c57b0 : ((t281.length : Int) == 0) = false := beq_eq_false_iff_ne.mpr c57
                          have c57b1 : ((t281.length : Int) != 0) = true := bne_iff_ne.mpr c57
                          have c57b2 : ¬ (t281 = []) := fun h_ => c57 (by rw [h_]; rfl)
                          obtain rfl := Option.some.inj H
                          have p279 : 0 ≤ ((ji17) : Int) := of_decide_eq_true (by first | (with_reducible assumption) | assumption)
                          have q279 : (ji17) < (t274.length : Int) := of_decide_eq_true (by first | (with_reducible assumption) | assumption)
                          obtain ⟨ad279, e279, hx279_0⟩ := Kd.at_int (Kd.R_reads' HO_7.out).2.2 (ji17) p279 q279
                          cases e279
                          replace p279 := eq_true p279
                          replace q279 := eq_true q279
                          have p20 : 0 ≤ ((ji17) : Int) := of_decide_eq_true (by first | (with_reducible assumption) | assumption)
                          have q20 : ((ji17) : Int) < ((t274.length : Int) : Int) := of_decide_eq_true (by first | (with_reducible assumption) | assumption)
                          obtain ⟨go20, co20, eo20, gb20, gl20, cl20, HG20⟩ := Kd.R_form HO_7.out (by omega)
                          (first | cases eo20 | (injection eo20 with ea_ en_ ec_; (first | subst ea_ | (injection ea_ with ea_; subst ea_)); subst ec_; clear en_))
                          have GB20 := Aside0.mk gb20
                          have GG20 := Aside0.mk HG20
                          clear gb20 gl20 HG20
                          (first | simp only [add_plain] at hx279_0 | skip)
                          obtain ⟨hx20_0, hf20_0⟩ := Kd.R_celln 0 HO_7.out ((ji17) : Int) p20 q20
                          replace p20 := eq_true p20
                          replace q20 := eq_true q20
                          have HP81 := Kd.R_putg HO_7.out ((ji17) : Int) (Go.bits .xor .u8 (rd t274 (ji17)) a2)
                          go_wp2_with (first | ((with_reducible refine gate_store (t := 5) (p := 44) rfl ?_); refine store_event (t := 5) (p := 44) (v := ?vo_w82) (w1 := (wc.setCell ⟨go20, ((ji17) : Int).toNat, none⟩ (.int .u8 (Go.bits .xor .u8 (rd t274 (ji17)) a2)))) ?hg ?ho ?hn ?hr ?_; (case ho => rfl); (case hg => rfl); (case hn => rfl); (case hr => first | (go_simp; done) | (go_simp; rfl)); intro w82 hw; have hg : wc.grownBy w82 (some go20) := (by rw [hw]; exact HP81.2); have hp_ : Kd.R (Kd.int .u8) 5 w82 w.heap.size (fun _ => True) (.slice (some ⟨go20, 0, none⟩) t274.length co14) y280 := (by rw [hw, Ny280.out]; exact HP81.1); clear HP81; have n0_ := Aside0.mk (hp_); have n1_ := Aside0.mk ((by rw [hw]; exact below_set (HB.out) GB20.out : Below w.heap.size w w82)); clear HO_7; clear HB; have HO_7 := n0_; have HB := n1_; clear n0_ n1_; clear hg hw hp_) | ((with_reducible refine gate_callee (f := 22) rfl ?_); refine goesL_ (some 47) rfl rfl Try.func22 (by kernel_rfl) rfl #[.slice (some ⟨go20, 0, none⟩) y280.length co14] rfl (by (try simp only [List.map_toArray, List.map_cons, List.map_nil]); first | done | (rw [show y280.length = t274.length from (Kd.R_reads' HO_7.out).1.symm] <;> rfl) | rfl | (simp only [List.length_drop, List.length_take]; rfl)) ?_; (with_reducible refine (record_Take.calls kj12 _ _ y280 t281 t282 t283 _ ?side1 ?side2 A21.out).mono ?_); (case side1 => repeat (first | exact (Kd.R_reads' HO_7.out).2.2 | (with_reducible refine Kd.C_alloc ?_ _) | (with_reducible refine Kd.C_drewN ?_ _) | (with_reducible refine Kd.C_drew ?_))); (case side2 => rw [show y280.length = t274.length from (Kd.R_reads' HO_7.out).1.symm]; exact (Kd.R_reads' HO_7.out).2.1); rintro e w83 ⟨v284, rfl, ho0, hb⟩; refine ⟨_, rfl, ?_⟩; have n0_ := Aside0.mk (Kd.R_elder' (by (with_reducible repeat (first | apply Kd.R_alloc | apply Kd.R_drewN | apply Kd.R_drew)); exact HO_7.out) (Kd.R_base ho0) hb); have n1_ := Aside0.mk (Kd.R_lower (Kd.R_new' ho0 (Kd.R_lt (by (with_reducible repeat (first | apply Kd.R_alloc | apply Kd.R_drewN | apply Kd.R_drew)); exact HO_7.out))) (below_size (by repeat (first | (with_reducible first | exact HB.out | apply below_alloc | apply pw_below_drewN | apply below_drew1) | exact HB.out)))); have n2_ := Aside0.mk (below_step (by repeat (first | (with_reducible first | exact HB.out | apply below_alloc | apply pw_below_drewN | apply below_drew1) | exact HB.out)) hb); clear HO_7; clear HB; have HO_7 := n0_; have HO285 := n1_; have HB := n2_; clear n0_ n1_ n2_; (try clear hb); (try clear hb2); (try clear hk); (try clear hi); (try clear ho0)) | ((with_reducible refine gate_callee (f := 18) rfl ?_); refine goesL_ (some 75) rfl rfl Try.func18 (by kernel_rfl) rfl #[] rfl (by (try simp only [List.map_toArray, List.map_cons, List.map_nil]); first | done | rfl | (simp only [List.length_drop, List.length_take]; rfl)) ?_; (with_reducible refine (headgatelaw04_alive.calls  true _ A55.out).mono ?_); rintro e w84 ⟨rfl, hb⟩; refine ⟨_, rfl, ?_⟩; have n0_ := Aside0.mk (Kd.R_below (by (with_reducible repeat (first | apply Kd.R_alloc | apply Kd.R_drewN | apply Kd.R_drew)); exact HO_7.out) hb); have n1_ := Aside0.mk (Kd.R_below (by (with_reducible repeat (first | apply Kd.R_alloc | apply Kd.R_drewN | apply Kd.R_drew)); exact HO285.out) hb); have n2_ := Aside0.mk (below_step (by repeat (first | (with_reducible first | exact HB.out | apply below_alloc | apply pw_below_drewN | apply below_drew1) | exact HB.out)) hb); clear HO_7; clear HO285; clear HB; have HO_7 := n0_; have HO285 := n1_; have HB := n2_; clear n0_ n1_ n2_; (try clear hb); (try clear hb2); (try clear hk); (try clear hi); obtain ⟨Ao85, co85, eo85⟩ := Kd.R_slice HO285.out; subst eo85))
                          go_ret
                          exact ⟨by first | rfl | (simp [errW_none, errW_some] <;> rfl) | (simp only [← hji17]; first | rfl | (simp [errW_none, errW_some] <;> rfl)) | (simp [*, errW_none, errW_some] <;> rfl), by repeat (first | (with_reducible first | exact HB.out | apply below_alloc | apply pw_below_drewN | apply below_drew1) | exact HB.out)⟩
                      · replace c56 := Bool.eq_false_iff.mpr c56
                        subst c56
                        have H1 : (some false) = some r := by rw [if_neg (show ¬ (false = true) by decide)] at H; exact H
                        clear H
                        have H := H1
                        clear H1
                        obtain rfl := Option.some.inj H
                        have p279 : 0 ≤ ((ji17) : Int) := of_decide_eq_true (by first | (with_reducible assumption) | assumption)
                        have q279 : (ji17) < (t274.length : Int) := of_decide_eq_true (by first | (with_reducible assumption) | assumption)
                        obtain ⟨ad279, e279, hx279_0⟩ := Kd.at_int (Kd.R_reads' HO_7.out).2.2 (ji17) p279 q279
                        cases e279
                        replace p279 := eq_true p279
                        replace q279 := eq_true q279
                        have p20 : 0 ≤ ((ji17) : Int) := of_decide_eq_true (by first | (with_reducible assumption) | assumption)
                        have q20 : ((ji17) : Int) < ((t274.length : Int) : Int) := of_decide_eq_true (by first | (with_reducible assumption) | assumption)
                        obtain ⟨go20, co20, eo20, gb20, gl20, cl20, HG20⟩ := Kd.R_form HO_7.out (by omega)
                        (first | cases eo20 | (injection eo20 with ea_ en_ ec_; (first | subst ea_ | (injection ea_ with ea_; subst ea_)); subst ec_; clear en_))
                        have GB20 := Aside0.mk gb20
                        have GG20 := Aside0.mk HG20
                        clear gb20 gl20 HG20
                        (first | simp only [add_plain] at hx279_0 | skip)
                        obtain ⟨hx20_0, hf20_0⟩ := Kd.R_celln 0 HO_7.out ((ji17) : Int) p20 q20
                        replace p20 := eq_true p20
                        replace q20 := eq_true q20
                        have HP86 := Kd.R_putg HO_7.out ((ji17) : Int) (Go.bits .xor .u8 (rd t274 (ji17)) a2)
                        go_wp2_with (first | ((with_reducible refine gate_store (t := 5) (p := 44) rfl ?_); refine store_event (t := 5) (p := 44) (v := ?vo_w87) (w1 := (wc.setCell ⟨go20, ((ji17) : Int).toNat, none⟩ (.int .u8 (Go.bits .xor .u8 (rd t274 (ji17)) a2)))) ?hg ?ho ?hn ?hr ?_; (case ho => rfl); (case hg => rfl); (case hn => rfl); (case hr => first | (go_simp; done) | (go_simp; rfl)); intro w87 hw; have hg : wc.grownBy w87 (some go20) := (by rw [hw]; exact HP86.2); have hp_ : Kd.R (Kd.int .u8) 5 w87 w.heap.size (fun _ => True) (.slice (some ⟨go20, 0, none⟩) t274.length co14) y280 := (by rw [hw, Ny280.out]; exact HP86.1); clear HP86; have n0_ := Aside0.mk (hp_); have n1_ := Aside0.mk ((by rw [hw]; exact below_set (HB.out) GB20.out : Below w.heap.size w w87)); clear HO_7; clear HB; have HO_7 := n0_; have HB := n1_; clear n0_ n1_; clear hg hw hp_) | ((with_reducible refine gate_callee (f := 22) rfl ?_); refine goesL_ (some 47) rfl rfl Try.func22 (by kernel_rfl) rfl #[.slice (some ⟨go20, 0, none⟩) y280.length co14] rfl (by (try simp only [List.map_toArray, List.map_cons, List.map_nil]); first | done | (rw [show y280.length = t274.length from (Kd.R_reads' HO_7.out).1.symm] <;> rfl) | rfl | (simp only [List.length_drop, List.length_take]; rfl)) ?_; (with_reducible refine (record_Take.calls kj12 _ _ y280 t281 t282 t283 _ ?side1 ?side2 A21.out).mono ?_); (case side1 => repeat (first | exact (Kd.R_reads' HO_7.out).2.2 | (with_reducible refine Kd.C_alloc ?_ _) | (with_reducible refine Kd.C_drewN ?_ _) | (with_reducible refine Kd.C_drew ?_))); (case side2 => rw [show y280.length = t274.length from (Kd.R_reads' HO_7.out).1.symm]; exact (Kd.R_reads' HO_7.out).2.1); rintro e w88 ⟨v284, rfl, ho0, hb⟩; refine ⟨_, rfl, ?_⟩; have n0_ := Aside0.mk (Kd.R_elder' (by (with_reducible repeat (first | apply Kd.R_alloc | apply Kd.R_drewN | apply Kd.R_drew)); exact HO_7.out) (Kd.R_base ho0) hb); have n1_ := Aside0.mk (Kd.R_lower (Kd.R_new' ho0 (Kd.R_lt (by (with_reducible repeat (first | apply Kd.R_alloc | apply Kd.R_drewN | apply Kd.R_drew)); exact HO_7.out))) (below_size (by repeat (first | (with_reducible first | exact HB.out | apply below_alloc | apply pw_below_drewN | apply below_drew1) | exact HB.out)))); have n2_ := Aside0.mk (below_step (by repeat (first | (with_reducible first | exact HB.out | apply below_alloc | apply pw_below_drewN | apply below_drew1) | exact HB.out)) hb); clear HO_7; clear HB; have HO_7 := n0_; have HO285 := n1_; have HB := n2_; clear n0_ n1_ n2_; (try clear hb); (try clear hb2); (try clear hk); (try clear hi); (try clear ho0)) | ((with_reducible refine gate_callee (f := 18) rfl ?_); refine goesL_ (some 75) rfl rfl Try.func18 (by kernel_rfl) rfl #[] rfl (by (try simp only [List.map_toArray, List.map_cons, List.map_nil]); first | done | rfl | (simp only [List.length_drop, List.length_take]; rfl)) ?_; (with_reducible refine (headgatelaw04_alive.calls  false _ A55.out).mono ?_); rintro e w89 ⟨rfl, hb⟩; refine ⟨_, rfl, ?_⟩; have n0_ := Aside0.mk (Kd.R_below (by (with_reducible repeat (first | apply Kd.R_alloc | apply Kd.R_drewN | apply Kd.R_drew)); exact HO_7.out) hb); have n1_ := Aside0.mk (Kd.R_below (by (with_reducible repeat (first | apply Kd.R_alloc | apply Kd.R_drewN | apply Kd.R_drew)); exact HO285.out) hb); have n2_ := Aside0.mk (below_step (by repeat (first | (with_reducible first | exact HB.out | apply below_alloc | apply pw_below_drewN | apply below_drew1) | exact HB.out)) hb); clear HO_7; clear HO285; clear HB; have HO_7 := n0_; have HO285 := n1_; have HB := n2_; clear n0_ n1_ n2_; (try clear hb); (try clear hb2); (try clear hk); (try clear hi)))
                        go_ret
                        exact ⟨by first | rfl | (simp [errW_none, errW_some] <;> rfl) | (simp only [← hji17]; first | rfl | (simp [errW_none, errW_some] <;> rfl)) | (simp [*, errW_none, errW_some] <;> rfl), by repeat (first | (with_reducible first | exact HB.out | apply below_alloc | apply pw_below_drewN | apply below_drew1) | exact HB.out)⟩
                  · rw [if_neg c19] at H
                    exact absurd H (by simp)
                · rw [if_neg c18] at H
                  exact absurd H (by simp)

/-- THE ONE PURE STATEMENT of headgatelaw04_RecordByte: yours. -/
def headgatelaw04_RecordByte.Pure : Prop := ∀ (l0 : List Int) (a1 : Int) (a2 : Int), l0.length ≤ maxLen → l0.length * 1 ≤ 140737488351232 → (∀ x ∈ l0, (Lit.int .u8 x).wf = true) → (Lit.int .i64 a1).wf = true → (Lit.int .u8 a2).wf = true → ∃ k, headgatelaw04_RecordByte.f k l0 a1 a2 = some true
theorem headgatelaw04_RecordByte.walk (P : headgatelaw04_RecordByte.Pure) (a0 : Option Addr) (len0 cap0 : Nat) (z0 : List Int) (a1 : Int) (a2 : Int) (w : World) (w0 : (a0 = none ∧ len0 = 0 ∧ cap0 = 0 ∧ z0 = []) ∨ ∃ x, a0 = some x ∧ len0 ≤ cap0 ∧ cap0 ≤ maxLen ∧ z0.length = cap0 ∧ (∀ i, i < z0.length → w.cell? (x.add i) = some (.int .u8 (z0.getD i 0))) ∧ ∀ n ∈ z0, (Lit.int .u8 n).wf = true) (y0 : len0 * 1 ≤ 140737488351232) (w1 : (Lit.int .i64 a1).wf = true) (w2 : (Lit.int .u8 a2).wf = true) :
    Calls Try.prog 9 #[.slice a0 len0 cap0, .int .i64 a1, .int .u8 a2] w fun e w' => e = .returned (.bool true) ∧ Below w.heap.size w w' := by
  obtain ⟨l0, rfl, hr0, hm0, hw0, hc0⟩ := ReadsInt.ofRowC w0
  obtain ⟨k, h⟩ := P l0 a1 a2 hm0 y0 hw0 w1 w2
  refine (headgatelaw04_RecordByte.calls k _ _ l0 a1 a2 true w (Kd.C_of_reads (d := (0 : Int)) (h1 := fun _ => rfl) hr0) hc0 h).mono ?_
  rintro e w' ⟨rfl, hd⟩
  exact ⟨rfl, hd⟩

end Go.Proofs.Ytmchfjieafffbaa.Print
