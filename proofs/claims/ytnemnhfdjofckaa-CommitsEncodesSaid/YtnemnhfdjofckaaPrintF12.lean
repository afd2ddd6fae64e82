-- written by hgprint.py (this work's own call of the kit's printer, with texts of its own for some functions)
import Derived.Test.YtnemnhfdjofckaaPrint0
namespace Go.Proofs.Ytnemnhfdjofckaa.Print
open Go.RowKit Go.Proofs.YtnemnhfdjofckaaW.PrintWords Go.Proofs.YtnemnhfdjofckaaW.PrintLast Go.Proofs.YtnemnhfdjofckaaW.PrintMore
attribute [local go_sem] Go.Proofs.Ytnemnhfdjofckaa.Goto.Jumps_ret Go.Proofs.Ytnemnhfdjofckaa.Goto.Jumps_normal Go.Proofs.Ytnemnhfdjofckaa.Goto.Jumps_exit Go.Proofs.Ytnemnhfdjofckaa.Goto.Jumps_panic Go.Proofs.Ytnemnhfdjofckaa.Goto.Jumps_outgrown max2_int min2_int max_two min_two max_three min_three max_four min_four   -- for this text's walks alone
open Go.Proofs.YtnemnhfdjofckaaW.PrintWords Go.Proofs.Ytnemnhfdjofckaa
set_option linter.unusedVariables false
set_option linter.unusedSimpArgs false

/-! ### headgateref20_Same: function 12 -/
def headgateref20_Same.l0 : Nat → List (List Int) → List (List Int) → Int → Option (Bool)
  | 0, _, _, _ => none
  | k + 1, x0, x1, x5 => if x5 < (x0.length : Int) then (if 0 ≤ x5 then (if x5 < (x1.length : Int) then (if (strOfNums (rd_L5 x0 x5)).toList = (strOfNums (rd_L5 x1 x5)).toList then (headgateref20_Same.l0 k x0 x1 (wrap64 (x5 + 1))) else (some false)) else (none)) else (none)) else (some true)
def headgateref20_Same.f (k : Nat) (l0 : List (List Int)) (l1 : List (List Int)) : Option (Bool) := if (l0.length : Int) = (l1.length : Int) then (headgateref20_Same.l0 k l0 l1 0) else (some false)
theorem headgateref20_Same.mono_l : ∀ k, (∀ y0 y1 y2, LeO (headgateref20_Same.l0 k y0 y1 y2) (headgateref20_Same.l0 (k + 1) y0 y1 y2))
  | 0 => fun _ _ _ r h => by simp [headgateref20_Same.l0] at h
  | k + 1 => by
    have ih0 := headgateref20_Same.mono_l k
    · intro y0 y1 y2
      unfold headgateref20_Same.l0
      repeat' first
      | (with_reducible exact ih0 _ _ _)
      | (with_reducible exact LeO.refl _)
      | (with_reducible exact LeO.none _)
      | (with_reducible refine LeO.ite ?_ ?_)
      | (with_reducible refine LeO.bind ?_ (fun _ => ?_))
      | exact ih0 _ _ _
      | exact LeO.none _
      | refine LeO.ite ?_ ?_
      | refine LeO.bind ?_ (fun _ => ?_)
theorem headgateref20_Same.mono : ∀ a0 a1 k, LeO (headgateref20_Same.f k a0 a1) (headgateref20_Same.f (k + 1) a0 a1) := by
  intro a0 a1 k
  have ih0 := headgateref20_Same.mono_l k
  unfold headgateref20_Same.f
  repeat' first
      | (with_reducible exact ih0 _ _ _)
      | (with_reducible exact LeO.refl _)
      | (with_reducible exact LeO.none _)
      | (with_reducible refine LeO.ite ?_ ?_)
      | (with_reducible refine LeO.bind ?_ (fun _ => ?_))
      | exact ih0 _ _ _
      | exact LeO.none _
      | refine LeO.ite ?_ ?_
      | refine LeO.bind ?_ (fun _ => ?_)
set_option maxHeartbeats 8000000 in
set_option maxRecDepth 100000 in
theorem headgateref20_Same.calls (k : Nat) (A0 : Option Addr) (c0 : Nat) (l0 : List (List Int)) (A1 : Option Addr) (c1 : Nat) (l1 : List (List Int)) (r : Bool) (w : World) (hr0 : Kd.C (Kd.slice 5 (Kd.int .u8)) w A0 l0.length l0) (hc0 : l0.length ≤ c0) (hr1 : Kd.C (Kd.slice 5 (Kd.int .u8)) w A1 l1.length l1) (hc1 : l1.length ≤ c1) (h : headgateref20_Same.f k l0 l1 = some r) :
    Calls Try.prog 12 #[.slice A0 l0.length c0, .slice A1 l1.length c1] w fun e w' => e = .returned (.bool r) ∧ Drawn0 w w' := by
  have HR0 := Aside0.mk hr0
  have HC0 := Aside0.mk hc0
  clear hr0 hc0
  have HR1 := Aside0.mk hr1
  have HC1 := Aside0.mk hc1
  clear hr1 hc1
  have H : (if (l0.length : Int) = (l1.length : Int) then (headgateref20_Same.l0 k l0 l1 0) else (some false)) = some r := h
  clear h
  by_cases c3 : (l0.length : Int) = (l1.length : Int)
  · rw [if_pos c3] at H
    have c3b0 : ((l0.length : Int) == (l1.length : Int)) = true := beq_iff_eq.mpr c3
    have c3b1 : ((l0.length : Int) != (l1.length : Int)) = false := bne_eq_false_iff_eq.mpr c3
    have c3b2 : (l0.length == l1.length) = true := by first | simpa using c3 | (simp at c3 ⊢; omega)
    clear c3
    have H' := Aside0.mk H
    clear H
    go_enter Try.func12, Try.ntmps12
    go_wp2
    repeat (go_quiet (fail); try go_wp2)
    go_loopg [5] k (fun kq v5 w' => ∃ (x5_1 : Int), v5 = .int .i64 x5_1 ∧ Aside0 (headgateref20_Same.l0 kq l0 l1 x5_1 = some r) ∧ Aside0 (kq ≤ k) ∧ Drawn0 w w')
    case atStart => exact ⟨(0), (by first | rfl | (simp; done) | (simp [*]; done)), H', ⟨Nat.le_refl _⟩, by repeat (first | exact Drawn0.refl _ | apply Drawn0.step)⟩
    case round =>
      clear H'
      try clear c1
      try clear p2
      try clear c3
      try clear c3b0
      try clear c3b1
      try clear c3b2
      obtain ⟨x5_1, rfl, HA, HK1, ⟨m1, rfl⟩⟩ := hrel
      cases gk with
      | zero => exact absurd HA.out (by simp [headgateref20_Same.l0])
      | succ k1 =>
        have H := HA.out
        clear HA
        simp only [headgateref20_Same.l0] at H
        by_cases c4 : x5_1 < (l0.length : Int)
        · rw [if_pos c4] at H
          have c4b0 : decide (x5_1 < (l0.length : Int)) = true := decide_eq_true c4
          clear c4
          by_cases c5 : 0 ≤ x5_1
          · rw [if_pos c5] at H
            have c5b0 : decide (0 ≤ x5_1) = true := decide_eq_true c5
            clear c5
            by_cases c6 : x5_1 < (l1.length : Int)
            · rw [if_pos c6] at H
              have c6b0 : decide (x5_1 < (l1.length : Int)) = true := decide_eq_true c6
              clear c6
              by_cases c7 : (strOfNums (rd_L5 l0 x5_1)).toList = (strOfNums (rd_L5 l1 x5_1)).toList
              · rw [if_pos c7] at H
                have c7b0 : ((strOfNums (rd_L5 l0 x5_1)).toList == (strOfNums (rd_L5 l1 x5_1)).toList) = true := beq_iff_eq.mpr c7
                have c7b1 : ((strOfNums (rd_L5 l0 x5_1)).toList != (strOfNums (rd_L5 l1 x5_1)).toList) = false := bne_eq_false_iff_eq.mpr c7
                clear c7
                have H' := Aside0.mk H
                clear H
                have p211 : 0 ≤ (x5_1 : Int) := of_decide_eq_true (by first | (with_reducible assumption) | assumption)
                have q211 : x5_1 < (l0.length : Int) := of_decide_eq_true (by first | (with_reducible assumption) | assumption)
                obtain ⟨ad211, A211_0, c211_0, e211, hx211_0, hl211_0, hi211_0⟩ := at_L5 HR0.out x5_1 p211 q211
                cases e211
                have HR211_0 := Aside0.mk hi211_0
                have HC211_0 := Aside0.mk hl211_0
                clear hi211_0 hl211_0
                replace p211 := eq_true p211
                replace q211 := eq_true q211
                have hcv8 := Kd.C_string (P := Try.prog) (A := A211_0) (c := c211_0) Try.underlying38 Try.underlying5 Try.underlying9 HR211_0.out
                have hcw9 := fun m_ => Kd.C_string (P := Try.prog) (A := A211_0) (c := c211_0) Try.underlying38 Try.underlying5 Try.underlying9 (Kd.C_drewN HR211_0.out m_)
                have p212 : 0 ≤ (x5_1 : Int) := of_decide_eq_true (by first | (with_reducible assumption) | assumption)
                have q212 : x5_1 < (l1.length : Int) := of_decide_eq_true (by first | (with_reducible assumption) | assumption)
                obtain ⟨ad212, A212_0, c212_0, e212, hx212_0, hl212_0, hi212_0⟩ := at_L5 HR1.out x5_1 p212 q212
                cases e212
                have HR212_0 := Aside0.mk hi212_0
                have HC212_0 := Aside0.mk hl212_0
                clear hi212_0 hl212_0
                replace p212 := eq_true p212
                replace q212 := eq_true q212
                have hcv10 := Kd.C_string (P := Try.prog) (A := A212_0) (c := c212_0) Try.underlying38 Try.underlying5 Try.underlying9 HR212_0.out
                have hcw11 := fun m_ => Kd.C_string (P := Try.prog) (A := A212_0) (c := c212_0) Try.underlying38 Try.underlying5 Try.underlying9 (Kd.C_drewN HR212_0.out m_)
                go_wp2
                repeat (go_quiet (fail); try go_wp2)
                go_roundg k1
                case measure => have := HK1.out; omega
                case rel => exact ⟨(wrap64 (x5_1 + 1)), (by first | rfl | (simp; done) | (simp [*]; done)), H', ⟨by have := HK1.out; omega⟩, by repeat (first | exact Drawn0.refl _ | apply Drawn0.step)⟩
              · rw [if_neg c7] at H
                have c7b0 : ((strOfNums (rd_L5 l0 x5_1)).toList == (strOfNums (rd_L5 l1 x5_1)).toList) = false := beq_eq_false_iff_ne.mpr c7
                have c7b1 : ((strOfNums (rd_L5 l0 x5_1)).toList != (strOfNums (rd_L5 l1 x5_1)).toList) = true := bne_iff_ne.mpr c7
                obtain rfl := Option.some.inj H
                have p211 : 0 ≤ (x5_1 : Int) := of_decide_eq_true (by first | (with_reducible assumption) | assumption)
                have q211 : x5_1 < (l0.length : Int) := of_decide_eq_true (by first | (with_reducible assumption) | assumption)
                obtain ⟨ad211, A211_0, c211_0, e211, hx211_0, hl211_0, hi211_0⟩ := at_L5 HR0.out x5_1 p211 q211
                cases e211
                have HR211_0 := Aside0.mk hi211_0
                have HC211_0 := Aside0.mk hl211_0
                clear hi211_0 hl211_0
                replace p211 := eq_true p211
                replace q211 := eq_true q211
                have hcv12 := Kd.C_string (P := Try.prog) (A := A211_0) (c := c211_0) Try.underlying38 Try.underlying5 Try.underlying9 HR211_0.out
                have hcw13 := fun m_ => Kd.C_string (P := Try.prog) (A := A211_0) (c := c211_0) Try.underlying38 Try.underlying5 Try.underlying9 (Kd.C_drewN HR211_0.out m_)
                have p212 : 0 ≤ (x5_1 : Int) := of_decide_eq_true (by first | (with_reducible assumption) | assumption)
                have q212 : x5_1 < (l1.length : Int) := of_decide_eq_true (by first | (with_reducible assumption) | assumption)
                obtain ⟨ad212, A212_0, c212_0, e212, hx212_0, hl212_0, hi212_0⟩ := at_L5 HR1.out x5_1 p212 q212
                cases e212
                have HR212_0 := Aside0.mk hi212_0
                have HC212_0 := Aside0.mk hl212_0
                clear hi212_0 hl212_0
                replace p212 := eq_true p212
                replace q212 := eq_true q212
                have hcv14 := Kd.C_string (P := Try.prog) (A := A212_0) (c := c212_0) Try.underlying38 Try.underlying5 Try.underlying9 HR212_0.out
                have hcw15 := fun m_ => Kd.C_string (P := Try.prog) (A := A212_0) (c := c212_0) Try.underlying38 Try.underlying5 Try.underlying9 (Kd.C_drewN HR212_0.out m_)
                go_wp2
                repeat (go_quiet (fail); try go_wp2)
                go_ret
                exact ⟨by first | rfl | (simp; done) | (simp [*]; done), by repeat (first | exact Drawn0.refl _ | apply Drawn0.step)⟩
            · rw [if_neg c6] at H
              exact absurd H (by simp)
          · rw [if_neg c5] at H
            exact absurd H (by simp)
        · rw [if_neg c4] at H
          have c4b0 : decide (x5_1 < (l0.length : Int)) = false := decide_eq_false c4
          clear c4
          obtain rfl := Option.some.inj H
          go_wp2
          repeat (go_quiet (fail); try go_wp2)
          go_ret
          exact ⟨by first | rfl | (simp; done) | (simp [*]; done), by repeat (first | exact Drawn0.refl _ | apply Drawn0.step)⟩
  · rw [if_neg c3] at H
    have c3b0 : ((l0.length : Int) == (l1.length : Int)) = false := beq_eq_false_iff_ne.mpr c3
    have c3b1 : ((l0.length : Int) != (l1.length : Int)) = true := bne_iff_ne.mpr c3
    have c3b2 : (l0.length == l1.length) = false := by first | simpa using c3 | (simp at c3 ⊢; omega)
    obtain rfl := Option.some.inj H
    go_enter Try.func12, Try.ntmps12
    go_wp2
    repeat (go_quiet (fail); try go_wp2)
    go_ret
    exact ⟨by first | rfl | (simp; done) | (simp [*]; done), by repeat (first | exact Drawn0.refl _ | apply Drawn0.step)⟩

end Go.Proofs.Ytnemnhfdjofckaa.Print
