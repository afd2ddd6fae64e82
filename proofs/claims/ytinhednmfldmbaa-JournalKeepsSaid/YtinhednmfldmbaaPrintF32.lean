-- written by hgprint.py (this work's own call of the kit's printer, with texts of its own for some functions)
import Derived.Test.YtinhednmfldmbaaPrint0
namespace Go.Proofs.Ytinhednmfldmbaa.Print
open Go.RowKit Go.Proofs.YtinhednmfldmbaaW.PrintWords Go.Proofs.YtinhednmfldmbaaW.PrintLast Go.Proofs.YtinhednmfldmbaaW.PrintMore
attribute [local go_sem] Go.Proofs.Ytinhednmfldmbaa.Goto.Jumps_ret Go.Proofs.Ytinhednmfldmbaa.Goto.Jumps_normal Go.Proofs.Ytinhednmfldmbaa.Goto.Jumps_exit Go.Proofs.Ytinhednmfldmbaa.Goto.Jumps_panic Go.Proofs.Ytinhednmfldmbaa.Goto.Jumps_outgrown max2_int min2_int max_two min_two max_three min_three max_four min_four   -- for this text's walks alone
open Go.Proofs.YtinhednmfldmbaaW.PrintWords Go.Proofs.Ytinhednmfldmbaa
set_option linter.unusedVariables false
set_option linter.unusedSimpArgs false

/-! ### headgatelaw05_strange: function 32 -/
def headgatelaw05_strange.l0 : Nat → List (List Int) → List (List Int) → Int → Option (Bool)
  | 0, _, _, _ => none
  | k + 1, x0, x1, x5 => if x5 < (x0.length : Int) then (if x5 ≥ (x1.length : Int) then (some true) else (if 0 ≤ x5 then (if x5 < (x1.length : Int) then (if (strOfNums (rd_L1 x0 x5)).toList = (strOfNums (rd_L1 x1 x5)).toList then (headgatelaw05_strange.l0 k x0 x1 (wrap64 (x5 + 1))) else (some true)) else (none)) else (none))) else (some false)
def headgatelaw05_strange.f (k : Nat) (l0 : List (List Int)) (l1 : List (List Int)) : Option (Bool) := headgatelaw05_strange.l0 k l0 l1 0
theorem headgatelaw05_strange.mono_l : ∀ k, (∀ y0 y1 y2, LeO (headgatelaw05_strange.l0 k y0 y1 y2) (headgatelaw05_strange.l0 (k + 1) y0 y1 y2))
  | 0 => fun _ _ _ r h => by simp [headgatelaw05_strange.l0] at h
  | k + 1 => by
    have ih0 := headgatelaw05_strange.mono_l k
    · intro y0 y1 y2
      unfold headgatelaw05_strange.l0
      repeat' first
      | (with_reducible exact ih0 _ _ _)
      | (with_reducible exact LeO.refl _)
      | (with_reducible exact LeO.none _)
      | (with_reducible refine LeO.ite ?_ ?_)
      | (with_reducible refine LeO.bind ?_ (fun _ => ?_))
      | exact ih0 _ _ _
      | exact LeO.none _
      | refine LeO.ite ?_ ?_
      | refine LeO.bind ?_ (fun _ => ?_)
theorem headgatelaw05_strange.mono : ∀ a0 a1 k, LeO (headgatelaw05_strange.f k a0 a1) (headgatelaw05_strange.f (k + 1) a0 a1) := by
  intro a0 a1 k
  have ih0 := headgatelaw05_strange.mono_l k
  unfold headgatelaw05_strange.f
  repeat' first
      | (with_reducible exact ih0 _ _ _)
      | (with_reducible exact LeO.refl _)
      | (with_reducible exact LeO.none _)
      | (with_reducible refine LeO.ite ?_ ?_)
      | (with_reducible refine LeO.bind ?_ (fun _ => ?_))
      | exact ih0 _ _ _
      | exact LeO.none _
      | refine LeO.ite ?_ ?_
      | refine LeO.bind ?_ (fun _ => ?_)
set_option maxHeartbeats 8000000 in
set_option maxRecDepth 100000 in
theorem headgatelaw05_strange.calls (k : Nat) (A0 : Option Addr) (c0 : Nat) (l0 : List (List Int)) (A1 : Option Addr) (c1 : Nat) (l1 : List (List Int)) (r : Bool) (w : World) (hr0 : Kd.C (Kd.slice 5 (Kd.int .u8)) w A0 l0.length l0) (hc0 : l0.length ≤ c0) (hr1 : Kd.C (Kd.slice 5 (Kd.int .u8)) w A1 l1.length l1) (hc1 : l1.length ≤ c1) (h : headgatelaw05_strange.f k l0 l1 = some r) :
    Calls Try.prog 32 #[.slice A0 l0.length c0, .slice A1 l1.length c1] w fun e w' => e = .returned (.bool r) ∧ Drawn0 w w' := by
  have HR0 := Aside0.mk hr0
  have HC0 := Aside0.mk hc0
  clear hr0 hc0
  have HR1 := Aside0.mk hr1
  have HC1 := Aside0.mk hc1
  clear hr1 hc1
  have H : (headgatelaw05_strange.l0 k l0 l1 0) = some r := h
  clear h
  have H' := Aside0.mk H
  clear H
  go_enter Try.func32, Try.ntmps32
  go_wp2
  repeat (go_quiet (fail); try go_wp2)
  go_loopg [5] k (fun kq v5 w' => ∃ (x5_1 : Int), v5 = .int .i64 x5_1 ∧ Aside0 (headgatelaw05_strange.l0 kq l0 l1 x5_1 = some r) ∧ Aside0 (kq ≤ k) ∧ Drawn0 w w')
  case atStart => exact ⟨(0), (by first | rfl | (simp; done) | (simp [*]; done)), H', ⟨Nat.le_refl _⟩, by repeat (first | exact Drawn0.refl _ | apply Drawn0.step)⟩
  case round =>
    clear H'
    try clear c1
    try clear p2
    obtain ⟨x5_1, rfl, HA, HK1, ⟨m1, rfl⟩⟩ := hrel
    cases gk with
    | zero => exact absurd HA.out (by simp [headgatelaw05_strange.l0])
    | succ k1 =>
      have H := HA.out
      clear HA
      simp only [headgatelaw05_strange.l0] at H
      by_cases c3 : x5_1 < (l0.length : Int)
      · rw [if_pos c3] at H
        have c3b0 : decide (x5_1 < (l0.length : Int)) = true := decide_eq_true c3
        clear c3
        by_cases c4 : x5_1 ≥ (l1.length : Int)
        · rw [if_pos c4] at H
          have c4b0 : decide ((l1.length : Int) ≤ x5_1) = true := decide_eq_true c4
          clear c4
          obtain rfl := Option.some.inj H
          go_wp2
          repeat (go_quiet (fail); try go_wp2)
          go_ret
          exact ⟨by first | rfl | (simp; done) | (simp [*]; done), by repeat (first | exact Drawn0.refl _ | apply Drawn0.step)⟩
        · rw [if_neg c4] at H
          have c4b0 : decide ((l1.length : Int) ≤ x5_1) = false := decide_eq_false c4
          clear c4
          by_cases c5 : 0 ≤ x5_1
          · rw [if_pos c5] at H
            have c5b0 : decide (0 ≤ x5_1) = true := decide_eq_true c5
            clear c5
            by_cases c6 : x5_1 < (l1.length : Int)
            · rw [if_pos c6] at H
              have c6b0 : decide (x5_1 < (l1.length : Int)) = true := decide_eq_true c6
              clear c6
              by_cases c7 : (strOfNums (rd_L1 l0 x5_1)).toList = (strOfNums (rd_L1 l1 x5_1)).toList
              · rw [if_pos c7] at H
                have c7b0 : ((strOfNums (rd_L1 l0 x5_1)).toList == (strOfNums (rd_L1 l1 x5_1)).toList) = true := beq_iff_eq.mpr c7
                have c7b1 : ((strOfNums (rd_L1 l0 x5_1)).toList != (strOfNums (rd_L1 l1 x5_1)).toList) = false := bne_eq_false_iff_eq.mpr c7
                clear c7
                have H' := Aside0.mk H
                clear H
                have p145 : 0 ≤ (x5_1 : Int) := of_decide_eq_true (by first | (with_reducible assumption) | assumption)
                have q145 : x5_1 < (l0.length : Int) := of_decide_eq_true (by first | (with_reducible assumption) | assumption)
                obtain ⟨ad145, A145_0, c145_0, e145, hx145_0, hl145_0, hi145_0⟩ := at_L1 HR0.out x5_1 p145 q145
                cases e145
                have HR145_0 := Aside0.mk hi145_0
                have HC145_0 := Aside0.mk hl145_0
                clear hi145_0 hl145_0
                replace p145 := eq_true p145
                replace q145 := eq_true q145
                have hcv8 := Kd.C_string (P := Try.prog) (A := A145_0) (c := c145_0) Try.underlying31 Try.underlying5 Try.underlying9 HR145_0.out
                have hcw9 := fun m_ => Kd.C_string (P := Try.prog) (A := A145_0) (c := c145_0) Try.underlying31 Try.underlying5 Try.underlying9 (Kd.C_drewN HR145_0.out m_)
                have p146 : 0 ≤ (x5_1 : Int) := of_decide_eq_true (by first | (with_reducible assumption) | assumption)
                have q146 : x5_1 < (l1.length : Int) := of_decide_eq_true (by first | (with_reducible assumption) | assumption)
                obtain ⟨ad146, A146_0, c146_0, e146, hx146_0, hl146_0, hi146_0⟩ := at_L1 HR1.out x5_1 p146 q146
                cases e146
                have HR146_0 := Aside0.mk hi146_0
                have HC146_0 := Aside0.mk hl146_0
                clear hi146_0 hl146_0
                replace p146 := eq_true p146
                replace q146 := eq_true q146
                have hcv10 := Kd.C_string (P := Try.prog) (A := A146_0) (c := c146_0) Try.underlying31 Try.underlying5 Try.underlying9 HR146_0.out
                have hcw11 := fun m_ => Kd.C_string (P := Try.prog) (A := A146_0) (c := c146_0) Try.underlying31 Try.underlying5 Try.underlying9 (Kd.C_drewN HR146_0.out m_)
                go_wp2
                repeat (go_quiet (fail); try go_wp2)
                go_roundg k1
                case measure => have := HK1.out; omega
                case rel => exact ⟨(wrap64 (x5_1 + 1)), (by first | rfl | (simp; done) | (simp [*]; done)), H', ⟨by have := HK1.out; omega⟩, by repeat (first | exact Drawn0.refl _ | apply Drawn0.step)⟩
              · rw [if_neg c7] at H
                have c7b0 : ((strOfNums (rd_L1 l0 x5_1)).toList == (strOfNums (rd_L1 l1 x5_1)).toList) = false := beq_eq_false_iff_ne.mpr c7
                have c7b1 : ((strOfNums (rd_L1 l0 x5_1)).toList != (strOfNums (rd_L1 l1 x5_1)).toList) = true := bne_iff_ne.mpr c7
                obtain rfl := Option.some.inj H
                have p145 : 0 ≤ (x5_1 : Int) := of_decide_eq_true (by first | (with_reducible assumption) | assumption)
                have q145 : x5_1 < (l0.length : Int) := of_decide_eq_true (by first | (with_reducible assumption) | assumption)
                obtain ⟨ad145, A145_0, c145_0, e145, hx145_0, hl145_0, hi145_0⟩ := at_L1 HR0.out x5_1 p145 q145
                cases e145
                have HR145_0 := Aside0.mk hi145_0
                have HC145_0 := Aside0.mk hl145_0
                clear hi145_0 hl145_0
                replace p145 := eq_true p145
                replace q145 := eq_true q145
                have hcv12 := Kd.C_string (P := Try.prog) (A := A145_0) (c := c145_0) Try.underlying31 Try.underlying5 Try.underlying9 HR145_0.out
                have hcw13 := fun m_ => Kd.C_string (P := Try.prog) (A := A145_0) (c := c145_0) Try.underlying31 Try.underlying5 Try.underlying9 (Kd.C_drewN HR145_0.out m_)
                have p146 : 0 ≤ (x5_1 : Int) := of_decide_eq_true (by first | (with_reducible assumption) | assumption)
                have q146 : x5_1 < (l1.length : Int) := of_decide_eq_true (by first | (with_reducible assumption) | assumption)
                obtain ⟨ad146, A146_0, c146_0, e146, hx146_0, hl146_0, hi146_0⟩ := at_L1 HR1.out x5_1 p146 q146
                cases e146
                have HR146_0 := Aside0.mk hi146_0
                have HC146_0 := Aside0.mk hl146_0
                clear hi146_0 hl146_0
                replace p146 := eq_true p146
                replace q146 := eq_true q146
                have hcv14 := Kd.C_string (P := Try.prog) (A := A146_0) (c := c146_0) Try.underlying31 Try.underlying5 Try.underlying9 HR146_0.out
                have hcw15 := fun m_ => Kd.C_string (P := Try.prog) (A := A146_0) (c := c146_0) Try.underlying31 Try.underlying5 Try.underlying9 (Kd.C_drewN HR146_0.out m_)
                go_wp2
                repeat (go_quiet (fail); try go_wp2)
                go_ret
                exact ⟨by first | rfl | (simp; done) | (simp [*]; done), by repeat (first | exact Drawn0.refl _ | apply Drawn0.step)⟩
            · rw [if_neg c6] at H
              exact absurd H (by simp)
          · rw [if_neg c5] at H
            exact absurd H (by simp)
      · rw [if_neg c3] at H
        have c3b0 : decide (x5_1 < (l0.length : Int)) = false := decide_eq_false c3
        clear c3
        obtain rfl := Option.some.inj H
        go_wp2
        repeat (go_quiet (fail); try go_wp2)
        go_ret
        exact ⟨by first | rfl | (simp; done) | (simp [*]; done), by repeat (first | exact Drawn0.refl _ | apply Drawn0.step)⟩

end Go.Proofs.Ytinhednmfldmbaa.Print
