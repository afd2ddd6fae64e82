-- written by hgprint.py (this work's own call of the kit's printer, with texts of its own for some functions)
import Derived.Test.YtmchfjieafffbaaPrint0
namespace Go.Proofs.Ytmchfjieafffbaa.Print
open Go.RowKit Go.Proofs.YtmchfjieafffbaaW.PrintWords Go.Proofs.YtmchfjieafffbaaW.PrintLast Go.Proofs.YtmchfjieafffbaaW.PrintMore
attribute [local go_sem] Go.Proofs.Ytmchfjieafffbaa.Goto.Jumps_ret Go.Proofs.Ytmchfjieafffbaa.Goto.Jumps_normal Go.Proofs.Ytmchfjieafffbaa.Goto.Jumps_exit Go.Proofs.Ytmchfjieafffbaa.Goto.Jumps_panic Go.Proofs.Ytmchfjieafffbaa.Goto.Jumps_outgrown max2_int min2_int max_two min_two max_three min_three max_four min_four   -- for this text's walks alone
open Go.Proofs.YtmchfjieafffbaaW.PrintWords Go.Proofs.Ytmchfjieafffbaa
set_option linter.unusedVariables false
set_option linter.unusedSimpArgs false

/-! ### headgateref03_More: function 17 -/
def headgateref03_More.l0 : Nat → List Int → Int → Int → Int → Option (Int)
  | 0, _, _, _, _ => none
  | k + 1, x1, x5, x6, x7 => if x7 < (x1.length : Int) then (if 0 ≤ x7 then (headgateref03_More.l0 k x1 (Int.tmod (IntKind.u64.wrap (x5 + (IntKind.u64.wrap (rd x1 x7)))) 65521) (Int.tmod (IntKind.u64.wrap (x6 + (Int.tmod (IntKind.u64.wrap (x5 + (IntKind.u64.wrap (rd x1 x7)))) 65521))) 65521) (wrap64 (x7 + 1))) else (none)) else (some ((((((x6) % 4294967296) * 65536) % 4294967296) + ((x5) % 4294967296)) % 4294967296))
def headgateref03_More.f (k : Nat) (a0 : Int) (l1 : List Int) : Option (Int) := headgateref03_More.l0 k l1 (IntKind.u64.wrap (Int.tmod (Int.tmod a0 65536) 65521)) (((Int.tdiv a0 65536) % 4294967296) % 65521) 0
theorem headgateref03_More.mono_l : ∀ k, (∀ y0 y1 y2 y3, LeO (headgateref03_More.l0 k y0 y1 y2 y3) (headgateref03_More.l0 (k + 1) y0 y1 y2 y3))
  | 0 => fun _ _ _ _ r h => by simp [headgateref03_More.l0] at h
  | k + 1 => by
    have ih0 := headgateref03_More.mono_l k
    · intro y0 y1 y2 y3
      unfold headgateref03_More.l0
      repeat' first
      | (with_reducible exact ih0 _ _ _ _)
      | (with_reducible exact LeO.refl _)
      | (with_reducible exact LeO.none _)
      | (with_reducible refine LeO.ite ?_ ?_)
      | (with_reducible refine LeO.bind ?_ (fun _ => ?_))
      | exact ih0 _ _ _ _
      | exact LeO.none _
      | refine LeO.ite ?_ ?_
      | refine LeO.bind ?_ (fun _ => ?_)
theorem headgateref03_More.mono : ∀ a0 a1 k, LeO (headgateref03_More.f k a0 a1) (headgateref03_More.f (k + 1) a0 a1) := by
  intro a0 a1 k
  have ih0 := headgateref03_More.mono_l k
  unfold headgateref03_More.f
  repeat' first
      | (with_reducible exact ih0 _ _ _ _)
      | (with_reducible exact LeO.refl _)
      | (with_reducible exact LeO.none _)
      | (with_reducible refine LeO.ite ?_ ?_)
      | (with_reducible refine LeO.bind ?_ (fun _ => ?_))
      | exact ih0 _ _ _ _
      | exact LeO.none _
      | refine LeO.ite ?_ ?_
      | refine LeO.bind ?_ (fun _ => ?_)
set_option maxHeartbeats 8000000 in
set_option maxRecDepth 100000 in
theorem headgateref03_More.calls (k : Nat) (a0 : Int) (A1 : Option Addr) (c1 : Nat) (l1 : List Int) (r : Int) (w : World) (hr1 : Kd.C (Kd.int .u8) w A1 l1.length l1) (hc1 : l1.length ≤ c1) (h : headgateref03_More.f k a0 l1 = some r) :
    Calls Try.prog 17 #[.int .u32 a0, .slice A1 l1.length c1] w fun e w' => e = .returned (.int .u32 r) ∧ Drawn0 w w' := by
  have HR1 := Aside0.mk hr1
  have HC1 := Aside0.mk hc1
  clear hr1 hc1
  have H : (headgateref03_More.l0 k l1 (IntKind.u64.wrap (Int.tmod (Int.tmod a0 65536) 65521)) (((Int.tdiv a0 65536) % 4294967296) % 65521) 0) = some r := h
  clear h
  have H' := Aside0.mk H
  clear H
  go_enter Try.func17, Try.ntmps17
  go_wp2
  go_loopg [5, 6, 7] k (fun kq v5 v6 v7 w' => ∃ (x5_1 : Int) (x6_1 : Int) (x7_1 : Int), v5 = .int .u64 x5_1 ∧ v6 = .int .u64 x6_1 ∧ v7 = .int .i64 x7_1 ∧ Aside0 (headgateref03_More.l0 kq l1 x5_1 x6_1 x7_1 = some r) ∧ Aside0 (kq ≤ k) ∧ Drawn0 w w')
  case atStart => exact ⟨(IntKind.u64.wrap (Int.tmod (Int.tmod a0 65536) 65521)), (((Int.tdiv a0 65536) % 4294967296) % 65521), (0), (by first | rfl | (simp; done) | (simp [*]; done)), (by first | rfl | (simp; done) | (simp [*]; done)), (by first | rfl | (simp; done) | (simp [*]; done)), H', ⟨Nat.le_refl _⟩, by repeat (first | exact Drawn0.refl _ | apply Drawn0.step)⟩
  case round =>
    clear H'
    try clear c1
    try clear p2
    obtain ⟨x5_1, x6_1, x7_1, rfl, rfl, rfl, HA, HK1, ⟨m1, rfl⟩⟩ := hrel
    cases gk with
    | zero => exact absurd HA.out (by simp [headgateref03_More.l0])
    | succ k1 =>
      have H := HA.out
      clear HA
      simp only [headgateref03_More.l0] at H
      by_cases c3 : x7_1 < (l1.length : Int)
      · rw [if_pos c3] at H
        have c3b0 : decide (x7_1 < (l1.length : Int)) = true := decide_eq_true c3
        clear c3
        by_cases c4 : 0 ≤ x7_1
        · rw [if_pos c4] at H
          have c4b0 : decide (0 ≤ x7_1) = true := decide_eq_true c4
          clear c4
          have H' := Aside0.mk H
          clear H
          have p102 : 0 ≤ (x7_1 : Int) := of_decide_eq_true (by first | (with_reducible assumption) | assumption)
          have q102 : x7_1 < (l1.length : Int) := of_decide_eq_true (by first | (with_reducible assumption) | assumption)
          obtain ⟨ad102, e102, hx102_0⟩ := Kd.at_int HR1.out x7_1 p102 q102
          cases e102
          replace p102 := eq_true p102
          replace q102 := eq_true q102
          go_wp2
          go_roundg k1
          case measure => have := HK1.out; omega
          case rel => exact ⟨(Int.tmod (IntKind.u64.wrap (x5_1 + (IntKind.u64.wrap (rd l1 x7_1)))) 65521), (Int.tmod (IntKind.u64.wrap (x6_1 + (Int.tmod (IntKind.u64.wrap (x5_1 + (IntKind.u64.wrap (rd l1 x7_1)))) 65521))) 65521), (wrap64 (x7_1 + 1)), (by first | rfl | (simp; done) | (simp [*]; done)), (by first | rfl | (simp; done) | (simp [*]; done)), (by first | rfl | (simp; done) | (simp [*]; done)), H', ⟨by have := HK1.out; omega⟩, by repeat (first | exact Drawn0.refl _ | apply Drawn0.step)⟩
        · rw [if_neg c4] at H
          exact absurd H (by simp)
      · rw [if_neg c3] at H
        have c3b0 : decide (x7_1 < (l1.length : Int)) = false := decide_eq_false c3
        clear c3
        obtain rfl := Option.some.inj H
        go_wp2
        go_ret
        exact ⟨by first | rfl | (simp; done) | (simp [*]; done), by repeat (first | exact Drawn0.refl _ | apply Drawn0.step)⟩

end Go.Proofs.Ytmchfjieafffbaa.Print
