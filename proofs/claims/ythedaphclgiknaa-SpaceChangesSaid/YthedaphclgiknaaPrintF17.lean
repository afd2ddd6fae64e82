-- written by hgprint.py (this work's own call of the kit's printer, with texts of its own for some functions)
import Derived.Test.YthedaphclgiknaaPrint0
namespace Go.Proofs.Ythedaphclgiknaa.Print
open Go.RowKit Go.Proofs.YthedaphclgiknaaW.PrintWords Go.Proofs.YthedaphclgiknaaW.PrintLast Go.Proofs.YthedaphclgiknaaW.PrintMore
attribute [local go_sem] Go.Proofs.Ythedaphclgiknaa.Goto.Jumps_ret Go.Proofs.Ythedaphclgiknaa.Goto.Jumps_normal Go.Proofs.Ythedaphclgiknaa.Goto.Jumps_exit Go.Proofs.Ythedaphclgiknaa.Goto.Jumps_panic Go.Proofs.Ythedaphclgiknaa.Goto.Jumps_outgrown max2_int min2_int max_two min_two max_three min_three max_four min_four   -- for this text's walks alone
open Go.Proofs.YthedaphclgiknaaW.PrintWords Go.Proofs.Ythedaphclgiknaa
set_option linter.unusedVariables false
set_option linter.unusedSimpArgs false

/-! ### headgateref16_shown: function 17 -/
def headgateref16_shown.f (a0 : Int) : Option ByteArray := if 0 ≤ a0 ∧ a0 ≤ 255 then some (strOfNums (Cu.b a0)) else none
set_option maxHeartbeats 8000000 in
set_option maxRecDepth 100000 in
theorem headgateref16_shown.calls (a0 : Int) (r : ByteArray) (w : World) (h : headgateref16_shown.f a0 = some r) :
    Calls Try.prog 17 #[.int .u8 a0] w fun e w' => e = .returned (.string r) ∧ Below w.heap.size w w' := by
  unfold headgateref16_shown.f at h
  split at h
  case isFalse => cases h
  rename_i hr
  obtain rfl := Option.some.inj h
  clear h
  have hB1 : ∀ o, Below w.heap.size w (w.alloc o) := fun o => (Below.refl _ _).alloc (Nat.le_refl _) o
  have hB2 : ∀ o p, Below w.heap.size w ((w.alloc o).alloc p) := fun o p => (hB1 o).alloc (hB1 o).size p
  have k0 : (convert 27 9 (.slice (some ⟨w.heap.size, 0, none⟩) 1 1)).run Try.prog (w.alloc (.cells #[.int .u8 92] 5)) = .ok (.string (strOfNums [92])) (w.alloc (.cells #[.int .u8 92] 5)) := Cu.conv_lit w [92]
  have e1 : (w.alloc (.cells #[.int .u8 92] 5)).heap.size = w.heap.size + 1 := by simp
  have k3 : ∀ (x1 x2 x3 : Int), (convert 27 9 (.slice (some ⟨w.heap.size + 1, 0, none⟩) 3 3)).run Try.prog ((w.alloc (.cells #[.int .u8 92] 5)).alloc (.cells #[.int .u8 x1, .int .u8 x2, .int .u8 x3] 5)) = .ok (.string (strOfNums [x1, x2, x3])) ((w.alloc (.cells #[.int .u8 92] 5)).alloc (.cells #[.int .u8 x1, .int .u8 x2, .int .u8 x3] 5)) := fun x1 x2 x3 => by
    rw [← e1]; exact Cu.conv_lit (w.alloc (.cells #[.int .u8 92] 5)) [x1, x2, x3]
  have k1 : ∀ (x1 : Int), (convert 27 9 (.slice (some ⟨w.heap.size + 1, 0, none⟩) 1 1)).run Try.prog ((w.alloc (.cells #[.int .u8 92] 5)).alloc (.cells #[.int .u8 x1] 5)) = .ok (.string (strOfNums [x1])) ((w.alloc (.cells #[.int .u8 92] 5)).alloc (.cells #[.int .u8 x1] 5)) := fun x1 => by
    rw [← e1]; exact Cu.conv_lit (w.alloc (.cells #[.int .u8 92] 5)) [x1]
  clear e1
  by_cases h1 : a0 = 92
  · subst h1
    go_enter Try.func17, Try.ntmps17
    go_wp2
    go_ret
    exact ⟨rfl, hB1 _⟩
  have hb4 : ((a0 < 32 ∨ a0 > 126) ∧ ¬ (7 ≤ a0 ∧ a0 ≤ 13)) → Cu.b a0 = [92] ++ [48 + a0 / 64, 48 + a0 / 8 % 8, 48 + a0 % 8] := fun ⟨h, h'⟩ => by unfold Cu.b; rw [if_neg h1, if_neg h', if_pos h]; rfl
  have hb1 : (¬ (a0 < 32 ∨ a0 > 126) ∧ ¬ (7 ≤ a0 ∧ a0 ≤ 13)) → Cu.b a0 = [a0] := fun ⟨h, h'⟩ => by unfold Cu.b; rw [if_neg h1, if_neg h', if_neg h]
  by_cases h2 : 7 ≤ a0
  · by_cases h3 : a0 ≤ 13
    · obtain ⟨m, hm, rfl⟩ : ∃ m : Nat, m ≤ 6 ∧ a0 = 7 + (m : Int) := ⟨(a0 - 7).toNat, by omega, by omega⟩
      match m, hm with
      | 0, _ | 1, _ | 2, _ | 3, _ | 4, _ | 5, _ | 6, _ =>
        go_enter Try.func17, Try.ntmps17
        go_wp2
        go_ret
        exact ⟨by show Ending.returned (Value.string _) = _; congr 2, hB1 _⟩
    · go_enter Try.func17, Try.ntmps17
      go_wp2
      all_goals
        go_ret
        exact ⟨by first | rfl | (rw [hb4 (by omega), ← Cu.strOf_app]; rfl) | (rw [hb1 (by omega)]; rfl), hB2 _ _⟩
  · go_enter Try.func17, Try.ntmps17
    go_wp2
    all_goals
      go_ret
      exact ⟨by first | rfl | (rw [hb4 (by omega), ← Cu.strOf_app]; rfl) | (rw [hb1 (by omega)]; rfl), hB2 _ _⟩

end Go.Proofs.Ythedaphclgiknaa.Print
