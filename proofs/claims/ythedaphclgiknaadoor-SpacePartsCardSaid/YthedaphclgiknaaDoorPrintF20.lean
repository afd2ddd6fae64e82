-- written by hgprint.py (this work's own call of the kit's printer, with texts of its own for some functions)
import Derived.Test.YthedaphclgiknaaDoorPrint0
namespace Go.Proofs.YthedaphclgiknaaDoor.Print
open Go.RowKit Go.Proofs.YthedaphclgiknaaDoorW.PrintWords Go.Proofs.YthedaphclgiknaaDoorW.PrintLast Go.Proofs.YthedaphclgiknaaDoorW.PrintMore
attribute [local go_sem] Go.Proofs.YthedaphclgiknaaDoor.Goto.Jumps_ret Go.Proofs.YthedaphclgiknaaDoor.Goto.Jumps_normal Go.Proofs.YthedaphclgiknaaDoor.Goto.Jumps_exit Go.Proofs.YthedaphclgiknaaDoor.Goto.Jumps_panic Go.Proofs.YthedaphclgiknaaDoor.Goto.Jumps_outgrown max2_int min2_int max_two min_two max_three min_three max_four min_four   -- for this text's walks alone
open Go.Proofs.YthedaphclgiknaaDoorW.PrintWords Go.Proofs.YthedaphclgiknaaDoor
set_option linter.unusedVariables false
set_option linter.unusedSimpArgs false

/-! ### space_shown: function 20 -/
def space_shown.f (a0 : Int) : Option ByteArray := if 0 ≤ a0 ∧ a0 ≤ 255 then some (strOfNums (Cu.b a0)) else none
set_option maxHeartbeats 8000000 in
set_option maxRecDepth 100000 in
theorem space_shown.calls (a0 : Int) (r : ByteArray) (w : World) (h : space_shown.f a0 = some r) :
    Calls Tryd.prog 20 #[.int .u8 a0] w fun e w' => e = .returned (.string r) ∧ Below w.heap.size w w' := by
  unfold space_shown.f at h
  split at h
  case isFalse => cases h
  rename_i hr
  obtain rfl := Option.some.inj h
  clear h
  by_cases h1 : a0 = 92
  · subst h1
    go_enter Tryd.func20, Tryd.ntmps20
    go_wp2
    go_ret
    exact ⟨rfl, Below.refl _ _⟩
  have k4 : ∀ (W : World) (x1 x2 x3 x4 : Int), (convert 38 9 (.slice (some ⟨W.heap.size, 0, none⟩) 4 4)).run Tryd.prog (W.alloc (.cells #[.int .u8 x1, .int .u8 x2, .int .u8 x3, .int .u8 x4] 5)) = .ok (.string (strOfNums [x1, x2, x3, x4])) (W.alloc (.cells #[.int .u8 x1, .int .u8 x2, .int .u8 x3, .int .u8 x4] 5)) := fun W x1 x2 x3 x4 => Cu.conv_lit W [x1, x2, x3, x4]
  have k1 : ∀ (W : World) (x1 : Int), (convert 38 9 (.slice (some ⟨W.heap.size, 0, none⟩) 1 1)).run Tryd.prog (W.alloc (.cells #[.int .u8 x1] 5)) = .ok (.string (strOfNums [x1])) (W.alloc (.cells #[.int .u8 x1] 5)) := fun W x1 => Cu.conv_lit W [x1]
  have hb4 : ((a0 < 32 ∨ a0 > 126) ∧ ¬ (7 ≤ a0 ∧ a0 ≤ 13)) → Cu.b a0 = [92, 48 + a0 / 64, 48 + a0 / 8 % 8, 48 + a0 % 8] := fun ⟨h, h'⟩ => by unfold Cu.b; rw [if_neg h1, if_neg h', if_pos h]
  have hb1 : (¬ (a0 < 32 ∨ a0 > 126) ∧ ¬ (7 ≤ a0 ∧ a0 ≤ 13)) → Cu.b a0 = [a0] := fun ⟨h, h'⟩ => by unfold Cu.b; rw [if_neg h1, if_neg h', if_neg h]
  by_cases h2 : 7 ≤ a0
  · by_cases h3 : a0 ≤ 13
    · obtain ⟨m, hm, rfl⟩ : ∃ m : Nat, m ≤ 6 ∧ a0 = 7 + (m : Int) := ⟨(a0 - 7).toNat, by omega, by omega⟩
      match m, hm with
      | 0, _ | 1, _ | 2, _ | 3, _ | 4, _ | 5, _ | 6, _ =>
        go_enter Tryd.func20, Tryd.ntmps20
        go_wp2
        go_ret
        exact ⟨by show Ending.returned (Value.string _) = _; congr 2, Below.refl _ _⟩
    · go_enter Tryd.func20, Tryd.ntmps20
      go_wp2
      all_goals
        go_ret
        exact ⟨by first | rfl | (rw [hb4 (by omega)]; rfl) | (rw [hb1 (by omega)]; rfl), (Below.refl _ _).alloc (Nat.le_refl _) _⟩
  · go_enter Tryd.func20, Tryd.ntmps20
    go_wp2
    all_goals
      go_ret
      exact ⟨by first | rfl | (rw [hb4 (by omega)]; rfl) | (rw [hb1 (by omega)]; rfl), (Below.refl _ _).alloc (Nat.le_refl _) _⟩

end Go.Proofs.YthedaphclgiknaaDoor.Print
