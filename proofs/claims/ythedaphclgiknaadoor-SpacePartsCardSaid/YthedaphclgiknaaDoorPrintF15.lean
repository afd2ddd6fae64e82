-- written by hgprint.py (this work's own call of the kit's printer, with texts of its own for some functions)
import Derived.Test.YthedaphclgiknaaDoorPrint0
namespace Go.Proofs.YthedaphclgiknaaDoor.Print
open Go.RowKit Go.Proofs.YthedaphclgiknaaDoorW.PrintWords Go.Proofs.YthedaphclgiknaaDoorW.PrintLast Go.Proofs.YthedaphclgiknaaDoorW.PrintMore
attribute [local go_sem] Go.Proofs.YthedaphclgiknaaDoor.Goto.Jumps_ret Go.Proofs.YthedaphclgiknaaDoor.Goto.Jumps_normal Go.Proofs.YthedaphclgiknaaDoor.Goto.Jumps_exit Go.Proofs.YthedaphclgiknaaDoor.Goto.Jumps_panic Go.Proofs.YthedaphclgiknaaDoor.Goto.Jumps_outgrown max2_int min2_int max_two min_two max_three min_three max_four min_four   -- for this text's walks alone
open Go.Proofs.YthedaphclgiknaaDoorW.PrintWords Go.Proofs.YthedaphclgiknaaDoor
set_option linter.unusedVariables false
set_option linter.unusedSimpArgs false

/-! ### strings_Cut: function 15 -/
def strings_Cut.f (a0 : ByteArray) (a1 : ByteArray) : Option (ByteArray × ByteArray × Bool) := if a1.size = 1 ∧ a0.size ≤ 9223372036854775807 then some (Cu.cut a0 (a1.data.getD 0 0)) else none
theorem strings_Cut.calls (a0 : ByteArray) (a1 : ByteArray) (r1 : ByteArray) (r2 : ByteArray) (r3 : Bool) (w : World) (h : strings_Cut.f a0 a1 = some (r1, r2, r3)) :
    Calls Tryd.prog 15 #[.string a0, .string a1] w fun e w' => e = .returned (.tuple #[.string r1, .string r2, .bool r3]) ∧ Drawn0 w w' := by
  unfold strings_Cut.f at h
  split at h
  · rename_i h1
    obtain ⟨c, rfl⟩ : ∃ c, a1 = ⟨#[c]⟩ := by
      obtain ⟨⟨l⟩⟩ := a1
      have hl : l.length = 1 := h1.1
      match l, hl with
      | [c], _ => exact ⟨c, rfl⟩
    have h := Option.some.inj h
    have hc := Cu.cut_calls a0 c w h1.2
    rw [show (#[c] : Array UInt8).getD 0 0 = c from rfl] at h
    rw [h] at hc
    refine hc.mono ?_
    rintro e w' ⟨rfl, k, rfl⟩
    exact ⟨rfl, ⟨k, rfl⟩⟩
  · cases h

end Go.Proofs.YthedaphclgiknaaDoor.Print
