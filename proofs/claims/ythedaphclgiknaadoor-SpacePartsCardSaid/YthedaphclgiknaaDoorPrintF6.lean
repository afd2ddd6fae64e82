-- written by hgprint.py (this work's own call of the kit's printer, with texts of its own for some functions)
import Derived.Test.YthedaphclgiknaaDoorPrint0
namespace Go.Proofs.YthedaphclgiknaaDoor.Print
open Go.RowKit Go.Proofs.YthedaphclgiknaaDoorW.PrintWords Go.Proofs.YthedaphclgiknaaDoorW.PrintLast Go.Proofs.YthedaphclgiknaaDoorW.PrintMore
attribute [local go_sem] Go.Proofs.YthedaphclgiknaaDoor.Goto.Jumps_ret Go.Proofs.YthedaphclgiknaaDoor.Goto.Jumps_normal Go.Proofs.YthedaphclgiknaaDoor.Goto.Jumps_exit Go.Proofs.YthedaphclgiknaaDoor.Goto.Jumps_panic Go.Proofs.YthedaphclgiknaaDoor.Goto.Jumps_outgrown max2_int min2_int max_two min_two max_three min_three max_four min_four   -- for this text's walks alone
open Go.Proofs.YthedaphclgiknaaDoorW.PrintWords Go.Proofs.YthedaphclgiknaaDoor
set_option linter.unusedVariables false
set_option linter.unusedSimpArgs false

/-! ### space_Append: function 6 -/
def space_Append.f (a0 : ByteArray) (a1 : ByteArray) : Option (ByteArray × Int) := if a0.size ≥ 1024 then some (⟨#[]⟩, 161) else if a1.size ≥ 1024 - a0.size then some (⟨#[]⟩, 161) else some ((a0 ++ ⟨#[10]⟩) ++ a1, 0)
set_option maxHeartbeats 8000000 in
set_option maxRecDepth 100000 in
theorem space_Append.calls (a0 : ByteArray) (a1 : ByteArray) (r1 : ByteArray) (r2 : Int) (w : World) (h : space_Append.f a0 a1 = some (r1, r2)) :
    Calls Tryd.prog 6 #[.string a0, .string a1] w fun e w' => e = .returned (.tuple #[.string r1, .int .i64 r2]) ∧ Drawn0 w w' := by
  unfold space_Append.f at h
  split at h
  · rename_i h1
    simp only [Option.some.injEq, Prod.mk.injEq] at h
    obtain ⟨rfl, rfl⟩ := h
    have c1 : (1024 : Int) ≤ (a0.size : Int) := by omega
    go_enter Tryd.func6, Tryd.ntmps6
    go_wp2
    go_ret2
    exact ⟨rfl, Drawn0.refl _⟩
  rename_i h1
  have c1 : ¬ (1024 : Int) ≤ (a0.size : Int) := by omega
  have cw : IntKind.i64.wrap (1024 - (a0.size : Int)) = 1024 - (a0.size : Int) := by
    have : IntKind.i64.wrap (1024 - (a0.size : Int)) = RowKit.wrap64 (1024 - (a0.size : Int)) := by unfold RowKit.wrap64; exact IntKind.wrap_i64 _
    rw [this]; unfold RowKit.wrap64; omega
  split at h
  · rename_i h2
    simp only [Option.some.injEq, Prod.mk.injEq] at h
    obtain ⟨rfl, rfl⟩ := h
    have c2 : 1024 - (a0.size : Int) ≤ (a1.size : Int) := by omega
    go_enter Tryd.func6, Tryd.ntmps6
    go_wp2
    go_ret2
    exact ⟨rfl, Drawn0.refl _⟩
  · rename_i h2
    simp only [Option.some.injEq, Prod.mk.injEq] at h
    obtain ⟨rfl, rfl⟩ := h
    have c2 : ¬ 1024 - (a0.size : Int) ≤ (a1.size : Int) := by omega
    have c3 : a0.size + 1 ≤ 9223372036854775807 := by omega
    have c4 : a0.size + 1 + a1.size ≤ 9223372036854775807 := by omega
    go_enter Tryd.func6, Tryd.ntmps6
    go_wp2
    go_ret2
    exact ⟨rfl, Drawn0.refl _⟩

end Go.Proofs.YthedaphclgiknaaDoor.Print
