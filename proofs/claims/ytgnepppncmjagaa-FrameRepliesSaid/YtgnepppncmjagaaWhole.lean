/- Floats of fixed numbers: 'whole' at nought. -/
import Derived.Test.YtgnepppncmjagaaFr1
namespace Go.Proofs.Ytgnepppncmjagaa.Ck
open Go Go.RowKit
theorem ord00 : FloatKind.f64.format.order 0 0 = some Ordering.eq := by kernel_rfl
theorem ord0m : FloatKind.f64.format.order 0 4679239875398991872 = some Ordering.lt := by kernel_rfl
set_option maxRecDepth 100000 in
theorem toInt0 (w : World) : Sem.run Try.prog (convert 67 3 (.float .f64 0)) w = .ok (.int .i64 0) w := by rfl
set_option maxRecDepth 100000 in
theorem toFl0 (w : World) : Sem.run Try.prog (convert 3 67 (.int .i64 0)) w = .ok (.float .f64 0) w := by rfl
theorem real0 (w : World) : Sem.run Try.prog (Builtin.real_ #[51] 67 #[.complex .f64 0 0]) w = .ok (.float .f64 0) w := by rfl
theorem imag0 (w : World) : Sem.run Try.prog (Builtin.imag_ #[51] 67 #[.complex .f64 0 0]) w = .ok (.float .f64 0) w := by rfl
set_option maxRecDepth 100000 in
theorem whole_zero (w : World) : Calls Try.prog 37 #[.float .f64 0] w fun e w' => e = .returned (.bool true) ∧ w' = w := by
  have o1 := ord00
  have o2 := ord0m
  have t1 := toInt0 w
  have t2 := toFl0 w
  go_enter Try.func37, Try.ntmps37
  go_wp2
  go_ret
  exact ⟨rfl, rfl⟩
end Go.Proofs.Ytgnepppncmjagaa.Ck
