/-       -/
import Derived.Test.YtnemnhfdjofckaaPrint0
import Derived.Test.YtnemnhfdjofckaaPkD
import Derived.Test.YtnemnhfdjofckaaPkB
import Derived.Test.YtnemnhfdjofckaaPkC
namespace Go.Proofs.Ytnemnhfdjofckaa.Print
open Go.RowKit Go.Proofs.YtnemnhfdjofckaaW.PrintWords Go.Proofs.YtnemnhfdjofckaaW.PrintLast Go.Proofs.YtnemnhfdjofckaaW.PrintMore
attribute [local go_sem] Go.Proofs.Ytnemnhfdjofckaa.Goto.Jumps_ret Go.Proofs.Ytnemnhfdjofckaa.Goto.Jumps_normal Go.Proofs.Ytnemnhfdjofckaa.Goto.Jumps_exit Go.Proofs.Ytnemnhfdjofckaa.Goto.Jumps_panic Go.Proofs.Ytnemnhfdjofckaa.Goto.Jumps_outgrown max2_int min2_int max_two min_two max_three min_three max_four min_four   -- for this text's walks alone
open Go.Proofs.YtnemnhfdjofckaaW.PrintWords Go.Proofs.Ytnemnhfdjofckaa
set_option linter.unusedVariables false
set_option linter.unusedSimpArgs false
/-! ### commits_fits: function 29 -/
def commits_fits.f (l0 : List Int) (l1 : List Int) (a2 : Int) (a3 : Int) : Option (Bool) := if (8 ≤ l0.length ∧ l1.length ≤ 1000000000 ∧ Go.Proofs.Ytnemnhfdjofckaa.Co.Byt l1) ∧ (0 ≤ a2 ∧ a2 ≤ 1000000000 ∧ 0 ≤ a3 ∧ a3 ≤ 1000000000) then some (Go.Proofs.Ytnemnhfdjofckaa.Co.fitd l0 l1 a2 a3) else none
theorem commits_fits.calls (A0 : Option Addr) (c0 : Nat) (l0 : List Int) (A1 : Option Addr) (c1 : Nat) (l1 : List Int) (a2 : Int) (a3 : Int) (r : Bool) (w : World) (hr0 : Kd.C (Kd.int .u8) w A0 l0.length l0) (hc0 : l0.length ≤ c0) (hr1 : Kd.C (Kd.int .u8) w A1 l1.length l1) (hc1 : l1.length ≤ c1) (h : commits_fits.f l0 l1 a2 a3 = some r) :
    Calls Try.prog 29 #[.slice A0 l0.length c0, .slice A1 l1.length c1, .int .i64 a2, .int .i64 a3] w fun e w' => e = .returned (.bool r) ∧ Drawn0 w w' := by
  unfold commits_fits.f at h
  split at h
  case isFalse => cases h
  rename_i hc
  obtain ⟨⟨h1, h2, h3⟩, h4, h5, h6, h7⟩ := hc
  obtain rfl := Option.some.inj h
  exact Go.Proofs.Ytnemnhfdjofckaa.Co.fits_walk w A0 A1 c0 c1 a2 a3 l0 l1 hr0 hr1 hc0 hc1 h1 h2 h3 h4 h5 h6 h7
end Go.Proofs.Ytnemnhfdjofckaa.Print
namespace Go.Proofs.Ytnemnhfdjofckaa.Print
open Go.RowKit Go.Proofs.YtnemnhfdjofckaaW.PrintWords Go.Proofs.YtnemnhfdjofckaaW.PrintLast Go.Proofs.YtnemnhfdjofckaaW.PrintMore
attribute [local go_sem] Go.Proofs.Ytnemnhfdjofckaa.Goto.Jumps_ret Go.Proofs.Ytnemnhfdjofckaa.Goto.Jumps_normal Go.Proofs.Ytnemnhfdjofckaa.Goto.Jumps_exit Go.Proofs.Ytnemnhfdjofckaa.Goto.Jumps_panic Go.Proofs.Ytnemnhfdjofckaa.Goto.Jumps_outgrown max2_int min2_int max_two min_two max_three min_three max_four min_four   -- for this text's walks alone
open Go.Proofs.YtnemnhfdjofckaaW.PrintWords Go.Proofs.Ytnemnhfdjofckaa
set_option linter.unusedVariables false
set_option linter.unusedSimpArgs false
/-! ### commits_files: function 30 -/
def commits_files.f (l0 : List Int) : Option (List (S56) × Bool) := if Go.Proofs.Ytnemnhfdjofckaa.Co.Byt l0 ∧ l0.length ≤ 1000000000 then Go.Proofs.Ytnemnhfdjofckaa.Co.floop (l0.length + 1) true l0 [] else none
theorem commits_files.calls (A0 : Option Addr) (c0 : Nat) (l0 : List Int) (r1 : List (S56)) (r2 : Bool) (w : World) (hr0 : Kd.C (Kd.int .u8) w A0 l0.length l0) (hc0 : l0.length ≤ c0) (h : commits_files.f l0 = some (r1, r2)) :
    Calls Try.prog 30 #[.slice A0 l0.length c0] w fun e w' => ∃ v0_ : Value, e = .returned (.tuple #[v0_, .bool r2]) ∧ Kd.R k56 56 w' w.heap.size (fun _ => True) v0_ r1 ∧ Below w.heap.size w w' := by
  unfold commits_files.f at h
  split at h
  case isFalse => cases h
  rename_i hc
  exact Go.Proofs.Ytnemnhfdjofckaa.Co.files_walk w A0 c0 l0 r1 r2 hr0 hc0 hc.1 hc.2 h
end Go.Proofs.Ytnemnhfdjofckaa.Print
namespace Go.Proofs.Ytnemnhfdjofckaa.Print
open Go.RowKit Go.Proofs.YtnemnhfdjofckaaW.PrintWords Go.Proofs.YtnemnhfdjofckaaW.PrintLast Go.Proofs.YtnemnhfdjofckaaW.PrintMore
attribute [local go_sem] Go.Proofs.Ytnemnhfdjofckaa.Goto.Jumps_ret Go.Proofs.Ytnemnhfdjofckaa.Goto.Jumps_normal Go.Proofs.Ytnemnhfdjofckaa.Goto.Jumps_exit Go.Proofs.Ytnemnhfdjofckaa.Goto.Jumps_panic Go.Proofs.Ytnemnhfdjofckaa.Goto.Jumps_outgrown max2_int min2_int max_two min_two max_three min_three max_four min_four   -- for this text's walks alone
open Go.Proofs.YtnemnhfdjofckaaW.PrintWords Go.Proofs.Ytnemnhfdjofckaa
set_option linter.unusedVariables false
set_option linter.unusedSimpArgs false
/-! ### headgateref20_files: function 33 -/
def headgateref20_files.f (l0 : List Int) : Option (List (S56) × Bool) := if Go.Proofs.Ytnemnhfdjofckaa.Co.Byt l0 ∧ l0.length ≤ 1000000000 then Go.Proofs.Ytnemnhfdjofckaa.Co.rloop (l0.length + 1) l0 0 [] else none
theorem headgateref20_files.calls (A0 : Option Addr) (c0 : Nat) (l0 : List Int) (r1 : List (S56)) (r2 : Bool) (w : World) (hr0 : Kd.C (Kd.int .u8) w A0 l0.length l0) (hc0 : l0.length ≤ c0) (h : headgateref20_files.f l0 = some (r1, r2)) :
    Calls Try.prog 33 #[.slice A0 l0.length c0] w fun e w' => ∃ v0_ : Value, e = .returned (.tuple #[v0_, .bool r2]) ∧ Kd.R k56 56 w' w.heap.size (fun _ => True) v0_ r1 ∧ Below w.heap.size w w' := by
  unfold headgateref20_files.f at h
  split at h
  case isFalse => cases h
  rename_i hc
  exact Go.Proofs.Ytnemnhfdjofckaa.Co.rfiles_walk w A0 c0 l0 r1 r2 hr0 hc0 hc.1 hc.2 h
end Go.Proofs.Ytnemnhfdjofckaa.Print
namespace Go.Proofs.Ytnemnhfdjofckaa.Print
open Go.RowKit Go.Proofs.YtnemnhfdjofckaaW.PrintWords Go.Proofs.YtnemnhfdjofckaaW.PrintLast Go.Proofs.YtnemnhfdjofckaaW.PrintMore
attribute [local go_sem] Go.Proofs.Ytnemnhfdjofckaa.Goto.Jumps_ret Go.Proofs.Ytnemnhfdjofckaa.Goto.Jumps_normal Go.Proofs.Ytnemnhfdjofckaa.Goto.Jumps_exit Go.Proofs.Ytnemnhfdjofckaa.Goto.Jumps_panic Go.Proofs.Ytnemnhfdjofckaa.Goto.Jumps_outgrown max2_int min2_int max_two min_two max_three min_three max_four min_four   -- for this text's walks alone
open Go.Proofs.YtnemnhfdjofckaaW.PrintWords Go.Proofs.Ytnemnhfdjofckaa
set_option linter.unusedVariables false
set_option linter.unusedSimpArgs false
/-! ### headgateref20_right: function 25 -/
def headgateref20_right.f (a0_0 : Int) (l0_1 : List (S56)) : Option (Bool) := if (∀ f ∈ l0_1, f.f0.size ≤ 1000000000) ∧ l0_1.length ≤ 1000000000 then some (Go.Proofs.Ytnemnhfdjofckaa.Co.rightd a0_0 l0_1) else none
theorem headgateref20_right.calls (a0_0 : Int) (A0_1 : Option Addr) (c0_1 : Nat) (l0_1 : List (S56)) (r : Bool) (w : World) (hr0_1 : Kd.C k56 w A0_1 l0_1.length l0_1) (_hc0_1 : l0_1.length ≤ c0_1) (h : headgateref20_right.f a0_0 l0_1 = some r) :
    Calls Try.prog 25 #[.agg #[.int .i64 a0_0, .slice A0_1 l0_1.length c0_1]] w fun e w' => e = .returned (.bool r) ∧ Below w.heap.size w w' := by
  unfold headgateref20_right.f at h
  split at h
  case isFalse => cases h
  rename_i hc
  obtain rfl := Option.some.inj h
  exact Go.Proofs.Ytnemnhfdjofckaa.Co.refright_ok a0_0 A0_1 c0_1 l0_1 w hr0_1 hc.1 hc.2
end Go.Proofs.Ytnemnhfdjofckaa.Print
namespace Go.Proofs.Ytnemnhfdjofckaa.Print
open Go.RowKit Go.Proofs.YtnemnhfdjofckaaW.PrintWords Go.Proofs.YtnemnhfdjofckaaW.PrintLast Go.Proofs.YtnemnhfdjofckaaW.PrintMore
attribute [local go_sem] Go.Proofs.Ytnemnhfdjofckaa.Goto.Jumps_ret Go.Proofs.Ytnemnhfdjofckaa.Goto.Jumps_normal Go.Proofs.Ytnemnhfdjofckaa.Goto.Jumps_exit Go.Proofs.Ytnemnhfdjofckaa.Goto.Jumps_panic Go.Proofs.Ytnemnhfdjofckaa.Goto.Jumps_outgrown max2_int min2_int max_two min_two max_three min_three max_four min_four   -- for this text's walks alone
open Go.Proofs.YtnemnhfdjofckaaW.PrintWords Go.Proofs.Ytnemnhfdjofckaa
set_option linter.unusedVariables false
set_option linter.unusedSimpArgs false
/-! ### headgateref20_head: function 32 -/
def headgateref20_head.f (l0 : List (List Int)) (a1 : Int) (a2 : Int) : Option Bool := if (8 ≤ (l0.getD 0 []).length ∧ (l0.getD a1.toNat []).length ≤ 1000000000 ∧ Go.Proofs.Ytnemnhfdjofckaa.Co.Byt (l0.getD a1.toNat [])) ∧ (0 ≤ a1 ∧ a1 < (l0.length : Int) ∧ a1 ≤ 1000000000 ∧ 0 ≤ a2 ∧ a2 ≤ 1000000000) then some (Go.Proofs.Ytnemnhfdjofckaa.Co.headd (l0.getD 0 []) (l0.getD a1.toNat []) a1 a2) else none
theorem headgateref20_head.calls (A0 : Option Addr) (c0 : Nat) (l0 : List (List Int)) (a1 a2 : Int) (r : Bool) (w : World) (hr0 : Kd.C (Kd.slice 5 (Kd.int .u8)) w A0 l0.length l0) (_hc0 : l0.length ≤ c0) (h : headgateref20_head.f l0 a1 a2 = some r) :
    Calls Try.prog 32 #[.slice A0 l0.length c0, .int .i64 a1, .int .i64 a2] w fun e w' => e = .returned (.bool r) ∧ Drawn0 w w' := by
  unfold headgateref20_head.f at h
  split at h
  case isFalse => cases h
  rename_i hc
  obtain ⟨⟨h1, h2, h3⟩, h4, h5, h6, h7, h8⟩ := hc
  obtain rfl := Option.some.inj h
  obtain ⟨i, rfl⟩ : ∃ i : Nat, a1 = (i : Int) := ⟨a1.toNat, by omega⟩
  rw [Int.toNat_natCast] at h2 h3 ⊢
  have e0 : l0[0]? = some (l0.getD 0 []) := by rw [List.getD_eq_getElem?_getD, List.getElem?_eq_getElem (by omega)]; rfl
  have e1 : l0[i]? = some (l0.getD i []) := by rw [List.getD_eq_getElem?_getD, List.getElem?_eq_getElem (by omega)]; rfl
  exact Go.Proofs.Ytnemnhfdjofckaa.Co.head_walk w A0 c0 l0 i a2 _ _ hr0 e0 e1 h1 h2 h3 (by omega) h7 h8
end Go.Proofs.Ytnemnhfdjofckaa.Print
namespace Go.Proofs.Ytnemnhfdjofckaa.Print
open Go.RowKit Go.Proofs.YtnemnhfdjofckaaW.PrintWords Go.Proofs.YtnemnhfdjofckaaW.PrintLast Go.Proofs.YtnemnhfdjofckaaW.PrintMore
attribute [local go_sem] Go.Proofs.Ytnemnhfdjofckaa.Goto.Jumps_ret Go.Proofs.Ytnemnhfdjofckaa.Goto.Jumps_normal Go.Proofs.Ytnemnhfdjofckaa.Goto.Jumps_exit Go.Proofs.Ytnemnhfdjofckaa.Goto.Jumps_panic Go.Proofs.Ytnemnhfdjofckaa.Goto.Jumps_outgrown max2_int min2_int max_two min_two max_three min_three max_four min_four   -- for this text's walks alone
open Go.Proofs.YtnemnhfdjofckaaW.PrintWords Go.Proofs.Ytnemnhfdjofckaa
set_option linter.unusedVariables false
set_option linter.unusedSimpArgs false
/-! ### headgatelaw20_alive: function 9 -/
def headgatelaw20_alive.f : Option Bool := some true
theorem headgatelaw20_alive.calls (r : Bool) (w : World) (h : headgatelaw20_alive.f = some r) :
    Calls Try.prog 9 #[] w fun e w' => e = .returned (.bool r) ∧ Below w.heap.size w w' := by
  obtain rfl : true = r := Option.some.inj h
  exact Go.Proofs.Ytnemnhfdjofckaa.Co.alive_ok w
end Go.Proofs.Ytnemnhfdjofckaa.Print
