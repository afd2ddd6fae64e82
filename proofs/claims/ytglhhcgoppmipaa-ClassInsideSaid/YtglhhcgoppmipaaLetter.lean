/- headgatelaw08.letter. -/
import Derived.Test.YtglhhcgoppmipaaProg
import Derived.Test.YtglhhcgoppmipaaWMore
import Derived.WalkKit
namespace Go.Proofs.Ytglhhcgoppmipaa.Cl
open Go.RowKit

def isLetter (n : Nat) : Bool := decide (97 ≤ n ∧ n ≤ 122) || decide (65 ≤ n ∧ n ≤ 90) || decide (48 ≤ n ∧ n ≤ 57)
set_option maxHeartbeats 4000000 in
theorem letter_calls (n : Nat) (w : World) :
    Calls Try.prog 22 #[.int .u8 (n : Int)] w fun e w' => e = .returned (.bool (isLetter n)) ∧ w' = w := by
  have h7 : 123 ≤ n ∨ (97 ≤ n ∧ n ≤ 122) ∨ (91 ≤ n ∧ n ≤ 96) ∨ (65 ≤ n ∧ n ≤ 90) ∨ (58 ≤ n ∧ n ≤ 64) ∨ (48 ≤ n ∧ n ≤ 57) ∨ n ≤ 47 := by omega
  rcases h7 with h | h | h | h | h | h | h
  · have d1 : (97 : Int) ≤ (n : Int) := by omega
    have d2 : ¬ (n : Int) ≤ 122 := by omega
    have d3 : (65 : Int) ≤ (n : Int) := by omega
    have d4 : ¬ (n : Int) ≤ 90 := by omega
    have d5 : (48 : Int) ≤ (n : Int) := by omega
    have d6 : ¬ (n : Int) ≤ 57 := by omega
    have e : isLetter n = false := by unfold isLetter; simp only [Bool.or_eq_false_iff, decide_eq_false_iff_not]; omega
    rw [e]
    clear e h
    go_enter Try.func22, Try.ntmps22
    go_wp2
    go_ret
    exact ⟨rfl, rfl⟩
  · have d1 : (97 : Int) ≤ (n : Int) := by omega
    have d2 : (n : Int) ≤ 122 := by omega
    have d3 : (65 : Int) ≤ (n : Int) := by omega
    have d4 : ¬ (n : Int) ≤ 90 := by omega
    have d5 : (48 : Int) ≤ (n : Int) := by omega
    have d6 : ¬ (n : Int) ≤ 57 := by omega
    have e : isLetter n = true := by unfold isLetter; simp only [Bool.or_eq_true, decide_eq_true_eq]; omega
    rw [e]
    clear e h
    go_enter Try.func22, Try.ntmps22
    go_wp2
    go_ret
    exact ⟨rfl, rfl⟩
  · have d1 : ¬ (97 : Int) ≤ (n : Int) := by omega
    have d2 : (n : Int) ≤ 122 := by omega
    have d3 : (65 : Int) ≤ (n : Int) := by omega
    have d4 : ¬ (n : Int) ≤ 90 := by omega
    have d5 : (48 : Int) ≤ (n : Int) := by omega
    have d6 : ¬ (n : Int) ≤ 57 := by omega
    have e : isLetter n = false := by unfold isLetter; simp only [Bool.or_eq_false_iff, decide_eq_false_iff_not]; omega
    rw [e]
    clear e h
    go_enter Try.func22, Try.ntmps22
    go_wp2
    go_ret
    exact ⟨rfl, rfl⟩
  · have d1 : ¬ (97 : Int) ≤ (n : Int) := by omega
    have d2 : (n : Int) ≤ 122 := by omega
    have d3 : (65 : Int) ≤ (n : Int) := by omega
    have d4 : (n : Int) ≤ 90 := by omega
    have d5 : (48 : Int) ≤ (n : Int) := by omega
    have d6 : ¬ (n : Int) ≤ 57 := by omega
    have e : isLetter n = true := by unfold isLetter; simp only [Bool.or_eq_true, decide_eq_true_eq]; omega
    rw [e]
    clear e h
    go_enter Try.func22, Try.ntmps22
    go_wp2
    go_ret
    exact ⟨rfl, rfl⟩
  · have d1 : ¬ (97 : Int) ≤ (n : Int) := by omega
    have d2 : (n : Int) ≤ 122 := by omega
    have d3 : ¬ (65 : Int) ≤ (n : Int) := by omega
    have d4 : (n : Int) ≤ 90 := by omega
    have d5 : (48 : Int) ≤ (n : Int) := by omega
    have d6 : ¬ (n : Int) ≤ 57 := by omega
    have e : isLetter n = false := by unfold isLetter; simp only [Bool.or_eq_false_iff, decide_eq_false_iff_not]; omega
    rw [e]
    clear e h
    go_enter Try.func22, Try.ntmps22
    go_wp2
    go_ret
    exact ⟨rfl, rfl⟩
  · have d1 : ¬ (97 : Int) ≤ (n : Int) := by omega
    have d2 : (n : Int) ≤ 122 := by omega
    have d3 : ¬ (65 : Int) ≤ (n : Int) := by omega
    have d4 : (n : Int) ≤ 90 := by omega
    have d5 : (48 : Int) ≤ (n : Int) := by omega
    have d6 : (n : Int) ≤ 57 := by omega
    have e : isLetter n = true := by unfold isLetter; simp only [Bool.or_eq_true, decide_eq_true_eq]; omega
    rw [e]
    clear e h
    go_enter Try.func22, Try.ntmps22
    go_wp2
    go_ret
    exact ⟨rfl, rfl⟩
  · have d1 : ¬ (97 : Int) ≤ (n : Int) := by omega
    have d2 : (n : Int) ≤ 122 := by omega
    have d3 : ¬ (65 : Int) ≤ (n : Int) := by omega
    have d4 : (n : Int) ≤ 90 := by omega
    have d5 : ¬ (48 : Int) ≤ (n : Int) := by omega
    have d6 : (n : Int) ≤ 57 := by omega
    have e : isLetter n = false := by unfold isLetter; simp only [Bool.or_eq_false_iff, decide_eq_false_iff_not]; omega
    rw [e]
    clear e h
    go_enter Try.func22, Try.ntmps22
    go_wp2
    go_ret
    exact ⟨rfl, rfl⟩
end Go.Proofs.Ytglhhcgoppmipaa.Cl
