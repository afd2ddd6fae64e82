/- The bytes of a set with more. -/
import Derived.Test.YtglhhcgoppmipaaQuiet
import Derived.Test.YtglhhcgoppmipaaBoth
import Derived.Test.YtglhhcgoppmipaaRefs3
namespace Go.Proofs.Ytglhhcgoppmipaa.Cl
open Go.RowKit Go.Proofs.YtglhhcgoppmipaaW.PrintWords

theorem wi_bit (n : Nat) : ∀ s c j, (wi s c n).testBit j = (s.testBit j || (decide (c ≤ j) && decide (j < c + n))) := by
  induction n with
  | zero =>
    intro s c j
    have : (decide (c ≤ j) && decide (j < c + 0)) = false := by
      rw [Bool.and_eq_false_iff, decide_eq_false_iff_not, decide_eq_false_iff_not]
      omega
    rw [this, Bool.or_false]
    rfl
  | succ n ih =>
    intro s c j
    rw [wi, ih, Nat.testBit_or, Nat.testBit_two_pow]
    rw [Bool.or_assoc]
    congr 1
    rw [Bool.eq_iff_iff]
    simp only [Bool.or_eq_true, Bool.and_eq_true, decide_eq_true_eq]
    omega
end Go.Proofs.Ytglhhcgoppmipaa.Cl
