/- What the laws of sets come to. -/
import Derived.Test.YtglhhcgoppmipaaBits
import Derived.Test.YtglhhcgoppmipaaRefs2
namespace Go.Proofs.Ytglhhcgoppmipaa.Cl
theorem compl_bit (s j : Nat) (hs : s < 2 ^ 256) : (compl s).testBit j = (decide (j < 256) && !s.testBit j) := by
  unfold compl
  rw [Nat.sub_sub, Nat.add_comm 1 s]
  exact Nat.testBit_two_pow_sub_succ hs j
theorem compl_lt (s : Nat) : compl s < 2 ^ 256 := by
  unfold compl
  omega
theorem compl_compl (s : Nat) (hs : s < 2 ^ 256) : compl (compl s) = s := by
  unfold compl
  omega
theorem far_bit {s j : Nat} (hs : s < 2 ^ 256) (hj : ¬ j < 256) : s.testBit j = false :=
  Nat.testBit_lt_two_pow (Nat.lt_of_lt_of_le hs (Nat.pow_le_pow_right (by decide) (by omega)))
theorem cnt_compl (s : Nat) (hs : s < 2 ^ 256) (n : Nat) : ∀ c, c + n ≤ 256 → cnt s c n + cnt (compl s) c n = n := by
  induction n with
  | zero => intro c _; rfl
  | succ n ih =>
    intro c hc
    have h := ih (c + 1) (by omega)
    rw [cnt, cnt, compl_bit s c hs, decide_eq_true (show c < 256 by omega), Bool.true_and]
    cases s.testBit c <;> simp <;> omega
theorem both_compl (s : Nat) (hs : s < 2 ^ 256) : s ||| compl s = wi 0 0 (255 + 1 - 0) := by
  apply Nat.eq_of_testBit_eq
  intro j
  rw [Nat.testBit_or, compl_bit s j hs, wi_bit, Nat.zero_testBit]
  by_cases hj : j < 256
  · rw [decide_eq_true hj, decide_eq_true (Nat.zero_le j)]
    cases s.testBit j <;> rfl
  · rw [decide_eq_false hj, far_bit hs hj, Bool.and_false]
    rfl
theorem sel_not (s : Nat) (hs : s < 2 ^ 256) : sel (fun c => !s.testBit c) 0 0 256 = compl s := by
  apply Nat.eq_of_testBit_eq
  intro j
  rw [sel_bit, compl_bit s j hs, Nat.zero_testBit, Bool.false_or]
  congr 1
  rw [decide_eq_decide]
  omega
theorem sel_both (a b : Nat) (ha : a < 2 ^ 256) (hb : b < 2 ^ 256) : sel (fun c => a.testBit c || b.testBit c) 0 0 256 = a ||| b := by
  apply Nat.eq_of_testBit_eq
  intro j
  rw [sel_bit, Nat.testBit_or, Nat.zero_testBit, Bool.false_or]
  by_cases hj : j < 256
  · rw [decide_eq_true (show 0 ≤ j ∧ j < 0 + 256 by omega), Bool.true_and]
  · rw [decide_eq_false (show ¬ (0 ≤ j ∧ j < 0 + 256) by omega), far_bit ha hj, far_bit hb hj]
    rfl
end Go.Proofs.Ytglhhcgoppmipaa.Cl
