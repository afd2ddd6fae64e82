/- The bracket of two letters with a - between. -/
import Derived.Test.YtglhhcgoppmipaaBracket
import Derived.Test.YtglhhcgoppmipaaPureSets
import Derived.Test.YtglhhcgoppmipaaLetter
namespace Go.Proofs.Ytglhhcgoppmipaa.Cl

theorem isLetter_ne {n : Nat} (h : isLetter n = true) : n ≠ 10 ∧ n ≠ 91 ∧ n ≠ 93 ∧ n ≠ 94 := by
  unfold isLetter at h
  simp only [Bool.or_eq_true, decide_eq_true_eq] at h
  omega
theorem byte_ne {x : UInt8} {n : Nat} (hn : n < 256) (h : x.toNat ≠ n) : ¬ x = UInt8.ofNat n := by
  intro e
  subst e
  apply h
  rw [UInt8.toNat_ofNat']
  omega
theorem pre_ne {x c : UInt8} {t p : List UInt8} (h : ¬ x = c) : Lib.hasPrefix (x :: t) (c :: p) = false := by
  unfold Lib.hasPrefix
  rw [List.isPrefixOf_cons_cons]
  have : (c == x) = false := by
    rw [beq_eq_false_iff_ne]
    exact fun e => h e.symm
  rw [this]
  rfl
theorem single_letter {x : UInt8} {t : List UInt8} (first : Bool) (h10 : ¬ x = 10) (h91 : ¬ x = 91) (h93 : ¬ x = 93) : single (x :: t) first = true := by
  rw [single_cons, pre_ne h91, pre_ne h91, pre_ne h91]
  have e1 : (x == 10) = false := by simpa using h10
  have e2 : (x == 93) = false := by simpa using h93
  rw [e1, e2]
  rfl
theorem brk_range (nm : List UInt8 → Option Nat) (k : Nat) (x y : UInt8) (rest : List UInt8) (hx : isLetter x.toNat = true) (hy : isLetter y.toNat = true) :
    brk nm (k + 1) 0 (x :: 45 :: y :: 93 :: rest) true = some (if y.toNat < x.toNat then none else some (wi 0 x.toNat (y.toNat + 1 - x.toNat), 93 :: rest)) := by
  obtain ⟨a1, a2, a3, _⟩ := isLetter_ne hx
  obtain ⟨b1, b2, b3, _⟩ := isLetter_ne hy
  have x10 : ¬ x = 10 := byte_ne (n := 10) (by decide) a1
  have x91 : ¬ x = 91 := byte_ne (n := 91) (by decide) a2
  have x93 : ¬ x = 93 := byte_ne (n := 93) (by decide) a3
  have y10 : ¬ y = 10 := byte_ne (n := 10) (by decide) b1
  have y91 : ¬ y = 91 := byte_ne (n := 91) (by decide) b2
  have y93 : ¬ y = 93 := byte_ne (n := 93) (by decide) b3
  have hi := item_range (nm := nm) (s := 0) (c0 := x) (c2 := y) (l := 93 :: rest) (first := true) (pre_ne x91) (single_letter true x10 x91 x93) y93
  rw [brk, hi, single_letter false y10 y91 y93]
  by_cases h : y.toNat < x.toNat
  · rw [if_pos (Or.inr h), if_pos h]
  · rw [if_neg (by rintro (h' | h'); cases h'; exact h h'), if_neg h]
    show (if Lib.hasPrefix (93 :: rest) [93] = true then _ else _) = _
    rw [if_pos]
    unfold Lib.hasPrefix
    rw [List.isPrefixOf_cons_cons]
    rfl
/-- What the bracket of two letters comes to. -/
def rangeOf (x y : Nat) (turned : Bool) : Nat × Int × Int :=
  if y < x then (0, 0, 81) else if turned = true then (compl (wi (wi 0 x (y + 1 - x)) 10 1), 5, 0) else (wi 0 x (y + 1 - x), 4, 0)
theorem bracket_range (x y : UInt8) (rest : List UInt8) (hx : isLetter x.toNat = true) (hy : isLetter y.toNat = true) :
    bracket (fun _ => none) (x :: 45 :: y :: 93 :: rest) = some (rangeOf x.toNat y.toNat false) := by
  have x94 : ¬ x = 94 := byte_ne (n := 94) (by decide) (isLetter_ne hx).2.2.2
  unfold bracket Lib.trimPrefix rangeOf
  rw [pre_ne x94, if_neg (by decide), brk_range _ _ x y rest hx hy]
  by_cases h : y.toNat < x.toNat
  · rw [if_pos h, if_pos h]
    rfl
  · rw [if_neg h, if_neg h]
    show some (_, ((_ : Nat) : Int), (0 : Int)) = _
    rw [if_neg (by decide)]
    congr 3
    show (((x :: 45 :: y :: 93 :: rest).length - (93 :: rest).length + 1 : Nat) : Int) = 4
    simp only [List.length_cons]
    omega
theorem bracket_turned (x y : UInt8) (rest : List UInt8) (hx : isLetter x.toNat = true) (hy : isLetter y.toNat = true) :
    bracket (fun _ => none) (94 :: x :: 45 :: y :: 93 :: rest) = some (rangeOf x.toNat y.toNat true) := by
  have hp : Lib.hasPrefix (94 :: x :: 45 :: y :: 93 :: rest) [94] = true := by
    unfold Lib.hasPrefix
    rw [List.isPrefixOf_cons_cons]
    rfl
  unfold bracket Lib.trimPrefix rangeOf
  rw [hp, if_pos rfl]
  show (brk _ _ 0 (x :: 45 :: y :: 93 :: rest) true).map _ = _
  rw [brk_range _ _ x y rest hx hy]
  by_cases h : y.toNat < x.toNat
  · rw [if_pos h, if_pos h]
    rfl
  · rw [if_neg h, if_neg h]
    show some (_, ((_ : Nat) : Int), (0 : Int)) = _
    rw [if_pos rfl, if_pos rfl]
    congr 3
    show (((94 :: x :: 45 :: y :: 93 :: rest).length - (93 :: rest).length + 1 : Nat) : Int) = 5
    simp only [List.length_cons]
    omega
theorem range_in (x y c : Nat) : (wi 0 x (y + 1 - x)).testBit c = (decide (x ≤ c) && decide (c ≤ y)) := by
  rw [wi_bit, Nat.zero_testBit, Bool.false_or, Bool.eq_iff_iff]
  simp only [Bool.and_eq_true, decide_eq_true_eq]
  omega
theorem range_out (x y c : Nat) (hy : y < 256) (hx : x < 256) (hc : c < 256) : (compl (wi (wi 0 x (y + 1 - x)) 10 1)).testBit c = (!(decide (x ≤ c) && decide (c ≤ y)) && decide (c ≠ 10)) := by
  rw [compl_bit _ c (wi_lt _ _ _ (wi_lt _ _ _ (by decide) (by omega)) (by decide)), decide_eq_true hc, Bool.true_and, wi_bit, range_in, Bool.eq_iff_iff]
  simp only [Bool.not_eq_true', Bool.or_eq_false_iff, Bool.and_eq_true, decide_eq_true_eq, Bool.and_eq_false_iff, decide_eq_false_iff_not]
  omega
end Go.Proofs.Ytglhhcgoppmipaa.Cl
