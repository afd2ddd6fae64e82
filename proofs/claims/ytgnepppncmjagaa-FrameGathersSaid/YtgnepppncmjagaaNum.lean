/- Numbers of two bytes as floats. -/
import Derived.Test.YtgnepppncmjagaaFr1
namespace Go.Proofs.Ytgnepppncmjagaa.Gt
open Go Go.RowKit
/-- A whole number as a float. -/
def fl (n : Nat) : Nat := FloatKind.f64.nearest (n : Int)
theorem cut_none (way : Ieee.Toward) (neg : Bool) (n : Nat) : way.cut neg n 0 = n := by
  unfold Ieee.Toward.cut
  have h : (1 <<< min 0 (n.log2 + 2) : Nat) = 1 := by rw [Nat.zero_min]; rfl
  simp only [h, Nat.div_one, Nat.mod_one]
  cases way <;> simp
theorem cut_zero (neg : Bool) (n d : Nat) (h : d ≤ n.log2 + 2) : Ieee.Toward.zero.cut neg n d = n / 2 ^ d := by
  unfold Ieee.Toward.cut
  rw [Nat.min_eq_left h, Nat.one_shiftLeft]
  simp
theorem consts : ∃ q, 0 < q ∧ 2 ^ 52 = q ∧ Ieee.double.leastPlace = -1074 ∧ Ieee.double.binade = q ∧ Ieee.double.infRung = 2047 * q ∧ Ieee.double.signWeight = 2048 * q ∧ Ieee.double.fractionBits = 52 := ⟨_, by decide +kernel, rfl, by decide +kernel, by decide +kernel, by decide +kernel, by decide +kernel, by decide +kernel⟩
theorem fl_near (n : Nat) : fl n = Ieee.double.nearest (decide ((n : Int) < 0)) (n : Int).natAbs 0 := rfl
theorem rungs (q k N : Nat) (hq : 0 < q) (hk : k ≤ 52) (h1 : q ≤ N) (h2 : N < 2 * q) : (k + 1022) * q + N < 2047 * q ∧ ((k + 1022) * q + N) / (2048 * q) % 2 = 0 ∧ ((k + 1022) * q + N) % (2048 * q) = (k + 1022) * q + N ∧ ¬ (k + 1022) * q + N < q ∧ ((k + 1022) * q + N) % q = N - q ∧ ((k + 1022) * q + N) / q = k + 1023 := by
  have e : (k + 1022) * q ≤ 1074 * q := Nat.mul_le_mul_right _ (by omega)
  have e2 : (k + 1022) * q + N = q * (k + 1023) + (N - q) := by rw [Nat.mul_comm q, show k + 1023 = (k + 1022) + 1 by omega, Nat.add_mul (k + 1022) 1 q]; omega
  refine ⟨by omega, ?_, ?_, by omega, ?_, ?_⟩
  · rw [Nat.div_eq_of_lt (by omega)]
  · rw [Nat.mod_eq_of_lt (by omega)]
  · rw [e2, Nat.mul_add_mod, Nat.mod_eq_of_lt (by omega)]
  · rw [e2, Nat.mul_add_div hq, Nat.div_eq_of_lt (by omega)]
/-- A number's place. -/
theorem logs (n : Nat) (h0 : 0 < n) (h : n < 2 ^ 53) : n.log2 ≤ 52 ∧ 2 ^ 52 ≤ n * 2 ^ (52 - n.log2) ∧ n * 2 ^ (52 - n.log2) < 2 * 2 ^ 52 := by
  have h1 : 2 ^ n.log2 ≤ n := Nat.log2_self_le (by omega)
  have h2 : n < 2 ^ (n.log2 + 1) := Nat.lt_log2_self
  generalize n.log2 = k at *
  have hk52 : k ≤ 52 := by
    rcases Nat.lt_or_ge 52 k with h3 | h3
    · exact absurd (Nat.lt_of_le_of_lt (Nat.le_trans (Nat.pow_le_pow_right (n := 2) (by decide) (show 53 ≤ k from h3)) h1) h) (Nat.lt_irrefl _)
    · exact h3
  have e1 : 2 ^ k * 2 ^ (52 - k) = 2 ^ 52 := by rw [← Nat.pow_add, Nat.add_sub_cancel' hk52]
  refine ⟨hk52, ?_, ?_⟩
  · rw [← e1]; exact Nat.mul_le_mul_right _ h1
  · have h4 : n * 2 ^ (52 - k) < 2 ^ (k + 1) * 2 ^ (52 - k) := Nat.mul_lt_mul_of_pos_right h2 (Nat.two_pow_pos _)
    rw [Nat.pow_succ, Nat.mul_comm _ 2, Nat.mul_assoc, e1] at h4
    exact h4
/-- A number's word. -/
theorem fl_word (n k p q : Nat) (h0 : 0 < n) (hk52 : k ≤ 52) (hk : n.log2 = k) (hp : 2 ^ (52 - k) = p) (hq : 2 ^ 52 = q) (h1 : q ≤ n * p) (h2 : n * p < 2 * q) : fl n = (k + 1022) * q + n * p := by
  obtain ⟨q', hq0, hqq, c1, c2, c3, c4, c5⟩ := consts
  have hd : decide ((n : Int) < 0) = false := by simp
  rw [fl_near, hd, Int.natAbs_natCast]
  unfold Ieee.Format.nearest
  rw [if_neg (by omega), c1, c2, c3, c5, hk]
  have hl : max ((0 : Int) + (k : Int) - ((52 : Nat) : Int)) (-1074) = (k : Int) - 52 := by omega
  simp only [hl]
  rw [show ((k : Int) - 52 - 0).toNat = 0 by omega, cut_none]
  rw [show ((0 : Int) - ((k : Int) - 52)).toNat = 52 - k by omega]
  rw [show ((k : Int) - 52 - -1074).toNat = k + 1022 by omega, Nat.shiftLeft_eq, hp, ← hqq, hq]
  unfold Ieee.Format.word
  rw [if_neg (by simp)]
  have hq1 : 0 < q := by rw [← hq, hqq]; exact hq0
  exact Nat.min_eq_left (Nat.le_of_lt (rungs q k (n * p) hq1 hk52 h1 h2).1)
theorem fl_read (n : Nat) (h0 : 0 < n) (h : n < 2 ^ 53) : FloatKind.f64.decode (fl n) = .number false (n * 2 ^ (52 - n.log2)) ((n.log2 : Int) - 52) := by
  obtain ⟨hk52, h1, h2⟩ := logs n h0 h
  obtain ⟨q, hq0, hq, c1, c2, c3, c4, c5⟩ := consts
  obtain ⟨k, hk⟩ : ∃ k, n.log2 = k := ⟨_, rfl⟩
  rw [hq] at h1 h2
  rw [hk] at hk52 h1 h2 ⊢
  obtain ⟨p, hp⟩ : ∃ p, 2 ^ (52 - k) = p := ⟨_, rfl⟩
  rw [hp] at h1 h2 ⊢
  rw [fl_word n k p q h0 hk52 hk hp hq h1 h2]
  clear hp hk
  generalize n * p = N at *
  obtain ⟨r1, r2, r3, r4, r5, r6⟩ := rungs q k N hq0 hk52 h1 h2
  have hdec : ∀ x, FloatKind.f64.decode x = Ieee.double.read x := fun _ => rfl
  rw [hdec]
  generalize (k + 1022) * q + N = r at *
  have hrd : Ieee.double.read r = (if r % Ieee.double.signWeight < Ieee.double.binade then Ieee.Datum.number (r / Ieee.double.signWeight % 2 == 1) (r % Ieee.double.signWeight) Ieee.double.leastPlace else if r % Ieee.double.signWeight < Ieee.double.infRung then Ieee.Datum.number (r / Ieee.double.signWeight % 2 == 1) (Ieee.double.binade + r % Ieee.double.signWeight % Ieee.double.binade) (Ieee.double.leastPlace + (r % Ieee.double.signWeight / Ieee.double.binade - 1 : Nat)) else if r % Ieee.double.signWeight = Ieee.double.infRung then .infinity (r / Ieee.double.signWeight % 2 == 1) else .nan (r / Ieee.double.signWeight % 2 == 1) (r % Ieee.double.signWeight - Ieee.double.infRung)) := rfl
  rw [hrd, c1, c2, c3, c4, r2, r3, if_neg r4, if_pos r1, r5, r6]
  have e1 : q + (N - q) = N := by omega
  have e2 : (-1074 : Int) + ((k + 1023 - 1 : Nat) : Int) = (k : Int) - 52 := by omega
  rw [e1, e2]
  rfl
theorem log_shift (n d : Nat) (h0 : 0 < n) : (n * 2 ^ d).log2 = n.log2 + d := by
  rw [Nat.log2_eq_iff (by have := Nat.mul_pos h0 (Nat.two_pow_pos d); omega)]
  have h1 : 2 ^ n.log2 ≤ n := Nat.log2_self_le (by omega)
  have h2 : n < 2 ^ (n.log2 + 1) := Nat.lt_log2_self
  refine ⟨?_, ?_⟩
  · rw [Nat.pow_add]; exact Nat.mul_le_mul_right _ h1
  · rw [show n.log2 + d + 1 = (n.log2 + 1) + d by omega, Nat.pow_add]; exact Nat.mul_lt_mul_of_pos_right h2 (Nat.two_pow_pos _)
theorem fl_toInt (n : Nat) (h : n < 2 ^ 53) : (FloatKind.f64.decode (fl n)).toInt .zero = some (n : Int) := by
  rcases Nat.eq_zero_or_pos n with h0 | h0
  · subst h0; decide +kernel
  obtain ⟨hk52, -, -⟩ := logs n h0 h
  rw [fl_read n h0 h]
  have hl := log_shift n (52 - n.log2) h0
  generalize n.log2 = k at *
  unfold Ieee.Datum.toInt Ieee.Datum.integral
  simp only
  rw [show ((k : Int) - 52).toNat = 0 by omega, Nat.shiftLeft_zero, show (-((k : Int) - 52)).toNat = 52 - k by omega, cut_zero _ _ _ (by rw [hl]; omega), Nat.mul_div_cancel _ (Nat.two_pow_pos _)]
  unfold Ieee.signed
  rw [if_neg (by simp), Nat.shiftLeft_zero]
theorem fl_self (n : Nat) (h : n < 2 ^ 53) : FloatKind.f64.format.order (fl n) (fl n) = some Ordering.eq := by
  rcases Nat.eq_zero_or_pos n with h0 | h0
  · subst h0; decide +kernel
  have hdec : ∀ x, FloatKind.f64.format.order x x = (FloatKind.f64.decode x).order (FloatKind.f64.decode x) := fun _ => rfl
  rw [hdec, fl_read n h0 h]
  unfold Ieee.Datum.order
  simp
set_option maxRecDepth 100000 in
theorem toFl (w : World) (n : Nat) : Sem.run Try.prog (convert 3 67 (.int .i64 (n : Int))) w = .ok (.float .f64 (fl n)) w := by rfl
set_option maxRecDepth 100000 in
theorem toErr (w : World) (n : Nat) (h : n ≤ 65535) : Sem.run Try.prog (convert 67 24 (.float .f64 (fl n))) w = .ok (.int .i64 (n : Int)) w := by
  have h1 : Sem.run Try.prog (convert 67 24 (.float .f64 (fl n))) w = Sem.run Try.prog (Conv.floatToInt .f64 (fl n) .i64) w := by rfl
  rw [h1]
  unfold Conv.floatToInt
  rw [fl_toInt n (by omega)]
  have hm : IntKind.i64.min ≤ (n : Int) ∧ (n : Int) ≤ IntKind.i64.max := by
    have e1 : IntKind.i64.min = -9223372036854775808 := by rfl
    have e2 : IntKind.i64.max = 9223372036854775807 := by rfl
    exact ⟨by omega, by omega⟩
  simp only [if_pos hm]
  rfl
set_option maxRecDepth 100000 in
theorem toCx (w : World) (x y : Nat) : Sem.run Try.prog (Builtin.complex_ #[67, 67] 51 #[.float .f64 x, .float .f64 y]) w = .ok (.complex .f64 x y) w := by rfl
end Go.Proofs.Ytgnepppncmjagaa.Gt
