/- A set with a byte more; sets joined. -/
import Derived.Test.YtglhhcgoppmipaaSet
namespace Go.Proofs.Ytglhhcgoppmipaa.Cl
open Go.RowKit

theorem wn_or (s q r i : Nat) (hr : r < 64) : wn (s ||| 2 ^ (64 * q + r)) i = if i = q then wn s q ||| 2 ^ r else wn s i := by
  apply Nat.eq_of_testBit_eq
  intro j
  by_cases hj : j < 64
  · rw [wn_bit _ _ _ hj, Nat.testBit_or, Nat.testBit_two_pow]
    split
    · rename_i h
      subst h
      rw [Nat.testBit_or, wn_bit _ _ _ hj, Nat.testBit_two_pow]
      congr 1
      rw [decide_eq_decide]
      omega
    · rw [wn_bit _ _ _ hj]
      have : ¬ 64 * q + r = 64 * i + j := by omega
      simp [this]
  · have hp : (18446744073709551616 : Nat) ≤ 2 ^ j := by
      have := Nat.pow_le_pow_right (n := 2) (by decide) (Nat.le_of_not_lt hj)
      simpa using this
    have hz : ∀ x, x < 18446744073709551616 → x.testBit j = false := fun x hx => Nat.testBit_lt_two_pow (Nat.lt_of_lt_of_le hx hp)
    rw [hz _ (wn_lt _ _)]
    split
    · rw [hz]
      have h2 : 2 ^ r < 2 ^ 64 := Nat.pow_lt_pow_right (by decide) hr
      exact Nat.or_lt_two_pow (n := 64) (wn_lt s q) h2
    · rw [hz _ (wn_lt _ _)]
theorem or_bits (n r : Nat) (hn : n < 18446744073709551616) (hr : r < 64) : Go.bits .or .u64 (n : Int) ((2 : Int) ^ r) = ((n ||| 2 ^ r : Nat) : Int) := by
  have h2 : 2 ^ r < 2 ^ 64 := Nat.pow_lt_pow_right (by decide) hr
  rw [show (2 : Int) ^ r = ((2 ^ r : Nat) : Int) from by rw [Int.natCast_pow]; rfl]
  exact u64_or_nat n (2 ^ r) hn h2
theorem or_wd (s q r : Nat) (hr : r < 64) : Go.bits .or .u64 (wd s q) (IntKind.u64.wrap (2 ^ r)) = wd (s ||| 2 ^ (64 * q + r)) q := by
  have hw : IntKind.u64.wrap ((2 : Int) ^ r) = (2 : Int) ^ r := by
    have h2 : 2 ^ r < 2 ^ 64 := Nat.pow_lt_pow_right (by decide) hr
    have e : (2 : Int) ^ r = ((2 ^ r : Nat) : Int) := by rw [Int.natCast_pow]; rfl
    rw [e]
    simp only [IntKind.wrap, IntKind.bits, IntKind.signed]
    have : ((2 ^ r : Nat) : Int) < 18446744073709551616 := by omega
    have h0 : (0 : Int) ≤ ((2 ^ r : Nat) : Int) := Int.natCast_nonneg _
    simp
    omega
  unfold wd
  rw [hw, or_bits _ r (wn_lt s q) hr, wn_or s q r q hr, if_pos rfl]
theorem wd_other (s q r i : Nat) (hr : r < 64) (h : i ≠ q) : wd (s ||| 2 ^ (64 * q + r)) i = wd s i := by
  unfold wd
  rw [wn_or s q r i hr, if_neg h]
set_option maxHeartbeats 4000000 in
theorem add_calls (s : Nat) (x : Int) (q r : Nat) (w : World) (hq : q < 4) (hr : r < 64) (hx : x = 64 * (q : Int) + (r : Int)) :
    Calls Try.prog 24 #[St s, .int .i64 x] w fun e w' => e = .returned (St (s ||| 2 ^ (64 * q + r))) ∧ Below w.heap.size w w' := by
  unfold St cs
  have h8 : Int.tdiv x 64 = (q : Int) := by rw [Int.tdiv_eq_ediv_of_nonneg (by omega)]; omega
  have h9 : Int.tmod x 64 = (r : Int) := by rw [Int.tmod_eq_emod_of_nonneg (by omega)]; omega
  have h7 : (0 : Int) ≤ (r : Int) := by omega
  clear hx
  match q, hq with
  | 0, _ =>
    go_enter Try.func24, Try.ntmps24
    go_wp2
    refine bodyPost_ret (results_cell_row rfl _ _ (w.heap.size + 1) 24 _ (0, 0) _ rfl (Go.heap_alloc2_new _ _ _) Try.underlying24 rfl (by kernel_rfl)) rfl ?_
    refine ⟨?_, ((Below.refl _ _).alloc (Nat.le_refl _) _).alloc (by simp) _⟩
    rw [or_wd s 0 r hr, wd_other s 0 r 1 hr (by decide), wd_other s 0 r 2 hr (by decide), wd_other s 0 r 3 hr (by decide)]
  | 1, _ =>
    go_enter Try.func24, Try.ntmps24
    go_wp2
    refine bodyPost_ret (results_cell_row rfl _ _ (w.heap.size + 1) 24 _ (0, 0) _ rfl (Go.heap_alloc2_new _ _ _) Try.underlying24 rfl (by kernel_rfl)) rfl ?_
    refine ⟨?_, ((Below.refl _ _).alloc (Nat.le_refl _) _).alloc (by simp) _⟩
    rw [or_wd s 1 r hr, wd_other s 1 r 0 hr (by decide), wd_other s 1 r 2 hr (by decide), wd_other s 1 r 3 hr (by decide)]
  | 2, _ =>
    go_enter Try.func24, Try.ntmps24
    go_wp2
    refine bodyPost_ret (results_cell_row rfl _ _ (w.heap.size + 1) 24 _ (0, 0) _ rfl (Go.heap_alloc2_new _ _ _) Try.underlying24 rfl (by kernel_rfl)) rfl ?_
    refine ⟨?_, ((Below.refl _ _).alloc (Nat.le_refl _) _).alloc (by simp) _⟩
    rw [or_wd s 2 r hr, wd_other s 2 r 0 hr (by decide), wd_other s 2 r 1 hr (by decide), wd_other s 2 r 3 hr (by decide)]
  | 3, _ =>
    go_enter Try.func24, Try.ntmps24
    go_wp2
    refine bodyPost_ret (results_cell_row rfl _ _ (w.heap.size + 1) 24 _ (0, 0) _ rfl (Go.heap_alloc2_new _ _ _) Try.underlying24 rfl (by kernel_rfl)) rfl ?_
    refine ⟨?_, ((Below.refl _ _).alloc (Nat.le_refl _) _).alloc (by simp) _⟩
    rw [or_wd s 3 r hr, wd_other s 3 r 0 hr (by decide), wd_other s 3 r 1 hr (by decide), wd_other s 3 r 2 hr (by decide)]
end Go.Proofs.Ytglhhcgoppmipaa.Cl
