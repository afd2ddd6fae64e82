/- Sets of bytes as numbers below 2^256: their words and bits. -/
import Derived.Test.YtglhhcgoppmipaaProg
import Derived.Test.YtglhhcgoppmipaaWMore
import Derived.Laws.BitsAllLaws
import Derived.Laws.BitsLemmas
import Derived.WalkKit
namespace Go.Proofs.Ytglhhcgoppmipaa.Cl
open Go.RowKit

def wn (s i : Nat) : Nat := (s >>> (64 * i)) % 2 ^ 64
def wd (s i : Nat) : Int := (wn s i : Nat)
def cs (s : Nat) : Array Value := #[.int .u64 (wd s 0), .int .u64 (wd s 1), .int .u64 (wd s 2), .int .u64 (wd s 3)]
def St (s : Nat) : Value := .agg (cs s)
theorem cs_get (s : Nat) (q : Nat) (h : q < 4) : ∀ h : q < 4, ([.int .u64 (wd s 0), .int .u64 (wd s 1), .int .u64 (wd s 2), .int .u64 (wd s 3)] : List Value)[q]'h = .int .u64 (wd s q) := fun h => by
  match q, h with
  | 0, _ | 1, _ | 2, _ | 3, _ => rfl
theorem wn_lt (s i : Nat) : wn s i < 18446744073709551616 := Nat.mod_lt _ (by decide)
theorem wn_bit (s q r : Nat) (hr : r < 64) : (wn s q).testBit r = s.testBit (64 * q + r) := by
  unfold wn
  rw [Nat.testBit_mod_two_pow, decide_eq_true hr, Bool.true_and, Nat.testBit_shiftRight]
theorem shr_nat (n r : Nat) : (n : Int) / 2 ^ r = ((n / 2 ^ r : Nat) : Int) := by
  rw [Int.natCast_ediv, Int.natCast_pow]
  rfl
theorem bit_mod (n r : Nat) : n / 2 ^ r % 2 = (n.testBit r).toNat := by
  rw [Nat.testBit_eq_decide_div_mod_eq]
  rcases Nat.mod_two_eq_zero_or_one (n / 2 ^ r) with h | h <;> simp [h]
theorem bit_of (s q r : Nat) (hr : r < 64) : (Go.bits .and .u64 (wd s q / 2 ^ r) 1 == 1) = s.testBit (64 * q + r) := by
  unfold wd
  have hl : wn s q / 2 ^ r < 18446744073709551616 := Nat.lt_of_le_of_lt (Nat.div_le_self _ _) (wn_lt s q)
  rw [shr_nat, show (1 : Int) = ((1 : Nat) : Int) from rfl, u64_and_nat _ _ hl (by decide), Nat.and_one_is_mod, bit_mod, wn_bit s q r hr]
  cases s.testBit (64 * q + r) <;> rfl
theorem bit_rem (s q r : Nat) (hr : r < 64) : (wd s q / 2 ^ r % 2 == 1) = s.testBit (64 * q + r) := by
  unfold wd
  rw [shr_nat, show (2 : Int) = ((2 : Nat) : Int) from rfl, ← Int.natCast_emod, bit_mod, wn_bit s q r hr]
  cases s.testBit (64 * q + r) <;> rfl
theorem and63 (x : Int) (h0 : 0 ≤ x) (h1 : x < 256) : Go.bits .and .u8 x 63 = x % 64 := u8_and63 x h0 h1
set_option maxHeartbeats 4000000 in
theorem has_calls (s : Nat) (x : Int) (q r : Nat) (w : World) (hq : q < 4) (hr : r < 64) (hx : x = 64 * (q : Int) + (r : Int)) :
    Calls Try.prog 10 #[St s, .int .u8 x] w fun e w' => e = .returned (.bool (s.testBit (64 * q + r))) ∧ Below w.heap.size w w' := by
  unfold St cs
  have h1 := cs_get s q hq
  have h3 : x / 64 = (q : Int) := by omega
  have h6 : Go.bits .and .u8 x 63 = (r : Int) := by rw [and63 x (by omega) (by omega)]; omega
  have h4 : (0 : Int) ≤ (q : Int) := by omega
  have h5 : (q : Int) < 4 := by omega
  have h7 : (0 : Int) ≤ (r : Int) := by omega
  clear hx
  go_enter Try.func10, Try.ntmps10
  go_wp2
  go_ret
  exact ⟨by rw [← bit_of s q r hr]; rfl, (Below.refl _ _).alloc (Nat.le_refl _) _⟩
set_option maxHeartbeats 4000000 in
theorem refhas_calls (s : Nat) (x : Int) (q r : Nat) (w : World) (hq : q < 4) (hr : r < 64) (hx : x = 64 * (q : Int) + (r : Int)) :
    Calls Try.prog 11 #[St s, .int .u8 x] w fun e w' => e = .returned (.bool (s.testBit (64 * q + r))) ∧ Below w.heap.size w w' := by
  unfold St cs
  have h1 := cs_get s q hq
  have h3 : x / 64 = (q : Int) := by omega
  have h6 : x % 64 = (r : Int) := by omega
  have h8 : Int.tdiv x 64 = (q : Int) := by rw [Int.tdiv_eq_ediv_of_nonneg (by omega)]; exact h3
  have h9 : Int.tmod x 64 = (r : Int) := by rw [Int.tmod_eq_emod_of_nonneg (by omega)]; exact h6
  have h4 : (0 : Int) ≤ (q : Int) := by omega
  have h5 : (q : Int) < 4 := by omega
  have h7 : (0 : Int) ≤ (r : Int) := by omega
  clear hx
  go_enter Try.func11, Try.ntmps11
  go_wp2
  go_ret
  exact ⟨by
    have hn : 0 ≤ wd s q / 2 ^ r := by unfold wd; rw [shr_nat]; exact Int.natCast_nonneg _
    rw [← bit_rem s q r hr, ← Int.tmod_eq_emod_of_nonneg hn]; rfl, (Below.refl _ _).alloc (Nat.le_refl _) _⟩
def compl (s : Nat) : Nat := 2 ^ 256 - 1 - s
theorem wn_compl (s i : Nat) (hs : s < 2 ^ 256) (hi : i < 4) : wn (compl s) i = 2 ^ 64 - 1 - wn s i := by
  unfold wn compl
  rw [Nat.shiftRight_eq_div_pow, Nat.shiftRight_eq_div_pow]
  match i, hi with
  | 0, _ | 1, _ | 2, _ | 3, _ =>
    simp only [Nat.reduceMul, Nat.reducePow, Nat.reduceSub] at *
    omega
theorem u64_not (a : Nat) (ha : a < 18446744073709551616) : Go.bits .xor .u64 IntKind.u64.max (a : Int) = ((2 ^ 64 - 1 - a : Nat) : Int) := by
  show IntKind.u64.wrap ((BitVec.ofInt 64 IntKind.u64.max ^^^ BitVec.ofInt 64 (a : Int)).toNat : Int) = _
  have h1 : BitVec.ofInt 64 IntKind.u64.max = BitVec.allOnes 64 := by decide
  rw [h1, BitVec.allOnes_xor, BitVec.toNat_not, ofInt_u64 a (by omega)]
  simp [IntKind.wrap, IntKind.bits, IntKind.signed]
  omega
theorem wd_not (s i : Nat) (hs : s < 2 ^ 256) (hi : i < 4) : Go.bits .xor .u64 IntKind.u64.max (wd s i) = wd (compl s) i := by
  unfold wd
  rw [u64_not _ (wn_lt s i), wn_compl s i hs hi]
/-- The words of which the first j are turned. -/
def mixn (s j i : Nat) : Int := if i < j then wd (compl s) i else wd s i
set_option maxHeartbeats 4000000 in
theorem not_calls (s : Nat) (w : World) (hs : s < 2 ^ 256) :
    Calls Try.prog 14 #[St s] w fun e w' => e = .returned (St (compl s)) ∧ Below w.heap.size w w' := by
  unfold St cs
  go_enter Try.func14, Try.ntmps14
  go_wp2
  go_loopg [4] 4 (fun kq v4 w' => ∃ j : Nat, v4 = .int .i64 (j : Int) ∧ j + kq = 4 ∧ w' = (w.alloc (.cells #[.int .u64 (mixn s j 0), .int .u64 (mixn s j 1), .int .u64 (mixn s j 2), .int .u64 (mixn s j 3)] 24)).alloc (.cells #[.int .u64 0, .int .u64 0, .int .u64 0, .int .u64 0] 24))
  case atStart => exact ⟨0, rfl, rfl, rfl⟩
  case round =>
    obtain ⟨j, rfl, hj, rfl⟩ := hrel
    cases gk with
    | zero =>
      have hj' : j = 4 := by omega
      subst hj'
      go_wp2
      refine bodyPost_ret (results_cell_row rfl _ _ (w.heap.size + 1) 24 _ (0, 0) _ rfl (Go.heap_alloc2_new _ _ _) Try.underlying24 rfl (by kernel_rfl)) rfl ?_
      exact ⟨rfl, ((Below.refl _ _).alloc (Nat.le_refl _) _).alloc (by simp) _⟩
    | succ k1 =>
      have hlt : j < 4 := by omega
      have e : ∀ i, i < 4 → Go.bits .xor .u64 IntKind.u64.max (wd s i) = wd (compl s) i := fun i hi => wd_not s i hs hi
      match j, hlt with
      | 0, _ =>
        go_wp2
        go_roundg k1
        case measure => omega
        case rel => exact ⟨1, rfl, by omega, by unfold mixn; rw [if_neg (by decide), e 0 (by decide)]; rfl⟩
      | 1, _ =>
        go_wp2
        go_roundg k1
        case measure => omega
        case rel => exact ⟨2, rfl, by omega, by unfold mixn; rw [if_neg (show ¬ 1 < 1 by decide), e 1 (by decide)]; rfl⟩
      | 2, _ =>
        go_wp2
        go_roundg k1
        case measure => omega
        case rel => exact ⟨3, rfl, by omega, by unfold mixn; rw [if_neg (show ¬ 2 < 2 by decide), e 2 (by decide)]; rfl⟩
      | 3, _ =>
        go_wp2
        go_roundg k1
        case measure => omega
        case rel => exact ⟨4, rfl, by omega, by unfold mixn; rw [if_neg (show ¬ 3 < 3 by decide), e 3 (by decide)]; rfl⟩
end Go.Proofs.Ytglhhcgoppmipaa.Cl
