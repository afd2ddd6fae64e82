/- Numbers' bytes, the lowest first. -/
import Derived.Test.YtnemnhfdjofckaaPrintF24
import Derived.Test.YtnemnhfdjofckaaPrintF27
namespace Go.Proofs.Ytnemnhfdjofckaa.Co
open Go Go.RowKit Go.Proofs.YtnemnhfdjofckaaW.PrintWords Go.Proofs.Ytnemnhfdjofckaa.Print
/-- A number's bytes from the i-th on. -/
def lowd (a : Int) : Nat → Nat → List Int
  | _, 0 => []
  | i, n + 1 => (a / 256 ^ i) % 256 :: lowd a (i + 1) n
theorem lowd_length (a : Int) : ∀ n i, (lowd a i n).length = n
  | 0, _ => rfl
  | n + 1, i => by simp [lowd, lowd_length a n (i + 1)]
theorem lowd_byte (a : Int) : ∀ n i, ∀ x ∈ lowd a i n, 0 ≤ x ∧ x ≤ 255
  | 0, _, x, h => by simp [lowd] at h
  | n + 1, i, x, h => by
    rcases List.mem_cons.1 h with rfl | h
    · omega
    · exact lowd_byte a n (i + 1) x h
theorem shr_eq (k : IntKind) (hk : k.bits = 64) (a y : Int) (i : Nat) (hi : i ≤ 7) (hy : y = 8 * (i : Int)) : shr k a y = a / 256 ^ i := by
  unfold shr
  rw [hk, hy, show (8 * (i : Int)).toNat = 8 * i by omega, Nat.min_eq_left (by omega), Int.pow_mul]
  rfl
theorem low_l0 (a : Int) (n : Nat) (hn : n ≤ 8) : ∀ (m i : Nat) (l : List Int), i + m = n → l.length + m ≤ 1000000000 → commits_low.l0 (m + 1) l a (n : Int) (i : Int) = some (l ++ lowd a i m) := by
  intro m
  induction m with
  | zero =>
    intro i l hi _
    unfold commits_low.l0
    rw [if_neg (by omega)]
    simp [lowd]
  | succ m ih =>
    intro i l hi hl
    unfold commits_low.l0
    have e1 : wrap64 (8 * (i : Int)) = 8 * (i : Int) := by unfold wrap64; omega
    have e2 : wrap64 ((i : Int) + 1) = ((i + 1 : Nat) : Int) := by unfold wrap64; omega
    rw [if_pos (by omega), e1, if_pos (by omega), if_pos (by omega), e2, shr_eq .u64 rfl a _ i (by omega) rfl, ih (i + 1) _ (by omega) (by simp; omega)]
    simp [lowd]
theorem low_f (a : Int) (n : Nat) (hn : n ≤ 8) (l : List Int) (hl : l.length ≤ 999999000) : commits_low.f (n + 1) l a (n : Int) = some (l ++ lowd a 0 n) := by
  unfold commits_low.f
  exact low_l0 a n hn n 0 l (by omega) (by omega)
theorem rlow_l0 (a : Int) (n : Nat) (hn : n ≤ 8) : ∀ (m i : Nat) (l : List Int), i + m = n → l.length + m ≤ 1000000000 → headgateref20_low.l0 (m + 1) a (n : Int) l (i : Int) = some (l ++ lowd a i m) := by
  intro m
  induction m with
  | zero =>
    intro i l hi _
    unfold headgateref20_low.l0
    rw [if_neg (by omega)]
    simp [lowd]
  | succ m ih =>
    intro i l hi hl
    unfold headgateref20_low.l0
    have e1 : wrap64 (8 * (i : Int)) = 8 * (i : Int) := by unfold wrap64; omega
    have e3 : IntKind.u64.wrap (8 * (i : Int)) = 8 * (i : Int) := by rw [IntKind.wrap_u64]; omega
    have e2 : wrap64 ((i : Int) + 1) = ((i + 1 : Nat) : Int) := by unfold wrap64; omega
    rw [if_pos (by omega), e1, e3, if_pos (by omega), if_pos (by omega), e2, shr_eq .i64 rfl a _ i (by omega) rfl, ih (i + 1) _ (by omega) (by simp; omega)]
    simp [lowd]
theorem rlow_f (a : Int) (n : Nat) (hn : n ≤ 8) : headgateref20_low.f (n + 1) a (n : Int) = some (lowd a 0 n) := by
  unfold headgateref20_low.f
  exact rlow_l0 a n hn n 0 [] (by omega) (by simp; omega)
end Go.Proofs.Ytnemnhfdjofckaa.Co
