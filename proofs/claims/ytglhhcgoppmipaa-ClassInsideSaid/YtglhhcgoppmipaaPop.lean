/- How many bits of a number are set: in parallel, as a sum of bits. -/
import Derived.Test.YtglhhcgoppmipaaRefs3
namespace Go.Proofs.Ytglhhcgoppmipaa.Cl

theorem and_split (k a b x y : Nat) (hx : x < 2 ^ k) (hy : y < 2 ^ k) : (2 ^ k * a + x) &&& (2 ^ k * b + y) = 2 ^ k * (a &&& b) + (x &&& y) := by
  apply Nat.eq_of_testBit_eq
  intro j
  rw [Nat.testBit_and, Nat.testBit_two_pow_mul_add _ hx, Nat.testBit_two_pow_mul_add _ hy, Nat.testBit_two_pow_mul_add _ (Nat.and_lt_two_pow _ hy)]
  by_cases h : j < k
  · rw [if_pos h, if_pos h, if_pos h, Nat.testBit_and]
  · rw [if_neg h, if_neg h, if_neg h, Nat.testBit_and]
def m0 : Nat → Nat
  | 0 => 0
  | n + 1 => 4 * m0 n + 1
def m1 : Nat → Nat
  | 0 => 0
  | n + 1 => 16 * m1 n + 3
def m2 : Nat → Nat
  | 0 => 0
  | n + 1 => 256 * m2 n + 15
def p1 : Nat → Nat → Nat
  | 0, _ => 0
  | n + 1, x => 4 * p1 n (x / 4) + (x / 2 % 2 + x % 2)
def p2 : Nat → Nat → Nat
  | 0, _ => 0
  | n + 1, x => 16 * p2 n (x / 16) + (x / 4 % 4 + x % 4)
def p3 : Nat → Nat → Nat
  | 0, _ => 0
  | n + 1, x => 256 * p3 n (x / 256) + (x / 16 + x) % 16
theorem s1 (n : Nat) : ∀ x, (x / 2 &&& m0 n) + (x &&& m0 n) = p1 n x := by
  induction n with
  | zero => intro x; simp [m0, p1]
  | succ n ih =>
    intro x
    have a1 := and_split 2 (x / 4 / 2) (m0 n) (x / 2 % 4) 1 (Nat.mod_lt _ (by decide)) (by decide)
    have a2 := and_split 2 (x / 4) (m0 n) (x % 4) 1 (Nat.mod_lt _ (by decide)) (by decide)
    rw [Nat.and_one_is_mod] at a1 a2
    rw [show 2 ^ 2 * (x / 4 / 2) + x / 2 % 4 = x / 2 by omega] at a1
    rw [show 2 ^ 2 * (x / 4) + x % 4 = x by omega] at a2
    have h := ih (x / 4)
    unfold m0 p1
    have e1 : x / 2 &&& 4 * m0 n + 1 = 2 ^ 2 * (x / 4 / 2 &&& m0 n) + x / 2 % 4 % 2 := a1
    have e2 : x &&& 4 * m0 n + 1 = 2 ^ 2 * (x / 4 &&& m0 n) + x % 4 % 2 := a2
    rw [e1, e2]
    omega
theorem and3 (x : Nat) : x &&& 3 = x % 4 := Nat.and_two_pow_sub_one_eq_mod x 2
theorem and15 (x : Nat) : x &&& 15 = x % 16 := Nat.and_two_pow_sub_one_eq_mod x 4
theorem s2 (n : Nat) : ∀ x, (x / 4 &&& m1 n) + (x &&& m1 n) = p2 n x := by
  induction n with
  | zero => intro x; simp [m1, p2]
  | succ n ih =>
    intro x
    have a1 := and_split 4 (x / 16 / 4) (m1 n) (x / 4 % 16) 3 (Nat.mod_lt _ (by decide)) (by decide)
    have a2 := and_split 4 (x / 16) (m1 n) (x % 16) 3 (Nat.mod_lt _ (by decide)) (by decide)
    rw [and3] at a1 a2
    rw [show 2 ^ 4 * (x / 16 / 4) + x / 4 % 16 = x / 4 by omega] at a1
    rw [show 2 ^ 4 * (x / 16) + x % 16 = x by omega] at a2
    have h := ih (x / 16)
    unfold m1 p2
    have e1 : x / 4 &&& 16 * m1 n + 3 = 2 ^ 4 * (x / 16 / 4 &&& m1 n) + x / 4 % 16 % 4 := a1
    have e2 : x &&& 16 * m1 n + 3 = 2 ^ 4 * (x / 16 &&& m1 n) + x % 16 % 4 := a2
    rw [e1, e2]
    omega
/-- All n digits (of 4 bits) are at most 4. -/
def D : Nat → Nat → Prop
  | 0, x => x = 0
  | n + 1, x => x % 16 ≤ 4 ∧ D n (x / 16)
theorem D.low {n x : Nat} (h : D n x) : x % 16 ≤ 4 := by
  cases n with
  | zero => rw [show x = 0 from h]; decide
  | succ n => exact h.1
theorem D_p1 (n : Nat) : ∀ x, p1 (2 * n) x % 4 ≤ 2 ∧ p1 (2 * n) x / 4 % 4 ≤ 2 := by
  intro x
  cases n with
  | zero => simp [p1]
  | succ n =>
    rw [show 2 * (n + 1) = 2 * n + 1 + 1 by omega, p1, p1]
    omega
theorem D_p2 (n : Nat) : ∀ x, D n (p2 n (p1 (2 * n) x)) := by
  induction n with
  | zero => intro x; rfl
  | succ n ih =>
    intro x
    have h := ih (x / 16)
    have hd := D_p1 (n + 1) x
    have e : p1 (2 * (n + 1)) x / 16 = p1 (2 * n) (x / 16) := by
      rw [show 2 * (n + 1) = 2 * n + 1 + 1 by omega, p1, p1, show x / 4 / 4 = x / 16 by omega]
      omega
    unfold p2 D
    rw [e]
    have h2 : (16 * p2 n (p1 (2 * n) (x / 16)) + (p1 (2 * (n + 1)) x / 4 % 4 + p1 (2 * (n + 1)) x % 4)) / 16 = p2 n (p1 (2 * n) (x / 16)) := by omega
    rw [h2]
    exact ⟨by omega, h⟩
theorem s3 (n : Nat) : ∀ x, D (2 * n) x → ((x / 16 + x) &&& m2 n) = p3 n x := by
  induction n with
  | zero => intro x _; simp [m2, p3]
  | succ n ih =>
    intro x hx
    rw [show 2 * (n + 1) = 2 * n + 1 + 1 by omega] at hx
    obtain ⟨h0, h1, h2⟩ := hx
    have hq : x / 16 / 16 = x / 256 := by omega
    rw [hq] at h2
    have h3 := h2.low
    have a1 := and_split 8 (x / 256 / 16 + x / 256) (m2 n) ((x / 16 + x) % 256) 15 (Nat.mod_lt _ (by decide)) (by decide)
    rw [and15] at a1
    rw [show 2 ^ 8 * (x / 256 / 16 + x / 256) + (x / 16 + x) % 256 = x / 16 + x by omega] at a1
    have h := ih (x / 256) h2
    unfold m2 p3
    have e1 : x / 16 + x &&& 256 * m2 n + 15 = 2 ^ 8 * (x / 256 / 16 + x / 256 &&& m2 n) + (x / 16 + x) % 256 % 16 := a1
    rw [e1, h]
    omega
def b8 (x : Nat) : Nat := x % 2 + x / 2 % 2 + x / 4 % 2 + x / 8 % 2 + x / 16 % 2 + x / 32 % 2 + x / 64 % 2 + x / 128 % 2
theorem s_step (n x : Nat) : p3 (n + 1) (p2 (2 * (n + 1)) (p1 (2 * (2 * (n + 1))) x)) = 256 * p3 n (p2 (2 * n) (p1 (2 * (2 * n)) (x / 256))) + b8 x := by
  have e1 : p1 (2 * (2 * (n + 1))) x = 256 * p1 (2 * (2 * n)) (x / 256) + (64 * (x / 128 % 2 + x / 64 % 2) + 16 * (x / 32 % 2 + x / 16 % 2) + 4 * (x / 8 % 2 + x / 4 % 2) + (x / 2 % 2 + x % 2)) := by
    rw [show 2 * (2 * (n + 1)) = 2 * (2 * n) + 1 + 1 + 1 + 1 by omega]
    rw [p1, p1, p1, p1]
    simp only [Nat.div_div_eq_div_mul, Nat.reduceMul]
    omega
  generalize p1 (2 * (2 * n)) (x / 256) = P at *
  have hlow : ∀ a b c d : Nat, a ≤ 2 → b ≤ 2 → c ≤ 2 → d ≤ 2 → p2 (2 * (n + 1)) (256 * P + (64 * a + 16 * b + 4 * c + d)) = 256 * p2 (2 * n) P + (16 * (a + b) + (c + d)) := by
    intro a b c d ha hb hc hd
    rw [show 2 * (n + 1) = 2 * n + 1 + 1 by omega, p2, p2]
    rw [show (256 * P + (64 * a + 16 * b + 4 * c + d)) / 16 / 16 = P by omega]
    omega
  have hl := hlow (x / 128 % 2 + x / 64 % 2) (x / 32 % 2 + x / 16 % 2) (x / 8 % 2 + x / 4 % 2) (x / 2 % 2 + x % 2) (by omega) (by omega) (by omega) (by omega)
  rw [e1, hl]
  generalize p2 (2 * n) P = Q at *
  unfold b8
  have h3 : ∀ a b : Nat, a ≤ 4 → b ≤ 4 → p3 (n + 1) (256 * Q + (16 * a + b)) = 256 * p3 n Q + (a + b) := by
    intro a b ha hb
    rw [p3, show (256 * Q + (16 * a + b)) / 256 = Q by omega]
    omega
  rw [h3 _ _ (by omega) (by omega)]
  omega
/-- The sum of the bytes' numbers of bits. -/
def sum8 : Nat → Nat → Nat
  | 0, _ => 0
  | n + 1, x => b8 x + sum8 n (x / 256)
theorem b8_le (x : Nat) : b8 x ≤ 8 := by unfold b8; omega
theorem fold (y x : Nat) (h : y = p3 8 (p2 16 (p1 32 x))) :
    (let z := y + y / 256; let u := z + z / 65536; let v := u + u / 4294967296; v % 128) = sum8 8 x ∧ y < 2 ^ 60 := by
  have e8 := s_step 7 x
  have e7 := s_step 6 (x / 256)
  have e6 := s_step 5 (x / 256 / 256)
  have e5 := s_step 4 (x / 256 / 256 / 256)
  have e4 := s_step 3 (x / 256 / 256 / 256 / 256)
  have e3 := s_step 2 (x / 256 / 256 / 256 / 256 / 256)
  have e2 := s_step 1 (x / 256 / 256 / 256 / 256 / 256 / 256)
  have e1 := s_step 0 (x / 256 / 256 / 256 / 256 / 256 / 256 / 256)
  simp only [Nat.reduceAdd, Nat.reduceMul] at e1 e2 e3 e4 e5 e6 e7 e8
  rw [← h] at e8
  rw [e7, e6, e5, e4, e3, e2, e1, p3] at e8
  simp only [sum8]
  have c0 := b8_le x
  have c1 := b8_le (x / 256)
  have c2 := b8_le (x / 256 / 256)
  have c3 := b8_le (x / 256 / 256 / 256)
  have c4 := b8_le (x / 256 / 256 / 256 / 256)
  have c5 := b8_le (x / 256 / 256 / 256 / 256 / 256)
  have c6 := b8_le (x / 256 / 256 / 256 / 256 / 256 / 256)
  have c7 := b8_le (x / 256 / 256 / 256 / 256 / 256 / 256 / 256)
  generalize b8 x = d0 at *
  generalize b8 (x / 256) = d1 at *
  generalize b8 (x / 256 / 256) = d2 at *
  generalize b8 (x / 256 / 256 / 256) = d3 at *
  generalize b8 (x / 256 / 256 / 256 / 256) = d4 at *
  generalize b8 (x / 256 / 256 / 256 / 256 / 256) = d5 at *
  generalize b8 (x / 256 / 256 / 256 / 256 / 256 / 256) = d6 at *
  generalize b8 (x / 256 / 256 / 256 / 256 / 256 / 256 / 256) = d7 at *
  clear e1 e2 e3 e4 e5 e6 e7 h
  have k1 : ∀ a b : Nat, a < 256 → (a + 256 * b) / 256 = b := fun a b h => by omega
  have k2 : ∀ a b c : Nat, a ≤ 16 → b ≤ 16 → (a + 256 * b + 65536 * c) / 65536 = c := fun a b c h1 h2 => by omega
  have k3 : ∀ a b c d e : Nat, a ≤ 32 → b ≤ 32 → c ≤ 32 → d ≤ 32 → (a + 256 * b + 65536 * c + 16777216 * d + 4294967296 * e) / 4294967296 = e := fun a b c d e h1 h2 h3 h4 => by omega
  have k4 : ∀ a b : Nat, a ≤ 64 → (a + 256 * b) % 128 = a := fun a b h => by omega
  have y1 : y = d0 + 256 * (d1 + 256 * (d2 + 256 * (d3 + 256 * (d4 + 256 * (d5 + 256 * (d6 + 256 * d7)))))) := by omega
  clear e8
  refine ⟨?_, by omega⟩
  show ((y + y / 256) + (y + y / 256) / 65536 + ((y + y / 256) + (y + y / 256) / 65536) / 4294967296) % 128 = _
  have z1 : y + y / 256 = (d0 + d1) + 256 * (d1 + d2) + 65536 * ((d2 + d3) + 256 * ((d3 + d4) + 256 * ((d4 + d5) + 256 * ((d5 + d6) + 256 * ((d6 + d7) + 256 * d7))))) := by
    rw [y1, k1 _ _ (by omega)]
    clear y1
    omega
  rw [z1]
  clear z1 y1 k1
  have z2 : ((d0 + d1) + 256 * (d1 + d2) + 65536 * ((d2 + d3) + 256 * ((d3 + d4) + 256 * ((d4 + d5) + 256 * ((d5 + d6) + 256 * ((d6 + d7) + 256 * d7)))))) + ((d0 + d1) + 256 * (d1 + d2) + 65536 * ((d2 + d3) + 256 * ((d3 + d4) + 256 * ((d4 + d5) + 256 * ((d5 + d6) + 256 * ((d6 + d7) + 256 * d7)))))) / 65536 = (d0 + d1 + d2 + d3) + 256 * (d1 + d2 + d3 + d4) + 65536 * (d2 + d3 + d4 + d5) + 16777216 * (d3 + d4 + d5 + d6) + 4294967296 * ((d4 + d5 + d6 + d7) + 256 * ((d5 + d6 + d7) + 256 * ((d6 + d7) + 256 * d7))) := by
    rw [k2 _ _ _ (by omega) (by omega)]
    omega
  rw [z2]
  clear z2 k2
  rw [k3 _ _ _ _ _ (by omega) (by omega) (by omega) (by omega)]
  have z3 : (d0 + d1 + d2 + d3) + 256 * (d1 + d2 + d3 + d4) + 65536 * (d2 + d3 + d4 + d5) + 16777216 * (d3 + d4 + d5 + d6) + 4294967296 * ((d4 + d5 + d6 + d7) + 256 * ((d5 + d6 + d7) + 256 * ((d6 + d7) + 256 * d7))) + ((d4 + d5 + d6 + d7) + 256 * ((d5 + d6 + d7) + 256 * ((d6 + d7) + 256 * d7))) = (d0 + d1 + d2 + d3 + d4 + d5 + d6 + d7) + 256 * ((d1 + d2 + d3 + d4 + d5 + d6 + d7) + 256 * ((d2 + d3 + d4 + d5 + d6 + d7) + 256 * ((d3 + d4 + d5 + d6 + d7) + 256 * ((d4 + d5 + d6 + d7) + 256 * ((d5 + d6 + d7) + 256 * ((d6 + d7) + 256 * d7)))))) := by omega
  rw [z3, k4 _ _ (by omega)]
  omega
theorem cnt_add (s : Nat) (m n : Nat) : ∀ c, cnt s c (m + n) = cnt s c m + cnt s (c + m) n := by
  induction m with
  | zero => intro c; simp [cnt]
  | succ m ih =>
    intro c
    rw [Nat.add_right_comm, cnt, ih (c + 1), cnt]
    rw [show c + 1 + m = c + (m + 1) by omega]
    omega
theorem cnt_congr {a b : Nat} (n : Nat) : ∀ c d, (∀ j, j < n → a.testBit (c + j) = b.testBit (d + j)) → cnt a c n = cnt b d n := by
  induction n with
  | zero => intro c d _; rfl
  | succ n ih =>
    intro c d h
    have h0 := h 0 (Nat.succ_pos _)
    rw [Nat.add_zero, Nat.add_zero] at h0
    rw [cnt, cnt, h0, ih (c + 1) (d + 1) fun j hj => by
      have := h (j + 1) (by omega)
      rw [show c + 1 + j = c + (j + 1) by omega, show d + 1 + j = d + (j + 1) by omega]
      exact this]
theorem cnt_one (x c : Nat) : (if x.testBit c = true then 1 else 0) = x / 2 ^ c % 2 := by
  rw [bit_mod]
  cases x.testBit c <;> rfl
theorem cnt_b8 (x : Nat) : cnt x 0 8 = b8 x := by
  unfold b8
  simp only [cnt, cnt_one, Nat.reduceAdd, Nat.reducePow, Nat.div_one, Nat.add_zero, Nat.zero_add]
  omega
theorem sum8_cnt (n : Nat) : ∀ x, sum8 n x = cnt x 0 (8 * n) := by
  induction n with
  | zero => intro x; rfl
  | succ n ih =>
    intro x
    rw [sum8, ih, show 8 * (n + 1) = 8 + 8 * n by omega, cnt_add, cnt_b8]
    congr 1
    refine cnt_congr _ _ _ fun j _ => ?_
    rw [show 256 = 2 ^ 8 from rfl, Nat.testBit_div_two_pow]
    congr 1
    omega
theorem cnt_word (s i : Nat) : cnt (wn s i) 0 64 = cnt s (64 * i) 64 :=
  cnt_congr _ _ _ fun j hj => by rw [Nat.zero_add]; exact wn_bit s i j hj
theorem cnt_le (s : Nat) (n : Nat) : ∀ c, cnt s c n ≤ n := by
  induction n with
  | zero => intro c; exact Nat.le_refl _
  | succ n ih =>
    intro c
    have := ih (c + 1)
    rw [cnt]
    split <;> omega
end Go.Proofs.Ytglhhcgoppmipaa.Cl
