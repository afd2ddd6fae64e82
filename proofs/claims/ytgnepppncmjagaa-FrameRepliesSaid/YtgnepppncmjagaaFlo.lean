/- Floats that are whole numbers of two bytes. -/
import Derived.Test.YtgnepppncmjagaaPackG
namespace Go.Proofs.Ytgnepppncmjagaa.Gt
open Go Go.RowKit
/-- The whole number of a float. -/
def wi (x : Nat) : Nat := (((FloatKind.f64.decode x).toInt .zero).getD 0).toNat
abbrev top16 : Nat := 4679239875398991872
def geB (o : Option Ordering) : Bool := o == some .gt || o == some .eq
def leB (o : Option Ordering) : Bool := o == some .lt || o == some .eq
/-- It lies between nought and 65535. -/
def inr (x : Nat) : Bool := geB (FloatKind.f64.format.order x 0) && leB (FloatKind.f64.format.order x top16)
/-- It is whole. -/
def wh (x : Nat) : Bool := inr x && (FloatKind.f64.format.order (fl (wi x)) x == some .eq)
theorem read0 : FloatKind.f64.format.read 0 = .number false 0 (-1074) := by decide +kernel
theorem readTop : FloatKind.f64.format.read top16 = .number false (65535 * 2 ^ 37) (-37) := by decide +kernel
theorem geB_cmp (a b : Int) : geB (some (compare a b)) = true ↔ b ≤ a := by
  unfold geB
  rcases Int.lt_trichotomy a b with h | h | h
  · rw [show compare a b = .lt from Int.compare_eq_lt.2 h]; simp; omega
  · rw [show compare a b = .eq from Int.compare_eq_eq.2 h]; simp; omega
  · rw [show compare a b = .gt from Int.compare_eq_gt.2 h]; simp; omega
theorem leB_cmp (a b : Int) : leB (some (compare a b)) = true ↔ a ≤ b := by
  unfold leB
  rcases Int.lt_trichotomy a b with h | h | h
  · rw [show compare a b = .lt from Int.compare_eq_lt.2 h]; simp; omega
  · rw [show compare a b = .eq from Int.compare_eq_eq.2 h]; simp; omega
  · rw [show compare a b = .gt from Int.compare_eq_gt.2 h]; simp; omega
theorem cut_le (m d q : Nat) (h : m ≤ q * 2 ^ d) : Ieee.Toward.zero.cut false m d ≤ q := by
  unfold Ieee.Toward.cut
  simp only [Nat.one_shiftLeft, Bool.toNat_false, Nat.add_zero]
  rcases Nat.lt_or_ge d (m.log2 + 2) with h1 | h1
  · rw [Nat.min_eq_left (by omega)]
    exact Nat.div_le_of_le_mul (by rw [Nat.mul_comm]; exact h)
  · rw [Nat.min_eq_right h1]
    have h2 : m < 2 ^ (m.log2 + 2) := Nat.lt_of_lt_of_le Nat.lt_log2_self (Nat.pow_le_pow_right (by decide) (by omega))
    rw [Nat.div_eq_of_lt h2]
    exact Nat.zero_le _
theorem cut_nought (way : Bool) (d : Nat) : Ieee.Toward.zero.cut way 0 d = 0 := by
  unfold Ieee.Toward.cut
  simp
theorem inr_num {x : Nat} (h : inr x = true) : ∃ s m i, FloatKind.f64.decode x = .number s m i ∧ (s = true → m = 0) ∧ (0 ≤ i → m * 2 ^ i.toNat ≤ 65535) ∧ (i < 0 → m ≤ 65535 * 2 ^ (-i).toNat) := by
  unfold inr at h
  rw [Bool.and_eq_true] at h
  obtain ⟨h1, h2⟩ := h
  have e1 : FloatKind.f64.format.order x 0 = (FloatKind.f64.decode x).order (FloatKind.f64.format.read 0) := rfl
  have e2 : FloatKind.f64.format.order x top16 = (FloatKind.f64.decode x).order (FloatKind.f64.format.read top16) := rfl
  rw [e1, read0] at h1
  rw [e2, readTop] at h2
  clear e1 e2
  generalize FloatKind.f64.decode x = d at *
  cases d with
  | nan s f => simp [Ieee.Datum.order, geB] at h1
  | infinity s =>
    cases s
    · simp [Ieee.Datum.order, leB] at h2
    · simp [Ieee.Datum.order, geB] at h1
  | number s m i =>
    refine ⟨s, m, i, rfl, ?_⟩
    unfold Ieee.Datum.order at h1 h2
    simp only at h1 h2
    rw [geB_cmp] at h1
    rw [leB_cmp] at h2
    have hz : Ieee.signed false 0 ((-1074 : Int) - min i (-1074)).toNat = 0 := by
      unfold Ieee.signed
      simp
    rw [hz] at h1
    clear hz
    cases s with
    | true =>
      have hm : m = 0 := by
        unfold Ieee.signed at h1
        rw [if_pos rfl, Nat.shiftLeft_eq] at h1
        rcases Nat.eq_zero_or_pos m with h | h
        · exact h
        · have := Nat.mul_pos h (Nat.two_pow_pos (i - min i (-1074)).toNat)
          omega
      subst hm
      exact ⟨fun _ => rfl, fun _ => by simp, fun _ => Nat.zero_le _⟩
    | false =>
      have h3 : m * 2 ^ (i - min i (-37)).toNat ≤ 65535 * 2 ^ 37 * 2 ^ (-37 - min i (-37)).toNat := by
        unfold Ieee.signed at h2
        rw [if_neg (by simp), if_neg (by simp), Nat.shiftLeft_eq, Nat.shiftLeft_eq] at h2
        exact Int.ofNat_le.1 h2
      clear h1 h2
      refine ⟨fun e => (by cases e), fun hi => ?_, fun hi => ?_⟩
      · rw [show (i - min i (-37)).toNat = i.toNat + 37 by omega, show (-37 - min i (-37)).toNat = 0 by omega, Nat.pow_add, Nat.pow_zero, Nat.mul_one, ← Nat.mul_assoc] at h3
        exact Nat.le_of_mul_le_mul_right h3 (Nat.two_pow_pos 37)
      · obtain ⟨t, ht⟩ : ∃ t, (-i).toNat = t := ⟨_, rfl⟩
        rw [ht]
        rcases Nat.lt_or_ge 37 t with h4 | h4
        · rw [show (i - min i (-37)).toNat = 0 by omega, show (-37 - min i (-37)).toNat = t - 37 by omega, Nat.pow_zero, Nat.mul_one, Nat.mul_assoc, ← Nat.pow_add, show 37 + (t - 37) = t by omega] at h3
          exact h3
        · rw [show (i - min i (-37)).toNat = 37 - t by omega, show (-37 - min i (-37)).toNat = 0 by omega, Nat.pow_zero, Nat.mul_one] at h3
          have e : 65535 * 2 ^ 37 = 65535 * 2 ^ t * 2 ^ (37 - t) := by rw [Nat.mul_assoc, ← Nat.pow_add, Nat.add_sub_cancel' h4]
          rw [e] at h3
          exact Nat.le_of_mul_le_mul_right h3 (Nat.two_pow_pos _)
theorem inr_int {x : Nat} (h : inr x = true) : (FloatKind.f64.decode x).toInt .zero = some (wi x : Int) ∧ wi x ≤ 65535 ∧ FloatKind.f64.format.order x x = some Ordering.eq := by
  obtain ⟨s, m, i, hd, hs, h1, h2⟩ := inr_num h
  have hor : FloatKind.f64.format.order x x = (FloatKind.f64.decode x).order (FloatKind.f64.decode x) := rfl
  have hti : (FloatKind.f64.decode x).toInt .zero = some (Ieee.signed s (Ieee.Toward.zero.cut s (m <<< i.toNat) (-i).toNat) 0) := by rw [hd]; rfl
  have hval : ∃ n : Nat, Ieee.signed s (Ieee.Toward.zero.cut s (m <<< i.toNat) (-i).toNat) 0 = (n : Int) ∧ n ≤ 65535 := by
    cases s with
    | true =>
      rw [hs rfl, Nat.zero_shiftLeft, cut_nought]
      exact ⟨0, rfl, by decide⟩
    | false =>
      refine ⟨_, rfl, ?_⟩
      rw [Nat.shiftLeft_eq, Nat.shiftLeft_eq, Nat.pow_zero, Nat.mul_one]
      refine cut_le _ _ _ ?_
      by_cases hi : i < 0
      · rw [show i.toNat = 0 by omega, Nat.pow_zero, Nat.mul_one]
        exact h2 hi
      · rw [show (-i).toNat = 0 by omega, Nat.pow_zero, Nat.mul_one]
        exact h1 (by omega)
  obtain ⟨n, hn, hn2⟩ := hval
  rw [hn] at hti
  have hwi : wi x = n := by unfold wi; rw [hti]; simp
  refine ⟨by rw [hti, hwi], by rw [hwi]; exact hn2, ?_⟩
  rw [hor, hd]
  unfold Ieee.Datum.order
  simp
set_option maxRecDepth 100000 in
theorem toI {x : Nat} (h : inr x = true) (w : World) : Sem.run Try.prog (convert 67 3 (.float .f64 x)) w = .ok (.int .i64 (wi x : Int)) w := by
  obtain ⟨hi, h2, -⟩ := inr_int h
  have h1 : Sem.run Try.prog (convert 67 3 (.float .f64 x)) w = Sem.run Try.prog (Conv.floatToInt .f64 x .i64) w := by rfl
  rw [h1]
  unfold Conv.floatToInt
  rw [hi]
  have hm : IntKind.i64.min ≤ (wi x : Int) ∧ (wi x : Int) ≤ IntKind.i64.max := by
    have e1 : IntKind.i64.min = -9223372036854775808 := by rfl
    have e2 : IntKind.i64.max = 9223372036854775807 := by rfl
    exact ⟨by omega, by omega⟩
  simp only [if_pos hm]
  rfl
set_option maxRecDepth 100000 in
/-- frame.whole. -/
theorem whole_calls (x : Nat) (w : World) : Calls Try.prog 37 #[.float .f64 x] w fun e w' => e = .returned (.bool (wh x)) ∧ w' = w := by
  have hwh : wh x = (inr x && (FloatKind.f64.format.order (fl (wi x)) x == some .eq)) := rfl
  have hinr : inr x = ((FloatKind.f64.format.order x 0 == some Ordering.gt || FloatKind.f64.format.order x 0 == some Ordering.eq) && (FloatKind.f64.format.order x 4679239875398991872 == some Ordering.lt || FloatKind.f64.format.order x 4679239875398991872 == some Ordering.eq)) := rfl
  have hin2 : inr x = true → (∀ W : World, Sem.run Try.prog (convert 67 3 (.float .f64 x)) W = .ok (.int .i64 (wi x : Int)) W) := fun h W => toI h W
  have hfl1 : Sem.run Try.prog (convert 3 67 (.int .i64 (wi x : Int))) w = .ok (.float .f64 (fl (wi x))) w := toFl w (wi x)
  rw [hinr] at hwh hin2
  clear hinr
  obtain ⟨g, hg⟩ : ∃ g, (FloatKind.f64.format.order x 0 == some Ordering.gt || FloatKind.f64.format.order x 0 == some Ordering.eq) = g := ⟨_, rfl⟩
  obtain ⟨l, hl⟩ : ∃ l, (FloatKind.f64.format.order x 4679239875398991872 == some Ordering.lt || FloatKind.f64.format.order x 4679239875398991872 == some Ordering.eq) = l := ⟨_, rfl⟩
  rw [hg, hl] at hwh hin2
  rw [hwh]
  clear hwh
  cases g with
  | false =>
    clear hin2 hl hfl1
    go_enter Try.func37, Try.ntmps37
    go_wp2
    go_ret
    exact ⟨rfl, rfl⟩
  | true =>
    cases l with
    | false =>
      clear hin2 hfl1
      go_enter Try.func37, Try.ntmps37
      go_wp2
      go_ret
      exact ⟨rfl, rfl⟩
    | true =>
      have hti := hin2 rfl w
      clear hin2
      go_enter Try.func37, Try.ntmps37
      go_wp2
      go_ret
      exact ⟨rfl, rfl⟩
set_option maxRecDepth 100000 in
/-- The document's whole. -/
theorem refwhole_calls (x : Nat) (w : World) : Calls Try.prog 43 #[.float .f64 x] w fun e w' => e = .returned (.int .i64 (if wh x = true then (wi x : Int) else -1)) ∧ w' = w := by
  have hwh : wh x = (inr x && (FloatKind.f64.format.order (fl (wi x)) x == some .eq)) := rfl
  have hinr : inr x = ((FloatKind.f64.format.order x 0 == some Ordering.gt || FloatKind.f64.format.order x 0 == some Ordering.eq) && (FloatKind.f64.format.order x 4679239875398991872 == some Ordering.lt || FloatKind.f64.format.order x 4679239875398991872 == some Ordering.eq)) := rfl
  have hin2 : inr x = true → (∀ W : World, Sem.run Try.prog (convert 67 3 (.float .f64 x)) W = .ok (.int .i64 (wi x : Int)) W) := fun h W => toI h W
  have hfl1 : Sem.run Try.prog (convert 3 67 (.int .i64 (wi x : Int))) w = .ok (.float .f64 (fl (wi x))) w := toFl w (wi x)
  rw [hinr] at hwh hin2
  clear hinr
  obtain ⟨g, hg⟩ : ∃ g, (FloatKind.f64.format.order x 0 == some Ordering.gt || FloatKind.f64.format.order x 0 == some Ordering.eq) = g := ⟨_, rfl⟩
  obtain ⟨l, hl⟩ : ∃ l, (FloatKind.f64.format.order x 4679239875398991872 == some Ordering.lt || FloatKind.f64.format.order x 4679239875398991872 == some Ordering.eq) = l := ⟨_, rfl⟩
  rw [hg, hl] at hwh hin2
  rw [hwh]
  clear hwh
  cases g with
  | false =>
    clear hin2 hl hfl1
    go_enter Try.func43, Try.ntmps43
    go_wp2
    go_ret
    exact ⟨rfl, rfl⟩
  | true =>
    cases l with
    | false =>
      clear hin2 hfl1
      go_enter Try.func43, Try.ntmps43
      go_wp2
      go_ret
      exact ⟨rfl, rfl⟩
    | true =>
      have hti := hin2 rfl w
      clear hin2
      obtain ⟨o, ho⟩ : ∃ o, FloatKind.f64.format.order (fl (wi x)) x = o := ⟨_, rfl⟩
      by_cases hoe : o = some .eq
      · subst hoe
        rw [ho]
        go_enter Try.func43, Try.ntmps43
        go_wp2
        go_ret
        exact ⟨rfl, rfl⟩
      · have hob : (o == some Ordering.eq) = false := by simpa using hoe
        have hob2 : (o != some Ordering.eq) = true := by simpa using hoe
        rw [ho, hob]
        go_enter Try.func43, Try.ntmps43
        go_wp2
        go_ret
        exact ⟨rfl, rfl⟩
set_option maxRecDepth 100000 in
/-- order, at two floats that are equal. -/
theorem order_calls (a b : Nat) (w : World) (ha : FloatKind.f64.format.order a a = some Ordering.eq) (hb : FloatKind.f64.format.order b b = some Ordering.eq) (hab : FloatKind.f64.format.order a b = some Ordering.eq) :
    Calls Try.prog 47 #[.float .f64 a, .float .f64 b] w fun e w' => e = .returned (.int .i64 0) ∧ w' = w := by
  go_enter Try.func47, Try.ntmps47
  go_wp2
  go_ret
  exact ⟨rfl, rfl⟩
theorem toRe (w : World) (x y : Nat) : Sem.run Try.prog (Builtin.real_ #[51] 67 #[.complex .f64 x y]) w = .ok (.float .f64 x) w := by rfl
theorem toIm (w : World) (x y : Nat) : Sem.run Try.prog (Builtin.imag_ #[51] 67 #[.complex .f64 x y]) w = .ok (.float .f64 y) w := by rfl
set_option maxRecDepth 100000 in
/-- Same, at two places that are equal. -/
theorem same01_calls (a b c d : Nat) (w : World) (ha : FloatKind.f64.format.order a a = some Ordering.eq) (hb : FloatKind.f64.format.order b b = some Ordering.eq) (hc : FloatKind.f64.format.order c c = some Ordering.eq) (hd : FloatKind.f64.format.order d d = some Ordering.eq)
    (hac : FloatKind.f64.format.order a c = some Ordering.eq) (hbd : FloatKind.f64.format.order b d = some Ordering.eq) :
    Calls Try.prog 30 #[.complex .f64 a b, .complex .f64 c d] w fun e w' => e = .returned (.bool true) ∧ w' = w := by
  have cmp : Calls Try.prog 44 #[.complex .f64 a b, .complex .f64 c d] w fun e w' => e = .returned (.int .i64 0) ∧ w' = w := by
    have r1 := toRe w a b
    have r2 := toRe w c d
    have i1 := toIm w a b
    have i2 := toIm w c d
    have O1 := Hp.Sh.mk (order_calls a c w ha hc hac)
    have O2 := Hp.Sh.mk (order_calls b d w hb hd hbd)
    clear ha hb hc hd hac hbd
    go_enter Try.func44, Try.ntmps44
    go_wp2_with fail
    refine O1.out.mono ?_
    rintro e w' ⟨rfl, rfl⟩
    go_wp2_with fail
    refine O2.out.mono ?_
    rintro e w'' ⟨rfl, rfl⟩
    go_wp2_with fail
    go_ret
    exact ⟨rfl, rfl⟩
  have CMP := Hp.Sh.mk cmp
  clear ha hb hc hd hac hbd cmp
  go_enter Try.func30, Try.ntmps30
  go_wp2_with fail
  refine CMP.out.mono ?_
  rintro e w' ⟨rfl, rfl⟩
  go_wp2_with fail
  go_ret
  exact ⟨rfl, rfl⟩
end Go.Proofs.Ytgnepppncmjagaa.Gt
