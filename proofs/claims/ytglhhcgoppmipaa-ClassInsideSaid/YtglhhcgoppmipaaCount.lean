/- class.Count. -/
import Derived.Test.YtglhhcgoppmipaaPop
namespace Go.Proofs.Ytglhhcgoppmipaa.Cl
open Go.RowKit Go.Proofs.YtglhhcgoppmipaaW.PrintWords

theorem m0_32 : m0 32 = 6148914691236517205 := by decide
theorem m1_16 : m1 16 = 3689348814741910323 := by decide
theorem m2_8 : m2 8 = 1085102592571150095 := by decide
theorem pow_pop (x : Nat) :
    (x / 2 &&& 6148914691236517205) + (x &&& 6148914691236517205) = p1 32 x ∧ (p1 32 x / 4 &&& 3689348814741910323) + (p1 32 x &&& 3689348814741910323) = p2 16 (p1 32 x) ∧ ((p2 16 (p1 32 x) / 16 + p2 16 (p1 32 x)) &&& 1085102592571150095) = p3 8 (p2 16 (p1 32 x)) := by
  refine ⟨by rw [← m0_32]; exact s1 32 x, by rw [← m1_16]; exact s2 16 _, by rw [← m2_8]; exact s3 8 _ (D_p2 16 x)⟩
theorem wrap_nat (n : Nat) (h : n < 18446744073709551616) : IntKind.u64.wrap (n : Int) = (n : Int) := by
  simp [IntKind.wrap, IntKind.bits, IntKind.signed]
  omega
theorem and_nat (a b : Nat) (ha : a < 18446744073709551616) (hb : b < 18446744073709551616) : Go.bits .and .u64 (a : Int) (b : Int) = ((a &&& b : Nat) : Int) := u64_and_nat a b ha hb
theorem ones_eqs (x : Nat) (hx : x < 18446744073709551616) : ∃ y1 y2 y3 z u v : Nat,
    IntKind.u64.wrap (Go.bits .and .u64 ((x : Int) / 2) 6148914691236517205 + Go.bits .and .u64 (x : Int) 6148914691236517205) = (y1 : Int) ∧
    IntKind.u64.wrap (Go.bits .and .u64 ((y1 : Int) / 4) 3689348814741910323 + Go.bits .and .u64 (y1 : Int) 3689348814741910323) = (y2 : Int) ∧
    Go.bits .and .u64 (IntKind.u64.wrap ((y2 : Int) / 16 + (y2 : Int))) 1085102592571150095 = (y3 : Int) ∧
    IntKind.u64.wrap ((y3 : Int) + (y3 : Int) / 256) = (z : Int) ∧ IntKind.u64.wrap ((z : Int) + (z : Int) / 65536) = (u : Int) ∧ IntKind.u64.wrap ((u : Int) + (u : Int) / 4294967296) = (v : Int) ∧
    v < 9223372036854775808 ∧ v % 128 = cnt x 0 64 := by
  obtain ⟨h1, h2, h3⟩ := pow_pop x
  obtain ⟨h4, h5⟩ := fold _ x rfl
  rw [sum8_cnt] at h4
  have l1 : p1 32 x < 18446744073709551616 := by
    rw [← h1]
    have a1 : x / 2 &&& 6148914691236517205 ≤ 6148914691236517205 := Nat.and_le_right
    have a2 : x &&& 6148914691236517205 ≤ 6148914691236517205 := Nat.and_le_right
    omega
  have l2 : p2 16 (p1 32 x) < 8000000000000000000 := by
    rw [← h2]
    have a1 : p1 32 x / 4 &&& 3689348814741910323 ≤ 3689348814741910323 := Nat.and_le_right
    have a2 : p1 32 x &&& 3689348814741910323 ≤ 3689348814741910323 := Nat.and_le_right
    omega
  generalize hy1 : p1 32 x = y1 at *
  generalize hy2 : p2 16 y1 = y2 at *
  generalize hy3 : p3 8 y2 = y3 at *
  clear hy1 hy2 hy3
  refine ⟨y1, y2, y3, y3 + y3 / 256, (y3 + y3 / 256) + (y3 + y3 / 256) / 65536, _, ?_, ?_, ?_, ?_, ?_, ?_, ?_, h4⟩
  · have e1 := and_nat (x / 2) 6148914691236517205 (by omega) (by omega)
    have e2 := and_nat x 6148914691236517205 hx (by omega)
    rw [show ((x / 2 : Nat) : Int) = (x : Int) / 2 from rfl] at e1
    rw [show ((6148914691236517205 : Nat) : Int) = 6148914691236517205 from rfl] at e1 e2
    rw [e1, e2, ← Int.natCast_add, h1]
    exact wrap_nat _ l1
  · have e1 := and_nat (y1 / 4) 3689348814741910323 (by omega) (by omega)
    have e2 := and_nat y1 3689348814741910323 l1 (by omega)
    rw [show ((y1 / 4 : Nat) : Int) = (y1 : Int) / 4 from rfl] at e1
    rw [show ((3689348814741910323 : Nat) : Int) = 3689348814741910323 from rfl] at e1 e2
    rw [e1, e2, ← Int.natCast_add, h2]
    exact wrap_nat _ (by omega)
  · rw [show (y2 : Int) / 16 + (y2 : Int) = ((y2 / 16 + y2 : Nat) : Int) from rfl, wrap_nat _ (by omega)]
    have e1 := and_nat (y2 / 16 + y2) 1085102592571150095 (by omega) (by omega)
    rw [show ((1085102592571150095 : Nat) : Int) = 1085102592571150095 from rfl] at e1
    rw [e1, h3]
  · exact wrap_nat (y3 + y3 / 256) (by omega)
  · exact wrap_nat ((y3 + y3 / 256) + (y3 + y3 / 256) / 65536) (by omega)
  · exact wrap_nat (((y3 + y3 / 256) + (y3 + y3 / 256) / 65536) + ((y3 + y3 / 256) + (y3 + y3 / 256) / 65536) / 4294967296) (by omega)
  · omega
set_option maxHeartbeats 4000000 in
theorem ones_calls (x : Nat) (w : World) (hx : x < 18446744073709551616) :
    Calls Try.prog 25 #[.int .u64 (x : Int)] w fun e w' => e = .returned (.int .i64 ((cnt x 0 64 : Nat) : Int)) ∧ w' = w := by
  obtain ⟨y1, y2, y3, z, u, v, E1, E2, E3, E4, E5, E6, hv, hc⟩ := ones_eqs x hx
  have E7 : Go.bits .and .i64 (v : Int) 127 = ((cnt x 0 64 : Nat) : Int) := by
    have e := bits_mask .i64 63 (by decide) (fun n h0 h1 => by rw [IntKind.wrap_i64]; omega) 7 (by decide) (v : Int) (by omega) (by omega)
    rw [show ((2 : Int) ^ 7 - 1) = 127 from by decide, show ((2 : Int) ^ 7) = 128 from by decide] at e
    rw [e]
    omega
  have E8 : IntKind.i64.wrap (v : Int) = (v : Int) := by rw [IntKind.wrap_i64]; omega
  clear hc
  go_enter Try.func25, Try.ntmps25
  go_wp2
  go_ret
  exact ⟨rfl, rfl⟩
/-- The bits of the first j words. -/
def cntw (s j : Nat) : Nat := cnt s 0 (64 * j)
theorem cntw_succ (s j : Nat) : cntw s (j + 1) = cntw s j + cnt (wn s j) 0 64 := by
  unfold cntw
  rw [show 64 * (j + 1) = 64 * j + 64 by omega, cnt_add, Nat.zero_add, cnt_word]
theorem cntw_4 (s : Nat) : cntw s 4 = cnt s 0 256 := by
  unfold cntw
  rw [show 64 * 4 = 256 from rfl]
theorem cntw_0 (s : Nat) : 0 = cntw s 0 := by
  unfold cntw
  rw [show 64 * 0 = 0 from rfl, cnt]
set_option maxHeartbeats 4000000 in
theorem count_calls (s : Nat) (w : World) :
    Calls Try.prog 18 #[St s] w fun e w' => e = .returned (.int .i64 ((cnt s 0 256 : Nat) : Int)) ∧ Below w.heap.size w w' := by
  go_enter Try.func18, Try.ntmps18
  unfold St cs
  go_wp2
  go_loopg [3, 7] 4 (fun kq v3 v7 w' => ∃ j n : Nat, v3 = .int .i64 (n : Nat) ∧ v7 = .int .i64 (j : Int) ∧ j + kq = 4 ∧ n ≤ 64 * j ∧ Aside0 (n = cntw s j) ∧ Aside0 (Below w.heap.size w w'))
  case atStart => exact ⟨0, 0, rfl, rfl, rfl, Nat.zero_le _, ⟨cntw_0 s⟩, ⟨(Below.refl _ _).alloc (Nat.le_refl _) _⟩⟩
  case round =>
    obtain ⟨j, n, rfl, rfl, hj, hle, HN, HB⟩ := hrel
    cases gk with
    | zero =>
      have hj' : j = 4 := by omega
      subst hj'
      go_wp2
      go_ret
      rw [HN.out, cntw_4]
      exact ⟨rfl, HB.out⟩
    | succ k1 =>
      have hlt : j < 4 := by omega
      have i0 : ∀ w : World, (Instr.index 24 (.agg #[.int .u64 (wd s 0), .int .u64 (wd s 1), .int .u64 (wd s 2), .int .u64 (wd s 3)]) (.int .i64 0)).run Try.prog w = .ok (.int .u64 (wd s 0)) w := fun _ => by kernel_rfl
      have i1 : ∀ w : World, (Instr.index 24 (.agg #[.int .u64 (wd s 0), .int .u64 (wd s 1), .int .u64 (wd s 2), .int .u64 (wd s 3)]) (.int .i64 1)).run Try.prog w = .ok (.int .u64 (wd s 1)) w := fun _ => by kernel_rfl
      have i2 : ∀ w : World, (Instr.index 24 (.agg #[.int .u64 (wd s 0), .int .u64 (wd s 1), .int .u64 (wd s 2), .int .u64 (wd s 3)]) (.int .i64 2)).run Try.prog w = .ok (.int .u64 (wd s 2)) w := fun _ => by kernel_rfl
      have i3 : ∀ w : World, (Instr.index 24 (.agg #[.int .u64 (wd s 0), .int .u64 (wd s 1), .int .u64 (wd s 2), .int .u64 (wd s 3)]) (.int .i64 3)).run Try.prog w = .ok (.int .u64 (wd s 3)) w := fun _ => by kernel_rfl
      have d0 : (0 : Int) ≤ (j : Int) := by omega
      have d1 : (j : Int) < 4 := by omega
      have d3 : (n : Int) ≤ 256 := by omega
      have d5 : (0 : Int) ≤ (n : Int) := by omega
      have hwl := wn_lt s j
      obtain ⟨c, hcc⟩ : ∃ c, cnt (wn s j) 0 64 = c := ⟨_, rfl⟩
      have hcall := fun w => ones_calls (wn s j) w hwl
      have hb := cnt_le (wn s j) 64 0
      rw [hcc] at hcall hb
      rw [show ((wn s j : Nat) : Int) = wd s j from rfl] at hcall
      have HN' : Aside0 (n + c = cntw s (j + 1)) := ⟨by rw [cntw_succ, ← HN.out, hcc]⟩
      clear hcc hwl
      have d2 : (c : Int) ≤ 64 := by omega
      have d4 : (0 : Int) ≤ (c : Int) := by omega
      clear HN
      have hj4 : j = 0 ∨ j = 1 ∨ j = 2 ∨ j = 3 := by omega
      rcases hj4 with rfl | rfl | rfl | rfl
      · go_wp2_with (go_at_call 25; refine (hcall _).mono ?_; rintro e w1 ⟨rfl, rfl⟩)
        go_roundg k1
        case measure => omega
        case rel => exact ⟨0 + 1, n + c, rfl, rfl, by omega, by omega, HN', HB⟩
      · go_wp2_with (go_at_call 25; refine (hcall _).mono ?_; rintro e w1 ⟨rfl, rfl⟩)
        go_roundg k1
        case measure => omega
        case rel => exact ⟨1 + 1, n + c, rfl, rfl, by omega, by omega, HN', HB⟩
      · go_wp2_with (go_at_call 25; refine (hcall _).mono ?_; rintro e w1 ⟨rfl, rfl⟩)
        go_roundg k1
        case measure => omega
        case rel => exact ⟨2 + 1, n + c, rfl, rfl, by omega, by omega, HN', HB⟩
      · go_wp2_with (go_at_call 25; refine (hcall _).mono ?_; rintro e w1 ⟨rfl, rfl⟩)
        go_roundg k1
        case measure => omega
        case rel => exact ⟨3 + 1, n + c, rfl, rfl, by omega, by omega, HN', HB⟩
end Go.Proofs.Ytglhhcgoppmipaa.Cl
