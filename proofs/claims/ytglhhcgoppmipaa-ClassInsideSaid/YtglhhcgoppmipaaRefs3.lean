/- The reference's Count. -/
import Derived.Test.YtglhhcgoppmipaaRefs2
namespace Go.Proofs.Ytglhhcgoppmipaa.Cl
open Go.RowKit Go.Proofs.YtglhhcgoppmipaaW.PrintWords

/-- How many bytes from c on, n of them, are in a set. -/
def cnt (s c : Nat) : Nat → Nat
  | 0 => 0
  | n + 1 => (if s.testBit c = true then 1 else 0) + cnt s (c + 1) n
set_option maxHeartbeats 4000000 in
theorem refcount_calls (s : Nat) (w : World) :
    Calls Try.prog 19 #[St s] w fun e w' => e = .returned (.int .i64 (cnt s 0 256 : Nat)) ∧ Below w.heap.size w w' := by
  go_enter Try.func19, Try.ntmps19
  unfold St cs
  go_wp2
  go_loopg [3, 4] 256 (fun kq v3 v4 w' => ∃ c m : Nat, v3 = .int .i64 (m : Int) ∧ v4 = .int .i64 (c : Int) ∧ c + kq = 256 ∧ m ≤ c ∧ m + cnt s c kq = cnt s 0 256 ∧ Aside0 (Var w.heap.size s w') ∧ Aside0 (Below w.heap.size w w'))
  case atStart => exact ⟨0, 0, rfl, rfl, rfl, Nat.le_refl _, by rw [Nat.zero_add], ⟨Go.heap_alloc_new _ _⟩, ⟨(Below.refl _ _).alloc (Nat.le_refl _) _⟩⟩
  case round =>
    obtain ⟨c, m, rfl, rfl, hc, hle, hm, HS, HB⟩ := hrel
    cases gk with
    | zero =>
      have hc' : c = 256 := by omega
      subst hc'
      have hm' : m = cnt s 0 256 := hm
      go_wp2
      go_ret
      rw [← hm']
      exact ⟨rfl, HB.out⟩
    | succ k1 =>
      have d1 : (c : Int) < 256 := by omega
      have hcc : 64 * (c / 64) + c % 64 = c := Nat.div_add_mod c 64
      obtain ⟨s0, s1, s2, s3⟩ := HS.out.cell
      go_wp2_with (fail)
      refine (refhas_calls s (c : Int) (c / 64) (c % 64) wr (by omega) (Nat.mod_lt _ (by decide)) (by omega)).mono ?_
      rintro e w1 ⟨rfl, hb⟩
      rw [hcc]
      have HS1 := Aside0.mk (HS.out.below hb)
      have HB1 := Aside0.mk (HB.out.trans (hb.mono HB.out.size))
      clear s0 s1 s2 s3
      have d2 : (m : Int) ≤ 256 := by omega
      have d3 : (0 : Int) ≤ (m : Int) := by omega
      cases hp : s.testBit c with
      | true =>
        go_wp2
        go_roundg k1
        case measure => omega
        case rel =>
          refine ⟨c + 1, m + 1, rfl, rfl, by omega, by omega, ?_, HS1, HB1⟩
          rw [← hm, cnt, if_pos hp]
          omega
      | false =>
        go_wp2
        go_roundg k1
        case measure => omega
        case rel =>
          refine ⟨c + 1, m, rfl, rfl, by omega, by omega, ?_, HS1, HB1⟩
          rw [← hm, cnt, if_neg (by simp [hp])]
          omega
end Go.Proofs.Ytglhhcgoppmipaa.Cl
