/- ClassTurned, walked. -/
import Derived.Test.YtglhhcgoppmipaaAlive
import Derived.Test.YtglhhcgoppmipaaQuiet
import Derived.Test.YtglhhcgoppmipaaPureSets
import Derived.Test.YtglhhcgoppmipaaEq
import Derived.Test.YtglhhcgoppmipaaBoth
import Derived.Test.YtglhhcgoppmipaaRefs3
namespace Go.Proofs.Ytglhhcgoppmipaa.Cl
open Go.RowKit Go.Proofs.YtglhhcgoppmipaaW.PrintWords

set_option linter.unusedSimpArgs false in
set_option maxHeartbeats 4000000 in
theorem lawTurned_calls (a c : Nat) (w : World) (m : Int) (hm : w.cell? ⟨0, 0, none⟩ = some (.int .i64 m)) (ha : a < 2 ^ 256) (hc : c < 256) :
    Calls Try.prog 5 #[St a, .int .u8 (c : Int)] w fun e w' => e = .returned (.bool true) ∧ Below w.heap.size w w' := by
  have mixed : Try.prog.follows Departure.mixedOrders = true := by kernel_rfl
  have hdiv : 64 * (c / 64) + c % 64 = c := Nat.div_add_mod c 64
  have hh := fun (s : Nat) (w : World) => has_calls s (c : Int) (c / 64) (c % 64) w (by omega) (Nat.mod_lt _ (by decide)) (by omega)
  rw [hdiv] at hh
  have KA := Aside0.mk (hh a)
  have KN := Aside0.mk (hh (compl a))
  rw [compl_bit a c ha, decide_eq_true hc, Bool.true_and] at KN
  have K0 := Aside0.mk (fun w => not_calls a w ha)
  have KM := Aside0.mk (fun w => not_calls (compl a) w (compl_lt a))
  rw [compl_compl a ha] at KM
  have KC := Aside0.mk (fun w => count_calls a w)
  have KD := Aside0.mk (fun w => count_calls (compl a) w)
  have KO := Aside0.mk (fun w => both_calls a (compl a) w)
  rw [both_compl a ha] at KO
  have KW : Aside0 (∀ w : World, Calls Try.prog 12 #[.agg #[.int .u64 0, .int .u64 0, .int .u64 0, .int .u64 0], .int .u8 0, .int .u8 255] w fun e w' => e = .returned (St (wi 0 0 (255 + 1 - 0))) ∧ Below w.heap.size w w') := ⟨fun w => with_calls 0 0 255 w (by decide) (by decide)⟩
  have hct := cnt_compl a ha 256 0 (Nat.le_refl _)
  obtain ⟨n, hn⟩ : ∃ n, compl a = n := ⟨_, rfl⟩
  obtain ⟨f, hf⟩ : ∃ f, wi 0 0 (255 + 1 - 0) = f := ⟨_, rfl⟩
  rw [hn] at KN K0 KM KD KO hct
  rw [hf] at KO KW
  obtain ⟨ca, hca⟩ : ∃ k, cnt a 0 256 = k := ⟨_, rfl⟩
  obtain ⟨cn, hcn⟩ : ∃ k, cnt n 0 256 = k := ⟨_, rfl⟩
  rw [hca] at KC
  rw [hcn] at KD
  rw [hca, hcn] at hct
  clear hn hf hca hcn hdiv hh
  have hadd : IntKind.i64.wrap ((ca : Int) + (cn : Int)) = 256 := by rw [IntKind.wrap_i64]; omega
  clear hct
  obtain ⟨pa, hpa⟩ : ∃ p, a.testBit c = p := ⟨_, rfl⟩
  rw [hpa] at KA KN
  clear hpa
  have hw0 : 0 < w.heap.size := Go.block_lt_of_cell hm
  have hq := eq_same
  unfold St cs at *
  go_enter Try.func5, Try.ntmps5
  go_wp2_with (fail)
  refine (K0.out _).mono ?_
  rintro e w1 ⟨rfl, hb1⟩
  have hs1 : (w.alloc (.cells (cs a) 24)).heap.size = w.heap.size + 1 := by simp
  have P1 : Var w.heap.size a w1 := (hb1.block _ (by simp)).trans (Go.heap_alloc_new w (.cells (cs a) 24))
  have hlt : w.heap.size < w1.heap.size := P1.lt
  have HB1 : Below w.heap.size w w1 := ((Below.refl _ _).alloc (Nat.le_refl _) _).trans (hb1.mono (by simp))
  clear hb1 hs1
  go_wp2
  obtain ⟨w2, hw2⟩ : ∃ x, x = w1.alloc (.cells #[.int .u64 (wd n 0), .int .u64 (wd n 1), .int .u64 (wd n 2), .int .u64 (wd n 3)] 24) := ⟨_, rfl⟩
  rw [← hw2]
  have Q2 : Var w1.heap.size n w2 := by rw [hw2]; exact Go.heap_alloc_new _ _
  have bel2 : Below w1.heap.size w1 w2 := by rw [hw2]; exact (Below.refl w1.heap.size w1).alloc (Nat.le_refl _) _
  have HB := Aside0.mk (HB1.trans (bel2.mono HB1.size))
  have P2 : Var w.heap.size a w2 := (bel2.block _ hlt).trans P1
  have hm2 := (HB.out.cell (p := ⟨0, 0, none⟩) hw0).trans hm
  have hlt2 := Q2.lt
  obtain ⟨p0, p1, p2, p3⟩ := P2.cell
  obtain ⟨q0, q1, q2, q3⟩ := Q2.cell
  clear hw2 bel2 Q2 P2 P1 HB1 hm
  have hcells : ∀ w', Below w2.heap.size w2 w' → (w'.cell? ⟨0, 0, none⟩ = some (.int .i64 m) ∧ w'.cell? ⟨w.heap.size, 0, none⟩ = some (.int .u64 (wd a 0)) ∧ w'.cell? ⟨w.heap.size, 1, none⟩ = some (.int .u64 (wd a 1)) ∧ w'.cell? ⟨w.heap.size, 2, none⟩ = some (.int .u64 (wd a 2)) ∧ w'.cell? ⟨w.heap.size, 3, none⟩ = some (.int .u64 (wd a 3)) ∧ w'.cell? ⟨w1.heap.size, 0, none⟩ = some (.int .u64 (wd n 0)) ∧ w'.cell? ⟨w1.heap.size, 1, none⟩ = some (.int .u64 (wd n 1)) ∧ w'.cell? ⟨w1.heap.size, 2, none⟩ = some (.int .u64 (wd n 2)) ∧ w'.cell? ⟨w1.heap.size, 3, none⟩ = some (.int .u64 (wd n 3))) := fun w' hb => ⟨(hb.cell (p := ⟨0, 0, none⟩) (by show 0 < _; omega)).trans hm2, (hb.cell (p := ⟨w.heap.size, 0, none⟩) (by show w.heap.size < _; omega)).trans p0, (hb.cell (p := ⟨w.heap.size, 1, none⟩) (by show w.heap.size < _; omega)).trans p1, (hb.cell (p := ⟨w.heap.size, 2, none⟩) (by show w.heap.size < _; omega)).trans p2, (hb.cell (p := ⟨w.heap.size, 3, none⟩) (by show w.heap.size < _; omega)).trans p3, (hb.cell (p := ⟨w1.heap.size, 0, none⟩) (by show w1.heap.size < _; omega)).trans q0, (hb.cell (p := ⟨w1.heap.size, 1, none⟩) (by show w1.heap.size < _; omega)).trans q1, (hb.cell (p := ⟨w1.heap.size, 2, none⟩) (by show w1.heap.size < _; omega)).trans q2, (hb.cell (p := ⟨w1.heap.size, 3, none⟩) (by show w1.heap.size < _; omega)).trans q3⟩
  clear p0 p1 p2 p3 q0 q1 q2 q3
  cases pa
  all_goals
    refine Qu.region mixed (by kernel_rfl) ?_
    refine Qu.step_call (v := ?_) (f := ?_) (args := ?_) (by kernel_rfl) ?_ ?_ ?_
    rotate_left 3
    · (intro w' hb; go_simp; first | with_reducible rfl | (constructor <;> with_reducible rfl))
    · (intro w' hb; refine (alive_calls w' m (hcells w' hb).1).mono ?_; rintro e w4 ⟨rfl, hb4⟩; refine ⟨?_, hb.trans (hb4.mono hb.size)⟩; with_reducible rfl)
    simp only [Act.put, List.setIfInBounds_toArray, List.set_cons_zero, List.set_cons_succ]
    refine Qu.step_run (v := ?_) (by kernel_rfl) ?_ ?_
    rotate_left
    · (intro w' hb; go_simp; with_reducible rfl)
    simp only [Act.put, List.setIfInBounds_toArray, List.set_cons_zero, List.set_cons_succ]
    refine Qu.step_run (v := ?_) (by kernel_rfl) ?_ ?_
    rotate_left
    · (intro w' hb; obtain ⟨-, p0, p1, p2, p3, q0, q1, q2, q3⟩ := hcells w' hb; go_simp; with_reducible rfl)
    simp only [Act.put, List.setIfInBounds_toArray, List.set_cons_zero, List.set_cons_succ]
    refine Qu.step_run (v := ?_) (by kernel_rfl) ?_ ?_
    rotate_left
    · (intro w' hb; go_simp; with_reducible rfl)
    simp only [Act.put, List.setIfInBounds_toArray, List.set_cons_zero, List.set_cons_succ]
    refine Qu.step_call (v := ?_) (f := ?_) (args := ?_) (by kernel_rfl) ?_ ?_ ?_
    rotate_left 3
    · (intro w' hb; go_simp; first | with_reducible rfl | (constructor <;> with_reducible rfl))
    · (intro w' hb; refine (KA.out w').mono ?_; rintro e w4 ⟨rfl, hb4⟩; refine ⟨?_, hb.trans (hb4.mono hb.size)⟩; with_reducible rfl)
    simp only [Act.put, List.setIfInBounds_toArray, List.set_cons_zero, List.set_cons_succ]
    refine Qu.step_run (v := ?_) (by kernel_rfl) ?_ ?_
    rotate_left
    · (intro w' hb; obtain ⟨-, p0, p1, p2, p3, q0, q1, q2, q3⟩ := hcells w' hb; go_simp; with_reducible rfl)
    simp only [Act.put, List.setIfInBounds_toArray, List.set_cons_zero, List.set_cons_succ]
    refine Qu.step_run (v := ?_) (by kernel_rfl) ?_ ?_
    rotate_left
    · (intro w' hb; go_simp; with_reducible rfl)
    simp only [Act.put, List.setIfInBounds_toArray, List.set_cons_zero, List.set_cons_succ]
    refine Qu.step_call (v := ?_) (f := ?_) (args := ?_) (by kernel_rfl) ?_ ?_ ?_
    rotate_left 3
    · (intro w' hb; go_simp; first | with_reducible rfl | (constructor <;> with_reducible rfl))
    · (intro w' hb; refine (KN.out w').mono ?_; rintro e w4 ⟨rfl, hb4⟩; refine ⟨?_, hb.trans (hb4.mono hb.size)⟩; with_reducible rfl)
    simp only [Act.put, List.setIfInBounds_toArray, List.set_cons_zero, List.set_cons_succ]
    refine Qu.step_run (v := ?_) (by kernel_rfl) ?_ ?_
    rotate_left
    · (intro w' hb; go_simp; with_reducible rfl)
    simp only [Act.put, List.setIfInBounds_toArray, List.set_cons_zero, List.set_cons_succ]
    refine Qu.step_run (v := ?_) (by kernel_rfl) ?_ ?_
    rotate_left
    · (intro w' hb; go_simp; with_reducible rfl)
    simp only [Act.put, List.setIfInBounds_toArray, List.set_cons_zero, List.set_cons_succ]
    refine Qu.step_run (v := ?_) (by kernel_rfl) ?_ ?_
    rotate_left
    · (intro w' hb; go_simp; with_reducible rfl)
    simp only [Act.put, List.setIfInBounds_toArray, List.set_cons_zero, List.set_cons_succ]
    refine Qu.step_run (v := ?_) (by kernel_rfl) ?_ ?_
    rotate_left
    · (intro w' hb; obtain ⟨-, p0, p1, p2, p3, q0, q1, q2, q3⟩ := hcells w' hb; go_simp; with_reducible rfl)
    simp only [Act.put, List.setIfInBounds_toArray, List.set_cons_zero, List.set_cons_succ]
    refine Qu.step_call (v := ?_) (f := ?_) (args := ?_) (by kernel_rfl) ?_ ?_ ?_
    rotate_left 3
    · (intro w' hb; go_simp; first | with_reducible rfl | (constructor <;> with_reducible rfl))
    · (intro w' hb; refine (KC.out w').mono ?_; rintro e w4 ⟨rfl, hb4⟩; refine ⟨?_, hb.trans (hb4.mono hb.size)⟩; with_reducible rfl)
    simp only [Act.put, List.setIfInBounds_toArray, List.set_cons_zero, List.set_cons_succ]
    refine Qu.step_run (v := ?_) (by kernel_rfl) ?_ ?_
    rotate_left
    · (intro w' hb; obtain ⟨-, p0, p1, p2, p3, q0, q1, q2, q3⟩ := hcells w' hb; go_simp; with_reducible rfl)
    simp only [Act.put, List.setIfInBounds_toArray, List.set_cons_zero, List.set_cons_succ]
    refine Qu.step_call (v := ?_) (f := ?_) (args := ?_) (by kernel_rfl) ?_ ?_ ?_
    rotate_left 3
    · (intro w' hb; go_simp; first | with_reducible rfl | (constructor <;> with_reducible rfl))
    · (intro w' hb; refine (KD.out w').mono ?_; rintro e w4 ⟨rfl, hb4⟩; refine ⟨?_, hb.trans (hb4.mono hb.size)⟩; with_reducible rfl)
    simp only [Act.put, List.setIfInBounds_toArray, List.set_cons_zero, List.set_cons_succ]
    refine Qu.step_run (v := ?_) (by kernel_rfl) ?_ ?_
    rotate_left
    · (intro w' hb; go_simp; with_reducible rfl)
    simp only [Act.put, List.setIfInBounds_toArray, List.set_cons_zero, List.set_cons_succ]
    refine Qu.step_run (v := ?_) (by kernel_rfl) ?_ ?_
    rotate_left
    · (intro w' hb; go_simp; with_reducible rfl)
    simp only [Act.put, List.setIfInBounds_toArray, List.set_cons_zero, List.set_cons_succ]
    refine Qu.step_run (v := ?_) (by kernel_rfl) ?_ ?_
    rotate_left
    · (intro w' hb; go_simp; with_reducible rfl)
    simp only [Act.put, List.setIfInBounds_toArray, List.set_cons_zero, List.set_cons_succ]
    refine Qu.step_run (v := ?_) (by kernel_rfl) ?_ ?_
    rotate_left
    · (intro w' hb; go_simp; with_reducible rfl)
    simp only [Act.put, List.setIfInBounds_toArray, List.set_cons_zero, List.set_cons_succ]
    refine Qu.step_run (v := ?_) (by kernel_rfl) ?_ ?_
    rotate_left
    · (intro w' hb; obtain ⟨-, p0, p1, p2, p3, q0, q1, q2, q3⟩ := hcells w' hb; go_simp; with_reducible rfl)
    simp only [Act.put, List.setIfInBounds_toArray, List.set_cons_zero, List.set_cons_succ]
    refine Qu.step_call (v := ?_) (f := ?_) (args := ?_) (by kernel_rfl) ?_ ?_ ?_
    rotate_left 3
    · (intro w' hb; go_simp; first | with_reducible rfl | (constructor <;> with_reducible rfl))
    · (intro w' hb; refine (KM.out w').mono ?_; rintro e w4 ⟨rfl, hb4⟩; refine ⟨?_, hb.trans (hb4.mono hb.size)⟩; with_reducible rfl)
    simp only [Act.put, List.setIfInBounds_toArray, List.set_cons_zero, List.set_cons_succ]
    refine Qu.step_run (v := ?_) (by kernel_rfl) ?_ ?_
    rotate_left
    · (intro w' hb; obtain ⟨-, p0, p1, p2, p3, q0, q1, q2, q3⟩ := hcells w' hb; go_simp; with_reducible rfl)
    simp only [Act.put, List.setIfInBounds_toArray, List.set_cons_zero, List.set_cons_succ]
    refine Qu.step_run (v := ?_) (by kernel_rfl) ?_ ?_
    rotate_left
    · (intro w' hb; go_simp; with_reducible rfl)
    simp only [Act.put, List.setIfInBounds_toArray, List.set_cons_zero, List.set_cons_succ]
    refine Qu.step_run (v := ?_) (by kernel_rfl) ?_ ?_
    rotate_left
    · (intro w' hb; go_simp; with_reducible rfl)
    simp only [Act.put, List.setIfInBounds_toArray, List.set_cons_zero, List.set_cons_succ]
    refine Qu.step_run (v := ?_) (by kernel_rfl) ?_ ?_
    rotate_left
    · (intro w' hb; go_simp; with_reducible rfl)
    simp only [Act.put, List.setIfInBounds_toArray, List.set_cons_zero, List.set_cons_succ]
    refine Qu.step_run (v := ?_) (by kernel_rfl) ?_ ?_
    rotate_left
    · (intro w' hb; obtain ⟨-, p0, p1, p2, p3, q0, q1, q2, q3⟩ := hcells w' hb; go_simp; with_reducible rfl)
    simp only [Act.put, List.setIfInBounds_toArray, List.set_cons_zero, List.set_cons_succ]
    refine Qu.step_run (v := ?_) (by kernel_rfl) ?_ ?_
    rotate_left
    · (intro w' hb; obtain ⟨-, p0, p1, p2, p3, q0, q1, q2, q3⟩ := hcells w' hb; go_simp; with_reducible rfl)
    simp only [Act.put, List.setIfInBounds_toArray, List.set_cons_zero, List.set_cons_succ]
    refine Qu.step_call (v := ?_) (f := ?_) (args := ?_) (by kernel_rfl) ?_ ?_ ?_
    rotate_left 3
    · (intro w' hb; go_simp; first | with_reducible rfl | (constructor <;> with_reducible rfl))
    · (intro w' hb; refine (KO.out w').mono ?_; rintro e w4 ⟨rfl, hb4⟩; refine ⟨?_, hb.trans (hb4.mono hb.size)⟩; with_reducible rfl)
    simp only [Act.put, List.setIfInBounds_toArray, List.set_cons_zero, List.set_cons_succ]
    refine Qu.step_run (v := ?_) (by kernel_rfl) ?_ ?_
    rotate_left
    · (intro w' hb; go_simp; with_reducible rfl)
    simp only [Act.put, List.setIfInBounds_toArray, List.set_cons_zero, List.set_cons_succ]
    refine Qu.step_call (v := ?_) (f := ?_) (args := ?_) (by kernel_rfl) ?_ ?_ ?_
    rotate_left 3
    · (intro w' hb; go_simp; first | with_reducible rfl | (constructor <;> with_reducible rfl))
    · (intro w' hb; refine (KW.out w').mono ?_; rintro e w4 ⟨rfl, hb4⟩; refine ⟨?_, hb.trans (hb4.mono hb.size)⟩; with_reducible rfl)
    simp only [Act.put, List.setIfInBounds_toArray, List.set_cons_zero, List.set_cons_succ]
    refine Qu.step_run (v := ?_) (by kernel_rfl) ?_ ?_
    rotate_left
    · (intro w' hb; go_simp; with_reducible rfl)
    simp only [Act.put, List.setIfInBounds_toArray, List.set_cons_zero, List.set_cons_succ]
    refine Qu.step_run (v := ?_) (by kernel_rfl) ?_ ?_
    rotate_left
    · (intro w' hb; go_simp; with_reducible rfl)
    simp only [Act.put, List.setIfInBounds_toArray, List.set_cons_zero, List.set_cons_succ]
    refine Qu.step_run (v := ?_) (by kernel_rfl) ?_ ?_
    rotate_left
    · (intro w' hb; go_simp; with_reducible rfl)
    simp only [Act.put, List.setIfInBounds_toArray, List.set_cons_zero, List.set_cons_succ]
    refine Qu.done ?_
    intro w9 hb9
    go_wp2
    go_ret
    exact ⟨rfl, HB.out.trans (hb9.mono HB.out.size)⟩
end Go.Proofs.Ytglhhcgoppmipaa.Cl
