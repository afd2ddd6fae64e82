/- ClassSets, walked. -/
import Derived.Test.YtglhhcgoppmipaaAlive
import Derived.Test.YtglhhcgoppmipaaQuiet
import Derived.Test.YtglhhcgoppmipaaPureSets
import Derived.Test.YtglhhcgoppmipaaEq
import Derived.Test.YtglhhcgoppmipaaBoth
import Derived.Test.YtglhhcgoppmipaaRefs3
namespace Go.Proofs.Ytglhhcgoppmipaa.Cl
open Go.RowKit Go.Proofs.YtglhhcgoppmipaaW.PrintWords

theorem row2 {g : Nat} {x y : Int} {w : World} {t : TypeId} (h : w.heap[g]? = some (.cells #[.int .u8 x, .int .u8 y] t (0, 0))) : w.cell? ⟨g, 0, none⟩ = some (.int .u8 x) ∧ w.cell? ⟨g, 1, none⟩ = some (.int .u8 y) := by
  simp [World.cell?, h]
set_option linter.unusedSimpArgs false in
set_option maxHeartbeats 4000000 in
theorem lawSets_calls (a b x y : Nat) (w : World) (m : Int) (hm : w.cell? ⟨0, 0, none⟩ = some (.int .i64 m)) (ha : a < 2 ^ 256) (hb : b < 2 ^ 256) (hx : x < 256) (hy : y < 256) :
    Calls Try.prog 3 #[St a, St b, .agg #[.int .u8 (x : Int), .int .u8 (y : Int)]] w fun e w' => e = .returned (.bool true) ∧ Below w.heap.size w w' := by
  have mixed : Try.prog.follows Departure.mixedOrders = true := by kernel_rfl
  have KA := Aside0.mk (fun w => has_calls a (x : Int) (x / 64) (x % 64) w (by omega) (Nat.mod_lt _ (by decide)) (by omega))
  have KB := Aside0.mk (fun w => refhas_calls a (x : Int) (x / 64) (x % 64) w (by omega) (Nat.mod_lt _ (by decide)) (by omega))
  have KW := Aside0.mk (fun w => with_calls a x y w hx hy)
  have KV := Aside0.mk (fun w => refwith_calls a x y w hx hy)
  have KN := Aside0.mk (fun w => not_calls a w ha)
  have KM := Aside0.mk (fun w => refnot_calls a w)
  rw [sel_not a ha] at KM
  have KO := Aside0.mk (fun w => both_calls a b w)
  have KR := Aside0.mk (fun w => refboth_calls a b w)
  rw [sel_both a b ha hb] at KR
  have KC := Aside0.mk (fun w => count_calls a w)
  have KD := Aside0.mk (fun w => refcount_calls a w)
  obtain ⟨pa, hpa⟩ : ∃ p, a.testBit (64 * (x / 64) + x % 64) = p := ⟨_, rfl⟩
  rw [hpa] at KA KB
  obtain ⟨f, hf⟩ : ∃ f, wi a x (y + 1 - x) = f := ⟨_, rfl⟩
  rw [hf] at KW KV
  obtain ⟨n, hn⟩ : ∃ n, compl a = n := ⟨_, rfl⟩
  rw [hn] at KN KM
  obtain ⟨o, ho⟩ : ∃ o, a ||| b = o := ⟨_, rfl⟩
  rw [ho] at KO KR
  obtain ⟨k, hk⟩ : ∃ k, cnt a 0 256 = k := ⟨_, rfl⟩
  rw [hk] at KC KD
  clear hpa hf hn ho hk
  have hw0 : 0 < w.heap.size := Go.block_lt_of_cell hm
  have hq := eq_same
  unfold St cs at *
  go_enter Try.func3, Try.ntmps3
  go_wp2
  obtain ⟨w2, hw2⟩ : ∃ z, z = ((w.alloc (.cells #[.int .u64 (wd a 0), .int .u64 (wd a 1), .int .u64 (wd a 2), .int .u64 (wd a 3)] 24)).alloc (.cells #[.int .u64 (wd b 0), .int .u64 (wd b 1), .int .u64 (wd b 2), .int .u64 (wd b 3)] 24)).alloc (.cells #[.int .u8 (x : Int), .int .u8 (y : Int)] 25) := ⟨_, rfl⟩
  rw [← hw2]
  have hlt : w.heap.size + 1 + 1 < w2.heap.size := by rw [hw2]; simp
  have HB : Aside0 (Below w.heap.size w w2) := ⟨by rw [hw2]; exact (((Below.refl _ _).alloc (Nat.le_refl _) _).alloc (by simp) _).alloc (by simp; omega) _⟩
  obtain ⟨ZA, ZB, ZC⟩ := three w (.cells #[.int .u64 (wd a 0), .int .u64 (wd a 1), .int .u64 (wd a 2), .int .u64 (wd a 3)] 24) (.cells #[.int .u64 (wd b 0), .int .u64 (wd b 1), .int .u64 (wd b 2), .int .u64 (wd b 3)] 24) (.cells #[.int .u8 (x : Int), .int .u8 (y : Int)] 25)
  rw [← hw2] at ZA ZB ZC
  have hm2 := (HB.out.cell (p := ⟨0, 0, none⟩) hw0).trans hm
  obtain ⟨p0, p1, p2, p3⟩ := Var.cell (m := a) ZA
  obtain ⟨q0, q1, q2, q3⟩ := Var.cell (m := b) ZB
  obtain ⟨r0, r1⟩ := row2 ZC
  clear hw2 ZA ZB ZC hm
  have hcells : ∀ w', Below w2.heap.size w2 w' → (w'.cell? ⟨0, 0, none⟩ = some (.int .i64 m) ∧ w'.cell? ⟨w.heap.size, 0, none⟩ = some (.int .u64 (wd a 0)) ∧ w'.cell? ⟨w.heap.size, 1, none⟩ = some (.int .u64 (wd a 1)) ∧ w'.cell? ⟨w.heap.size, 2, none⟩ = some (.int .u64 (wd a 2)) ∧ w'.cell? ⟨w.heap.size, 3, none⟩ = some (.int .u64 (wd a 3)) ∧ w'.cell? ⟨w.heap.size + 1, 0, none⟩ = some (.int .u64 (wd b 0)) ∧ w'.cell? ⟨w.heap.size + 1, 1, none⟩ = some (.int .u64 (wd b 1)) ∧ w'.cell? ⟨w.heap.size + 1, 2, none⟩ = some (.int .u64 (wd b 2)) ∧ w'.cell? ⟨w.heap.size + 1, 3, none⟩ = some (.int .u64 (wd b 3)) ∧ w'.cell? ⟨w.heap.size + 1 + 1, 0, none⟩ = some (.int .u8 (x : Int)) ∧ w'.cell? ⟨w.heap.size + 1 + 1, 1, none⟩ = some (.int .u8 (y : Int))) := fun w' hb => ⟨(hb.cell (p := ⟨0, 0, none⟩) (by show 0 < _; omega)).trans hm2, (hb.cell (p := ⟨w.heap.size, 0, none⟩) (by show w.heap.size < _; omega)).trans p0, (hb.cell (p := ⟨w.heap.size, 1, none⟩) (by show w.heap.size < _; omega)).trans p1, (hb.cell (p := ⟨w.heap.size, 2, none⟩) (by show w.heap.size < _; omega)).trans p2, (hb.cell (p := ⟨w.heap.size, 3, none⟩) (by show w.heap.size < _; omega)).trans p3, (hb.cell (p := ⟨w.heap.size + 1, 0, none⟩) (by show w.heap.size + 1 < _; omega)).trans q0, (hb.cell (p := ⟨w.heap.size + 1, 1, none⟩) (by show w.heap.size + 1 < _; omega)).trans q1, (hb.cell (p := ⟨w.heap.size + 1, 2, none⟩) (by show w.heap.size + 1 < _; omega)).trans q2, (hb.cell (p := ⟨w.heap.size + 1, 3, none⟩) (by show w.heap.size + 1 < _; omega)).trans q3, (hb.cell (p := ⟨w.heap.size + 1 + 1, 0, none⟩) (by show w.heap.size + 1 + 1 < _; omega)).trans r0, (hb.cell (p := ⟨w.heap.size + 1 + 1, 1, none⟩) (by show w.heap.size + 1 + 1 < _; omega)).trans r1⟩
  clear p0 p1 p2 p3 q0 q1 q2 q3 r0 r1
  refine Qu.region mixed (by kernel_rfl) ?_
  refine Qu.step_call (v := ?_) (f := ?_) (args := ?_) (by kernel_rfl) ?_ ?_ ?_
  rotate_left 3
  · (intro w' hb; go_simp; first | with_reducible rfl | (constructor <;> with_reducible rfl))
  · (intro w' hb; refine (alive_calls w' m (hcells w' hb).1).mono ?_; rintro e w4 ⟨rfl, hb4⟩; refine ⟨?_, hb.trans (hb4.mono hb.size)⟩; with_reducible rfl)
  simp only [Act.put, List.setIfInBounds_toArray, List.set_cons_zero, List.set_cons_succ]
  refine Qu.step_run (v := ?_) (by kernel_rfl) ?_ ?_
  rotate_left
  · (intro w' hb; go_simp; with_reducible rfl)
  simp only [Act.put, List.setIfInBounds_toArray, List.set_cons_zero, List.set_cons_succ]
  refine Qu.step_run (v := ?_) (by kernel_rfl) ?_ ?_
  rotate_left
  · (intro w' hb; obtain ⟨-, p0, p1, p2, p3, q0, q1, q2, q3, r0, r1⟩ := hcells w' hb; go_simp; with_reducible rfl)
  simp only [Act.put, List.setIfInBounds_toArray, List.set_cons_zero, List.set_cons_succ]
  refine Qu.step_run (v := ?_) (by kernel_rfl) ?_ ?_
  rotate_left
  · (intro w' hb; go_simp; with_reducible rfl)
  simp only [Act.put, List.setIfInBounds_toArray, List.set_cons_zero, List.set_cons_succ]
  refine Qu.step_run (v := ?_) (by kernel_rfl) ?_ ?_
  rotate_left
  · (intro w' hb; obtain ⟨-, p0, p1, p2, p3, q0, q1, q2, q3, r0, r1⟩ := hcells w' hb; go_simp; with_reducible rfl)
  simp only [Act.put, List.setIfInBounds_toArray, List.set_cons_zero, List.set_cons_succ]
  refine Qu.step_call (v := ?_) (f := ?_) (args := ?_) (by kernel_rfl) ?_ ?_ ?_
  rotate_left 3
  · (intro w' hb; go_simp; first | with_reducible rfl | (constructor <;> with_reducible rfl))
  · (intro w' hb; refine (KA.out w').mono ?_; rintro e w4 ⟨rfl, hb4⟩; refine ⟨?_, hb.trans (hb4.mono hb.size)⟩; with_reducible rfl)
  simp only [Act.put, List.setIfInBounds_toArray, List.set_cons_zero, List.set_cons_succ]
  refine Qu.step_run (v := ?_) (by kernel_rfl) ?_ ?_
  rotate_left
  · (intro w' hb; obtain ⟨-, p0, p1, p2, p3, q0, q1, q2, q3, r0, r1⟩ := hcells w' hb; go_simp; with_reducible rfl)
  simp only [Act.put, List.setIfInBounds_toArray, List.set_cons_zero, List.set_cons_succ]
  refine Qu.step_run (v := ?_) (by kernel_rfl) ?_ ?_
  rotate_left
  · (intro w' hb; go_simp; with_reducible rfl)
  simp only [Act.put, List.setIfInBounds_toArray, List.set_cons_zero, List.set_cons_succ]
  refine Qu.step_run (v := ?_) (by kernel_rfl) ?_ ?_
  rotate_left
  · (intro w' hb; obtain ⟨-, p0, p1, p2, p3, q0, q1, q2, q3, r0, r1⟩ := hcells w' hb; go_simp; with_reducible rfl)
  simp only [Act.put, List.setIfInBounds_toArray, List.set_cons_zero, List.set_cons_succ]
  refine Qu.step_call (v := ?_) (f := ?_) (args := ?_) (by kernel_rfl) ?_ ?_ ?_
  rotate_left 3
  · (intro w' hb; go_simp; first | with_reducible rfl | (constructor <;> with_reducible rfl))
  · (intro w' hb; refine (KB.out w').mono ?_; rintro e w4 ⟨rfl, hb4⟩; refine ⟨?_, hb.trans (hb4.mono hb.size)⟩; with_reducible rfl)
  simp only [Act.put, List.setIfInBounds_toArray, List.set_cons_zero, List.set_cons_succ]
  refine Qu.step_run (v := ?_) (by kernel_rfl) ?_ ?_
  rotate_left
  · (intro w' hb; go_simp; with_reducible rfl)
  simp only [Act.put, List.setIfInBounds_toArray, List.set_cons_zero, List.set_cons_succ]
  refine Qu.step_run (v := ?_) (by kernel_rfl) ?_ ?_
  rotate_left
  · (intro w' hb; go_simp; with_reducible rfl)
  simp only [Act.put, List.setIfInBounds_toArray, List.set_cons_zero, List.set_cons_succ]
  refine Qu.step_run (v := ?_) (by kernel_rfl) ?_ ?_
  rotate_left
  · (intro w' hb; go_simp; with_reducible rfl)
  simp only [Act.put, List.setIfInBounds_toArray, List.set_cons_zero, List.set_cons_succ]
  refine Qu.step_run (v := ?_) (by kernel_rfl) ?_ ?_
  rotate_left
  · (intro w' hb; obtain ⟨-, p0, p1, p2, p3, q0, q1, q2, q3, r0, r1⟩ := hcells w' hb; go_simp; with_reducible rfl)
  simp only [Act.put, List.setIfInBounds_toArray, List.set_cons_zero, List.set_cons_succ]
  refine Qu.step_run (v := ?_) (by kernel_rfl) ?_ ?_
  rotate_left
  · (intro w' hb; go_simp; with_reducible rfl)
  simp only [Act.put, List.setIfInBounds_toArray, List.set_cons_zero, List.set_cons_succ]
  refine Qu.step_run (v := ?_) (by kernel_rfl) ?_ ?_
  rotate_left
  · (intro w' hb; obtain ⟨-, p0, p1, p2, p3, q0, q1, q2, q3, r0, r1⟩ := hcells w' hb; go_simp; with_reducible rfl)
  simp only [Act.put, List.setIfInBounds_toArray, List.set_cons_zero, List.set_cons_succ]
  refine Qu.step_run (v := ?_) (by kernel_rfl) ?_ ?_
  rotate_left
  · (intro w' hb; go_simp; with_reducible rfl)
  simp only [Act.put, List.setIfInBounds_toArray, List.set_cons_zero, List.set_cons_succ]
  refine Qu.step_run (v := ?_) (by kernel_rfl) ?_ ?_
  rotate_left
  · (intro w' hb; obtain ⟨-, p0, p1, p2, p3, q0, q1, q2, q3, r0, r1⟩ := hcells w' hb; go_simp; with_reducible rfl)
  simp only [Act.put, List.setIfInBounds_toArray, List.set_cons_zero, List.set_cons_succ]
  refine Qu.step_call (v := ?_) (f := ?_) (args := ?_) (by kernel_rfl) ?_ ?_ ?_
  rotate_left 3
  · (intro w' hb; go_simp; first | with_reducible rfl | (constructor <;> with_reducible rfl))
  · (intro w' hb; refine (KW.out w').mono ?_; rintro e w4 ⟨rfl, hb4⟩; refine ⟨?_, hb.trans (hb4.mono hb.size)⟩; with_reducible rfl)
  simp only [Act.put, List.setIfInBounds_toArray, List.set_cons_zero, List.set_cons_succ]
  refine Qu.step_run (v := ?_) (by kernel_rfl) ?_ ?_
  rotate_left
  · (intro w' hb; obtain ⟨-, p0, p1, p2, p3, q0, q1, q2, q3, r0, r1⟩ := hcells w' hb; go_simp; with_reducible rfl)
  simp only [Act.put, List.setIfInBounds_toArray, List.set_cons_zero, List.set_cons_succ]
  refine Qu.step_run (v := ?_) (by kernel_rfl) ?_ ?_
  rotate_left
  · (intro w' hb; go_simp; with_reducible rfl)
  simp only [Act.put, List.setIfInBounds_toArray, List.set_cons_zero, List.set_cons_succ]
  refine Qu.step_run (v := ?_) (by kernel_rfl) ?_ ?_
  rotate_left
  · (intro w' hb; obtain ⟨-, p0, p1, p2, p3, q0, q1, q2, q3, r0, r1⟩ := hcells w' hb; go_simp; with_reducible rfl)
  simp only [Act.put, List.setIfInBounds_toArray, List.set_cons_zero, List.set_cons_succ]
  refine Qu.step_run (v := ?_) (by kernel_rfl) ?_ ?_
  rotate_left
  · (intro w' hb; go_simp; with_reducible rfl)
  simp only [Act.put, List.setIfInBounds_toArray, List.set_cons_zero, List.set_cons_succ]
  refine Qu.step_run (v := ?_) (by kernel_rfl) ?_ ?_
  rotate_left
  · (intro w' hb; obtain ⟨-, p0, p1, p2, p3, q0, q1, q2, q3, r0, r1⟩ := hcells w' hb; go_simp; with_reducible rfl)
  simp only [Act.put, List.setIfInBounds_toArray, List.set_cons_zero, List.set_cons_succ]
  refine Qu.step_call (v := ?_) (f := ?_) (args := ?_) (by kernel_rfl) ?_ ?_ ?_
  rotate_left 3
  · (intro w' hb; go_simp; first | with_reducible rfl | (constructor <;> with_reducible rfl))
  · (intro w' hb; refine (KV.out w').mono ?_; rintro e w4 ⟨rfl, hb4⟩; refine ⟨?_, hb.trans (hb4.mono hb.size)⟩; with_reducible rfl)
  simp only [Act.put, List.setIfInBounds_toArray, List.set_cons_zero, List.set_cons_succ]
  refine Qu.step_run (v := ?_) (by kernel_rfl) ?_ ?_
  rotate_left
  · (intro w' hb; go_simp; with_reducible rfl)
  simp only [Act.put, List.setIfInBounds_toArray, List.set_cons_zero, List.set_cons_succ]
  refine Qu.step_run (v := ?_) (by kernel_rfl) ?_ ?_
  rotate_left
  · (intro w' hb; go_simp; with_reducible rfl)
  simp only [Act.put, List.setIfInBounds_toArray, List.set_cons_zero, List.set_cons_succ]
  refine Qu.step_run (v := ?_) (by kernel_rfl) ?_ ?_
  rotate_left
  · (intro w' hb; go_simp; with_reducible rfl)
  simp only [Act.put, List.setIfInBounds_toArray, List.set_cons_zero, List.set_cons_succ]
  refine Qu.step_run (v := ?_) (by kernel_rfl) ?_ ?_
  rotate_left
  · (intro w' hb; obtain ⟨-, p0, p1, p2, p3, q0, q1, q2, q3, r0, r1⟩ := hcells w' hb; go_simp; with_reducible rfl)
  simp only [Act.put, List.setIfInBounds_toArray, List.set_cons_zero, List.set_cons_succ]
  refine Qu.step_call (v := ?_) (f := ?_) (args := ?_) (by kernel_rfl) ?_ ?_ ?_
  rotate_left 3
  · (intro w' hb; go_simp; first | with_reducible rfl | (constructor <;> with_reducible rfl))
  · (intro w' hb; refine (KN.out w').mono ?_; rintro e w4 ⟨rfl, hb4⟩; refine ⟨?_, hb.trans (hb4.mono hb.size)⟩; with_reducible rfl)
  simp only [Act.put, List.setIfInBounds_toArray, List.set_cons_zero, List.set_cons_succ]
  refine Qu.step_run (v := ?_) (by kernel_rfl) ?_ ?_
  rotate_left
  · (intro w' hb; obtain ⟨-, p0, p1, p2, p3, q0, q1, q2, q3, r0, r1⟩ := hcells w' hb; go_simp; with_reducible rfl)
  simp only [Act.put, List.setIfInBounds_toArray, List.set_cons_zero, List.set_cons_succ]
  refine Qu.step_call (v := ?_) (f := ?_) (args := ?_) (by kernel_rfl) ?_ ?_ ?_
  rotate_left 3
  · (intro w' hb; go_simp; first | with_reducible rfl | (constructor <;> with_reducible rfl))
  · (intro w' hb; refine (KM.out w').mono ?_; rintro e w4 ⟨rfl, hb4⟩; refine ⟨?_, hb.trans (hb4.mono hb.size)⟩; with_reducible rfl)
  simp only [Act.put, List.setIfInBounds_toArray, List.set_cons_zero, List.set_cons_succ]
  refine Qu.step_run (v := ?_) (by kernel_rfl) ?_ ?_
  rotate_left
  · (intro w' hb; go_simp; with_reducible rfl)
  simp only [Act.put, List.setIfInBounds_toArray, List.set_cons_zero, List.set_cons_succ]
  refine Qu.step_run (v := ?_) (by kernel_rfl) ?_ ?_
  rotate_left
  · (intro w' hb; go_simp; with_reducible rfl)
  simp only [Act.put, List.setIfInBounds_toArray, List.set_cons_zero, List.set_cons_succ]
  refine Qu.step_run (v := ?_) (by kernel_rfl) ?_ ?_
  rotate_left
  · (intro w' hb; go_simp; with_reducible rfl)
  simp only [Act.put, List.setIfInBounds_toArray, List.set_cons_zero, List.set_cons_succ]
  refine Qu.step_run (v := ?_) (by kernel_rfl) ?_ ?_
  rotate_left
  · (intro w' hb; obtain ⟨-, p0, p1, p2, p3, q0, q1, q2, q3, r0, r1⟩ := hcells w' hb; go_simp; with_reducible rfl)
  simp only [Act.put, List.setIfInBounds_toArray, List.set_cons_zero, List.set_cons_succ]
  refine Qu.step_run (v := ?_) (by kernel_rfl) ?_ ?_
  rotate_left
  · (intro w' hb; obtain ⟨-, p0, p1, p2, p3, q0, q1, q2, q3, r0, r1⟩ := hcells w' hb; go_simp; with_reducible rfl)
  simp only [Act.put, List.setIfInBounds_toArray, List.set_cons_zero, List.set_cons_succ]
  refine Qu.step_call (v := ?_) (f := ?_) (args := ?_) (by kernel_rfl) ?_ ?_ ?_
  rotate_left 3
  · (intro w' hb; go_simp; first | with_reducible rfl | (constructor <;> with_reducible rfl))
  · (intro w' hb; refine (KO.out w').mono ?_; rintro e w4 ⟨rfl, hb4⟩; refine ⟨?_, hb.trans (hb4.mono hb.size)⟩; with_reducible rfl)
  simp only [Act.put, List.setIfInBounds_toArray, List.set_cons_zero, List.set_cons_succ]
  refine Qu.step_run (v := ?_) (by kernel_rfl) ?_ ?_
  rotate_left
  · (intro w' hb; obtain ⟨-, p0, p1, p2, p3, q0, q1, q2, q3, r0, r1⟩ := hcells w' hb; go_simp; with_reducible rfl)
  simp only [Act.put, List.setIfInBounds_toArray, List.set_cons_zero, List.set_cons_succ]
  refine Qu.step_run (v := ?_) (by kernel_rfl) ?_ ?_
  rotate_left
  · (intro w' hb; obtain ⟨-, p0, p1, p2, p3, q0, q1, q2, q3, r0, r1⟩ := hcells w' hb; go_simp; with_reducible rfl)
  simp only [Act.put, List.setIfInBounds_toArray, List.set_cons_zero, List.set_cons_succ]
  refine Qu.step_call (v := ?_) (f := ?_) (args := ?_) (by kernel_rfl) ?_ ?_ ?_
  rotate_left 3
  · (intro w' hb; go_simp; first | with_reducible rfl | (constructor <;> with_reducible rfl))
  · (intro w' hb; refine (KR.out w').mono ?_; rintro e w4 ⟨rfl, hb4⟩; refine ⟨?_, hb.trans (hb4.mono hb.size)⟩; with_reducible rfl)
  simp only [Act.put, List.setIfInBounds_toArray, List.set_cons_zero, List.set_cons_succ]
  refine Qu.step_run (v := ?_) (by kernel_rfl) ?_ ?_
  rotate_left
  · (intro w' hb; go_simp; with_reducible rfl)
  simp only [Act.put, List.setIfInBounds_toArray, List.set_cons_zero, List.set_cons_succ]
  refine Qu.step_run (v := ?_) (by kernel_rfl) ?_ ?_
  rotate_left
  · (intro w' hb; go_simp; with_reducible rfl)
  simp only [Act.put, List.setIfInBounds_toArray, List.set_cons_zero, List.set_cons_succ]
  refine Qu.step_run (v := ?_) (by kernel_rfl) ?_ ?_
  rotate_left
  · (intro w' hb; go_simp; with_reducible rfl)
  simp only [Act.put, List.setIfInBounds_toArray, List.set_cons_zero, List.set_cons_succ]
  refine Qu.step_run (v := ?_) (by kernel_rfl) ?_ ?_
  rotate_left
  · (intro w' hb; obtain ⟨-, p0, p1, p2, p3, q0, q1, q2, q3, r0, r1⟩ := hcells w' hb; go_simp; with_reducible rfl)
  simp only [Act.put, List.setIfInBounds_toArray, List.set_cons_zero, List.set_cons_succ]
  refine Qu.step_call (v := ?_) (f := ?_) (args := ?_) (by kernel_rfl) ?_ ?_ ?_
  rotate_left 3
  · (intro w' hb; go_simp; first | with_reducible rfl | (constructor <;> with_reducible rfl))
  · (intro w' hb; refine (KC.out w').mono ?_; rintro e w4 ⟨rfl, hb4⟩; refine ⟨?_, hb.trans (hb4.mono hb.size)⟩; with_reducible rfl)
  simp only [Act.put, List.setIfInBounds_toArray, List.set_cons_zero, List.set_cons_succ]
  refine Qu.step_run (v := ?_) (by kernel_rfl) ?_ ?_
  rotate_left
  · (intro w' hb; obtain ⟨-, p0, p1, p2, p3, q0, q1, q2, q3, r0, r1⟩ := hcells w' hb; go_simp; with_reducible rfl)
  simp only [Act.put, List.setIfInBounds_toArray, List.set_cons_zero, List.set_cons_succ]
  refine Qu.step_call (v := ?_) (f := ?_) (args := ?_) (by kernel_rfl) ?_ ?_ ?_
  rotate_left 3
  · (intro w' hb; go_simp; first | with_reducible rfl | (constructor <;> with_reducible rfl))
  · (intro w' hb; refine (KD.out w').mono ?_; rintro e w4 ⟨rfl, hb4⟩; refine ⟨?_, hb.trans (hb4.mono hb.size)⟩; with_reducible rfl)
  simp only [Act.put, List.setIfInBounds_toArray, List.set_cons_zero, List.set_cons_succ]
  refine Qu.step_run (v := ?_) (by kernel_rfl) ?_ ?_
  rotate_left
  · (intro w' hb; go_simp; with_reducible rfl)
  simp only [Act.put, List.setIfInBounds_toArray, List.set_cons_zero, List.set_cons_succ]
  refine Qu.step_run (v := ?_) (by kernel_rfl) ?_ ?_
  rotate_left
  · (intro w' hb; go_simp; with_reducible rfl)
  simp only [Act.put, List.setIfInBounds_toArray, List.set_cons_zero, List.set_cons_succ]
  refine Qu.step_run (v := ?_) (by kernel_rfl) ?_ ?_
  rotate_left
  · (intro w' hb; go_simp; with_reducible rfl)
  simp only [Act.put, List.setIfInBounds_toArray, List.set_cons_zero, List.set_cons_succ]
  refine Qu.done ?_
  intro w9 hb9
  go_wp2
  go_ret
  exact ⟨rfl, HB.out.trans (hb9.mono HB.out.size)⟩
end Go.Proofs.Ytglhhcgoppmipaa.Cl
