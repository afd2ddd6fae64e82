/- ClassWith, walked. -/
import Derived.Test.YtglhhcgoppmipaaAlive
import Derived.Test.YtglhhcgoppmipaaQuiet
import Derived.Test.YtglhhcgoppmipaaBits
import Derived.Test.YtglhhcgoppmipaaRefs3
namespace Go.Proofs.Ytglhhcgoppmipaa.Cl
open Go.RowKit Go.Proofs.YtglhhcgoppmipaaW.PrintWords

theorem row3 {g : Nat} {x y z : Int} {w : World} {t : TypeId} (h : w.heap[g]? = some (.cells #[.int .u8 x, .int .u8 y, .int .u8 z] t (0, 0))) : w.cell? ⟨g, 0, none⟩ = some (.int .u8 x) ∧ w.cell? ⟨g, 1, none⟩ = some (.int .u8 y) ∧ w.cell? ⟨g, 2, none⟩ = some (.int .u8 z) := by
  simp [World.cell?, h]
theorem four3 (w : World) (A B C : Obj) (w1 : World) (hb : Below (((w.alloc A).alloc B).alloc C).heap.size (((w.alloc A).alloc B).alloc C) w1) : w1.heap[w.heap.size]? = some A ∧ w1.heap[w.heap.size + 1]? = some B ∧ w1.heap[w.heap.size + 1 + 1]? = some C ∧ w.heap.size + 1 + 1 < w1.heap.size := by
  have hs : (((w.alloc A).alloc B).alloc C).heap.size = w.heap.size + 1 + 1 + 1 := by simp
  obtain ⟨h1, h2, h3⟩ := three w A B C
  refine ⟨(hb.block _ (by rw [hs]; omega)).trans h1, (hb.block _ (by rw [hs]; omega)).trans h2, (hb.block _ (by rw [hs]; omega)).trans h3, ?_⟩
  have := hb.size
  rw [hs] at this
  omega
set_option linter.unusedSimpArgs false in
set_option maxHeartbeats 4000000 in
theorem lawWith_calls (a b x y c : Nat) (w : World) (m : Int) (hm : w.cell? ⟨0, 0, none⟩ = some (.int .i64 m)) (hx : x < 256) (hy : y < 256) (hc : c < 256) :
    Calls Try.prog 6 #[St a, St b, .agg #[.int .u8 (x : Int), .int .u8 (y : Int), .int .u8 (c : Int)]] w fun e w' => e = .returned (.bool true) ∧ Below w.heap.size w w' := by
  have mixed : Try.prog.follows Departure.mixedOrders = true := by kernel_rfl
  have hdiv : 64 * (c / 64) + c % 64 = c := Nat.div_add_mod c 64
  have KS : Aside0 (∀ w, Calls Try.prog 10 #[St (wi a x (y + 1 - x)), .int .u8 (c : Int)] w fun e w' => e = .returned (.bool (a.testBit c || (decide (x ≤ c) && decide (c ≤ y)))) ∧ Below w.heap.size w w') := ⟨fun w => by
    have h := has_calls (wi a x (y + 1 - x)) (c : Int) (c / 64) (c % 64) w (by omega) (Nat.mod_lt _ (by decide)) (by omega)
    rw [hdiv, wi_bit] at h
    have e : (decide (x ≤ c) && decide (c < x + (y + 1 - x))) = (decide (x ≤ c) && decide (c ≤ y)) := by
      rw [Bool.eq_iff_iff]
      simp only [Bool.and_eq_true, decide_eq_true_eq]
      omega
    rw [e] at h
    exact h⟩
  have hh := fun (s : Nat) (w : World) => has_calls s (c : Int) (c / 64) (c % 64) w (by omega) (Nat.mod_lt _ (by decide)) (by omega)
  rw [hdiv] at hh
  have KA := Aside0.mk (hh a)
  have KB := Aside0.mk (hh b)
  have KT := Aside0.mk (hh (a ||| b))
  have KW := Aside0.mk (fun w => with_calls a x y w hx hy)
  have KO := Aside0.mk (fun w => both_calls a b w)
  obtain ⟨sw, hsw⟩ : ∃ s, wi a x (y + 1 - x) = s := ⟨_, rfl⟩
  obtain ⟨so, hso⟩ : ∃ s, a ||| b = s := ⟨_, rfl⟩
  rw [Nat.testBit_or] at KT
  rw [hso] at KT
  simp only [hso] at KO
  rw [hsw] at KS
  simp only [hsw] at KW
  clear hsw hso hh hdiv
  obtain ⟨pa, hpa⟩ : ∃ p, a.testBit c = p := ⟨_, rfl⟩
  obtain ⟨pb, hpb⟩ : ∃ p, b.testBit c = p := ⟨_, rfl⟩
  rw [hpa] at KA
  rw [hpb] at KB
  rw [hpa, hpb] at KT
  rw [hpa] at KS
  clear hpa hpb
  have hw0 : 0 < w.heap.size := Go.block_lt_of_cell hm
  unfold St cs at *
  go_enter Try.func6, Try.ntmps6
  go_wp2_with (fail)
  refine (KW.out _).mono ?_
  rintro e w1 ⟨rfl, hb1⟩
  have Z := four3 w _ _ _ w1 hb1
  obtain ⟨ZA, ZB, ZC, ZS⟩ := Z
  have HB1 : Below w.heap.size w w1 := ((((Below.refl _ _).alloc (Nat.le_refl _) _).alloc (by simp) _).alloc (by simp; omega) _).trans (hb1.mono (by simp; omega))
  clear hb1
  obtain ⟨p0, p1, p2, p3⟩ := Var.cell (m := a) ZA
  obtain ⟨q0, q1, q2, q3⟩ := Var.cell (m := b) ZB
  obtain ⟨r0, r1, r2⟩ := row3 ZC
  clear ZA ZB ZC
  have p0' : (w1.alloc (.cells #[.int .u64 (wd sw 0), .int .u64 (wd sw 1), .int .u64 (wd sw 2), .int .u64 (wd sw 3)] 24)).cell? ⟨w.heap.size, 0, none⟩ = some (.int .u64 (wd a 0)) := (World.cell?_of_block (w := w1) (Go.heap_alloc_old _ _ (by show w.heap.size < _; omega))).trans p0
  have p1' : (w1.alloc (.cells #[.int .u64 (wd sw 0), .int .u64 (wd sw 1), .int .u64 (wd sw 2), .int .u64 (wd sw 3)] 24)).cell? ⟨w.heap.size, 1, none⟩ = some (.int .u64 (wd a 1)) := (World.cell?_of_block (w := w1) (Go.heap_alloc_old _ _ (by show w.heap.size < _; omega))).trans p1
  have p2' : (w1.alloc (.cells #[.int .u64 (wd sw 0), .int .u64 (wd sw 1), .int .u64 (wd sw 2), .int .u64 (wd sw 3)] 24)).cell? ⟨w.heap.size, 2, none⟩ = some (.int .u64 (wd a 2)) := (World.cell?_of_block (w := w1) (Go.heap_alloc_old _ _ (by show w.heap.size < _; omega))).trans p2
  have p3' : (w1.alloc (.cells #[.int .u64 (wd sw 0), .int .u64 (wd sw 1), .int .u64 (wd sw 2), .int .u64 (wd sw 3)] 24)).cell? ⟨w.heap.size, 3, none⟩ = some (.int .u64 (wd a 3)) := (World.cell?_of_block (w := w1) (Go.heap_alloc_old _ _ (by show w.heap.size < _; omega))).trans p3
  have q0' : (w1.alloc (.cells #[.int .u64 (wd sw 0), .int .u64 (wd sw 1), .int .u64 (wd sw 2), .int .u64 (wd sw 3)] 24)).cell? ⟨w.heap.size + 1, 0, none⟩ = some (.int .u64 (wd b 0)) := (World.cell?_of_block (w := w1) (Go.heap_alloc_old _ _ (by show w.heap.size + 1 < _; omega))).trans q0
  have q1' : (w1.alloc (.cells #[.int .u64 (wd sw 0), .int .u64 (wd sw 1), .int .u64 (wd sw 2), .int .u64 (wd sw 3)] 24)).cell? ⟨w.heap.size + 1, 1, none⟩ = some (.int .u64 (wd b 1)) := (World.cell?_of_block (w := w1) (Go.heap_alloc_old _ _ (by show w.heap.size + 1 < _; omega))).trans q1
  have q2' : (w1.alloc (.cells #[.int .u64 (wd sw 0), .int .u64 (wd sw 1), .int .u64 (wd sw 2), .int .u64 (wd sw 3)] 24)).cell? ⟨w.heap.size + 1, 2, none⟩ = some (.int .u64 (wd b 2)) := (World.cell?_of_block (w := w1) (Go.heap_alloc_old _ _ (by show w.heap.size + 1 < _; omega))).trans q2
  have q3' : (w1.alloc (.cells #[.int .u64 (wd sw 0), .int .u64 (wd sw 1), .int .u64 (wd sw 2), .int .u64 (wd sw 3)] 24)).cell? ⟨w.heap.size + 1, 3, none⟩ = some (.int .u64 (wd b 3)) := (World.cell?_of_block (w := w1) (Go.heap_alloc_old _ _ (by show w.heap.size + 1 < _; omega))).trans q3
  go_wp2_with (fail)
  refine (KO.out _).mono ?_
  rintro e w2 ⟨rfl, hb2⟩
  clear p0' p1' p2' p3' q0' q1' q2' q3'
  have S1 : Var w1.heap.size sw (w1.alloc (.cells (cs sw) 24)) := Go.heap_alloc_new _ _
  have bel := (Below.refl w1.heap.size w1).alloc (Nat.le_refl _) (.cells (cs sw) 24)
  have bel2 := bel.trans (hb2.mono (by simp))
  have S2 := S1.below hb2
  have hs2 : w1.heap.size < w2.heap.size := S2.lt
  have HB2 := HB1.trans (bel2.mono HB1.size)
  replace p0 := (bel2.cell (p := ⟨w.heap.size, 0, none⟩) (by show w.heap.size < _; omega)).trans p0
  replace p1 := (bel2.cell (p := ⟨w.heap.size, 1, none⟩) (by show w.heap.size < _; omega)).trans p1
  replace p2 := (bel2.cell (p := ⟨w.heap.size, 2, none⟩) (by show w.heap.size < _; omega)).trans p2
  replace p3 := (bel2.cell (p := ⟨w.heap.size, 3, none⟩) (by show w.heap.size < _; omega)).trans p3
  replace q0 := (bel2.cell (p := ⟨w.heap.size + 1, 0, none⟩) (by show w.heap.size + 1 < _; omega)).trans q0
  replace q1 := (bel2.cell (p := ⟨w.heap.size + 1, 1, none⟩) (by show w.heap.size + 1 < _; omega)).trans q1
  replace q2 := (bel2.cell (p := ⟨w.heap.size + 1, 2, none⟩) (by show w.heap.size + 1 < _; omega)).trans q2
  replace q3 := (bel2.cell (p := ⟨w.heap.size + 1, 3, none⟩) (by show w.heap.size + 1 < _; omega)).trans q3
  replace r0 := (bel2.cell (p := ⟨w.heap.size + 1 + 1, 0, none⟩) (by show w.heap.size + 1 + 1 < _; omega)).trans r0
  replace r1 := (bel2.cell (p := ⟨w.heap.size + 1 + 1, 1, none⟩) (by show w.heap.size + 1 + 1 < _; omega)).trans r1
  replace r2 := (bel2.cell (p := ⟨w.heap.size + 1 + 1, 2, none⟩) (by show w.heap.size + 1 + 1 < _; omega)).trans r2
  clear bel bel2 hb2 S1
  obtain ⟨s0, s1, s2, s3⟩ := S2.cell
  have hm2 := (HB2.cell (p := ⟨0, 0, none⟩) hw0).trans hm
  clear HB1 hm
  have HB := Aside0.mk HB2
  clear HB2 S2
  go_wp2
  obtain ⟨w3, hw3⟩ : ∃ x, x = w2.alloc (.cells #[.int .u64 (wd so 0), .int .u64 (wd so 1), .int .u64 (wd so 2), .int .u64 (wd so 3)] 24) := ⟨_, rfl⟩
  rw [← hw3]
  have T3 : Var w2.heap.size so w3 := by rw [hw3]; exact Go.heap_alloc_new _ _
  have bel3 : Below w2.heap.size w2 w3 := by rw [hw3]; exact (Below.refl w2.heap.size w2).alloc (Nat.le_refl _) _
  obtain ⟨t0, t1, t2, t3⟩ := T3.cell
  have hlt3 := T3.lt
  replace HB := Aside0.mk (HB.out.trans (bel3.mono HB.out.size))
  replace hm2 := (bel3.cell (p := ⟨0, 0, none⟩) (by show 0 < _; omega)).trans hm2
  replace p0 := (bel3.cell (p := ⟨w.heap.size, 0, none⟩) (by show w.heap.size < _; omega)).trans p0
  replace p1 := (bel3.cell (p := ⟨w.heap.size, 1, none⟩) (by show w.heap.size < _; omega)).trans p1
  replace p2 := (bel3.cell (p := ⟨w.heap.size, 2, none⟩) (by show w.heap.size < _; omega)).trans p2
  replace p3 := (bel3.cell (p := ⟨w.heap.size, 3, none⟩) (by show w.heap.size < _; omega)).trans p3
  replace q0 := (bel3.cell (p := ⟨w.heap.size + 1, 0, none⟩) (by show w.heap.size + 1 < _; omega)).trans q0
  replace q1 := (bel3.cell (p := ⟨w.heap.size + 1, 1, none⟩) (by show w.heap.size + 1 < _; omega)).trans q1
  replace q2 := (bel3.cell (p := ⟨w.heap.size + 1, 2, none⟩) (by show w.heap.size + 1 < _; omega)).trans q2
  replace q3 := (bel3.cell (p := ⟨w.heap.size + 1, 3, none⟩) (by show w.heap.size + 1 < _; omega)).trans q3
  replace r0 := (bel3.cell (p := ⟨w.heap.size + 1 + 1, 0, none⟩) (by show w.heap.size + 1 + 1 < _; omega)).trans r0
  replace r1 := (bel3.cell (p := ⟨w.heap.size + 1 + 1, 1, none⟩) (by show w.heap.size + 1 + 1 < _; omega)).trans r1
  replace r2 := (bel3.cell (p := ⟨w.heap.size + 1 + 1, 2, none⟩) (by show w.heap.size + 1 + 1 < _; omega)).trans r2
  replace s0 := (bel3.cell (p := ⟨w1.heap.size, 0, none⟩) (by show w1.heap.size < _; omega)).trans s0
  replace s1 := (bel3.cell (p := ⟨w1.heap.size, 1, none⟩) (by show w1.heap.size < _; omega)).trans s1
  replace s2 := (bel3.cell (p := ⟨w1.heap.size, 2, none⟩) (by show w1.heap.size < _; omega)).trans s2
  replace s3 := (bel3.cell (p := ⟨w1.heap.size, 3, none⟩) (by show w1.heap.size < _; omega)).trans s3
  clear hw3 T3 bel3
  have hcells : ∀ w', Below w3.heap.size w3 w' → (w'.cell? ⟨0, 0, none⟩ = some (.int .i64 m) ∧ w'.cell? ⟨w.heap.size, 0, none⟩ = some (.int .u64 (wd a 0)) ∧ w'.cell? ⟨w.heap.size, 1, none⟩ = some (.int .u64 (wd a 1)) ∧ w'.cell? ⟨w.heap.size, 2, none⟩ = some (.int .u64 (wd a 2)) ∧ w'.cell? ⟨w.heap.size, 3, none⟩ = some (.int .u64 (wd a 3)) ∧ w'.cell? ⟨w.heap.size + 1, 0, none⟩ = some (.int .u64 (wd b 0)) ∧ w'.cell? ⟨w.heap.size + 1, 1, none⟩ = some (.int .u64 (wd b 1)) ∧ w'.cell? ⟨w.heap.size + 1, 2, none⟩ = some (.int .u64 (wd b 2)) ∧ w'.cell? ⟨w.heap.size + 1, 3, none⟩ = some (.int .u64 (wd b 3)) ∧ w'.cell? ⟨w.heap.size + 1 + 1, 0, none⟩ = some (.int .u8 (x : Int)) ∧ w'.cell? ⟨w.heap.size + 1 + 1, 1, none⟩ = some (.int .u8 (y : Int)) ∧ w'.cell? ⟨w.heap.size + 1 + 1, 2, none⟩ = some (.int .u8 (c : Int)) ∧ w'.cell? ⟨w1.heap.size, 0, none⟩ = some (.int .u64 (wd sw 0)) ∧ w'.cell? ⟨w1.heap.size, 1, none⟩ = some (.int .u64 (wd sw 1)) ∧ w'.cell? ⟨w1.heap.size, 2, none⟩ = some (.int .u64 (wd sw 2)) ∧ w'.cell? ⟨w1.heap.size, 3, none⟩ = some (.int .u64 (wd sw 3)) ∧ w'.cell? ⟨w2.heap.size, 0, none⟩ = some (.int .u64 (wd so 0)) ∧ w'.cell? ⟨w2.heap.size, 1, none⟩ = some (.int .u64 (wd so 1)) ∧ w'.cell? ⟨w2.heap.size, 2, none⟩ = some (.int .u64 (wd so 2)) ∧ w'.cell? ⟨w2.heap.size, 3, none⟩ = some (.int .u64 (wd so 3))) := fun w' hb => ⟨(hb.cell (p := ⟨0, 0, none⟩) (by show 0 < _; omega)).trans hm2, (hb.cell (p := ⟨w.heap.size, 0, none⟩) (by show w.heap.size < _; omega)).trans p0, (hb.cell (p := ⟨w.heap.size, 1, none⟩) (by show w.heap.size < _; omega)).trans p1, (hb.cell (p := ⟨w.heap.size, 2, none⟩) (by show w.heap.size < _; omega)).trans p2, (hb.cell (p := ⟨w.heap.size, 3, none⟩) (by show w.heap.size < _; omega)).trans p3, (hb.cell (p := ⟨w.heap.size + 1, 0, none⟩) (by show w.heap.size + 1 < _; omega)).trans q0, (hb.cell (p := ⟨w.heap.size + 1, 1, none⟩) (by show w.heap.size + 1 < _; omega)).trans q1, (hb.cell (p := ⟨w.heap.size + 1, 2, none⟩) (by show w.heap.size + 1 < _; omega)).trans q2, (hb.cell (p := ⟨w.heap.size + 1, 3, none⟩) (by show w.heap.size + 1 < _; omega)).trans q3, (hb.cell (p := ⟨w.heap.size + 1 + 1, 0, none⟩) (by show w.heap.size + 1 + 1 < _; omega)).trans r0, (hb.cell (p := ⟨w.heap.size + 1 + 1, 1, none⟩) (by show w.heap.size + 1 + 1 < _; omega)).trans r1, (hb.cell (p := ⟨w.heap.size + 1 + 1, 2, none⟩) (by show w.heap.size + 1 + 1 < _; omega)).trans r2, (hb.cell (p := ⟨w1.heap.size, 0, none⟩) (by show w1.heap.size < _; omega)).trans s0, (hb.cell (p := ⟨w1.heap.size, 1, none⟩) (by show w1.heap.size < _; omega)).trans s1, (hb.cell (p := ⟨w1.heap.size, 2, none⟩) (by show w1.heap.size < _; omega)).trans s2, (hb.cell (p := ⟨w1.heap.size, 3, none⟩) (by show w1.heap.size < _; omega)).trans s3, (hb.cell (p := ⟨w2.heap.size, 0, none⟩) (by show w2.heap.size < _; omega)).trans t0, (hb.cell (p := ⟨w2.heap.size, 1, none⟩) (by show w2.heap.size < _; omega)).trans t1, (hb.cell (p := ⟨w2.heap.size, 2, none⟩) (by show w2.heap.size < _; omega)).trans t2, (hb.cell (p := ⟨w2.heap.size, 3, none⟩) (by show w2.heap.size < _; omega)).trans t3⟩
  clear p0 p1 p2 p3 q0 q1 q2 q3 r0 r1 r2 s0 s1 s2 s3 t0 t1 t2 t3
  cases pa with
  | true =>
    refine Qu.region mixed (by kernel_rfl) ?_
    refine Qu.step_call (v := ?_) (f := ?_) (args := ?_) (by kernel_rfl) ?_ ?_ ?_
    rotate_left 3
    · (intro w' hb; go_simp; first | with_reducible rfl | (constructor <;> with_reducible rfl))
    · (intro w' hb; refine (alive_calls w' m (hcells w' hb).1).mono ?_; rintro e w4 ⟨rfl, hb4⟩; refine ⟨?_, hb.trans (hb4.mono hb.size)⟩; with_reducible rfl)
    simp only [Act.put, List.setIfInBounds_toArray, List.set_cons_zero, List.set_cons_succ]
    refine Qu.step_run (v := ?_) (by kernel_rfl) ?_ ?_
    rotate_left
    · (intro w' hb; go_simp; with_reducible rfl)
    simp only [Act.put, List.setIfInBounds_toArray, List.set_cons_zero, List.set_cons_succ]
    refine Qu.step_run (v := ?_) (by kernel_rfl) ?_ ?_
    rotate_left
    · (intro w' hb; obtain ⟨-, p0, p1, p2, p3, q0, q1, q2, q3, r0, r1, r2, s0, s1, s2, s3, t0, t1, t2, t3⟩ := hcells w' hb; go_simp; with_reducible rfl)
    simp only [Act.put, List.setIfInBounds_toArray, List.set_cons_zero, List.set_cons_succ]
    refine Qu.step_run (v := ?_) (by kernel_rfl) ?_ ?_
    rotate_left
    · (intro w' hb; go_simp; with_reducible rfl)
    simp only [Act.put, List.setIfInBounds_toArray, List.set_cons_zero, List.set_cons_succ]
    refine Qu.step_call (v := ?_) (f := ?_) (args := ?_) (by kernel_rfl) ?_ ?_ ?_
    rotate_left 3
    · (intro w' hb; go_simp; first | with_reducible rfl | (constructor <;> with_reducible rfl))
    · (intro w' hb; refine (KS.out w').mono ?_; rintro e w4 ⟨rfl, hb4⟩; refine ⟨?_, hb.trans (hb4.mono hb.size)⟩; with_reducible rfl)
    simp only [Act.put, List.setIfInBounds_toArray, List.set_cons_zero, List.set_cons_succ]
    refine Qu.step_run (v := ?_) (by kernel_rfl) ?_ ?_
    rotate_left
    · (intro w' hb; obtain ⟨-, p0, p1, p2, p3, q0, q1, q2, q3, r0, r1, r2, s0, s1, s2, s3, t0, t1, t2, t3⟩ := hcells w' hb; go_simp; with_reducible rfl)
    simp only [Act.put, List.setIfInBounds_toArray, List.set_cons_zero, List.set_cons_succ]
    refine Qu.step_run (v := ?_) (by kernel_rfl) ?_ ?_
    rotate_left
    · (intro w' hb; go_simp; with_reducible rfl)
    simp only [Act.put, List.setIfInBounds_toArray, List.set_cons_zero, List.set_cons_succ]
    refine Qu.step_call (v := ?_) (f := ?_) (args := ?_) (by kernel_rfl) ?_ ?_ ?_
    rotate_left 3
    · (intro w' hb; go_simp; first | with_reducible rfl | (constructor <;> with_reducible rfl))
    · (intro w' hb; refine (KA.out w').mono ?_; rintro e w4 ⟨rfl, hb4⟩; refine ⟨?_, hb.trans (hb4.mono hb.size)⟩; with_reducible rfl)
    simp only [Act.put, List.setIfInBounds_toArray, List.set_cons_zero, List.set_cons_succ]
    refine Qu.step_run (v := ?_) (by kernel_rfl) ?_ ?_
    rotate_left
    · (intro w' hb; go_simp; with_reducible rfl)
    simp only [Act.put, List.setIfInBounds_toArray, List.set_cons_zero, List.set_cons_succ]
    refine Qu.step_skip (by kernel_rfl) ?_
    simp only [Act.put, List.setIfInBounds_toArray, List.set_cons_zero, List.set_cons_succ]
    refine Qu.step_skip (by kernel_rfl) ?_
    simp only [Act.put, List.setIfInBounds_toArray, List.set_cons_zero, List.set_cons_succ]
    refine Qu.step_skip (by kernel_rfl) ?_
    simp only [Act.put, List.setIfInBounds_toArray, List.set_cons_zero, List.set_cons_succ]
    refine Qu.step_skip (by kernel_rfl) ?_
    simp only [Act.put, List.setIfInBounds_toArray, List.set_cons_zero, List.set_cons_succ]
    refine Qu.step_skip (by kernel_rfl) ?_
    simp only [Act.put, List.setIfInBounds_toArray, List.set_cons_zero, List.set_cons_succ]
    refine Qu.step_skip (by kernel_rfl) ?_
    simp only [Act.put, List.setIfInBounds_toArray, List.set_cons_zero, List.set_cons_succ]
    refine Qu.step_skip (by kernel_rfl) ?_
    simp only [Act.put, List.setIfInBounds_toArray, List.set_cons_zero, List.set_cons_succ]
    refine Qu.step_skip (by kernel_rfl) ?_
    simp only [Act.put, List.setIfInBounds_toArray, List.set_cons_zero, List.set_cons_succ]
    refine Qu.step_skip (by kernel_rfl) ?_
    simp only [Act.put, List.setIfInBounds_toArray, List.set_cons_zero, List.set_cons_succ]
    refine Qu.step_skip (by kernel_rfl) ?_
    simp only [Act.put, List.setIfInBounds_toArray, List.set_cons_zero, List.set_cons_succ]
    refine Qu.step_run (v := ?_) (by kernel_rfl) ?_ ?_
    rotate_left
    · (intro w' hb; go_simp; with_reducible rfl)
    simp only [Act.put, List.setIfInBounds_toArray, List.set_cons_zero, List.set_cons_succ]
    refine Qu.step_run (v := ?_) (by kernel_rfl) ?_ ?_
    rotate_left
    · (intro w' hb; go_simp; with_reducible rfl)
    simp only [Act.put, List.setIfInBounds_toArray, List.set_cons_zero, List.set_cons_succ]
    refine Qu.step_run (v := ?_) (by kernel_rfl) ?_ ?_
    rotate_left
    · (intro w' hb; go_simp; with_reducible rfl)
    simp only [Act.put, List.setIfInBounds_toArray, List.set_cons_zero, List.set_cons_succ]
    refine Qu.step_run (v := ?_) (by kernel_rfl) ?_ ?_
    rotate_left
    · (intro w' hb; go_simp; with_reducible rfl)
    simp only [Act.put, List.setIfInBounds_toArray, List.set_cons_zero, List.set_cons_succ]
    refine Qu.step_run (v := ?_) (by kernel_rfl) ?_ ?_
    rotate_left
    · (intro w' hb; obtain ⟨-, p0, p1, p2, p3, q0, q1, q2, q3, r0, r1, r2, s0, s1, s2, s3, t0, t1, t2, t3⟩ := hcells w' hb; go_simp; with_reducible rfl)
    simp only [Act.put, List.setIfInBounds_toArray, List.set_cons_zero, List.set_cons_succ]
    refine Qu.step_run (v := ?_) (by kernel_rfl) ?_ ?_
    rotate_left
    · (intro w' hb; go_simp; with_reducible rfl)
    simp only [Act.put, List.setIfInBounds_toArray, List.set_cons_zero, List.set_cons_succ]
    refine Qu.step_call (v := ?_) (f := ?_) (args := ?_) (by kernel_rfl) ?_ ?_ ?_
    rotate_left 3
    · (intro w' hb; go_simp; first | with_reducible rfl | (constructor <;> with_reducible rfl))
    · (intro w' hb; refine (KT.out w').mono ?_; rintro e w4 ⟨rfl, hb4⟩; refine ⟨?_, hb.trans (hb4.mono hb.size)⟩; with_reducible rfl)
    simp only [Act.put, List.setIfInBounds_toArray, List.set_cons_zero, List.set_cons_succ]
    refine Qu.step_run (v := ?_) (by kernel_rfl) ?_ ?_
    rotate_left
    · (intro w' hb; obtain ⟨-, p0, p1, p2, p3, q0, q1, q2, q3, r0, r1, r2, s0, s1, s2, s3, t0, t1, t2, t3⟩ := hcells w' hb; go_simp; with_reducible rfl)
    simp only [Act.put, List.setIfInBounds_toArray, List.set_cons_zero, List.set_cons_succ]
    refine Qu.step_run (v := ?_) (by kernel_rfl) ?_ ?_
    rotate_left
    · (intro w' hb; go_simp; with_reducible rfl)
    simp only [Act.put, List.setIfInBounds_toArray, List.set_cons_zero, List.set_cons_succ]
    refine Qu.step_call (v := ?_) (f := ?_) (args := ?_) (by kernel_rfl) ?_ ?_ ?_
    rotate_left 3
    · (intro w' hb; go_simp; first | with_reducible rfl | (constructor <;> with_reducible rfl))
    · (intro w' hb; refine (KA.out w').mono ?_; rintro e w4 ⟨rfl, hb4⟩; refine ⟨?_, hb.trans (hb4.mono hb.size)⟩; with_reducible rfl)
    simp only [Act.put, List.setIfInBounds_toArray, List.set_cons_zero, List.set_cons_succ]
    refine Qu.step_run (v := ?_) (by kernel_rfl) ?_ ?_
    rotate_left
    · (intro w' hb; go_simp; with_reducible rfl)
    simp only [Act.put, List.setIfInBounds_toArray, List.set_cons_zero, List.set_cons_succ]
    refine Qu.step_skip (by kernel_rfl) ?_
    simp only [Act.put, List.setIfInBounds_toArray, List.set_cons_zero, List.set_cons_succ]
    refine Qu.step_skip (by kernel_rfl) ?_
    simp only [Act.put, List.setIfInBounds_toArray, List.set_cons_zero, List.set_cons_succ]
    refine Qu.step_skip (by kernel_rfl) ?_
    simp only [Act.put, List.setIfInBounds_toArray, List.set_cons_zero, List.set_cons_succ]
    refine Qu.step_run (v := ?_) (by kernel_rfl) ?_ ?_
    rotate_left
    · (intro w' hb; go_simp; with_reducible rfl)
    simp only [Act.put, List.setIfInBounds_toArray, List.set_cons_zero, List.set_cons_succ]
    refine Qu.step_run (v := ?_) (by kernel_rfl) ?_ ?_
    rotate_left
    · (intro w' hb; go_simp; with_reducible rfl)
    simp only [Act.put, List.setIfInBounds_toArray, List.set_cons_zero, List.set_cons_succ]
    refine Qu.step_run (v := ?_) (by kernel_rfl) ?_ ?_
    rotate_left
    · (intro w' hb; go_simp; with_reducible rfl)
    simp only [Act.put, List.setIfInBounds_toArray, List.set_cons_zero, List.set_cons_succ]
    refine Qu.step_run (v := ?_) (by kernel_rfl) ?_ ?_
    rotate_left
    · (intro w' hb; go_simp; with_reducible rfl)
    simp only [Act.put, List.setIfInBounds_toArray, List.set_cons_zero, List.set_cons_succ]
    refine Qu.done ?_
    intro w9 hb9
    go_wp2
    go_ret
    exact ⟨rfl, HB.out.trans (hb9.mono HB.out.size)⟩
  | false =>
    by_cases hxc : x ≤ c
    · have d1 : decide (x ≤ c) = true := decide_eq_true hxc
      have g1 : (x : Int) ≤ (c : Int) := by omega
      rw [d1] at KS
      by_cases hcy : c ≤ y
      · have d2 : decide (c ≤ y) = true := decide_eq_true hcy
        have g2 : (c : Int) ≤ (y : Int) := by omega
        rw [d2] at KS
        refine Qu.region mixed (by kernel_rfl) ?_
        refine Qu.step_call (v := ?_) (f := ?_) (args := ?_) (by kernel_rfl) ?_ ?_ ?_
        rotate_left 3
        · (intro w' hb; go_simp; first | with_reducible rfl | (constructor <;> with_reducible rfl))
        · (intro w' hb; refine (alive_calls w' m (hcells w' hb).1).mono ?_; rintro e w4 ⟨rfl, hb4⟩; refine ⟨?_, hb.trans (hb4.mono hb.size)⟩; with_reducible rfl)
        simp only [Act.put, List.setIfInBounds_toArray, List.set_cons_zero, List.set_cons_succ]
        refine Qu.step_run (v := ?_) (by kernel_rfl) ?_ ?_
        rotate_left
        · (intro w' hb; go_simp; with_reducible rfl)
        simp only [Act.put, List.setIfInBounds_toArray, List.set_cons_zero, List.set_cons_succ]
        refine Qu.step_run (v := ?_) (by kernel_rfl) ?_ ?_
        rotate_left
        · (intro w' hb; obtain ⟨-, p0, p1, p2, p3, q0, q1, q2, q3, r0, r1, r2, s0, s1, s2, s3, t0, t1, t2, t3⟩ := hcells w' hb; go_simp; with_reducible rfl)
        simp only [Act.put, List.setIfInBounds_toArray, List.set_cons_zero, List.set_cons_succ]
        refine Qu.step_run (v := ?_) (by kernel_rfl) ?_ ?_
        rotate_left
        · (intro w' hb; go_simp; with_reducible rfl)
        simp only [Act.put, List.setIfInBounds_toArray, List.set_cons_zero, List.set_cons_succ]
        refine Qu.step_call (v := ?_) (f := ?_) (args := ?_) (by kernel_rfl) ?_ ?_ ?_
        rotate_left 3
        · (intro w' hb; go_simp; first | with_reducible rfl | (constructor <;> with_reducible rfl))
        · (intro w' hb; refine (KS.out w').mono ?_; rintro e w4 ⟨rfl, hb4⟩; refine ⟨?_, hb.trans (hb4.mono hb.size)⟩; with_reducible rfl)
        simp only [Act.put, List.setIfInBounds_toArray, List.set_cons_zero, List.set_cons_succ]
        refine Qu.step_run (v := ?_) (by kernel_rfl) ?_ ?_
        rotate_left
        · (intro w' hb; obtain ⟨-, p0, p1, p2, p3, q0, q1, q2, q3, r0, r1, r2, s0, s1, s2, s3, t0, t1, t2, t3⟩ := hcells w' hb; go_simp; with_reducible rfl)
        simp only [Act.put, List.setIfInBounds_toArray, List.set_cons_zero, List.set_cons_succ]
        refine Qu.step_run (v := ?_) (by kernel_rfl) ?_ ?_
        rotate_left
        · (intro w' hb; go_simp; with_reducible rfl)
        simp only [Act.put, List.setIfInBounds_toArray, List.set_cons_zero, List.set_cons_succ]
        refine Qu.step_call (v := ?_) (f := ?_) (args := ?_) (by kernel_rfl) ?_ ?_ ?_
        rotate_left 3
        · (intro w' hb; go_simp; first | with_reducible rfl | (constructor <;> with_reducible rfl))
        · (intro w' hb; refine (KA.out w').mono ?_; rintro e w4 ⟨rfl, hb4⟩; refine ⟨?_, hb.trans (hb4.mono hb.size)⟩; with_reducible rfl)
        simp only [Act.put, List.setIfInBounds_toArray, List.set_cons_zero, List.set_cons_succ]
        refine Qu.step_run (v := ?_) (by kernel_rfl) ?_ ?_
        rotate_left
        · (intro w' hb; go_simp; with_reducible rfl)
        simp only [Act.put, List.setIfInBounds_toArray, List.set_cons_zero, List.set_cons_succ]
        refine Qu.step_run (v := ?_) (by kernel_rfl) ?_ ?_
        rotate_left
        · (intro w' hb; go_simp; with_reducible rfl)
        simp only [Act.put, List.setIfInBounds_toArray, List.set_cons_zero, List.set_cons_succ]
        refine Qu.step_run (v := ?_) (by kernel_rfl) ?_ ?_
        rotate_left
        · (intro w' hb; go_simp; with_reducible rfl)
        simp only [Act.put, List.setIfInBounds_toArray, List.set_cons_zero, List.set_cons_succ]
        refine Qu.step_run (v := ?_) (by kernel_rfl) ?_ ?_
        rotate_left
        · (intro w' hb; obtain ⟨-, p0, p1, p2, p3, q0, q1, q2, q3, r0, r1, r2, s0, s1, s2, s3, t0, t1, t2, t3⟩ := hcells w' hb; go_simp; with_reducible rfl)
        simp only [Act.put, List.setIfInBounds_toArray, List.set_cons_zero, List.set_cons_succ]
        refine Qu.step_run (v := ?_) (by kernel_rfl) ?_ ?_
        rotate_left
        · (intro w' hb; go_simp; with_reducible rfl)
        simp only [Act.put, List.setIfInBounds_toArray, List.set_cons_zero, List.set_cons_succ]
        refine Qu.step_run (v := ?_) (by kernel_rfl) ?_ ?_
        rotate_left
        · (intro w' hb; go_simp; with_reducible rfl)
        simp only [Act.put, List.setIfInBounds_toArray, List.set_cons_zero, List.set_cons_succ]
        refine Qu.step_run (v := ?_) (by kernel_rfl) ?_ ?_
        rotate_left
        · (intro w' hb; go_simp; with_reducible rfl)
        simp only [Act.put, List.setIfInBounds_toArray, List.set_cons_zero, List.set_cons_succ]
        refine Qu.step_run (v := ?_) (by kernel_rfl) ?_ ?_
        rotate_left
        · (intro w' hb; go_simp; with_reducible rfl)
        simp only [Act.put, List.setIfInBounds_toArray, List.set_cons_zero, List.set_cons_succ]
        refine Qu.step_run (v := ?_) (by kernel_rfl) ?_ ?_
        rotate_left
        · (intro w' hb; obtain ⟨-, p0, p1, p2, p3, q0, q1, q2, q3, r0, r1, r2, s0, s1, s2, s3, t0, t1, t2, t3⟩ := hcells w' hb; go_simp; with_reducible rfl)
        simp only [Act.put, List.setIfInBounds_toArray, List.set_cons_zero, List.set_cons_succ]
        refine Qu.step_run (v := ?_) (by kernel_rfl) ?_ ?_
        rotate_left
        · (intro w' hb; go_simp; with_reducible rfl)
        simp only [Act.put, List.setIfInBounds_toArray, List.set_cons_zero, List.set_cons_succ]
        refine Qu.step_run (v := ?_) (by kernel_rfl) ?_ ?_
        rotate_left
        · (intro w' hb; go_simp; with_reducible rfl)
        simp only [Act.put, List.setIfInBounds_toArray, List.set_cons_zero, List.set_cons_succ]
        refine Qu.step_run (v := ?_) (by kernel_rfl) ?_ ?_
        rotate_left
        · (intro w' hb; go_simp; with_reducible rfl)
        simp only [Act.put, List.setIfInBounds_toArray, List.set_cons_zero, List.set_cons_succ]
        refine Qu.step_run (v := ?_) (by kernel_rfl) ?_ ?_
        rotate_left
        · (intro w' hb; go_simp; with_reducible rfl)
        simp only [Act.put, List.setIfInBounds_toArray, List.set_cons_zero, List.set_cons_succ]
        refine Qu.step_run (v := ?_) (by kernel_rfl) ?_ ?_
        rotate_left
        · (intro w' hb; go_simp; with_reducible rfl)
        simp only [Act.put, List.setIfInBounds_toArray, List.set_cons_zero, List.set_cons_succ]
        refine Qu.step_run (v := ?_) (by kernel_rfl) ?_ ?_
        rotate_left
        · (intro w' hb; go_simp; with_reducible rfl)
        simp only [Act.put, List.setIfInBounds_toArray, List.set_cons_zero, List.set_cons_succ]
        refine Qu.step_run (v := ?_) (by kernel_rfl) ?_ ?_
        rotate_left
        · (intro w' hb; obtain ⟨-, p0, p1, p2, p3, q0, q1, q2, q3, r0, r1, r2, s0, s1, s2, s3, t0, t1, t2, t3⟩ := hcells w' hb; go_simp; with_reducible rfl)
        simp only [Act.put, List.setIfInBounds_toArray, List.set_cons_zero, List.set_cons_succ]
        refine Qu.step_run (v := ?_) (by kernel_rfl) ?_ ?_
        rotate_left
        · (intro w' hb; go_simp; with_reducible rfl)
        simp only [Act.put, List.setIfInBounds_toArray, List.set_cons_zero, List.set_cons_succ]
        refine Qu.step_call (v := ?_) (f := ?_) (args := ?_) (by kernel_rfl) ?_ ?_ ?_
        rotate_left 3
        · (intro w' hb; go_simp; first | with_reducible rfl | (constructor <;> with_reducible rfl))
        · (intro w' hb; refine (KT.out w').mono ?_; rintro e w4 ⟨rfl, hb4⟩; refine ⟨?_, hb.trans (hb4.mono hb.size)⟩; with_reducible rfl)
        simp only [Act.put, List.setIfInBounds_toArray, List.set_cons_zero, List.set_cons_succ]
        refine Qu.step_run (v := ?_) (by kernel_rfl) ?_ ?_
        rotate_left
        · (intro w' hb; obtain ⟨-, p0, p1, p2, p3, q0, q1, q2, q3, r0, r1, r2, s0, s1, s2, s3, t0, t1, t2, t3⟩ := hcells w' hb; go_simp; with_reducible rfl)
        simp only [Act.put, List.setIfInBounds_toArray, List.set_cons_zero, List.set_cons_succ]
        refine Qu.step_run (v := ?_) (by kernel_rfl) ?_ ?_
        rotate_left
        · (intro w' hb; go_simp; with_reducible rfl)
        simp only [Act.put, List.setIfInBounds_toArray, List.set_cons_zero, List.set_cons_succ]
        refine Qu.step_call (v := ?_) (f := ?_) (args := ?_) (by kernel_rfl) ?_ ?_ ?_
        rotate_left 3
        · (intro w' hb; go_simp; first | with_reducible rfl | (constructor <;> with_reducible rfl))
        · (intro w' hb; refine (KA.out w').mono ?_; rintro e w4 ⟨rfl, hb4⟩; refine ⟨?_, hb.trans (hb4.mono hb.size)⟩; with_reducible rfl)
        simp only [Act.put, List.setIfInBounds_toArray, List.set_cons_zero, List.set_cons_succ]
        refine Qu.step_run (v := ?_) (by kernel_rfl) ?_ ?_
        rotate_left
        · (intro w' hb; go_simp; with_reducible rfl)
        simp only [Act.put, List.setIfInBounds_toArray, List.set_cons_zero, List.set_cons_succ]
        refine Qu.step_run (v := ?_) (by kernel_rfl) ?_ ?_
        rotate_left
        · (intro w' hb; obtain ⟨-, p0, p1, p2, p3, q0, q1, q2, q3, r0, r1, r2, s0, s1, s2, s3, t0, t1, t2, t3⟩ := hcells w' hb; go_simp; with_reducible rfl)
        simp only [Act.put, List.setIfInBounds_toArray, List.set_cons_zero, List.set_cons_succ]
        refine Qu.step_run (v := ?_) (by kernel_rfl) ?_ ?_
        rotate_left
        · (intro w' hb; go_simp; with_reducible rfl)
        simp only [Act.put, List.setIfInBounds_toArray, List.set_cons_zero, List.set_cons_succ]
        refine Qu.step_call (v := ?_) (f := ?_) (args := ?_) (by kernel_rfl) ?_ ?_ ?_
        rotate_left 3
        · (intro w' hb; go_simp; first | with_reducible rfl | (constructor <;> with_reducible rfl))
        · (intro w' hb; refine (KB.out w').mono ?_; rintro e w4 ⟨rfl, hb4⟩; refine ⟨?_, hb.trans (hb4.mono hb.size)⟩; with_reducible rfl)
        simp only [Act.put, List.setIfInBounds_toArray, List.set_cons_zero, List.set_cons_succ]
        refine Qu.step_run (v := ?_) (by kernel_rfl) ?_ ?_
        rotate_left
        · (intro w' hb; go_simp; with_reducible rfl)
        simp only [Act.put, List.setIfInBounds_toArray, List.set_cons_zero, List.set_cons_succ]
        refine Qu.step_run (v := ?_) (by kernel_rfl) ?_ ?_
        rotate_left
        · (intro w' hb; go_simp; with_reducible rfl)
        simp only [Act.put, List.setIfInBounds_toArray, List.set_cons_zero, List.set_cons_succ]
        refine Qu.step_run (v := ?_) (by kernel_rfl) ?_ ?_
        rotate_left
        · (intro w' hb; go_simp; with_reducible rfl)
        simp only [Act.put, List.setIfInBounds_toArray, List.set_cons_zero, List.set_cons_succ]
        refine Qu.step_run (v := ?_) (by kernel_rfl) ?_ ?_
        rotate_left
        · (intro w' hb; go_simp; with_reducible rfl)
        simp only [Act.put, List.setIfInBounds_toArray, List.set_cons_zero, List.set_cons_succ]
        refine Qu.done ?_
        intro w9 hb9
        go_wp2
        go_ret
        exact ⟨rfl, HB.out.trans (hb9.mono HB.out.size)⟩
      · have d2 : decide (c ≤ y) = false := decide_eq_false hcy
        have g2 : ¬ (c : Int) ≤ (y : Int) := by omega
        rw [d2] at KS
        refine Qu.region mixed (by kernel_rfl) ?_
        refine Qu.step_call (v := ?_) (f := ?_) (args := ?_) (by kernel_rfl) ?_ ?_ ?_
        rotate_left 3
        · (intro w' hb; go_simp; first | with_reducible rfl | (constructor <;> with_reducible rfl))
        · (intro w' hb; refine (alive_calls w' m (hcells w' hb).1).mono ?_; rintro e w4 ⟨rfl, hb4⟩; refine ⟨?_, hb.trans (hb4.mono hb.size)⟩; with_reducible rfl)
        simp only [Act.put, List.setIfInBounds_toArray, List.set_cons_zero, List.set_cons_succ]
        refine Qu.step_run (v := ?_) (by kernel_rfl) ?_ ?_
        rotate_left
        · (intro w' hb; go_simp; with_reducible rfl)
        simp only [Act.put, List.setIfInBounds_toArray, List.set_cons_zero, List.set_cons_succ]
        refine Qu.step_run (v := ?_) (by kernel_rfl) ?_ ?_
        rotate_left
        · (intro w' hb; obtain ⟨-, p0, p1, p2, p3, q0, q1, q2, q3, r0, r1, r2, s0, s1, s2, s3, t0, t1, t2, t3⟩ := hcells w' hb; go_simp; with_reducible rfl)
        simp only [Act.put, List.setIfInBounds_toArray, List.set_cons_zero, List.set_cons_succ]
        refine Qu.step_run (v := ?_) (by kernel_rfl) ?_ ?_
        rotate_left
        · (intro w' hb; go_simp; with_reducible rfl)
        simp only [Act.put, List.setIfInBounds_toArray, List.set_cons_zero, List.set_cons_succ]
        refine Qu.step_call (v := ?_) (f := ?_) (args := ?_) (by kernel_rfl) ?_ ?_ ?_
        rotate_left 3
        · (intro w' hb; go_simp; first | with_reducible rfl | (constructor <;> with_reducible rfl))
        · (intro w' hb; refine (KS.out w').mono ?_; rintro e w4 ⟨rfl, hb4⟩; refine ⟨?_, hb.trans (hb4.mono hb.size)⟩; with_reducible rfl)
        simp only [Act.put, List.setIfInBounds_toArray, List.set_cons_zero, List.set_cons_succ]
        refine Qu.step_run (v := ?_) (by kernel_rfl) ?_ ?_
        rotate_left
        · (intro w' hb; obtain ⟨-, p0, p1, p2, p3, q0, q1, q2, q3, r0, r1, r2, s0, s1, s2, s3, t0, t1, t2, t3⟩ := hcells w' hb; go_simp; with_reducible rfl)
        simp only [Act.put, List.setIfInBounds_toArray, List.set_cons_zero, List.set_cons_succ]
        refine Qu.step_run (v := ?_) (by kernel_rfl) ?_ ?_
        rotate_left
        · (intro w' hb; go_simp; with_reducible rfl)
        simp only [Act.put, List.setIfInBounds_toArray, List.set_cons_zero, List.set_cons_succ]
        refine Qu.step_call (v := ?_) (f := ?_) (args := ?_) (by kernel_rfl) ?_ ?_ ?_
        rotate_left 3
        · (intro w' hb; go_simp; first | with_reducible rfl | (constructor <;> with_reducible rfl))
        · (intro w' hb; refine (KA.out w').mono ?_; rintro e w4 ⟨rfl, hb4⟩; refine ⟨?_, hb.trans (hb4.mono hb.size)⟩; with_reducible rfl)
        simp only [Act.put, List.setIfInBounds_toArray, List.set_cons_zero, List.set_cons_succ]
        refine Qu.step_run (v := ?_) (by kernel_rfl) ?_ ?_
        rotate_left
        · (intro w' hb; go_simp; with_reducible rfl)
        simp only [Act.put, List.setIfInBounds_toArray, List.set_cons_zero, List.set_cons_succ]
        refine Qu.step_run (v := ?_) (by kernel_rfl) ?_ ?_
        rotate_left
        · (intro w' hb; go_simp; with_reducible rfl)
        simp only [Act.put, List.setIfInBounds_toArray, List.set_cons_zero, List.set_cons_succ]
        refine Qu.step_run (v := ?_) (by kernel_rfl) ?_ ?_
        rotate_left
        · (intro w' hb; go_simp; with_reducible rfl)
        simp only [Act.put, List.setIfInBounds_toArray, List.set_cons_zero, List.set_cons_succ]
        refine Qu.step_run (v := ?_) (by kernel_rfl) ?_ ?_
        rotate_left
        · (intro w' hb; obtain ⟨-, p0, p1, p2, p3, q0, q1, q2, q3, r0, r1, r2, s0, s1, s2, s3, t0, t1, t2, t3⟩ := hcells w' hb; go_simp; with_reducible rfl)
        simp only [Act.put, List.setIfInBounds_toArray, List.set_cons_zero, List.set_cons_succ]
        refine Qu.step_run (v := ?_) (by kernel_rfl) ?_ ?_
        rotate_left
        · (intro w' hb; go_simp; with_reducible rfl)
        simp only [Act.put, List.setIfInBounds_toArray, List.set_cons_zero, List.set_cons_succ]
        refine Qu.step_run (v := ?_) (by kernel_rfl) ?_ ?_
        rotate_left
        · (intro w' hb; go_simp; with_reducible rfl)
        simp only [Act.put, List.setIfInBounds_toArray, List.set_cons_zero, List.set_cons_succ]
        refine Qu.step_run (v := ?_) (by kernel_rfl) ?_ ?_
        rotate_left
        · (intro w' hb; go_simp; with_reducible rfl)
        simp only [Act.put, List.setIfInBounds_toArray, List.set_cons_zero, List.set_cons_succ]
        refine Qu.step_run (v := ?_) (by kernel_rfl) ?_ ?_
        rotate_left
        · (intro w' hb; go_simp; with_reducible rfl)
        simp only [Act.put, List.setIfInBounds_toArray, List.set_cons_zero, List.set_cons_succ]
        refine Qu.step_run (v := ?_) (by kernel_rfl) ?_ ?_
        rotate_left
        · (intro w' hb; obtain ⟨-, p0, p1, p2, p3, q0, q1, q2, q3, r0, r1, r2, s0, s1, s2, s3, t0, t1, t2, t3⟩ := hcells w' hb; go_simp; with_reducible rfl)
        simp only [Act.put, List.setIfInBounds_toArray, List.set_cons_zero, List.set_cons_succ]
        refine Qu.step_run (v := ?_) (by kernel_rfl) ?_ ?_
        rotate_left
        · (intro w' hb; go_simp; with_reducible rfl)
        simp only [Act.put, List.setIfInBounds_toArray, List.set_cons_zero, List.set_cons_succ]
        refine Qu.step_run (v := ?_) (by kernel_rfl) ?_ ?_
        rotate_left
        · (intro w' hb; go_simp; with_reducible rfl)
        simp only [Act.put, List.setIfInBounds_toArray, List.set_cons_zero, List.set_cons_succ]
        refine Qu.step_run (v := ?_) (by kernel_rfl) ?_ ?_
        rotate_left
        · (intro w' hb; go_simp; with_reducible rfl)
        simp only [Act.put, List.setIfInBounds_toArray, List.set_cons_zero, List.set_cons_succ]
        refine Qu.step_run (v := ?_) (by kernel_rfl) ?_ ?_
        rotate_left
        · (intro w' hb; go_simp; with_reducible rfl)
        simp only [Act.put, List.setIfInBounds_toArray, List.set_cons_zero, List.set_cons_succ]
        refine Qu.step_run (v := ?_) (by kernel_rfl) ?_ ?_
        rotate_left
        · (intro w' hb; go_simp; with_reducible rfl)
        simp only [Act.put, List.setIfInBounds_toArray, List.set_cons_zero, List.set_cons_succ]
        refine Qu.step_run (v := ?_) (by kernel_rfl) ?_ ?_
        rotate_left
        · (intro w' hb; go_simp; with_reducible rfl)
        simp only [Act.put, List.setIfInBounds_toArray, List.set_cons_zero, List.set_cons_succ]
        refine Qu.step_run (v := ?_) (by kernel_rfl) ?_ ?_
        rotate_left
        · (intro w' hb; obtain ⟨-, p0, p1, p2, p3, q0, q1, q2, q3, r0, r1, r2, s0, s1, s2, s3, t0, t1, t2, t3⟩ := hcells w' hb; go_simp; with_reducible rfl)
        simp only [Act.put, List.setIfInBounds_toArray, List.set_cons_zero, List.set_cons_succ]
        refine Qu.step_run (v := ?_) (by kernel_rfl) ?_ ?_
        rotate_left
        · (intro w' hb; go_simp; with_reducible rfl)
        simp only [Act.put, List.setIfInBounds_toArray, List.set_cons_zero, List.set_cons_succ]
        refine Qu.step_call (v := ?_) (f := ?_) (args := ?_) (by kernel_rfl) ?_ ?_ ?_
        rotate_left 3
        · (intro w' hb; go_simp; first | with_reducible rfl | (constructor <;> with_reducible rfl))
        · (intro w' hb; refine (KT.out w').mono ?_; rintro e w4 ⟨rfl, hb4⟩; refine ⟨?_, hb.trans (hb4.mono hb.size)⟩; with_reducible rfl)
        simp only [Act.put, List.setIfInBounds_toArray, List.set_cons_zero, List.set_cons_succ]
        refine Qu.step_run (v := ?_) (by kernel_rfl) ?_ ?_
        rotate_left
        · (intro w' hb; obtain ⟨-, p0, p1, p2, p3, q0, q1, q2, q3, r0, r1, r2, s0, s1, s2, s3, t0, t1, t2, t3⟩ := hcells w' hb; go_simp; with_reducible rfl)
        simp only [Act.put, List.setIfInBounds_toArray, List.set_cons_zero, List.set_cons_succ]
        refine Qu.step_run (v := ?_) (by kernel_rfl) ?_ ?_
        rotate_left
        · (intro w' hb; go_simp; with_reducible rfl)
        simp only [Act.put, List.setIfInBounds_toArray, List.set_cons_zero, List.set_cons_succ]
        refine Qu.step_call (v := ?_) (f := ?_) (args := ?_) (by kernel_rfl) ?_ ?_ ?_
        rotate_left 3
        · (intro w' hb; go_simp; first | with_reducible rfl | (constructor <;> with_reducible rfl))
        · (intro w' hb; refine (KA.out w').mono ?_; rintro e w4 ⟨rfl, hb4⟩; refine ⟨?_, hb.trans (hb4.mono hb.size)⟩; with_reducible rfl)
        simp only [Act.put, List.setIfInBounds_toArray, List.set_cons_zero, List.set_cons_succ]
        refine Qu.step_run (v := ?_) (by kernel_rfl) ?_ ?_
        rotate_left
        · (intro w' hb; go_simp; with_reducible rfl)
        simp only [Act.put, List.setIfInBounds_toArray, List.set_cons_zero, List.set_cons_succ]
        refine Qu.step_run (v := ?_) (by kernel_rfl) ?_ ?_
        rotate_left
        · (intro w' hb; obtain ⟨-, p0, p1, p2, p3, q0, q1, q2, q3, r0, r1, r2, s0, s1, s2, s3, t0, t1, t2, t3⟩ := hcells w' hb; go_simp; with_reducible rfl)
        simp only [Act.put, List.setIfInBounds_toArray, List.set_cons_zero, List.set_cons_succ]
        refine Qu.step_run (v := ?_) (by kernel_rfl) ?_ ?_
        rotate_left
        · (intro w' hb; go_simp; with_reducible rfl)
        simp only [Act.put, List.setIfInBounds_toArray, List.set_cons_zero, List.set_cons_succ]
        refine Qu.step_call (v := ?_) (f := ?_) (args := ?_) (by kernel_rfl) ?_ ?_ ?_
        rotate_left 3
        · (intro w' hb; go_simp; first | with_reducible rfl | (constructor <;> with_reducible rfl))
        · (intro w' hb; refine (KB.out w').mono ?_; rintro e w4 ⟨rfl, hb4⟩; refine ⟨?_, hb.trans (hb4.mono hb.size)⟩; with_reducible rfl)
        simp only [Act.put, List.setIfInBounds_toArray, List.set_cons_zero, List.set_cons_succ]
        refine Qu.step_run (v := ?_) (by kernel_rfl) ?_ ?_
        rotate_left
        · (intro w' hb; go_simp; with_reducible rfl)
        simp only [Act.put, List.setIfInBounds_toArray, List.set_cons_zero, List.set_cons_succ]
        refine Qu.step_run (v := ?_) (by kernel_rfl) ?_ ?_
        rotate_left
        · (intro w' hb; go_simp; with_reducible rfl)
        simp only [Act.put, List.setIfInBounds_toArray, List.set_cons_zero, List.set_cons_succ]
        refine Qu.step_run (v := ?_) (by kernel_rfl) ?_ ?_
        rotate_left
        · (intro w' hb; go_simp; with_reducible rfl)
        simp only [Act.put, List.setIfInBounds_toArray, List.set_cons_zero, List.set_cons_succ]
        refine Qu.step_run (v := ?_) (by kernel_rfl) ?_ ?_
        rotate_left
        · (intro w' hb; go_simp; with_reducible rfl)
        simp only [Act.put, List.setIfInBounds_toArray, List.set_cons_zero, List.set_cons_succ]
        refine Qu.done ?_
        intro w9 hb9
        go_wp2
        go_ret
        exact ⟨rfl, HB.out.trans (hb9.mono HB.out.size)⟩
    · have d1 : decide (x ≤ c) = false := decide_eq_false hxc
      have g1 : ¬ (x : Int) ≤ (c : Int) := by omega
      rw [d1, Bool.false_and] at KS
      refine Qu.region mixed (by kernel_rfl) ?_
      refine Qu.step_call (v := ?_) (f := ?_) (args := ?_) (by kernel_rfl) ?_ ?_ ?_
      rotate_left 3
      · (intro w' hb; go_simp; first | with_reducible rfl | (constructor <;> with_reducible rfl))
      · (intro w' hb; refine (alive_calls w' m (hcells w' hb).1).mono ?_; rintro e w4 ⟨rfl, hb4⟩; refine ⟨?_, hb.trans (hb4.mono hb.size)⟩; with_reducible rfl)
      simp only [Act.put, List.setIfInBounds_toArray, List.set_cons_zero, List.set_cons_succ]
      refine Qu.step_run (v := ?_) (by kernel_rfl) ?_ ?_
      rotate_left
      · (intro w' hb; go_simp; with_reducible rfl)
      simp only [Act.put, List.setIfInBounds_toArray, List.set_cons_zero, List.set_cons_succ]
      refine Qu.step_run (v := ?_) (by kernel_rfl) ?_ ?_
      rotate_left
      · (intro w' hb; obtain ⟨-, p0, p1, p2, p3, q0, q1, q2, q3, r0, r1, r2, s0, s1, s2, s3, t0, t1, t2, t3⟩ := hcells w' hb; go_simp; with_reducible rfl)
      simp only [Act.put, List.setIfInBounds_toArray, List.set_cons_zero, List.set_cons_succ]
      refine Qu.step_run (v := ?_) (by kernel_rfl) ?_ ?_
      rotate_left
      · (intro w' hb; go_simp; with_reducible rfl)
      simp only [Act.put, List.setIfInBounds_toArray, List.set_cons_zero, List.set_cons_succ]
      refine Qu.step_call (v := ?_) (f := ?_) (args := ?_) (by kernel_rfl) ?_ ?_ ?_
      rotate_left 3
      · (intro w' hb; go_simp; first | with_reducible rfl | (constructor <;> with_reducible rfl))
      · (intro w' hb; refine (KS.out w').mono ?_; rintro e w4 ⟨rfl, hb4⟩; refine ⟨?_, hb.trans (hb4.mono hb.size)⟩; with_reducible rfl)
      simp only [Act.put, List.setIfInBounds_toArray, List.set_cons_zero, List.set_cons_succ]
      refine Qu.step_run (v := ?_) (by kernel_rfl) ?_ ?_
      rotate_left
      · (intro w' hb; obtain ⟨-, p0, p1, p2, p3, q0, q1, q2, q3, r0, r1, r2, s0, s1, s2, s3, t0, t1, t2, t3⟩ := hcells w' hb; go_simp; with_reducible rfl)
      simp only [Act.put, List.setIfInBounds_toArray, List.set_cons_zero, List.set_cons_succ]
      refine Qu.step_run (v := ?_) (by kernel_rfl) ?_ ?_
      rotate_left
      · (intro w' hb; go_simp; with_reducible rfl)
      simp only [Act.put, List.setIfInBounds_toArray, List.set_cons_zero, List.set_cons_succ]
      refine Qu.step_call (v := ?_) (f := ?_) (args := ?_) (by kernel_rfl) ?_ ?_ ?_
      rotate_left 3
      · (intro w' hb; go_simp; first | with_reducible rfl | (constructor <;> with_reducible rfl))
      · (intro w' hb; refine (KA.out w').mono ?_; rintro e w4 ⟨rfl, hb4⟩; refine ⟨?_, hb.trans (hb4.mono hb.size)⟩; with_reducible rfl)
      simp only [Act.put, List.setIfInBounds_toArray, List.set_cons_zero, List.set_cons_succ]
      refine Qu.step_run (v := ?_) (by kernel_rfl) ?_ ?_
      rotate_left
      · (intro w' hb; go_simp; with_reducible rfl)
      simp only [Act.put, List.setIfInBounds_toArray, List.set_cons_zero, List.set_cons_succ]
      refine Qu.step_run (v := ?_) (by kernel_rfl) ?_ ?_
      rotate_left
      · (intro w' hb; go_simp; with_reducible rfl)
      simp only [Act.put, List.setIfInBounds_toArray, List.set_cons_zero, List.set_cons_succ]
      refine Qu.step_run (v := ?_) (by kernel_rfl) ?_ ?_
      rotate_left
      · (intro w' hb; go_simp; with_reducible rfl)
      simp only [Act.put, List.setIfInBounds_toArray, List.set_cons_zero, List.set_cons_succ]
      refine Qu.step_run (v := ?_) (by kernel_rfl) ?_ ?_
      rotate_left
      · (intro w' hb; obtain ⟨-, p0, p1, p2, p3, q0, q1, q2, q3, r0, r1, r2, s0, s1, s2, s3, t0, t1, t2, t3⟩ := hcells w' hb; go_simp; with_reducible rfl)
      simp only [Act.put, List.setIfInBounds_toArray, List.set_cons_zero, List.set_cons_succ]
      refine Qu.step_run (v := ?_) (by kernel_rfl) ?_ ?_
      rotate_left
      · (intro w' hb; go_simp; with_reducible rfl)
      simp only [Act.put, List.setIfInBounds_toArray, List.set_cons_zero, List.set_cons_succ]
      refine Qu.step_run (v := ?_) (by kernel_rfl) ?_ ?_
      rotate_left
      · (intro w' hb; go_simp; with_reducible rfl)
      simp only [Act.put, List.setIfInBounds_toArray, List.set_cons_zero, List.set_cons_succ]
      refine Qu.step_skip (by kernel_rfl) ?_
      simp only [Act.put, List.setIfInBounds_toArray, List.set_cons_zero, List.set_cons_succ]
      refine Qu.step_skip (by kernel_rfl) ?_
      simp only [Act.put, List.setIfInBounds_toArray, List.set_cons_zero, List.set_cons_succ]
      refine Qu.step_skip (by kernel_rfl) ?_
      simp only [Act.put, List.setIfInBounds_toArray, List.set_cons_zero, List.set_cons_succ]
      refine Qu.step_skip (by kernel_rfl) ?_
      simp only [Act.put, List.setIfInBounds_toArray, List.set_cons_zero, List.set_cons_succ]
      refine Qu.step_run (v := ?_) (by kernel_rfl) ?_ ?_
      rotate_left
      · (intro w' hb; go_simp; with_reducible rfl)
      simp only [Act.put, List.setIfInBounds_toArray, List.set_cons_zero, List.set_cons_succ]
      refine Qu.step_run (v := ?_) (by kernel_rfl) ?_ ?_
      rotate_left
      · (intro w' hb; go_simp; with_reducible rfl)
      simp only [Act.put, List.setIfInBounds_toArray, List.set_cons_zero, List.set_cons_succ]
      refine Qu.step_run (v := ?_) (by kernel_rfl) ?_ ?_
      rotate_left
      · (intro w' hb; go_simp; with_reducible rfl)
      simp only [Act.put, List.setIfInBounds_toArray, List.set_cons_zero, List.set_cons_succ]
      refine Qu.step_run (v := ?_) (by kernel_rfl) ?_ ?_
      rotate_left
      · (intro w' hb; go_simp; with_reducible rfl)
      simp only [Act.put, List.setIfInBounds_toArray, List.set_cons_zero, List.set_cons_succ]
      refine Qu.step_run (v := ?_) (by kernel_rfl) ?_ ?_
      rotate_left
      · (intro w' hb; go_simp; with_reducible rfl)
      simp only [Act.put, List.setIfInBounds_toArray, List.set_cons_zero, List.set_cons_succ]
      refine Qu.step_run (v := ?_) (by kernel_rfl) ?_ ?_
      rotate_left
      · (intro w' hb; obtain ⟨-, p0, p1, p2, p3, q0, q1, q2, q3, r0, r1, r2, s0, s1, s2, s3, t0, t1, t2, t3⟩ := hcells w' hb; go_simp; with_reducible rfl)
      simp only [Act.put, List.setIfInBounds_toArray, List.set_cons_zero, List.set_cons_succ]
      refine Qu.step_run (v := ?_) (by kernel_rfl) ?_ ?_
      rotate_left
      · (intro w' hb; go_simp; with_reducible rfl)
      simp only [Act.put, List.setIfInBounds_toArray, List.set_cons_zero, List.set_cons_succ]
      refine Qu.step_call (v := ?_) (f := ?_) (args := ?_) (by kernel_rfl) ?_ ?_ ?_
      rotate_left 3
      · (intro w' hb; go_simp; first | with_reducible rfl | (constructor <;> with_reducible rfl))
      · (intro w' hb; refine (KT.out w').mono ?_; rintro e w4 ⟨rfl, hb4⟩; refine ⟨?_, hb.trans (hb4.mono hb.size)⟩; with_reducible rfl)
      simp only [Act.put, List.setIfInBounds_toArray, List.set_cons_zero, List.set_cons_succ]
      refine Qu.step_run (v := ?_) (by kernel_rfl) ?_ ?_
      rotate_left
      · (intro w' hb; obtain ⟨-, p0, p1, p2, p3, q0, q1, q2, q3, r0, r1, r2, s0, s1, s2, s3, t0, t1, t2, t3⟩ := hcells w' hb; go_simp; with_reducible rfl)
      simp only [Act.put, List.setIfInBounds_toArray, List.set_cons_zero, List.set_cons_succ]
      refine Qu.step_run (v := ?_) (by kernel_rfl) ?_ ?_
      rotate_left
      · (intro w' hb; go_simp; with_reducible rfl)
      simp only [Act.put, List.setIfInBounds_toArray, List.set_cons_zero, List.set_cons_succ]
      refine Qu.step_call (v := ?_) (f := ?_) (args := ?_) (by kernel_rfl) ?_ ?_ ?_
      rotate_left 3
      · (intro w' hb; go_simp; first | with_reducible rfl | (constructor <;> with_reducible rfl))
      · (intro w' hb; refine (KA.out w').mono ?_; rintro e w4 ⟨rfl, hb4⟩; refine ⟨?_, hb.trans (hb4.mono hb.size)⟩; with_reducible rfl)
      simp only [Act.put, List.setIfInBounds_toArray, List.set_cons_zero, List.set_cons_succ]
      refine Qu.step_run (v := ?_) (by kernel_rfl) ?_ ?_
      rotate_left
      · (intro w' hb; go_simp; with_reducible rfl)
      simp only [Act.put, List.setIfInBounds_toArray, List.set_cons_zero, List.set_cons_succ]
      refine Qu.step_run (v := ?_) (by kernel_rfl) ?_ ?_
      rotate_left
      · (intro w' hb; obtain ⟨-, p0, p1, p2, p3, q0, q1, q2, q3, r0, r1, r2, s0, s1, s2, s3, t0, t1, t2, t3⟩ := hcells w' hb; go_simp; with_reducible rfl)
      simp only [Act.put, List.setIfInBounds_toArray, List.set_cons_zero, List.set_cons_succ]
      refine Qu.step_run (v := ?_) (by kernel_rfl) ?_ ?_
      rotate_left
      · (intro w' hb; go_simp; with_reducible rfl)
      simp only [Act.put, List.setIfInBounds_toArray, List.set_cons_zero, List.set_cons_succ]
      refine Qu.step_call (v := ?_) (f := ?_) (args := ?_) (by kernel_rfl) ?_ ?_ ?_
      rotate_left 3
      · (intro w' hb; go_simp; first | with_reducible rfl | (constructor <;> with_reducible rfl))
      · (intro w' hb; refine (KB.out w').mono ?_; rintro e w4 ⟨rfl, hb4⟩; refine ⟨?_, hb.trans (hb4.mono hb.size)⟩; with_reducible rfl)
      simp only [Act.put, List.setIfInBounds_toArray, List.set_cons_zero, List.set_cons_succ]
      refine Qu.step_run (v := ?_) (by kernel_rfl) ?_ ?_
      rotate_left
      · (intro w' hb; go_simp; with_reducible rfl)
      simp only [Act.put, List.setIfInBounds_toArray, List.set_cons_zero, List.set_cons_succ]
      refine Qu.step_run (v := ?_) (by kernel_rfl) ?_ ?_
      rotate_left
      · (intro w' hb; go_simp; with_reducible rfl)
      simp only [Act.put, List.setIfInBounds_toArray, List.set_cons_zero, List.set_cons_succ]
      refine Qu.step_run (v := ?_) (by kernel_rfl) ?_ ?_
      rotate_left
      · (intro w' hb; go_simp; with_reducible rfl)
      simp only [Act.put, List.setIfInBounds_toArray, List.set_cons_zero, List.set_cons_succ]
      refine Qu.step_run (v := ?_) (by kernel_rfl) ?_ ?_
      rotate_left
      · (intro w' hb; go_simp; with_reducible rfl)
      simp only [Act.put, List.setIfInBounds_toArray, List.set_cons_zero, List.set_cons_succ]
      refine Qu.done ?_
      intro w9 hb9
      go_wp2
      go_ret
      exact ⟨rfl, HB.out.trans (hb9.mono HB.out.size)⟩
end Go.Proofs.Ytglhhcgoppmipaa.Cl
