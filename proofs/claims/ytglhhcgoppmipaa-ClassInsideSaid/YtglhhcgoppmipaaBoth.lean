/- class.Both. -/
import Derived.Test.YtglhhcgoppmipaaWith2
namespace Go.Proofs.Ytglhhcgoppmipaa.Cl
open Go.RowKit Go.Proofs.YtglhhcgoppmipaaW.PrintWords

def Arr (g : Nat) (f : Nat → Int) (w : World) : Prop := w.heap[g]? = some (.cells #[.int .u64 (f 0), .int .u64 (f 1), .int .u64 (f 2), .int .u64 (f 3)] 24 (0, 0))
theorem Arr.cell {g : Nat} {f : Nat → Int} {w : World} (h : Arr g f w) : w.cell? ⟨g, 0, none⟩ = some (.int .u64 (f 0)) ∧ w.cell? ⟨g, 1, none⟩ = some (.int .u64 (f 1)) ∧ w.cell? ⟨g, 2, none⟩ = some (.int .u64 (f 2)) ∧ w.cell? ⟨g, 3, none⟩ = some (.int .u64 (f 3)) := by
  unfold Arr at h
  simp [World.cell?, h]
theorem Arr.free {g : Nat} {f : Nat → Int} {w : World} (h : Arr g f w) : w.frozen? ⟨g, 0, none⟩ = false ∧ w.frozen? ⟨g, 1, none⟩ = false ∧ w.frozen? ⟨g, 2, none⟩ = false ∧ w.frozen? ⟨g, 3, none⟩ = false := by
  unfold Arr at h
  simp [World.frozen?, h]
theorem wn_both (a b i : Nat) : wn (a ||| b) i = wn a i ||| wn b i := by
  unfold wn
  apply Nat.eq_of_testBit_eq
  intro j
  simp only [Nat.testBit_mod_two_pow, Nat.testBit_shiftRight, Nat.testBit_or]
  cases decide (j < 64) <;> rfl
theorem or_both (a b i : Nat) : Go.bits .or .u64 (wd a i) (wd b i) = wd (a ||| b) i := by
  unfold wd
  rw [u64_or_nat _ _ (wn_lt a i) (wn_lt b i), wn_both]
def mixb (a b j i : Nat) : Int := if i < j then wd (a ||| b) i else wd a i
theorem Arr.step {g a b : Nat} {w : World} (j : Nat) (hj : j < 4) (h : Arr g (mixb a b j) w) : Arr g (mixb a b (j + 1)) (w.setCell ⟨g, j, none⟩ (.int .u64 (Go.bits .or .u64 (mixb a b j j) (wd b j)))) := by
  have e : Go.bits .or .u64 (mixb a b j j) (wd b j) = wd (a ||| b) j := by
    unfold mixb
    rw [if_neg (Nat.lt_irrefl j), or_both]
  rw [e]
  unfold Arr at *
  match j, hj with
  | 0, _ | 1, _ | 2, _ | 3, _ => simp [World.setCell, Array.getElem?_modify, h, mixb]
theorem Arr.put {g : Nat} {f : Nat → Int} {w : World} (n : Nat → Int) (h : Arr g f w) : Arr g n ((((w.setCell ⟨g, 0, none⟩ (.int .u64 (n 0))).setCell ⟨g, 1, none⟩ (.int .u64 (n 1))).setCell ⟨g, 2, none⟩ (.int .u64 (n 2))).setCell ⟨g, 3, none⟩ (.int .u64 (n 3))) := by
  unfold Arr at *
  simp [World.setCell, Array.getElem?_modify, h]
theorem Arr.other {g k i : Nat} {f : Nat → Int} {w : World} (h : Arr g f w) (hne : g ≠ k) (v : Value) : Arr g f (w.setCell ⟨k, i, none⟩ v) := by
  unfold Arr at *
  rw [Go.heap_setCell_other _ _ _ _ hne, h]
theorem three (w : World) (A B C : Obj) : (((w.alloc A).alloc B).alloc C).heap[w.heap.size]? = some A ∧ (((w.alloc A).alloc B).alloc C).heap[w.heap.size + 1]? = some B ∧ (((w.alloc A).alloc B).alloc C).heap[w.heap.size + 1 + 1]? = some C := by
  have e1 : (w.alloc A).heap.size = w.heap.size + 1 := by simp
  have e2 : ((w.alloc A).alloc B).heap.size = w.heap.size + 1 + 1 := by simp
  refine ⟨?_, ?_, ?_⟩
  · rw [Go.heap_alloc_old _ _ (by rw [e2]; omega)]; exact Go.heap_alloc2_old _ _ _
  · rw [Go.heap_alloc_old _ _ (by rw [e2]; omega)]; exact Go.heap_alloc2_new _ _ _
  · rw [← e2]; exact Go.heap_alloc_new _ _
set_option maxHeartbeats 4000000 in
theorem both_calls (a b : Nat) (w : World) :
    Calls Try.prog 16 #[St a, St b] w fun e w' => e = .returned (St (a ||| b)) ∧ Below w.heap.size w w' := by
  have mixed : Try.prog.follows Departure.mixedOrders = true := by kernel_rfl
  go_enter Try.func16, Try.ntmps16
  unfold St cs
  go_wp2
  go_loopg [6] 4 (fun kq v6 w' => ∃ j : Nat, v6 = .int .i64 (j : Int) ∧ j + kq = 4 ∧ Aside0 (Arr w.heap.size (mixb a b j) w') ∧ Aside0 (Arr (w.heap.size + 1) (wd b) w') ∧ Aside0 (Arr (w.heap.size + 1 + 1) (fun _ => 0) w') ∧ Aside0 (Below w.heap.size w w'))
  case atStart => exact ⟨0, rfl, rfl, ⟨(three _ _ _ _).1⟩, ⟨(three _ _ _ _).2.1⟩, ⟨(three _ _ _ _).2.2⟩, ⟨(((Below.refl _ _).alloc (Nat.le_refl _) _).alloc (by simp) _).alloc (by simp; omega) _⟩⟩
  case round =>
    obtain ⟨j, rfl, hj, HV, HW, HR, HB⟩ := hrel
    obtain ⟨e0, e1, e2, e3⟩ := HV.out.cell
    cases gk with
    | zero =>
      have hj' : j = 4 := by omega
      subst hj'
      obtain ⟨r0, r1, r2, r3⟩ := HR.out.cell
      obtain ⟨f0, f1, f2, f3⟩ := HR.out.free
      go_wp2
      refine bodyPost_ret (results_cell_row rfl _ _ (w.heap.size + 1 + 1) 24 _ (0, 0) _ rfl (HR.out.put (mixb a b 4)) Try.underlying24 rfl (by kernel_rfl)) rfl ?_
      exact ⟨rfl, below_put HB.out (by omega) _ _ _ _⟩
    | succ k1 =>
      have hlt : j < 4 := by omega
      obtain ⟨b0, b1, b2, b3⟩ := HW.out.cell
      obtain ⟨f0, f1, f2, f3⟩ := HV.out.free
      match j, hlt with
      | 0, _ =>
        go_wp2
        go_region_o
        go_wp2
        go_roundg k1
        case measure => omega
        case rel =>
          exact ⟨0 + 1, rfl, by omega, ⟨Arr.step (w := wr.drew) 0 (by decide) HV.out⟩, ⟨Arr.other (w := wr.drew) HW.out (by omega) _⟩, ⟨Arr.other (w := wr.drew) HR.out (by omega) _⟩, ⟨HB.out.drew.setCell (p := ⟨w.heap.size, 0, none⟩) (Nat.le_refl _) _⟩⟩
      | 1, _ =>
        go_wp2
        go_region_o
        go_wp2
        go_roundg k1
        case measure => omega
        case rel =>
          exact ⟨1 + 1, rfl, by omega, ⟨Arr.step (w := wr.drew) 1 (by decide) HV.out⟩, ⟨Arr.other (w := wr.drew) HW.out (by omega) _⟩, ⟨Arr.other (w := wr.drew) HR.out (by omega) _⟩, ⟨HB.out.drew.setCell (p := ⟨w.heap.size, 1, none⟩) (Nat.le_refl _) _⟩⟩
      | 2, _ =>
        go_wp2
        go_region_o
        go_wp2
        go_roundg k1
        case measure => omega
        case rel =>
          exact ⟨2 + 1, rfl, by omega, ⟨Arr.step (w := wr.drew) 2 (by decide) HV.out⟩, ⟨Arr.other (w := wr.drew) HW.out (by omega) _⟩, ⟨Arr.other (w := wr.drew) HR.out (by omega) _⟩, ⟨HB.out.drew.setCell (p := ⟨w.heap.size, 2, none⟩) (Nat.le_refl _) _⟩⟩
      | 3, _ =>
        go_wp2
        go_region_o
        go_wp2
        go_roundg k1
        case measure => omega
        case rel =>
          exact ⟨3 + 1, rfl, by omega, ⟨Arr.step (w := wr.drew) 3 (by decide) HV.out⟩, ⟨Arr.other (w := wr.drew) HW.out (by omega) _⟩, ⟨Arr.other (w := wr.drew) HR.out (by omega) _⟩, ⟨HB.out.drew.setCell (p := ⟨w.heap.size, 3, none⟩) (Nat.le_refl _) _⟩⟩
end Go.Proofs.Ytglhhcgoppmipaa.Cl
