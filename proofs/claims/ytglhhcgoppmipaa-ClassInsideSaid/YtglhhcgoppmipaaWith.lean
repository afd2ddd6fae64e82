/- Sets with bytes from one to another. -/
import Derived.Test.YtglhhcgoppmipaaAdd
namespace Go.Proofs.Ytglhhcgoppmipaa.Cl
open Go.RowKit Go.Proofs.YtglhhcgoppmipaaW.PrintWords

/-- n bytes more, from c on. -/
def wi (s c : Nat) : Nat → Nat
  | 0 => s
  | n + 1 => wi (s ||| 2 ^ c) (c + 1) n
def Var (g m : Nat) (w : World) : Prop := w.heap[g]? = some (.cells (cs m) 24 (0, 0))
theorem Var.cell {g m : Nat} {w : World} (h : Var g m w) : w.cell? ⟨g, 0, none⟩ = some (.int .u64 (wd m 0)) ∧ w.cell? ⟨g, 1, none⟩ = some (.int .u64 (wd m 1)) ∧ w.cell? ⟨g, 2, none⟩ = some (.int .u64 (wd m 2)) ∧ w.cell? ⟨g, 3, none⟩ = some (.int .u64 (wd m 3)) := by
  unfold Var at h
  simp [World.cell?, h, cs]
theorem Var.free {g m : Nat} {w : World} (h : Var g m w) : w.frozen? ⟨g, 0, none⟩ = false ∧ w.frozen? ⟨g, 1, none⟩ = false ∧ w.frozen? ⟨g, 2, none⟩ = false ∧ w.frozen? ⟨g, 3, none⟩ = false := by
  unfold Var at h
  simp [World.frozen?, h]
theorem Var.put {g m n : Nat} {w : World} (h : Var g m w) : Var g n ((((w.setCell ⟨g, 0, none⟩ (.int .u64 (wd n 0))).setCell ⟨g, 1, none⟩ (.int .u64 (wd n 1))).setCell ⟨g, 2, none⟩ (.int .u64 (wd n 2))).setCell ⟨g, 3, none⟩ (.int .u64 (wd n 3))) := by
  unfold Var at *
  simp [World.setCell, Array.getElem?_modify, h, cs]
theorem Var.far {g k m : Nat} {w : World} (h : Var g m w) (hne : g ≠ k) (a b c d : Value) : Var g m ((((w.setCell ⟨k, 0, none⟩ a).setCell ⟨k, 1, none⟩ b).setCell ⟨k, 2, none⟩ c).setCell ⟨k, 3, none⟩ d) := by
  unfold Var at *
  rw [Go.heap_setCell_other _ _ _ _ hne, Go.heap_setCell_other _ _ _ _ hne, Go.heap_setCell_other _ _ _ _ hne, Go.heap_setCell_other _ _ _ _ hne, h]
theorem Var.lt {g m : Nat} {w : World} (h : Var g m w) : g < w.heap.size := by
  unfold Var at h
  rcases Nat.lt_or_ge g w.heap.size with h' | h'
  · exact h'
  · simp [Array.getElem?_eq_none h'] at h
theorem Var.below {g m : Nat} {w w1 : World} (h : Var g m w) (hb : Below w.heap.size w w1) : Var g m w1 := (hb.block g h.lt).trans h
theorem below_put {B g : Nat} {a w : World} (h : Below B a w) (hg : B ≤ g) (x y z t : Value) : Below B a ((((w.setCell ⟨g, 0, none⟩ x).setCell ⟨g, 1, none⟩ y).setCell ⟨g, 2, none⟩ z).setCell ⟨g, 3, none⟩ t) :=
  (((h.setCell (p := ⟨g, 0, none⟩) hg x).setCell (p := ⟨g, 1, none⟩) hg y).setCell (p := ⟨g, 2, none⟩) hg z).setCell (p := ⟨g, 3, none⟩) hg t
set_option maxHeartbeats 4000000 in
theorem refwith_calls (s lo hi : Nat) (w : World) (hlo : lo < 256) (hhi : hi < 256) :
    Calls Try.prog 13 #[St s, .int .u8 (lo : Int), .int .u8 (hi : Int)] w fun e w' => e = .returned (St (wi s lo (hi + 1 - lo))) ∧ Below w.heap.size w w' := by
  go_enter Try.func13, Try.ntmps13
  unfold St cs
  go_wp2
  go_loopg [7] (hi + 1 - lo) (fun kq v7 w' => ∃ c m : Nat, v7 = .int .i64 (c : Int) ∧ c = lo + (hi + 1 - lo - kq) ∧ kq ≤ hi + 1 - lo ∧ wi m c kq = wi s lo (hi + 1 - lo) ∧ Aside0 (Var w.heap.size m w') ∧ Aside0 (Var (w.heap.size + 1) 0 w') ∧ Aside0 (Below w.heap.size w w'))
  case atStart => exact ⟨lo, s, rfl, by omega, Nat.le_refl _, rfl, ⟨Go.heap_alloc2_old _ _ _⟩, ⟨Go.heap_alloc2_new _ _ _⟩, ⟨((Below.refl _ _).alloc (Nat.le_refl _) _).alloc (by simp) _⟩⟩
  case round =>
    obtain ⟨c, m, rfl, hc, hk, hm, HV, HR, HB⟩ := hrel
    cases gk with
    | zero =>
      have d1 : ¬ (c : Int) ≤ (hi : Int) := by omega
      clear hc
      obtain ⟨r0, r1, r2, r3⟩ := HR.out.cell
      obtain ⟨f0, f1, f2, f3⟩ := HR.out.free
      have hv := HV.out
      unfold Var cs at hv
      obtain ⟨e0, e1, e2, e3⟩ := HV.out.cell
      go_wp2
      refine bodyPost_ret (results_cell_row rfl _ _ (w.heap.size + 1) 24 _ (0, 0) _ rfl (HR.out.put (n := m)) Try.underlying24 rfl (by kernel_rfl)) rfl ?_
      have hm' : m = wi s lo (hi + 1 - lo) := hm
      rw [hm']
      exact ⟨rfl, below_put HB.out (Nat.le_succ _) _ _ _ _⟩
    | succ k1 =>
      have d1 : (c : Int) ≤ (hi : Int) := by omega
      have hc' := Aside0.mk hc
      clear hc
      obtain ⟨f0, f1, f2, f3⟩ := HV.out.free
      have hv := HV.out
      unfold Var cs at hv
      obtain ⟨e0, e1, e2, e3⟩ := HV.out.cell
      go_wp2_with (fail)
      refine (add_calls m (c : Int) (c / 64) (c % 64) wr (by omega) (Nat.mod_lt _ (by decide)) (by omega)).mono ?_
      rintro e w1 ⟨rfl, hb⟩
      have hcc : 64 * (c / 64) + c % 64 = c := Nat.div_add_mod c 64
      rw [hcc]
      have HV1 := HV.out.below hb
      have HR1 := Aside0.mk (HR.out.below hb)
      obtain ⟨g0, g1, g2, g3⟩ := HV1.cell
      obtain ⟨p0, p1, p2, p3⟩ := HV1.free
      have HV1' := Aside0.mk HV1
      clear HV1 hv e0 e1 e2 e3 f0 f1 f2 f3
      unfold St cs
      go_wp2
      go_roundg k1
      case measure => omega
      case rel => exact ⟨c + 1, m ||| 2 ^ c, rfl, by have := hc'.out; omega, by omega, hm, ⟨HV1'.out.put⟩, ⟨HR1.out.far (by omega) _ _ _ _⟩, ⟨below_put (HB.out.trans (hb.mono HB.out.size)) (Nat.le_refl _) _ _ _ _⟩⟩
end Go.Proofs.Ytglhhcgoppmipaa.Cl
