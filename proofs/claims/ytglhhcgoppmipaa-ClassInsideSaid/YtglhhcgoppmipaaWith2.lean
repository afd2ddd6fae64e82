/- class.With, class.Both. -/
import Derived.Test.YtglhhcgoppmipaaWith
import Derived.Shelf.RegionOpenPlain
namespace Go.Proofs.Ytglhhcgoppmipaa.Cl
open Go.RowKit Go.Proofs.YtglhhcgoppmipaaW.PrintWords

theorem Var.one {g m : Nat} {w : World} (h : Var g m w) (q r : Nat) (hq : q < 4) (hr : r < 64) : Var g (m ||| 2 ^ (64 * q + r)) (w.setCell ⟨g, q, none⟩ (.int .u64 (Go.bits .or .u64 (wd m q) (IntKind.u64.wrap (2 ^ r))))) := by
  unfold Var at *
  rw [or_wd m q r hr]
  have k := fun i (hi : i ≠ q) => wd_other m q r i hr hi
  match q, hq with
  | 0, _ => simp only [Nat.mul_zero, Nat.zero_add] at k ⊢; simp [World.setCell, Array.getElem?_modify, h, cs]; exact ⟨(k 1 (by decide)).symm, (k 2 (by decide)).symm, (k 3 (by decide)).symm⟩
  | 1, _ => simp [World.setCell, Array.getElem?_modify, h, cs]; exact ⟨(k 0 (by decide)).symm, (k 2 (by decide)).symm, (k 3 (by decide)).symm⟩
  | 2, _ => simp [World.setCell, Array.getElem?_modify, h, cs]; exact ⟨(k 0 (by decide)).symm, (k 1 (by decide)).symm, (k 3 (by decide)).symm⟩
  | 3, _ => simp [World.setCell, Array.getElem?_modify, h, cs]; exact ⟨(k 0 (by decide)).symm, (k 1 (by decide)).symm, (k 2 (by decide)).symm⟩
set_option maxHeartbeats 4000000 in
theorem with_calls (s lo hi : Nat) (w : World) (hlo : lo < 256) (hhi : hi < 256) :
    Calls Try.prog 12 #[St s, .int .u8 (lo : Int), .int .u8 (hi : Int)] w fun e w' => e = .returned (St (wi s lo (hi + 1 - lo))) ∧ Below w.heap.size w w' := by
  have mixed : Try.prog.follows Departure.mixedOrders = true := by kernel_rfl
  go_enter Try.func12, Try.ntmps12
  unfold St cs
  go_wp2
  go_loopg [7] (hi + 1 - lo) (fun kq v7 w' => ∃ c m : Nat, v7 = .int .i64 (c : Int) ∧ c = lo + (hi + 1 - lo - kq) ∧ kq ≤ hi + 1 - lo ∧ wi m c kq = wi s lo (hi + 1 - lo) ∧ Aside0 (Var w.heap.size m w') ∧ Aside0 (Var (w.heap.size + 1) 0 w') ∧ Aside0 (Below w.heap.size w w'))
  case atStart => exact ⟨lo, s, rfl, by omega, Nat.le_refl _, rfl, ⟨Go.heap_alloc2_old _ _ _⟩, ⟨Go.heap_alloc2_new _ _ _⟩, ⟨((Below.refl _ _).alloc (Nat.le_refl _) _).alloc (by simp) _⟩⟩
  case round =>
    obtain ⟨c, m, rfl, hc, hk, hm, HV, HR, HB⟩ := hrel
    cases gk with
    | zero =>
      have d1 : ¬ (c : Int) ≤ (hi : Int) := by omega
      clear hc
      obtain ⟨r0, r1, r2, r3⟩ := HR.out.cell
      obtain ⟨f0, f1, f2, f3⟩ := HR.out.free
      obtain ⟨e0, e1, e2, e3⟩ := HV.out.cell
      go_wp2
      refine bodyPost_ret (results_cell_row rfl _ _ (w.heap.size + 1) 24 _ (0, 0) _ rfl (HR.out.put (n := m)) Try.underlying24 rfl (by kernel_rfl)) rfl ?_
      have hm' : m = wi s lo (hi + 1 - lo) := hm
      rw [hm']
      exact ⟨rfl, below_put HB.out (Nat.le_succ _) _ _ _ _⟩
    | succ k1 =>
      have d1 : (c : Int) ≤ (hi : Int) := by omega
      have hc' := Aside0.mk hc
      obtain ⟨q, r, hq, hr, hqr⟩ : ∃ q r : Nat, q < 4 ∧ r < 64 ∧ c = 64 * q + r := ⟨c / 64, c % 64, by omega, Nat.mod_lt _ (by decide), by omega⟩
      clear hc
      obtain ⟨f0, f1, f2, f3⟩ := HV.out.free
      obtain ⟨e0, e1, e2, e3⟩ := HV.out.cell
      have h3 : (c : Int) / 64 = (q : Int) := by omega
      have h6 : Go.bits .and .i64 (c : Int) 63 = (r : Int) := by
        have e := bits_mask .i64 63 (by decide) (fun n h0 h1 => by rw [IntKind.wrap_i64]; omega) 6 (by decide) (c : Int) (by omega) (by omega)
        rw [show ((2 : Int) ^ 6 - 1) = 63 from by decide, show ((2 : Int) ^ 6) = 64 from by decide] at e
        rw [e]
        omega
      have HQ := Aside0.mk hqr
      clear hqr
      have h7 : (0 : Int) ≤ (r : Int) := by omega
      match q, hq with
      | 0, _ =>
        go_wp2
        go_region_o
        go_wp2
        go_roundg k1
        case measure => omega
        case rel =>
          refine ⟨c + 1, m ||| 2 ^ c, rfl, by have := hc'.out; omega, by omega, hm, ⟨?_⟩, ⟨?_⟩, ⟨HB.out.drew.setCell (p := ⟨w.heap.size, 0, none⟩) (Nat.le_refl _) _⟩⟩
          · rw [HQ.out]
            exact (show Var w.heap.size m wr.drew from HV.out).one 0 r (by decide) hr
          · exact (Go.heap_setCell_other _ _ _ _ (Nat.succ_ne_self _)).trans HR.out
      | 1, _ =>
        go_wp2
        go_region_o
        go_wp2
        go_roundg k1
        case measure => omega
        case rel =>
          refine ⟨c + 1, m ||| 2 ^ c, rfl, by have := hc'.out; omega, by omega, hm, ⟨?_⟩, ⟨?_⟩, ⟨HB.out.drew.setCell (p := ⟨w.heap.size, 1, none⟩) (Nat.le_refl _) _⟩⟩
          · rw [HQ.out]
            exact (show Var w.heap.size m wr.drew from HV.out).one 1 r (by decide) hr
          · exact (Go.heap_setCell_other _ _ _ _ (Nat.succ_ne_self _)).trans HR.out
      | 2, _ =>
        go_wp2
        go_region_o
        go_wp2
        go_roundg k1
        case measure => omega
        case rel =>
          refine ⟨c + 1, m ||| 2 ^ c, rfl, by have := hc'.out; omega, by omega, hm, ⟨?_⟩, ⟨?_⟩, ⟨HB.out.drew.setCell (p := ⟨w.heap.size, 2, none⟩) (Nat.le_refl _) _⟩⟩
          · rw [HQ.out]
            exact (show Var w.heap.size m wr.drew from HV.out).one 2 r (by decide) hr
          · exact (Go.heap_setCell_other _ _ _ _ (Nat.succ_ne_self _)).trans HR.out
      | 3, _ =>
        go_wp2
        go_region_o
        go_wp2
        go_roundg k1
        case measure => omega
        case rel =>
          refine ⟨c + 1, m ||| 2 ^ c, rfl, by have := hc'.out; omega, by omega, hm, ⟨?_⟩, ⟨?_⟩, ⟨HB.out.drew.setCell (p := ⟨w.heap.size, 3, none⟩) (Nat.le_refl _) _⟩⟩
          · rw [HQ.out]
            exact (show Var w.heap.size m wr.drew from HV.out).one 3 r (by decide) hr
          · exact (Go.heap_setCell_other _ _ _ _ (Nat.succ_ne_self _)).trans HR.out
end Go.Proofs.Ytglhhcgoppmipaa.Cl
