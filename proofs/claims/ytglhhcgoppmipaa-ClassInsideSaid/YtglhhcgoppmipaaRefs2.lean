/- The reference's Both. -/
import Derived.Test.YtglhhcgoppmipaaRefs
namespace Go.Proofs.Ytglhhcgoppmipaa.Cl
open Go.RowKit Go.Proofs.YtglhhcgoppmipaaW.PrintWords

theorem four (w : World) (A B C D : Obj) : ((((w.alloc A).alloc B).alloc C).alloc D).heap[w.heap.size]? = some A ∧ ((((w.alloc A).alloc B).alloc C).alloc D).heap[w.heap.size + 1]? = some B ∧ ((((w.alloc A).alloc B).alloc C).alloc D).heap[w.heap.size + 1 + 1]? = some C ∧ ((((w.alloc A).alloc B).alloc C).alloc D).heap[w.heap.size + 1 + 1 + 1]? = some D := by
  obtain ⟨h1, h2, h3⟩ := three w A B C
  have e3 : (((w.alloc A).alloc B).alloc C).heap.size = w.heap.size + 1 + 1 + 1 := by simp
  refine ⟨?_, ?_, ?_, ?_⟩
  · rw [Go.heap_alloc_old _ _ (by rw [e3]; omega)]; exact h1
  · rw [Go.heap_alloc_old _ _ (by rw [e3]; omega)]; exact h2
  · rw [Go.heap_alloc_old _ _ (by rw [e3]; omega)]; exact h3
  · rw [← e3]; exact Go.heap_alloc_new _ _
set_option maxHeartbeats 4000000 in
theorem refboth_calls (a b : Nat) (w : World) :
    Calls Try.prog 17 #[St a, St b] w fun e w' => e = .returned (St (sel (fun c => a.testBit c || b.testBit c) 0 0 256)) ∧ Below w.heap.size w w' := by
  go_enter Try.func17, Try.ntmps17
  unfold St cs
  go_wp2
  go_loopg [6] 256 (fun kq v6 w' => ∃ c m : Nat, v6 = .int .i64 (c : Int) ∧ c + kq = 256 ∧ sel (fun c => a.testBit c || b.testBit c) m c kq = sel (fun c => a.testBit c || b.testBit c) 0 0 256 ∧ Aside0 (Var w.heap.size a w') ∧ Aside0 (Var (w.heap.size + 1) b w') ∧ Aside0 (Var (w.heap.size + 1 + 1) 0 w') ∧ Aside0 (Var (w.heap.size + 1 + 1 + 1) m w') ∧ Aside0 (Below w.heap.size w w'))
  case atStart => exact ⟨0, 0, rfl, rfl, rfl, ⟨(four _ _ _ _ _).1⟩, ⟨(four _ _ _ _ _).2.1⟩, ⟨(four _ _ _ _ _).2.2.1⟩, ⟨(four _ _ _ _ _).2.2.2⟩, ⟨((((Below.refl _ _).alloc (Nat.le_refl _) _).alloc (by simp) _).alloc (by simp; omega) _).alloc (by simp; omega) _⟩⟩
  case round =>
    obtain ⟨c, m, rfl, hc, hm, HS, HT, HR, HV, HB⟩ := hrel
    cases gk with
    | zero =>
      have hc' : c = 256 := by omega
      subst hc'
      obtain ⟨e0, e1, e2, e3⟩ := HV.out.cell
      obtain ⟨r0, r1, r2, r3⟩ := HR.out.cell
      obtain ⟨f0, f1, f2, f3⟩ := HR.out.free
      go_wp2
      refine bodyPost_ret (results_cell_row rfl _ _ (w.heap.size + 1 + 1) 24 _ (0, 0) _ rfl (HR.out.put (n := m)) Try.underlying24 rfl (by kernel_rfl)) rfl ?_
      have hm' : m = sel (fun c => a.testBit c || b.testBit c) 0 0 256 := hm
      rw [hm']
      exact ⟨rfl, below_put HB.out (by omega) _ _ _ _⟩
    | succ k1 =>
      have d1 : (c : Int) < 256 := by omega
      have hcc : 64 * (c / 64) + c % 64 = c := Nat.div_add_mod c 64
      obtain ⟨s0, s1, s2, s3⟩ := HS.out.cell
      go_wp2_with (fail)
      refine (refhas_calls a (c : Int) (c / 64) (c % 64) wr (by omega) (Nat.mod_lt _ (by decide)) (by omega)).mono ?_
      rintro e w0 ⟨rfl, hb0⟩
      rw [hcc]
      have HS0 := Aside0.mk (HS.out.below hb0)
      have HT0 := Aside0.mk (HT.out.below hb0)
      have HR0 := Aside0.mk (HR.out.below hb0)
      have HV0 := Aside0.mk (HV.out.below hb0)
      have HB0 := Aside0.mk (HB.out.trans (hb0.mono HB.out.size))
      clear s0 s1 s2 s3
      obtain ⟨s0, s1, s2, s3⟩ := HT0.out.cell
      go_wp2_with (fail)
      refine (refhas_calls b (c : Int) (c / 64) (c % 64) w0 (by omega) (Nat.mod_lt _ (by decide)) (by omega)).mono ?_
      rintro e w1 ⟨rfl, hb⟩
      rw [hcc]
      have HS1 := Aside0.mk (HS0.out.below hb)
      have HT1 := Aside0.mk (HT0.out.below hb)
      have HR1 := Aside0.mk (HR0.out.below hb)
      have HV1 := Aside0.mk (HV0.out.below hb)
      have HB1 := Aside0.mk (HB0.out.trans (hb.mono HB0.out.size))
      clear s0 s1 s2 s3
      obtain ⟨g0, g1, g2, g3⟩ := HV1.out.cell
      cases hp : a.testBit c with
      | true =>
        go_wp2_with (fail)
        refine (add_calls m (c : Int) (c / 64) (c % 64) w1 (by omega) (Nat.mod_lt _ (by decide)) (by omega)).mono ?_
        rintro e w2 ⟨rfl, hb2⟩
        rw [hcc]
        have HV2 := HV1.out.below hb2
        obtain ⟨p0, p1, p2, p3⟩ := HV2.cell
        obtain ⟨f0, f1, f2, f3⟩ := HV2.free
        have HV2' := Aside0.mk HV2
        clear HV2 g0 g1 g2 g3
        unfold St cs
        go_wp2
        go_roundg k1
        case measure => omega
        case rel =>
          refine ⟨c + 1, m ||| 2 ^ c, rfl, by omega, ?_, ⟨(HS1.out.below hb2).far (by omega) _ _ _ _⟩, ⟨(HT1.out.below hb2).far (by omega) _ _ _ _⟩, ⟨(HR1.out.below hb2).far (by omega) _ _ _ _⟩, ⟨HV2'.out.put⟩, ⟨below_put (HB1.out.trans (hb2.mono HB1.out.size)) (by omega) _ _ _ _⟩⟩
          rw [← hm, sel, if_pos (by simp [hp])]
      | false =>
        cases hq : b.testBit c with
        | true =>
          go_wp2_with (fail)
          refine (add_calls m (c : Int) (c / 64) (c % 64) w1 (by omega) (Nat.mod_lt _ (by decide)) (by omega)).mono ?_
          rintro e w2 ⟨rfl, hb2⟩
          rw [hcc]
          have HV2 := HV1.out.below hb2
          obtain ⟨p0, p1, p2, p3⟩ := HV2.cell
          obtain ⟨f0, f1, f2, f3⟩ := HV2.free
          have HV2' := Aside0.mk HV2
          clear HV2 g0 g1 g2 g3
          unfold St cs
          go_wp2
          go_roundg k1
          case measure => omega
          case rel =>
            refine ⟨c + 1, m ||| 2 ^ c, rfl, by omega, ?_, ⟨(HS1.out.below hb2).far (by omega) _ _ _ _⟩, ⟨(HT1.out.below hb2).far (by omega) _ _ _ _⟩, ⟨(HR1.out.below hb2).far (by omega) _ _ _ _⟩, ⟨HV2'.out.put⟩, ⟨below_put (HB1.out.trans (hb2.mono HB1.out.size)) (by omega) _ _ _ _⟩⟩
            rw [← hm, sel, if_pos (by simp [hp, hq])]
        | false =>
          go_wp2
          go_roundg k1
          case measure => omega
          case rel =>
            refine ⟨c + 1, m, rfl, by omega, ?_, HS1, HT1, HR1, HV1, HB1⟩
            rw [← hm, sel, if_neg (by simp [hp, hq])]
end Go.Proofs.Ytglhhcgoppmipaa.Cl
