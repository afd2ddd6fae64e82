/- The references' Not, Both and Count: byte by byte. -/
import Derived.Test.YtglhhcgoppmipaaBoth
namespace Go.Proofs.Ytglhhcgoppmipaa.Cl
open Go.RowKit Go.Proofs.YtglhhcgoppmipaaW.PrintWords

/-- The bytes from c on, n of them, of which p holds, put to m. -/
def sel (p : Nat → Bool) (m c : Nat) : Nat → Nat
  | 0 => m
  | n + 1 => sel p (if p c = true then m ||| 2 ^ c else m) (c + 1) n
theorem sel_bit (p : Nat → Bool) (n : Nat) : ∀ m c i, (sel p m c n).testBit i = (m.testBit i || (decide (c ≤ i ∧ i < c + n) && p i)) := by
  induction n with
  | zero =>
    intro m c i
    have : ¬ (c ≤ i ∧ i < c + 0) := by omega
    rw [sel, decide_eq_false this]
    simp
  | succ n ih =>
    intro m c i
    rw [sel, ih]
    by_cases hi : i = c
    · subst hi
      have h1 : ¬ (i + 1 ≤ i ∧ i < i + 1 + n) := by omega
      have h2 : i ≤ i ∧ i < i + (n + 1) := by omega
      rw [decide_eq_false h1, decide_eq_true h2]
      cases hp : p i <;> simp [Nat.testBit_or]
    · have e : decide (c + 1 ≤ i ∧ i < c + 1 + n) = decide (c ≤ i ∧ i < c + (n + 1)) := by rw [decide_eq_decide]; omega
      rw [e]
      congr 1
      cases hp : p c <;> simp [Nat.testBit_or, Nat.testBit_two_pow]
      omega
set_option maxHeartbeats 4000000 in
theorem refnot_calls (s : Nat) (w : World) :
    Calls Try.prog 15 #[St s] w fun e w' => e = .returned (St (sel (fun c => !s.testBit c) 0 0 256)) ∧ Below w.heap.size w w' := by
  go_enter Try.func15, Try.ntmps15
  unfold St cs
  go_wp2
  go_loopg [4] 256 (fun kq v4 w' => ∃ c m : Nat, v4 = .int .i64 (c : Int) ∧ c + kq = 256 ∧ sel (fun c => !s.testBit c) m c kq = sel (fun c => !s.testBit c) 0 0 256 ∧ Aside0 (Var w.heap.size s w') ∧ Aside0 (Var (w.heap.size + 1) 0 w') ∧ Aside0 (Var (w.heap.size + 1 + 1) m w') ∧ Aside0 (Below w.heap.size w w'))
  case atStart => exact ⟨0, 0, rfl, rfl, rfl, ⟨(three _ _ _ _).1⟩, ⟨(three _ _ _ _).2.1⟩, ⟨(three _ _ _ _).2.2⟩, ⟨(((Below.refl _ _).alloc (Nat.le_refl _) _).alloc (by simp) _).alloc (by simp; omega) _⟩⟩
  case round =>
    obtain ⟨c, m, rfl, hc, hm, HS, HR, HV, HB⟩ := hrel
    obtain ⟨s0, s1, s2, s3⟩ := HS.out.cell
    obtain ⟨e0, e1, e2, e3⟩ := HV.out.cell
    cases gk with
    | zero =>
      have hc' : c = 256 := by omega
      subst hc'
      obtain ⟨r0, r1, r2, r3⟩ := HR.out.cell
      obtain ⟨f0, f1, f2, f3⟩ := HR.out.free
      go_wp2
      refine bodyPost_ret (results_cell_row rfl _ _ (w.heap.size + 1) 24 _ (0, 0) _ rfl (HR.out.put (n := m)) Try.underlying24 rfl (by kernel_rfl)) rfl ?_
      have hm' : m = sel (fun c => !s.testBit c) 0 0 256 := hm
      rw [hm']
      exact ⟨rfl, below_put HB.out (by omega) _ _ _ _⟩
    | succ k1 =>
      have d1 : (c : Int) < 256 := by omega
      have hcc : 64 * (c / 64) + c % 64 = c := Nat.div_add_mod c 64
      go_wp2_with (fail)
      refine (refhas_calls s (c : Int) (c / 64) (c % 64) wr (by omega) (Nat.mod_lt _ (by decide)) (by omega)).mono ?_
      rintro e w1 ⟨rfl, hb⟩
      rw [hcc]
      have HS1 := Aside0.mk (HS.out.below hb)
      have HR1 := Aside0.mk (HR.out.below hb)
      have HV1 := Aside0.mk (HV.out.below hb)
      have HB1 := Aside0.mk (HB.out.trans (hb.mono HB.out.size))
      obtain ⟨g0, g1, g2, g3⟩ := HV1.out.cell
      clear s0 s1 s2 s3 e0 e1 e2 e3
      cases hp : s.testBit c with
      | true =>
        go_wp2
        go_roundg k1
        case measure => omega
        case rel =>
          refine ⟨c + 1, m, rfl, by omega, ?_, HS1, HR1, HV1, HB1⟩
          rw [← hm, sel, if_neg (by simp [hp])]
      | false =>
        go_wp2_with (fail)
        refine (add_calls m (c : Int) (c / 64) (c % 64) w1 (by omega) (Nat.mod_lt _ (by decide)) (by omega)).mono ?_
        rintro e w2 ⟨rfl, hb2⟩
        rw [hcc]
        have HV2 := HV1.out.below hb2
        obtain ⟨p0, p1, p2, p3⟩ := HV2.cell
        obtain ⟨f0, f1, f2, f3⟩ := HV2.free
        have HV2' := Aside0.mk HV2
        clear HV2 g0 g1 g2 g3
        unfold St cs
        go_wp2
        go_roundg k1
        case measure => omega
        case rel =>
          refine ⟨c + 1, m ||| 2 ^ c, rfl, by omega, ?_, ⟨(HS1.out.below hb2).far (by omega) _ _ _ _⟩, ⟨(HR1.out.below hb2).far (by omega) _ _ _ _⟩, ⟨HV2'.out.put⟩, ⟨below_put (HB1.out.trans (hb2.mono HB1.out.size)) (by omega) _ _ _ _⟩⟩
          rw [← hm, sel, if_pos (by simp [hp])]
end Go.Proofs.Ytglhhcgoppmipaa.Cl
