/- The live question. -/
import Derived.Test.YtglhhcgoppmipaaBracket
namespace Go.Proofs.Ytglhhcgoppmipaa.Cl
open Go.RowKit Go.Proofs.YtglhhcgoppmipaaW.PrintWords

/-- The set of a, b, c. -/
def abc : Nat := 1109194275199700726309615304704
theorem bracket_alive : bracket (fun _ => none) [97, 45, 99, 93, 120] = some (abc, 4, 0) := by decide +kernel
theorem cnt_abc : cnt abc 0 256 = 3 := by decide +kernel
set_option maxHeartbeats 4000000 in
theorem alive_calls (w : World) (m : Int) (hm : w.cell? ⟨0, 0, none⟩ = some (.int .i64 m)) :
    Calls Try.prog 9 #[] w fun e w' => e = .returned (.bool true) ∧ Below w.heap.size w w' := by
  have kb := bracket_calls (fun _ => none) (fun _ _ _ _ h => by cases h) (fun _ _ h => by cases h) ⟨#[97, 45, 99, 93, 120]⟩ w m (by decide) hm (abc, 4, 0) bracket_alive
  have kc := fun w => count_calls abc w
  rw [cnt_abc] at kc
  have kh1 := fun w => has_calls abc 98 1 34 w (by decide) (by decide) (by decide)
  have kh2 := fun w => has_calls abc 100 1 36 w (by decide) (by decide) (by decide)
  rw [show abc.testBit (64 * 1 + 34) = true by decide +kernel] at kh1
  rw [show abc.testBit (64 * 1 + 36) = false by decide +kernel] at kh2
  obtain ⟨X, hX⟩ : ∃ X, abc = X := ⟨_, rfl⟩
  simp only [hX] at kb kc kh1 kh2
  clear hX
  have KC := Aside0.mk kc
  have K1 := Aside0.mk kh1
  have K2 := Aside0.mk kh2
  have KB := Aside0.mk kb
  clear kc kh1 kh2 kb hm
  go_enter Try.func9, Try.ntmps9
  go_wp2_with (fail)
  refine KB.out.mono ?_
  rintro e w1 ⟨rfl, hb1⟩
  rw [St_eq]
  have hlt := hb1.size
  go_wp2_with (fail)
  have S1 : Var w1.heap.size X (w1.alloc (.cells (cs X) 24)) := Go.heap_alloc_new _ _
  have bel : Below w.heap.size w (w1.alloc (.cells (cs X) 24)) := hb1.trans (((Below.refl w1.heap.size w1).alloc (Nat.le_refl _) _).mono hb1.size)
  refine (KC.out _).mono ?_
  rintro e w2 ⟨rfl, hb2⟩
  have S2 := S1.below hb2
  have bel2 := bel.trans (hb2.mono bel.size)
  clear S1 bel hb1 hb2
  obtain ⟨c0, c1, c2, c3⟩ := S2.cell
  go_wp2_with (fail)
  refine (K1.out _).mono ?_
  rintro e w3 ⟨rfl, hb3⟩
  have S3 := S2.below hb3
  have bel3 := bel2.trans (hb3.mono bel2.size)
  clear S2 bel2 hb3 c0 c1 c2 c3
  obtain ⟨c0, c1, c2, c3⟩ := S3.cell
  go_wp2_with (fail)
  refine (K2.out _).mono ?_
  rintro e w4 ⟨rfl, hb4⟩
  have bel4 := bel3.trans (hb4.mono bel3.size)
  clear c0 c1 c2 c3
  go_wp2
  go_ret
  exact ⟨rfl, bel4⟩
end Go.Proofs.Ytglhhcgoppmipaa.Cl
