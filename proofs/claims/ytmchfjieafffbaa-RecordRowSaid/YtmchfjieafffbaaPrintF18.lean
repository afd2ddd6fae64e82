-- written by hgprint.py (this work's own call of the kit's printer, with texts of its own for some functions)
import Derived.Test.YtmchfjieafffbaaPrint0
import Derived.Test.YtmchfjieafffbaaPrintF19
namespace Go.Proofs.Ytmchfjieafffbaa.Print
open Go.RowKit Go.Proofs.YtmchfjieafffbaaW.PrintWords Go.Proofs.YtmchfjieafffbaaW.PrintLast Go.Proofs.YtmchfjieafffbaaW.PrintMore
attribute [local go_sem] Go.Proofs.Ytmchfjieafffbaa.Goto.Jumps_ret Go.Proofs.Ytmchfjieafffbaa.Goto.Jumps_normal Go.Proofs.Ytmchfjieafffbaa.Goto.Jumps_exit Go.Proofs.Ytmchfjieafffbaa.Goto.Jumps_panic Go.Proofs.Ytmchfjieafffbaa.Goto.Jumps_outgrown max2_int min2_int max_two min_two max_three min_three max_four min_four   -- for this text's walks alone
open Go.Proofs.YtmchfjieafffbaaW.PrintWords Go.Proofs.Ytmchfjieafffbaa
set_option linter.unusedVariables false
set_option linter.unusedSimpArgs false

/-! ### headgatelaw04_alive: function 18 -/
def headgatelaw04_alive.f : Option Bool := some true
set_option maxHeartbeats 8000000 in
set_option maxRecDepth 100000 in
theorem headgatelaw04_alive.calls (r : Bool) (w : World) (h : headgatelaw04_alive.f = some r) :
    Calls Try.prog 18 #[] w fun e w' => e = .returned (.bool r) ∧ Below w.heap.size w w' := by
  obtain rfl : true = r := Option.some.inj h
  have kc := fun (w : World) (C : Array Value) (n c : Nat) => Lib.run_convert_bytes_const (P := Try.prog) w 22 5 C n c Try.underlying22 Try.underlying5
  have hC : ∀ (W : World) (b : Nat) (cs : Array Value) (fr : Nat × Nat), W.heap[b]? = some (.cells cs 5 fr) → cs = #[.int .u8 104, .int .u8 105] → Kd.C (Kd.int .u8) W (some ⟨b, 0, none⟩) ([104, 105] : List Int).length [104, 105] :=
    fun W b cs fr hb hc => Mem.C_of_block 0 hb (fun j hj => by subst hc; simp at hj; rcases j with _ | _ | j <;> first | rfl | omega) (by simp)
  go_enter Try.func18, Try.ntmps18
  go_wp2_with (fail)
  refine (record_Wrap.calls 7 _ _ [104, 105] [167, 1, 0, 122, 1, 133, 4, 104, 105] 0 _ (hC _ _ _ _ (Go.heap_alloc_new _ _) rfl) (by decide) (by decide +kernel)).mono ?_
  rintro e w1 ⟨v0, rfl, ho, hb⟩
  obtain ⟨A0, c0, rfl⟩ := Kd.R_slice ho
  have hR := (Kd.R_reads' ho).2.2
  obtain ⟨ad, e0, h0⟩ := Kd.at_int hR 0 (by decide) (by decide)
  cases e0
  obtain ⟨ad1, e1, h1⟩ := Kd.at_int hR 1 (by decide) (by decide)
  cases e1
  obtain ⟨ad2, e2, h2⟩ := Kd.at_int hR 2 (by decide) (by decide)
  cases e2
  rw [show ((0 : Int)).toNat = 0 from rfl, Addr.add_zero'] at h0
  rw [show ((1 : Int)).toNat = 1 from rfl] at h1
  rw [show ((2 : Int)).toNat = 2 from rfl] at h2
  (try simp only [Nat.reduceMul, Nat.reduceEqDiff, Go.Addr.add, ↓reduceIte] at h1)
  (try simp only [Nat.reduceMul, Nat.reduceEqDiff, Go.Addr.add, ↓reduceIte] at h2)
  have HB := Aside0.mk (below_then ((below_alloc (Below.refl w.heap.size w) _)) (by simp) hb)
  clear hb ho hR hC kc
  go_wp2
  go_ret
  exact ⟨rfl, by repeat (first | exact HB.out | apply pw_below_drewN | apply below_drew1)⟩

end Go.Proofs.Ytmchfjieafffbaa.Print
