-- written by hgprint.py (this work's own call of the kit's printer, with texts of its own for some functions)
import Derived.Test.YtmchfjieafffbaaPrint0
import Derived.Test.YtmchfjieafffbaaPrintF14
namespace Go.Proofs.Ytmchfjieafffbaa.Print
open Go.RowKit Go.Proofs.YtmchfjieafffbaaW.PrintWords Go.Proofs.YtmchfjieafffbaaW.PrintLast Go.Proofs.YtmchfjieafffbaaW.PrintMore
attribute [local go_sem] Go.Proofs.Ytmchfjieafffbaa.Goto.Jumps_ret Go.Proofs.Ytmchfjieafffbaa.Goto.Jumps_normal Go.Proofs.Ytmchfjieafffbaa.Goto.Jumps_exit Go.Proofs.Ytmchfjieafffbaa.Goto.Jumps_panic Go.Proofs.Ytmchfjieafffbaa.Goto.Jumps_outgrown max2_int min2_int max_two min_two max_three min_three max_four min_four   -- for this text's walks alone
open Go.Proofs.YtmchfjieafffbaaW.PrintWords Go.Proofs.Ytmchfjieafffbaa
set_option linter.unusedVariables false
set_option linter.unusedSimpArgs false

/-! ### headgatelaw03_alive: function 13 -/
def headgatelaw03_alive.f : Option Bool := some true
set_option maxHeartbeats 8000000 in
set_option maxRecDepth 100000 in
theorem headgatelaw03_alive.calls (r : Bool) (w : World) (h : headgatelaw03_alive.f = some r) :
    Calls Try.prog 13 #[] w fun e w' => e = .returned (.bool r) ∧ Below w.heap.size w w' := by
  obtain rfl : true = r := Option.some.inj h
  have kc := fun (w : World) (C : Array Value) (n c : Nat) => Lib.run_convert_bytes_const (P := Try.prog) w 22 5 C n c Try.underlying22 Try.underlying5
  go_enter Try.func13, Try.ntmps13
  go_wp2_with (fail)
  have hC : ∀ (W : World) (b : Nat) (cs : Array Value) (fr : Nat × Nat), W.heap[b]? = some (.cells cs 5 fr) → cs = #[.int .u8 87, .int .u8 105, .int .u8 107, .int .u8 105, .int .u8 112, .int .u8 101, .int .u8 100, .int .u8 105, .int .u8 97] → Kd.C (Kd.int .u8) W (some ⟨b, 0, none⟩) ([87, 105, 107, 105, 112, 101, 100, 105, 97] : List Int).length [87, 105, 107, 105, 112, 101, 100, 105, 97] :=
    fun W b cs fr hb hc => Mem.C_of_block 0 hb (fun j hj => by subst hc; simp at hj; rcases j with _ | _ | _ | _ | _ | _ | _ | _ | _ | j <;> first | rfl | omega) (by simp)
  refine (fletcher_Sum.calls _ _ [87, 105, 107, 105, 112, 101, 100, 105, 97] 300286872 _ (hC _ _ _ _ (Go.heap_alloc_new _ _) rfl) (by decide) (by decide +kernel)).mono ?_
  rintro e w1 ⟨rfl, ⟨⟨m1, rfl⟩⟩⟩
  go_wp2_with (fail)
  refine (fletcher_Sum.calls _ _ [] 1 _ (Kd.C_nil _ _) (by decide) (by decide +kernel)).mono ?_
  rintro e w2 ⟨rfl, ⟨⟨m2, rfl⟩⟩⟩
  go_wp2
  go_ret
  exact ⟨rfl, by repeat (first | exact Below.refl _ _ | apply pw_below_drewN | apply below_alloc)⟩

end Go.Proofs.Ytmchfjieafffbaa.Print
