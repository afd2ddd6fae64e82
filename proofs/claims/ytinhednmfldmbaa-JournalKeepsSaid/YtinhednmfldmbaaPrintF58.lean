-- written by hgprint.py (this work's own call of the kit's printer, with texts of its own for some functions)
import Derived.Test.YtinhednmfldmbaaPrint0
import Derived.Test.YtinhednmfldmbaaPrintF57
namespace Go.Proofs.Ytinhednmfldmbaa.Print
open Go.RowKit Go.Proofs.YtinhednmfldmbaaW.PrintWords Go.Proofs.YtinhednmfldmbaaW.PrintLast Go.Proofs.YtinhednmfldmbaaW.PrintMore
attribute [local go_sem] Go.Proofs.Ytinhednmfldmbaa.Goto.Jumps_ret Go.Proofs.Ytinhednmfldmbaa.Goto.Jumps_normal Go.Proofs.Ytinhednmfldmbaa.Goto.Jumps_exit Go.Proofs.Ytinhednmfldmbaa.Goto.Jumps_panic Go.Proofs.Ytinhednmfldmbaa.Goto.Jumps_outgrown max2_int min2_int max_two min_two max_three min_three max_four min_four   -- for this text's walks alone
open Go.Proofs.YtinhednmfldmbaaW.PrintWords Go.Proofs.Ytinhednmfldmbaa
set_option linter.unusedVariables false
set_option linter.unusedSimpArgs false

/-! ### fletcher_Sum: function 58 -/
def fletcher_Sum.f (l0 : List Int) : Option (Int) := (fletcher_More.f 1 l0).bind fun t111 => (some t111)
set_option maxHeartbeats 8000000 in
set_option maxRecDepth 100000 in
theorem fletcher_Sum.calls (A0 : Option Addr) (c0 : Nat) (l0 : List Int) (r : Int) (w : World) (hr0 : Kd.C (Kd.int .u8) w A0 l0.length l0) (hc0 : l0.length ≤ c0) (h : fletcher_Sum.f l0 = some r) :
    Calls Try.prog 58 #[.slice A0 l0.length c0] w fun e w' => e = .returned (.int .u32 r) ∧ Drawn0 w w' := by
  have HR0 := Aside0.mk hr0
  have HC0 := Aside0.mk hc0
  clear hr0 hc0
  have H : ((fletcher_More.f 1 l0).bind fun t111 => (some t111)) = some r := h
  clear h
  replace H := Option.bind_eq_some_iff.mp H
  obtain ⟨t111, A20, H⟩ := H
  replace H : (some t111) = some r := H
  have A2 := Aside0.mk A20
  clear A20
  obtain rfl := Option.some.inj H
  go_enter Try.func58, Try.ntmps58
  go_wp2_with (first | ((with_reducible refine gate_callee (f := 57) rfl ?_); refine goesL_ (some 4) rfl rfl Try.func57 (by kernel_rfl) rfl #[.int .u32 1, .slice A0 l0.length c0] rfl (by (try simp only [List.map_toArray, List.map_cons, List.map_nil]); first | done | rfl | (simp only [List.length_drop, List.length_take]; rfl)) ?_; (with_reducible refine (fletcher_More.calls 1 _ _ l0 t111 _ ?side1 ?side2 A2.out).mono ?_); (case side1 => repeat (first | exact HR0.out | (with_reducible refine Kd.C_alloc ?_ _) | (with_reducible refine Kd.C_drewN ?_ _) | (with_reducible refine Kd.C_drew ?_))); (case side2 => exact HC0.out); rintro e w' ⟨rfl, ⟨nd, rfl⟩⟩; refine ⟨_, rfl, ?_⟩))
  go_ret
  exact ⟨by first | rfl | (simp; done) | (simp [*]; done), by repeat (first | exact Drawn0.refl _ | apply Drawn0.step)⟩

end Go.Proofs.Ytinhednmfldmbaa.Print
