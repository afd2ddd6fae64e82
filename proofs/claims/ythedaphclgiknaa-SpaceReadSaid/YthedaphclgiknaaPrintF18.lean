-- written by hgprint.py (this work's own call of the kit's printer, with texts of its own for some functions)
import Derived.Test.YthedaphclgiknaaPrint0
namespace Go.Proofs.Ythedaphclgiknaa.Print
open Go.RowKit Go.Proofs.YthedaphclgiknaaW.PrintWords Go.Proofs.YthedaphclgiknaaW.PrintLast Go.Proofs.YthedaphclgiknaaW.PrintMore
attribute [local go_sem] Go.Proofs.Ythedaphclgiknaa.Goto.Jumps_ret Go.Proofs.Ythedaphclgiknaa.Goto.Jumps_normal Go.Proofs.Ythedaphclgiknaa.Goto.Jumps_exit Go.Proofs.Ythedaphclgiknaa.Goto.Jumps_panic Go.Proofs.Ythedaphclgiknaa.Goto.Jumps_outgrown max2_int min2_int max_two min_two max_three min_three max_four min_four   -- for this text's walks alone
open Go.Proofs.YthedaphclgiknaaW.PrintWords Go.Proofs.Ythedaphclgiknaa
set_option linter.unusedVariables false
set_option linter.unusedSimpArgs false

/-! ### headgateref16_Feed: function 18 -/
def headgateref16_Feed.f  : Option (ByteArray) := some (strOfNums (([10] : List Int)))
set_option maxHeartbeats 8000000 in
set_option maxRecDepth 100000 in
theorem headgateref16_Feed.calls  (r : ByteArray) (w : World) (h : headgateref16_Feed.f  = some r) :
    Calls Try.prog 18 #[] w fun e w' => e = .returned (.string r) ∧ Below w.heap.size w w' := by
  have HB := Aside0.mk (Below.refl w.heap.size w)
  have H : (some (strOfNums (([10] : List Int)))) = some r := h
  clear h
  obtain ⟨y119, hy119⟩ : ∃ y_ : List Int, y_ = (([10] : List Int)) := ⟨_, rfl⟩
  replace H : (some (strOfNums y119)) = some r := by first | (rw [hy119]; with_reducible exact H) | (have H2_ := (Option.bind_some _ _).symm.trans H; rw [hy119]; with_reducible exact H2_) | (have H2_ := (Option.bind_some _ _).symm.trans H; with_reducible exact H2_) | with_reducible exact H | (rw [hy119]; exact H) | exact H
  have Ny119 := Aside0.mk hy119
  clear hy119
  obtain rfl := Option.some.inj H
  go_enter Try.func18, Try.ntmps18
  go_wp2_with (first | ((with_reducible refine gate_dst (N := 1) rfl ?_); refine Kd.R_lit (Kd.int .u8) _ 5 ?hg (N := 1) ?hd (xs := ([10] : List Int)) (inner := [.int .u8 10]) (ok := fun _ => True) (okp := fun _ => True) ?hr ?hp (fun _ hk => hk) trivial (Below.refl _ _) (Nat.le_refl _) (by simp) ?_; (case hd => rfl); (case hg => rfl); (case hr => first | (go_simp; done) | (go_simp; rfl)); (case hp => exact (Reps.one (show Kd.M (Kd.int .u8) _ _ _ 10 [.int .u8 10] from rfl) (Reps.none _ _))); intro v120 w1 ho2 hb hg_ hnew_; clear hg_ hnew_; (first | rw [← Ny119.out] at ho2 | (simp only [Int.reduceToNat] at ho2; rw [← Ny119.out] at ho2)); have n0_ := Aside0.mk (Kd.R_lower ho2 (below_size (by repeat (first | (with_reducible first | exact HB.out | apply below_alloc | apply pw_below_drewN | apply below_drew1) | exact HB.out)))); have n1_ := Aside0.mk (below_step (by repeat (first | (with_reducible first | exact HB.out | apply below_alloc | apply pw_below_drewN | apply below_drew1) | exact HB.out)) hb); clear HB; have HO121 := n0_; have HB := n1_; clear n0_ n1_; clear hb ho2; have hcv3 := own_string (P := Try.prog) Try.underlying27 Try.underlying5 Try.underlying9 (Kd.own_of_R HO121.out)))
  go_ret
  exact ⟨by first | rfl | (simp [errW_none, errW_some] <;> rfl) | (simp [*, errW_none, errW_some] <;> rfl), by repeat (first | (with_reducible first | exact HB.out | apply below_alloc | apply pw_below_drewN | apply below_drew1) | exact HB.out)⟩

end Go.Proofs.Ythedaphclgiknaa.Print
