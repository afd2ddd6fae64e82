-- written by hgprint.py (this work's own call of the kit's printer, with texts of its own for some functions)
import Derived.Test.YthedaphclgiknaaDoorPrint0
import Derived.Test.YthedaphclgiknaaDoorPrintF14
namespace Go.Proofs.YthedaphclgiknaaDoor.Print
open Go.RowKit Go.Proofs.YthedaphclgiknaaDoorW.PrintWords Go.Proofs.YthedaphclgiknaaDoorW.PrintLast Go.Proofs.YthedaphclgiknaaDoorW.PrintMore
attribute [local go_sem] Go.Proofs.YthedaphclgiknaaDoor.Goto.Jumps_ret Go.Proofs.YthedaphclgiknaaDoor.Goto.Jumps_normal Go.Proofs.YthedaphclgiknaaDoor.Goto.Jumps_exit Go.Proofs.YthedaphclgiknaaDoor.Goto.Jumps_panic Go.Proofs.YthedaphclgiknaaDoor.Goto.Jumps_outgrown max2_int min2_int max_two min_two max_three min_three max_four min_four   -- for this text's walks alone
open Go.Proofs.YthedaphclgiknaaDoorW.PrintWords Go.Proofs.YthedaphclgiknaaDoor
set_option linter.unusedVariables false
set_option linter.unusedSimpArgs false

/-! ### headgateref16_Append: function 7 -/
def headgateref16_Append.f (a0 : ByteArray) (a1 : ByteArray) : Option (ByteArray × Int) := if (a0.size : Int) > 1024 then (some ((⟨#[]⟩ : ByteArray), 161)) else (if (a1.size : Int) > 1024 then (some ((⟨#[]⟩ : ByteArray), 161)) else (if (wrap64 ((wrap64 ((a0.size : Int) + 1)) + (a1.size : Int))) > 1024 then (some ((⟨#[]⟩ : ByteArray), 161)) else ((headgateref16_Feed.f).bind fun t115 => (if a0.size + t115.size ≤ 9223372036854775807 then (if (a0 ++ t115).size + a1.size ≤ 9223372036854775807 then (some ((a0 ++ t115) ++ a1, 0)) else (none)) else (none)))))
set_option maxHeartbeats 8000000 in
set_option maxRecDepth 100000 in
theorem headgateref16_Append.calls (a0 : ByteArray) (a1 : ByteArray) (r1 : ByteArray) (r2 : Int) (w : World) (h : headgateref16_Append.f a0 a1 = some (r1, r2)) :
    Calls Tryd.prog 7 #[.string a0, .string a1] w fun e w' => e = .returned (.tuple #[.string r1, .int .i64 r2]) ∧ Below w.heap.size w w' := by
  have HB := Aside0.mk (Below.refl w.heap.size w)
  have H : (if (a0.size : Int) > 1024 then (some ((⟨#[]⟩ : ByteArray), 161)) else (if (a1.size : Int) > 1024 then (some ((⟨#[]⟩ : ByteArray), 161)) else (if (wrap64 ((wrap64 ((a0.size : Int) + 1)) + (a1.size : Int))) > 1024 then (some ((⟨#[]⟩ : ByteArray), 161)) else ((headgateref16_Feed.f).bind fun t115 => (if a0.size + t115.size ≤ 9223372036854775807 then (if (a0 ++ t115).size + a1.size ≤ 9223372036854775807 then (some ((a0 ++ t115) ++ a1, 0)) else (none)) else (none)))))) = some (r1, r2) := h
  clear h
  by_cases c3 : (a0.size : Int) > 1024
  · rw [if_pos c3] at H
    have c3b0 : decide (1024 < (a0.size : Int)) = true := decide_eq_true c3
    have c3b1 : decide (1024 < a0.size) = true := decide_eq_true (by omega)
    clear c3
    simp only [Option.some.injEq, Prod.mk.injEq] at H
    obtain ⟨rfl, rfl⟩ := H
    go_enter Tryd.func7, Tryd.ntmps7
    go_wp2
    go_ret2
    exact ⟨by first | rfl | (simp [errW_none, errW_some] <;> rfl) | (simp [*, errW_none, errW_some] <;> rfl), by repeat (first | (with_reducible first | exact HB.out | apply below_alloc | apply pw_below_drewN | apply below_drew1) | exact HB.out)⟩
  · rw [if_neg c3] at H
    have c3b0 : decide (1024 < (a0.size : Int)) = false := decide_eq_false c3
    have c3b1 : decide (1024 < a0.size) = false := decide_eq_false (by omega)
    clear c3
    by_cases c4 : (a1.size : Int) > 1024
    · rw [if_pos c4] at H
      have c4b0 : decide (1024 < (a1.size : Int)) = true := decide_eq_true c4
      have c4b1 : decide (1024 < a1.size) = true := decide_eq_true (by omega)
      clear c4
      simp only [Option.some.injEq, Prod.mk.injEq] at H
      obtain ⟨rfl, rfl⟩ := H
      go_enter Tryd.func7, Tryd.ntmps7
      go_wp2
      go_ret2
      exact ⟨by first | rfl | (simp [errW_none, errW_some] <;> rfl) | (simp [*, errW_none, errW_some] <;> rfl), by repeat (first | (with_reducible first | exact HB.out | apply below_alloc | apply pw_below_drewN | apply below_drew1) | exact HB.out)⟩
    · rw [if_neg c4] at H
      have c4b0 : decide (1024 < (a1.size : Int)) = false := decide_eq_false c4
      have c4b1 : decide (1024 < a1.size) = false := decide_eq_false (by omega)
      clear c4
      by_cases c5 : (wrap64 ((wrap64 ((a0.size : Int) + 1)) + (a1.size : Int))) > 1024
      · rw [if_pos c5] at H
        have c5b0 : decide (1024 < (wrap64 ((wrap64 ((a0.size : Int) + 1)) + (a1.size : Int)))) = true := decide_eq_true c5
        clear c5
        simp only [Option.some.injEq, Prod.mk.injEq] at H
        obtain ⟨rfl, rfl⟩ := H
        go_enter Tryd.func7, Tryd.ntmps7
        go_wp2
        go_ret2
        exact ⟨by first | rfl | (simp [errW_none, errW_some] <;> rfl) | (simp [*, errW_none, errW_some] <;> rfl), by repeat (first | (with_reducible first | exact HB.out | apply below_alloc | apply pw_below_drewN | apply below_drew1) | exact HB.out)⟩
      · rw [if_neg c5] at H
        have c5b0 : decide (1024 < (wrap64 ((wrap64 ((a0.size : Int) + 1)) + (a1.size : Int)))) = false := decide_eq_false c5
        clear c5
        replace H := Option.bind_eq_some_iff.mp H
        obtain ⟨t115, A60, H⟩ := H
        replace H : (if a0.size + t115.size ≤ 9223372036854775807 then (if (a0 ++ t115).size + a1.size ≤ 9223372036854775807 then (some ((a0 ++ t115) ++ a1, 0)) else (none)) else (none)) = some (r1, r2) := H
        have A6 := Aside0.mk A60
        clear A60
        by_cases c7 : a0.size + t115.size ≤ 9223372036854775807
        · rw [if_pos c7] at H
          have c7b0 := eq_true c7
          have c7b1 : decide (a0.size + t115.size ≤ 9223372036854775807) = true := decide_eq_true c7
          try have c7b2 : (9223372036854775807 < a0.size + t115.size) = False := eq_false (Nat.not_lt.2 c7)
          by_cases c8 : (a0 ++ t115).size + a1.size ≤ 9223372036854775807
          · rw [if_pos c8] at H
            have c8b0 := eq_true c8
            have c8b1 : decide ((a0 ++ t115).size + a1.size ≤ 9223372036854775807) = true := decide_eq_true c8
            try have c8b2 : (9223372036854775807 < (a0 ++ t115).size + a1.size) = False := eq_false (Nat.not_lt.2 c8)
            simp only [Option.some.injEq, Prod.mk.injEq] at H
            obtain ⟨rfl, rfl⟩ := H
            go_enter Tryd.func7, Tryd.ntmps7
            go_wp2_with (first | ((with_reducible refine gate_callee (f := 14) rfl ?_); refine goesL_ (some 24) rfl rfl Tryd.func14 (by kernel_rfl) rfl #[] rfl (by (try simp only [List.map_toArray, List.map_cons, List.map_nil]); first | done | rfl | (simp only [List.length_drop, List.length_take]; rfl)) ?_; (with_reducible refine (headgateref16_Feed.calls  t115 _ A6.out).mono ?_); rintro e w9 ⟨rfl, hb⟩; refine ⟨_, rfl, ?_⟩; have n0_ := Aside0.mk (below_step (by repeat (first | (with_reducible first | exact HB.out | apply below_alloc | apply pw_below_drewN | apply below_drew1) | exact HB.out)) hb); clear HB; have HB := n0_; clear n0_; (try clear hb); (try clear hb2); (try clear hk); (try clear hi)))
            go_ret2
            exact ⟨by first | rfl | (simp [errW_none, errW_some] <;> rfl) | (simp [*, errW_none, errW_some] <;> rfl), by repeat (first | (with_reducible first | exact HB.out | apply below_alloc | apply pw_below_drewN | apply below_drew1) | exact HB.out)⟩
          · rw [if_neg c8] at H
            exact absurd H (by simp)
        · rw [if_neg c7] at H
          exact absurd H (by simp)

end Go.Proofs.YthedaphclgiknaaDoor.Print
