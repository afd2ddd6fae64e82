-- written by hgprint.py (this work's own call of the kit's printer, with texts of its own for some functions)
import Derived.Test.YtgnepppncmjagaaPrint0
namespace Go.Proofs.Ytgnepppncmjagaa.Print
open Go.RowKit Go.Proofs.YtgnepppncmjagaaW.PrintWords Go.Proofs.YtgnepppncmjagaaW.PrintLast Go.Proofs.YtgnepppncmjagaaW.PrintMore
attribute [local go_sem] Go.Proofs.Ytgnepppncmjagaa.Goto.Jumps_ret Go.Proofs.Ytgnepppncmjagaa.Goto.Jumps_normal Go.Proofs.Ytgnepppncmjagaa.Goto.Jumps_exit Go.Proofs.Ytgnepppncmjagaa.Goto.Jumps_panic Go.Proofs.Ytgnepppncmjagaa.Goto.Jumps_outgrown max2_int min2_int max_two min_two max_three min_three max_four min_four   -- for this text's walks alone
open Go.Proofs.YtgnepppncmjagaaW.PrintWords Go.Proofs.Ytgnepppncmjagaa
set_option linter.unusedVariables false
set_option linter.unusedSimpArgs false

/-! ### headgatelaw23_few: function 15 -/
mutual
def headgatelaw23_few.j0 : Nat → Bool → Int → ByteArray → Bool → Bool → Bool → List ByteArray → Option (Bool)
  | 0, _, _, _, _, _, _, _ => none
  | k + 1, x13, x215000, x215001, x215002, x215003, x215004, x215005 => if x13 = true then (some false) else (headgatelaw23_few.l0 k 0 x215000 x215001 x215002 x215003 x215004 x215005)
def headgatelaw23_few.l0 : Nat → Int → Int → ByteArray → Bool → Bool → Bool → List ByteArray → Option (Bool)
  | 0, _, _, _, _, _, _, _ => none
  | k + 1, x3, x215000, x215001, x215002, x215003, x215004, x215005 => if x3 < (x215005.length : Int) then (if 0 ≤ x3 then (if ((rdOf ByteArray.empty x215005 x3).size : Int) > 300 then (some false) else (headgatelaw23_few.l0 k (wrap64 (x3 + 1)) x215000 x215001 x215002 x215003 x215004 x215005)) else (none)) else (some true)
end
def headgatelaw23_few.f (k : Nat) (a0_0 : Int) (a0_1 : ByteArray) (a0_2 : Bool) (a0_3 : Bool) (a0_4 : Bool) (l0_5 : List ByteArray) : Option (Bool) := if (a0_1.size : Int) > 5000 then (headgatelaw23_few.j0 k true a0_0 a0_1 a0_2 a0_3 a0_4 l0_5) else (headgatelaw23_few.j0 k (decide ((l0_5.length : Int) > 300)) a0_0 a0_1 a0_2 a0_3 a0_4 l0_5)
theorem headgatelaw23_few.mono_l : ∀ k, (∀ y0 y1 y2 y3 y4 y5 y6, LeO (headgatelaw23_few.j0 k y0 y1 y2 y3 y4 y5 y6) (headgatelaw23_few.j0 (k + 1) y0 y1 y2 y3 y4 y5 y6)) ∧ (∀ y0 y1 y2 y3 y4 y5 y6, LeO (headgatelaw23_few.l0 k y0 y1 y2 y3 y4 y5 y6) (headgatelaw23_few.l0 (k + 1) y0 y1 y2 y3 y4 y5 y6))
  | 0 => ⟨fun _ _ _ _ _ _ _ r h => by simp [headgatelaw23_few.j0] at h, fun _ _ _ _ _ _ _ r h => by simp [headgatelaw23_few.l0] at h⟩
  | k + 1 => by
    obtain ⟨ih0, ih1⟩ := headgatelaw23_few.mono_l k
    refine ⟨?_, ?_⟩
    · intro y0 y1 y2 y3 y4 y5 y6
      unfold headgatelaw23_few.j0
      repeat' first
      | (with_reducible exact ih0 _ _ _ _ _ _ _)
      | (with_reducible exact ih1 _ _ _ _ _ _ _)
      | (with_reducible exact LeO.refl _)
      | (with_reducible exact LeO.none _)
      | (with_reducible refine LeO.ite ?_ ?_)
      | (with_reducible refine LeO.bind ?_ (fun _ => ?_))
      | exact ih0 _ _ _ _ _ _ _
      | exact ih1 _ _ _ _ _ _ _
      | exact LeO.none _
      | refine LeO.ite ?_ ?_
      | refine LeO.bind ?_ (fun _ => ?_)
    · intro y0 y1 y2 y3 y4 y5 y6
      unfold headgatelaw23_few.l0
      repeat' first
      | (with_reducible exact ih0 _ _ _ _ _ _ _)
      | (with_reducible exact ih1 _ _ _ _ _ _ _)
      | (with_reducible exact LeO.refl _)
      | (with_reducible exact LeO.none _)
      | (with_reducible refine LeO.ite ?_ ?_)
      | (with_reducible refine LeO.bind ?_ (fun _ => ?_))
      | exact ih0 _ _ _ _ _ _ _
      | exact ih1 _ _ _ _ _ _ _
      | exact LeO.none _
      | refine LeO.ite ?_ ?_
      | refine LeO.bind ?_ (fun _ => ?_)
theorem headgatelaw23_few.mono : ∀ a0 a1 a2 a3 a4 a5 k, LeO (headgatelaw23_few.f k a0 a1 a2 a3 a4 a5) (headgatelaw23_few.f (k + 1) a0 a1 a2 a3 a4 a5) := by
  intro a0 a1 a2 a3 a4 a5 k
  obtain ⟨ih0, ih1⟩ := headgatelaw23_few.mono_l k
  unfold headgatelaw23_few.f
  repeat' first
      | (with_reducible exact ih0 _ _ _ _ _ _ _)
      | (with_reducible exact ih1 _ _ _ _ _ _ _)
      | (with_reducible exact LeO.refl _)
      | (with_reducible exact LeO.none _)
      | (with_reducible refine LeO.ite ?_ ?_)
      | (with_reducible refine LeO.bind ?_ (fun _ => ?_))
      | exact ih0 _ _ _ _ _ _ _
      | exact ih1 _ _ _ _ _ _ _
      | exact LeO.none _
      | refine LeO.ite ?_ ?_
      | refine LeO.bind ?_ (fun _ => ?_)
set_option maxHeartbeats 8000000 in
set_option maxRecDepth 100000 in
theorem headgatelaw23_few.calls (k : Nat) (a0_0 : Int) (a0_1 : ByteArray) (a0_2 : Bool) (a0_3 : Bool) (a0_4 : Bool) (A0_5 : Option Addr) (c0_5 : Nat) (l0_5 : List ByteArray) (r : Bool) (w : World) (hr0_5 : Kd.C Kd.string w A0_5 l0_5.length l0_5) (hc0_5 : l0_5.length ≤ c0_5) (h : headgatelaw23_few.f k a0_0 a0_1 a0_2 a0_3 a0_4 l0_5 = some r) :
    Calls Try.prog 15 #[.agg #[.int .i64 a0_0, .string a0_1, .bool a0_2, .bool a0_3, .bool a0_4, .slice A0_5 l0_5.length c0_5]] w fun e w' => e = .returned (.bool r) ∧ Below w.heap.size w w' := by
  have hu36 := Try.underlying36
  have HR0_5 := Aside0.mk hr0_5
  have HC0_5 := Aside0.mk hc0_5
  clear hr0_5 hc0_5
  have HB := Aside0.mk (Below.refl w.heap.size w)
  have H : (if (a0_1.size : Int) > 5000 then (headgatelaw23_few.j0 k true a0_0 a0_1 a0_2 a0_3 a0_4 l0_5) else (headgatelaw23_few.j0 k (decide ((l0_5.length : Int) > 300)) a0_0 a0_1 a0_2 a0_3 a0_4 l0_5)) = some r := h
  clear h
  have HC2 := Aside0.mk H
  clear H
  go_enter Try.func15, Try.ntmps15
  go_upto_region 1 with (first | ((with_reducible refine gate_dst (N := 1) rfl ?_); (try (refine gate_guard (by rfl) ?_; dsimp only)); refine box_event ?hg (N := 1) ?hd (cs := #[.int .i64 a0_0, .string a0_1, .bool a0_2, .bool a0_3, .bool a0_4, .slice A0_5 l0_5.length c0_5]) (t := 36) ?hr ?_; (case hd => rfl); (case hg => rfl); (case hr => first | (go_simp; done) | (go_simp; rfl)); intro gb214 hg w3 hbox hb; have n0_ := Aside0.mk (below_step (by repeat (first | (with_reducible first | exact HB.out | apply below_alloc | apply pw_below_drewN | apply below_drew1) | exact HB.out)) hb); have n1_ := Aside0.mk (hbox); have n2_ := Aside0.mk ((by rw [hg]; exact (below_size (by repeat (first | (with_reducible first | exact HB.out | apply below_alloc | apply pw_below_drewN | apply below_drew1) | exact HB.out))) : w.heap.size ≤ gb214)); have n3_ := Aside0.mk ((by rw [hg]; exact (below_size (by repeat (first | (with_reducible first | exact HB.out | apply below_alloc | apply pw_below_drewN | apply below_drew1) | exact HB.out))) : w.heap.size ≤ gb214)); clear HB; have HB := n0_; have BK214 := n1_; have GW214 := n2_; have GE214 := n3_; clear n0_ n1_ n2_ n3_; clear hb hbox hg))
  (try simp only [Act.put, List.setIfInBounds_toArray, List.set_cons_zero, List.set_cons_succ])
  go_cut [13] (fun v13 wc => ∃ (kq : Nat) (x13_1 : Bool), v13 = .bool x13_1 ∧ Aside0 (headgatelaw23_few.j0 kq x13_1 a0_0 a0_1 a0_2 a0_3 a0_4 l0_5 = some r) ∧ Aside0 (kq ≤ k) ∧ Aside0 (wc.heap[gb214]? = some (.cells #[.int .i64 a0_0, .string a0_1, .bool a0_2, .bool a0_3, .bool a0_4, (.slice A0_5 l0_5.length c0_5)] 36 (0, 0))) ∧ Aside0 (Below w.heap.size w wc))
  case first =>
    have H := HC2.out
    clear HC2
    by_cases c4 : (a0_1.size : Int) > 5000
    · rw [if_pos c4] at H
      have c4b0 : decide (5000 < (a0_1.size : Int)) = true := decide_eq_true c4
      have c4b1 : decide (5000 < a0_1.size) = true := decide_eq_true (by omega)
      clear c4
      (first | rw [c4b0] | (simp only [i64_w, i32_w]; rw [c4b0]) | skip)
      have H' := Aside0.mk H
      clear H
      have hcz5_0 : w3.cell? ⟨gb214, 0, none⟩ = some (.int .i64 a0_0) := (blk_cell BK214.out 0).trans rfl
      have hcz5_1 : w3.cell? ⟨gb214, 1, none⟩ = some (.string a0_1) := (blk_cell BK214.out 1).trans rfl
      have hcz5_2 : w3.cell? ⟨gb214, 2, none⟩ = some (.bool a0_2) := (blk_cell BK214.out 2).trans rfl
      have hcz5_3 : w3.cell? ⟨gb214, 3, none⟩ = some (.bool a0_3) := (blk_cell BK214.out 3).trans rfl
      have hcz5_4 : w3.cell? ⟨gb214, 4, none⟩ = some (.bool a0_4) := (blk_cell BK214.out 4).trans rfl
      have hcz5_5 : w3.cell? ⟨gb214, 5, none⟩ = some (.slice A0_5 l0_5.length c0_5) := (blk_cell BK214.out 5).trans rfl
      have hfz5_0 := blk_frozen BK214.out 0
      have hfz5_1 := blk_frozen BK214.out 1
      have hfz5_2 := blk_frozen BK214.out 2
      have hfz5_3 := blk_frozen BK214.out 3
      have hfz5_4 := blk_frozen BK214.out 4
      have hfz5_5 := blk_frozen BK214.out 5
      go_wp2
      go_meet
      case rel => exact ⟨_, (true), (by first | rfl | (simp; done) | (simp [*]; done)), H', ⟨by first | omega | exact Nat.le_refl _⟩, ⟨by (with_reducible repeat (first | refine blk_drewN ?_ _ | refine blk_drew ?_ | refine blk_alloc ?_ _)); exact BK214.out⟩, ⟨by repeat (first | (with_reducible first | exact HB.out | apply below_alloc | apply pw_below_drewN | apply below_drew1 | refine below_set ?_ GE214.out) | exact HB.out)⟩⟩
    · rw [if_neg c4] at H
      have c4b0 : decide (5000 < (a0_1.size : Int)) = false := decide_eq_false c4
      have c4b1 : decide (5000 < a0_1.size) = false := decide_eq_false (by omega)
      clear c4
      (first | rw [c4b0] | (simp only [i64_w, i32_w]; rw [c4b0]) | skip)
      have H' := Aside0.mk H
      clear H
      have hcz6_0 : w3.cell? ⟨gb214, 0, none⟩ = some (.int .i64 a0_0) := (blk_cell BK214.out 0).trans rfl
      have hcz6_1 : w3.cell? ⟨gb214, 1, none⟩ = some (.string a0_1) := (blk_cell BK214.out 1).trans rfl
      have hcz6_2 : w3.cell? ⟨gb214, 2, none⟩ = some (.bool a0_2) := (blk_cell BK214.out 2).trans rfl
      have hcz6_3 : w3.cell? ⟨gb214, 3, none⟩ = some (.bool a0_3) := (blk_cell BK214.out 3).trans rfl
      have hcz6_4 : w3.cell? ⟨gb214, 4, none⟩ = some (.bool a0_4) := (blk_cell BK214.out 4).trans rfl
      have hcz6_5 : w3.cell? ⟨gb214, 5, none⟩ = some (.slice A0_5 l0_5.length c0_5) := (blk_cell BK214.out 5).trans rfl
      have hfz6_0 := blk_frozen BK214.out 0
      have hfz6_1 := blk_frozen BK214.out 1
      have hfz6_2 := blk_frozen BK214.out 2
      have hfz6_3 := blk_frozen BK214.out 3
      have hfz6_4 := blk_frozen BK214.out 4
      have hfz6_5 := blk_frozen BK214.out 5
      go_wp2
      go_meet
      case rel => exact ⟨_, (decide ((l0_5.length : Int) > 300)), (by first | rfl | (simp; done) | (simp [*]; done)), H', ⟨by first | omega | exact Nat.le_refl _⟩, ⟨by (with_reducible repeat (first | refine blk_drewN ?_ _ | refine blk_drew ?_ | refine blk_alloc ?_ _)); exact BK214.out⟩, ⟨by repeat (first | (with_reducible first | exact HB.out | apply below_alloc | apply pw_below_drewN | apply below_drew1 | refine below_set ?_ GE214.out) | exact HB.out)⟩⟩
  case rest =>
    clear HC2
    try clear c1
    try clear p2
    try clear c4
    try clear c4b0
    try clear c4b1
    try clear hcz5_0
    try clear hcz5_1
    try clear hcz5_2
    try clear hcz5_3
    try clear hcz5_4
    try clear hcz5_5
    try clear hcz6_0
    try clear hcz6_1
    try clear hcz6_2
    try clear hcz6_3
    try clear hcz6_4
    try clear hcz6_5
    try clear hfz5_0
    try clear hfz5_1
    try clear hfz5_2
    try clear hfz5_3
    try clear hfz5_4
    try clear hfz5_5
    try clear hfz6_0
    try clear hfz6_1
    try clear hfz6_2
    try clear hfz6_3
    try clear hfz6_4
    try clear hfz6_5
    obtain ⟨kq, x13_1, rfl, HA, HJ1, BK214, HB⟩ := hcut
    cases kq with
    | zero => exact absurd HA.out (by simp [headgatelaw23_few.j0])
    | succ kj1 =>
      have H := HA.out
      clear HA
      simp only [headgatelaw23_few.j0] at H
      by_cases c7 : x13_1 = true
      · subst c7
        have H1 : (some false) = some r := by rw [if_pos rfl] at H; exact H
        clear H
        have H := H1
        clear H1
        obtain rfl := Option.some.inj H
        go_wp2
        go_ret
        exact ⟨by first | rfl | (simp [errW_none, errW_some] <;> rfl) | (simp [*, errW_none, errW_some] <;> rfl), by repeat (first | (with_reducible first | exact HB.out | apply below_alloc | apply pw_below_drewN | apply below_drew1 | refine below_set ?_ GE214.out) | exact HB.out)⟩
      · replace c7 := Bool.eq_false_iff.mpr c7
        subst c7
        have H1 : (headgatelaw23_few.l0 kj1 0 a0_0 a0_1 a0_2 a0_3 a0_4 l0_5) = some r := by rw [if_neg (show ¬ (false = true) by decide)] at H; exact H
        clear H
        have H := H1
        clear H1
        have H' := Aside0.mk H
        clear H
        go_wp2
        go_loopg [3] kj1 (fun kq v3 w' => ∃ (x3_2 : Int), v3 = .int .i64 x3_2 ∧ Aside0 (headgatelaw23_few.l0 kq x3_2 a0_0 a0_1 a0_2 a0_3 a0_4 l0_5 = some r) ∧ Aside0 (kq ≤ kj1) ∧ Aside0 (w'.heap[gb214]? = some (.cells #[.int .i64 a0_0, .string a0_1, .bool a0_2, .bool a0_3, .bool a0_4, (.slice A0_5 l0_5.length c0_5)] 36 (0, 0))) ∧ Aside0 (Below w.heap.size w w'))
        case atStart => exact ⟨(0), (by first | rfl | (simp; done) | (simp [*]; done)), H', ⟨Nat.le_refl _⟩, ⟨by (with_reducible repeat (first | refine blk_drewN ?_ _ | refine blk_drew ?_ | refine blk_alloc ?_ _)); exact BK214.out⟩, ⟨by repeat (first | (with_reducible first | exact HB.out | apply below_alloc | apply pw_below_drewN | apply below_drew1 | refine below_set ?_ GE214.out) | exact HB.out)⟩⟩
        case round =>
          clear H'
          try clear c1
          try clear p2
          try clear c4
          try clear c4b0
          try clear c4b1
          try clear c7
          try clear hcz5_0
          try clear hcz5_1
          try clear hcz5_2
          try clear hcz5_3
          try clear hcz5_4
          try clear hcz5_5
          try clear hcz6_0
          try clear hcz6_1
          try clear hcz6_2
          try clear hcz6_3
          try clear hcz6_4
          try clear hcz6_5
          try clear hfz5_0
          try clear hfz5_1
          try clear hfz5_2
          try clear hfz5_3
          try clear hfz5_4
          try clear hfz5_5
          try clear hfz6_0
          try clear hfz6_1
          try clear hfz6_2
          try clear hfz6_3
          try clear hfz6_4
          try clear hfz6_5
          try clear p2
          obtain ⟨x3_2, rfl, HA, HK2, BK214, HB⟩ := hrel
          cases gk with
          | zero => exact absurd HA.out (by simp [headgatelaw23_few.l0])
          | succ k2 =>
            have H := HA.out
            clear HA
            simp only [headgatelaw23_few.l0] at H
            by_cases c8 : x3_2 < (l0_5.length : Int)
            · rw [if_pos c8] at H
              have c8b0 : decide (x3_2 < (l0_5.length : Int)) = true := decide_eq_true c8
              clear c8
              by_cases c9 : 0 ≤ x3_2
              · rw [if_pos c9] at H
                have c9b0 : decide (0 ≤ x3_2) = true := decide_eq_true c9
                clear c9
                by_cases c10 : ((rdOf ByteArray.empty l0_5 x3_2).size : Int) > 300
                · rw [if_pos c10] at H
                  have c10b0 : decide (300 < ((rdOf ByteArray.empty l0_5 x3_2).size : Int)) = true := decide_eq_true c10
                  have c10b1 : decide (300 < (rdOf ByteArray.empty l0_5 x3_2).size) = true := decide_eq_true (by omega)
                  clear c10
                  obtain rfl := Option.some.inj H
                  have hcz11_0 : wr.cell? ⟨gb214, 0, none⟩ = some (.int .i64 a0_0) := (blk_cell BK214.out 0).trans rfl
                  have hcz11_1 : wr.cell? ⟨gb214, 1, none⟩ = some (.string a0_1) := (blk_cell BK214.out 1).trans rfl
                  have hcz11_2 : wr.cell? ⟨gb214, 2, none⟩ = some (.bool a0_2) := (blk_cell BK214.out 2).trans rfl
                  have hcz11_3 : wr.cell? ⟨gb214, 3, none⟩ = some (.bool a0_3) := (blk_cell BK214.out 3).trans rfl
                  have hcz11_4 : wr.cell? ⟨gb214, 4, none⟩ = some (.bool a0_4) := (blk_cell BK214.out 4).trans rfl
                  have hcz11_5 : wr.cell? ⟨gb214, 5, none⟩ = some (.slice A0_5 l0_5.length c0_5) := (blk_cell BK214.out 5).trans rfl
                  have hfz11_0 := blk_frozen BK214.out 0
                  have hfz11_1 := blk_frozen BK214.out 1
                  have hfz11_2 := blk_frozen BK214.out 2
                  have hfz11_3 := blk_frozen BK214.out 3
                  have hfz11_4 := blk_frozen BK214.out 4
                  have hfz11_5 := blk_frozen BK214.out 5
                  have p215 : 0 ≤ (x3_2 : Int) := of_decide_eq_true (by first | (with_reducible assumption) | assumption)
                  have q215 : x3_2 < (l0_5.length : Int) := of_decide_eq_true (by first | (with_reducible assumption) | assumption)
                  obtain ⟨ad215, e215, hx215_0⟩ := Kd.at_string HR0_5.out x3_2 p215 q215
                  cases e215
                  replace hx215_0 := (HB.out.cell (World.block_lt_of_cell? w _ hx215_0)).trans hx215_0
                  replace p215 := eq_true p215
                  replace q215 := eq_true q215
                  go_wp2
                  go_ret
                  exact ⟨by first | rfl | (simp [errW_none, errW_some] <;> rfl) | (simp [*, errW_none, errW_some] <;> rfl), by repeat (first | (with_reducible first | exact HB.out | apply below_alloc | apply pw_below_drewN | apply below_drew1 | refine below_set ?_ GE214.out) | exact HB.out)⟩
                · rw [if_neg c10] at H
                  have c10b0 : decide (300 < ((rdOf ByteArray.empty l0_5 x3_2).size : Int)) = false := decide_eq_false c10
                  have c10b1 : decide (300 < (rdOf ByteArray.empty l0_5 x3_2).size) = false := decide_eq_false (by omega)
                  clear c10
                  have H' := Aside0.mk H
                  clear H
                  have hcz12_0 : wr.cell? ⟨gb214, 0, none⟩ = some (.int .i64 a0_0) := (blk_cell BK214.out 0).trans rfl
                  have hcz12_1 : wr.cell? ⟨gb214, 1, none⟩ = some (.string a0_1) := (blk_cell BK214.out 1).trans rfl
                  have hcz12_2 : wr.cell? ⟨gb214, 2, none⟩ = some (.bool a0_2) := (blk_cell BK214.out 2).trans rfl
                  have hcz12_3 : wr.cell? ⟨gb214, 3, none⟩ = some (.bool a0_3) := (blk_cell BK214.out 3).trans rfl
                  have hcz12_4 : wr.cell? ⟨gb214, 4, none⟩ = some (.bool a0_4) := (blk_cell BK214.out 4).trans rfl
                  have hcz12_5 : wr.cell? ⟨gb214, 5, none⟩ = some (.slice A0_5 l0_5.length c0_5) := (blk_cell BK214.out 5).trans rfl
                  have hfz12_0 := blk_frozen BK214.out 0
                  have hfz12_1 := blk_frozen BK214.out 1
                  have hfz12_2 := blk_frozen BK214.out 2
                  have hfz12_3 := blk_frozen BK214.out 3
                  have hfz12_4 := blk_frozen BK214.out 4
                  have hfz12_5 := blk_frozen BK214.out 5
                  have p215 : 0 ≤ (x3_2 : Int) := of_decide_eq_true (by first | (with_reducible assumption) | assumption)
                  have q215 : x3_2 < (l0_5.length : Int) := of_decide_eq_true (by first | (with_reducible assumption) | assumption)
                  obtain ⟨ad215, e215, hx215_0⟩ := Kd.at_string HR0_5.out x3_2 p215 q215
                  cases e215
                  replace hx215_0 := (HB.out.cell (World.block_lt_of_cell? w _ hx215_0)).trans hx215_0
                  replace p215 := eq_true p215
                  replace q215 := eq_true q215
                  go_wp2
                  go_roundg k2
                  case measure => have := HJ1.out; have := HK2.out; omega
                  case rel => exact ⟨(wrap64 (x3_2 + 1)), (by first | rfl | (simp; done) | (simp [*]; done)), H', ⟨by have := HJ1.out; have := HK2.out; omega⟩, ⟨by (with_reducible repeat (first | refine blk_drewN ?_ _ | refine blk_drew ?_ | refine blk_alloc ?_ _)); exact BK214.out⟩, ⟨by repeat (first | (with_reducible first | exact HB.out | apply below_alloc | apply pw_below_drewN | apply below_drew1 | refine below_set ?_ GE214.out) | exact HB.out)⟩⟩
              · rw [if_neg c9] at H
                exact absurd H (by simp)
            · rw [if_neg c8] at H
              have c8b0 : decide (x3_2 < (l0_5.length : Int)) = false := decide_eq_false c8
              clear c8
              obtain rfl := Option.some.inj H
              have hcz13_0 : wr.cell? ⟨gb214, 0, none⟩ = some (.int .i64 a0_0) := (blk_cell BK214.out 0).trans rfl
              have hcz13_1 : wr.cell? ⟨gb214, 1, none⟩ = some (.string a0_1) := (blk_cell BK214.out 1).trans rfl
              have hcz13_2 : wr.cell? ⟨gb214, 2, none⟩ = some (.bool a0_2) := (blk_cell BK214.out 2).trans rfl
              have hcz13_3 : wr.cell? ⟨gb214, 3, none⟩ = some (.bool a0_3) := (blk_cell BK214.out 3).trans rfl
              have hcz13_4 : wr.cell? ⟨gb214, 4, none⟩ = some (.bool a0_4) := (blk_cell BK214.out 4).trans rfl
              have hcz13_5 : wr.cell? ⟨gb214, 5, none⟩ = some (.slice A0_5 l0_5.length c0_5) := (blk_cell BK214.out 5).trans rfl
              have hfz13_0 := blk_frozen BK214.out 0
              have hfz13_1 := blk_frozen BK214.out 1
              have hfz13_2 := blk_frozen BK214.out 2
              have hfz13_3 := blk_frozen BK214.out 3
              have hfz13_4 := blk_frozen BK214.out 4
              have hfz13_5 := blk_frozen BK214.out 5
              go_wp2
              go_ret
              exact ⟨by first | rfl | (simp [errW_none, errW_some] <;> rfl) | (simp [*, errW_none, errW_some] <;> rfl), by repeat (first | (with_reducible first | exact HB.out | apply below_alloc | apply pw_below_drewN | apply below_drew1 | refine below_set ?_ GE214.out) | exact HB.out)⟩

end Go.Proofs.Ytgnepppncmjagaa.Print
