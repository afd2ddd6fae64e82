/- ClassRanges, walked. -/
import Derived.Test.YtglhhcgoppmipaaAlive
import Derived.Test.YtglhhcgoppmipaaPureRanges
import Derived.Test.YtglhhcgoppmipaaWalkSets
import Derived.Laws.BytesArg
import Derived.Lib.Builder
namespace Go.Proofs.Ytglhhcgoppmipaa.Cl
open Go.RowKit Go.Proofs.YtglhhcgoppmipaaW.PrintWords

theorem conv_lit (W : World) (xs : List Int) : (convert 39 9 (.slice (some ⟨W.heap.size, 0, none⟩) xs.length xs.length)).run Try.prog (W.alloc (.cells (xs.map (Value.int .u8)).toArray 5)) = .ok (.string (strOfNums xs)) (W.alloc (.cells (xs.map (Value.int .u8)).toArray 5)) :=
  run_convert_bytes_arg (P := Try.prog) (W.alloc (.cells (xs.map (Value.int .u8)).toArray 5)) 39 5 Try.underlying39 Try.underlying5 W.heap.size 0 xs.length xs.length xs rfl (fun i hi => by
    rw [Nat.zero_add, Lib.cell_of_heap (Go.heap_alloc_new W _)]
    simp [List.getElem?_eq_getElem hi, List.getD_eq_getElem?_getD]) 9 Try.underlying9
theorem app_toList (a b : ByteArray) : (a ++ b).data.toList = a.data.toList ++ b.data.toList := by simp
theorem of_byte (x : Nat) (h : x < 256) : (UInt8.ofNat ((x : Int)).toNat).toNat = x := by
  rw [Int.toNat_natCast, UInt8.toNat_ofNat']
  omega
set_option maxHeartbeats 8000000 in
theorem lawRanges_calls (x y c : Nat) (rest : ByteArray) (w : World) (m : Int) (hm : w.cell? ⟨0, 0, none⟩ = some (.int .i64 m)) (hx : x < 256) (hy : y < 256) (hc : c < 256) :
    Calls Try.prog 7 #[.agg #[.int .u8 (x : Int), .int .u8 (y : Int)], .int .u8 (c : Int), .string rest] w fun e w' => e = .returned (.bool true) ∧ Below w.heap.size w w' := by
  have hw0 : 0 < w.heap.size := Go.block_lt_of_cell hm
  have KX := Aside0.mk (fun w => letter_calls x w)
  have KY := Aside0.mk (fun w => letter_calls y w)
  obtain ⟨w1, hw1⟩ : ∃ z, z = w.alloc (.cells #[.int .u8 (x : Int), .int .u8 (y : Int)] 25) := ⟨_, rfl⟩
  have B1 : Below w.heap.size w w1 := by rw [hw1]; exact (Below.refl _ _).alloc (Nat.le_refl _) _
  have hm1 : w1.cell? ⟨0, 0, none⟩ = some (.int .i64 m) := (B1.cell (p := ⟨0, 0, none⟩) hw0).trans hm
  have hs1 : w1.heap.size = w.heap.size + 1 := by rw [hw1]; simp
  obtain ⟨r0, r1⟩ := row2 (g := w.heap.size) (w := w1) (x := (x : Int)) (y := (y : Int)) (t := 25) (by rw [hw1]; exact Go.heap_alloc_new _ _)
  have KAL := Aside0.mk (alive_calls w1 m hm1)
  have HB1 := Aside0.mk B1
  have hin : ∀ (P : World → Prop), P w1 → P (w.alloc (.cells #[.int .u8 (x : Int), .int .u8 (y : Int)] 25)) := fun P h => by rw [← hw1]; exact h
  clear B1
  cases hlx : isLetter x with
  | false =>
    rw [hlx] at KX
    clear hs1 hm1
    go_enter Try.func7, Try.ntmps7
    go_wp2_with (fail)
    rw [← hw1]
    clear hin hw1
    refine (KX.out _).mono ?_
    rintro e w2 ⟨rfl, hw2⟩
    rw [hw2]
    clear hw2 w2
    go_wp2_with (fail)
    refine (KY.out _).mono ?_
    rintro e w2 ⟨rfl, hw2⟩
    rw [hw2]
    clear hw2 w2
    go_wp2_with (fail)
    refine KAL.out.mono ?_
    rintro e w2 ⟨rfl, hb2⟩
    go_wp2
    go_ret
    exact ⟨rfl, HB1.out.trans (hb2.mono HB1.out.size)⟩
  | true =>
  rw [hlx] at KX
  cases hly : isLetter y with
  | false =>
    rw [hly] at KY
    clear hs1 hm1
    go_enter Try.func7, Try.ntmps7
    go_wp2_with (fail)
    rw [← hw1]
    clear hin hw1
    refine (KX.out _).mono ?_
    rintro e w2 ⟨rfl, hw2⟩
    rw [hw2]
    clear hw2 w2
    go_wp2_with (fail)
    refine (KY.out _).mono ?_
    rintro e w2 ⟨rfl, hw2⟩
    rw [hw2]
    clear hw2 w2
    go_wp2_with (fail)
    refine KAL.out.mono ?_
    rintro e w2 ⟨rfl, hb2⟩
    go_wp2
    go_ret
    exact ⟨rfl, HB1.out.trans (hb2.mono HB1.out.size)⟩
  | true =>
  rw [hly] at KY
  by_cases hlen : 100 < rest.size
  · have hli : (100 : Int) < (rest.size : Int) := by omega
    clear hs1 hm1 hlx hly
    go_enter Try.func7, Try.ntmps7
    go_wp2_with (fail)
    rw [← hw1]
    clear hin hw1
    refine (KX.out _).mono ?_
    rintro e w2 ⟨rfl, hw2⟩
    rw [hw2]
    clear hw2 w2
    go_wp2_with (fail)
    refine (KY.out _).mono ?_
    rintro e w2 ⟨rfl, hw2⟩
    rw [hw2]
    clear hw2 w2
    go_wp2_with (fail)
    refine KAL.out.mono ?_
    rintro e w2 ⟨rfl, hb2⟩
    go_wp2
    go_ret
    exact ⟨rfl, HB1.out.trans (hb2.mono HB1.out.size)⟩
  have hli : ¬ (100 : Int) < (rest.size : Int) := by omega
  have kc : (convert 39 9 (.slice (some ⟨w1.heap.size, 0, none⟩) 4 4)).run Try.prog (w1.alloc (.cells #[.int .u8 (x : Int), .int .u8 45, .int .u8 (y : Int), .int .u8 93] 5)) = .ok (.string (strOfNums [(x : Int), 45, (y : Int), 93])) (w1.alloc (.cells #[.int .u8 (x : Int), .int .u8 45, .int .u8 (y : Int), .int .u8 93] 5)) := conv_lit w1 [(x : Int), 45, (y : Int), 93]
  obtain ⟨T, hT⟩ : ∃ T, strOfNums [(x : Int), 45, (y : Int), 93] = T := ⟨_, rfl⟩
  have hTl : T.data.toList = [UInt8.ofNat ((x : Int)).toNat, 45, UInt8.ofNat ((y : Int)).toNat, 93] := by rw [← hT]; rfl
  rw [hT] at kc
  clear hT
  obtain ⟨bx, hbx⟩ : ∃ b, UInt8.ofNat ((x : Int)).toNat = b := ⟨_, rfl⟩
  obtain ⟨by', hby⟩ : ∃ b, UInt8.ofNat ((y : Int)).toNat = b := ⟨_, rfl⟩
  have hbxn : bx.toNat = x := by rw [← hbx]; exact of_byte x hx
  have hbyn : by'.toNat = y := by rw [← hby]; exact of_byte y hy
  rw [hbx, hby] at hTl
  obtain ⟨T1, hT1⟩ : ∃ t, T ++ rest = t := ⟨_, rfl⟩
  obtain ⟨T2, hT2⟩ : ∃ t, (⟨#[94]⟩ : ByteArray) ++ T = t := ⟨_, rfl⟩
  obtain ⟨T3, hT3⟩ : ∃ t, T2 ++ rest = t := ⟨_, rfl⟩
  have hl1 : T1.data.toList = bx :: 45 :: by' :: 93 :: rest.data.toList := by rw [← hT1, app_toList, hTl]; rfl
  have hl3 : T3.data.toList = 94 :: bx :: 45 :: by' :: 93 :: rest.data.toList := by rw [← hT3, app_toList, ← hT2, app_toList, hTl]; rfl
  have hz1 : T1.size < 1000000 := by rw [Lib.size_eq, hl1]; simp only [List.length_cons]; rw [← Lib.size_eq]; omega
  have hz3 : T3.size < 1000000 := by rw [Lib.size_eq, hl3]; simp only [List.length_cons]; rw [← Lib.size_eq]; omega
  have KB1 : Aside0 (∀ w : World, w.cell? ⟨0, 0, none⟩ = some (.int .i64 m) → Calls Try.prog 23 #[.string T1] w fun e w' => e = .returned (.tuple #[St (rangeOf x y false).1, .int .i64 (rangeOf x y false).2.1, .int .i64 (rangeOf x y false).2.2]) ∧ Below w.heap.size w w') :=
    ⟨fun w hm => bracket_calls (fun _ => none) (fun _ _ _ _ h => by cases h) (fun _ _ h => by cases h) T1 w m hz1 hm (rangeOf x y false) (by rw [hl1, ← hbxn, ← hbyn]; exact bracket_range _ _ _ (by rw [hbxn]; exact hlx) (by rw [hbyn]; exact hly))⟩
  have KB3 : Aside0 (∀ w : World, w.cell? ⟨0, 0, none⟩ = some (.int .i64 m) → Calls Try.prog 23 #[.string T3] w fun e w' => e = .returned (.tuple #[St (rangeOf x y true).1, .int .i64 (rangeOf x y true).2.1, .int .i64 (rangeOf x y true).2.2]) ∧ Below w.heap.size w w') :=
    ⟨fun w hm => bracket_calls (fun _ => none) (fun _ _ _ _ h => by cases h) (fun _ _ h => by cases h) T3 w m hz3 hm (rangeOf x y true) (by rw [hl3, ← hbxn, ← hbyn]; exact bracket_turned _ _ _ (by rw [hbxn]; exact hlx) (by rw [hbyn]; exact hly))⟩
  have hs : T.size = 4 := by rw [Lib.size_eq, hTl]; rfl
  have hs2 : T2.size = 5 := by rw [← hT2, Lib.size_eq, app_toList, hTl]; rfl
  clear hl1 hl3 hz1 hz3 hbxn hbyn hTl hbx hby hlx hly
  have hm' : ∀ {w' : World}, Below w.heap.size w w' → w'.cell? ⟨0, 0, none⟩ = some (.int .i64 m) := fun h => (h.cell (p := ⟨0, 0, none⟩) hw0).trans hm
  have HM := Aside0.mk @hm'
  clear hm'
  clear hm1 KAL
  rw [hs1] at kc
  have hrange : (∃ X1 X3 : Nat, ∃ n1 n3 e1 e3 : Int, rangeOf x y false = (X1, n1, e1) ∧ rangeOf x y true = (X3, n3, e3)) := ⟨_, _, _, _, _, _, rfl, rfl⟩
  go_enter Try.func7, Try.ntmps7
  go_wp2_with (fail)
  rw [← hw1]
  clear hin hw1
  refine (KX.out _).mono ?_
  rintro e w2 ⟨rfl, hw2⟩
  rw [hw2]
  clear hw2 w2
  go_wp2_with (fail)
  refine (KY.out _).mono ?_
  rintro e w2 ⟨rfl, hw2⟩
  rw [hw2]
  clear hw2 w2
  go_wp2_with (fail)
  obtain ⟨w2, hw2⟩ : ∃ z, z = w1.alloc (.cells #[.int .u8 (x : Int), .int .u8 45, .int .u8 (y : Int), .int .u8 93] 5) := ⟨_, rfl⟩
  rw [← hw2]
  have bel2 : Below w.heap.size w w2 := by rw [hw2]; exact HB1.out.alloc HB1.out.size _
  have hlt2 : w.heap.size < w2.heap.size := by rw [hw2]; simp; omega
  have q0 : w2.cell? ⟨w.heap.size, 0, none⟩ = some (.int .u8 (x : Int)) := by
    rw [hw2]
    exact (World.cell?_of_block (w := w1) (Go.heap_alloc_old _ _ (by show w.heap.size < _; omega))).trans r0
  have q1 : w2.cell? ⟨w.heap.size, 1, none⟩ = some (.int .u8 (y : Int)) := by
    rw [hw2]
    exact (World.cell?_of_block (w := w1) (Go.heap_alloc_old _ _ (by show w.heap.size < _; omega))).trans r1
  clear hw2 kc hT1
  have HB2 := Aside0.mk bel2
  clear bel2 r0 r1 HB1
  obtain ⟨X1, X3, n1, n3, e1, e3, hr1, hr3⟩ := hrange
  rw [hr1] at KB1
  rw [hr3] at KB3
  refine (KB1.out _ (HM.out HB2.out)).mono ?_
  rintro e w3 ⟨rfl, hb3⟩
  rw [St_eq]
  have HB3 := Aside0.mk (HB2.out.trans (hb3.mono HB2.out.size))
  have hlt3 : w.heap.size < w3.heap.size := Nat.lt_of_lt_of_le hlt2 hb3.size
  replace q0 := (hb3.cell (p := ⟨w.heap.size, 0, none⟩) hlt2).trans q0
  replace q1 := (hb3.cell (p := ⟨w.heap.size, 1, none⟩) hlt2).trans q1
  clear hb3
  go_wp2_with (fail)
  obtain ⟨w4, hw4⟩ : ∃ z, z = w3.alloc (.cells #[.int .u64 (wd X1 0), .int .u64 (wd X1 1), .int .u64 (wd X1 2), .int .u64 (wd X1 3)] 24) := ⟨_, rfl⟩
  rw [← hw4]
  have P4 : Var w3.heap.size X1 w4 := by rw [hw4]; exact Go.heap_alloc_new _ _
  have bel4 : Below w3.heap.size w3 w4 := by rw [hw4]; exact (Below.refl w3.heap.size w3).alloc (Nat.le_refl _) _
  have HB4 := Aside0.mk (HB3.out.trans (bel4.mono HB3.out.size))
  replace q0 := (bel4.cell (p := ⟨w.heap.size, 0, none⟩) hlt3).trans q0
  replace q1 := (bel4.cell (p := ⟨w.heap.size, 1, none⟩) hlt3).trans q1
  clear hw4 bel4 hT2 hT3
  refine (KB3.out _ (HM.out HB4.out)).mono ?_
  rintro e w5 ⟨rfl, hb5⟩
  rw [St_eq]
  have HB5 := Aside0.mk (HB4.out.trans (hb5.mono HB4.out.size))
  have hlt4 : w3.heap.size < w4.heap.size := P4.lt
  have hlt5 : w3.heap.size < w5.heap.size := Nat.lt_of_lt_of_le hlt4 hb5.size
  have P5 := P4.below hb5
  replace q0 := (hb5.cell (p := ⟨w.heap.size, 0, none⟩) (by show w.heap.size < _; omega)).trans q0
  replace q1 := (hb5.cell (p := ⟨w.heap.size, 1, none⟩) (by show w.heap.size < _; omega)).trans q1
  clear hb5 P4
  have S6 : Var w5.heap.size X3 (w5.alloc (.cells #[.int .u64 (wd X3 0), .int .u64 (wd X3 1), .int .u64 (wd X3 2), .int .u64 (wd X3 3)] 24)) := Go.heap_alloc_new w5 _
  have bel6 : Below w5.heap.size w5 (w5.alloc (.cells #[.int .u64 (wd X3 0), .int .u64 (wd X3 1), .int .u64 (wd X3 2), .int .u64 (wd X3 3)] 24)) := (Below.refl w5.heap.size w5).alloc (Nat.le_refl _) _
  have q0' : (w5.alloc (.cells #[.int .u64 (wd X3 0), .int .u64 (wd X3 1), .int .u64 (wd X3 2), .int .u64 (wd X3 3)] 24)).cell? ⟨w.heap.size, 0, none⟩ = some (.int .u8 (x : Int)) := (bel6.cell (p := ⟨w.heap.size, 0, none⟩) (by show w.heap.size < _; omega)).trans q0
  have q1' : (w5.alloc (.cells #[.int .u64 (wd X3 0), .int .u64 (wd X3 1), .int .u64 (wd X3 2), .int .u64 (wd X3 3)] 24)).cell? ⟨w.heap.size, 1, none⟩ = some (.int .u8 (y : Int)) := (bel6.cell (p := ⟨w.heap.size, 1, none⟩) (by show w.heap.size < _; omega)).trans q1
  have HB6 := Aside0.mk (HB5.out.trans (bel6.mono HB5.out.size))
  have P6 := Aside0.mk (P5.below bel6)
  have SS6 := Aside0.mk S6
  have KAL := Aside0.mk (alive_calls _ m (HM.out HB6.out))
  clear q0 q1 bel6 S6 P5 HB5 HB4 HB3 HB2 KB1 KB3 HM KX KY
  unfold rangeOf at hr1 hr3
  by_cases hxy : y < x
  · have hxi : (y : Int) < (x : Int) := by omega
    rw [if_pos hxy] at hr1 hr3
    simp only [Prod.mk.injEq] at hr1 hr3
    obtain ⟨-, rfl, rfl⟩ := hr1
    obtain ⟨-, rfl, rfl⟩ := hr3
    clear hxy
    go_wp2_with (fail)
    refine KAL.out.mono ?_
    rintro e w7 ⟨rfl, hb7⟩
    go_wp2
    go_ret
    exact ⟨rfl, HB6.out.trans (hb7.mono HB6.out.size)⟩
  · have hxi : ¬ (y : Int) < (x : Int) := by omega
    rw [if_neg hxy, if_neg (by decide)] at hr1
    rw [if_neg hxy, if_pos rfl] at hr3
    simp only [Prod.mk.injEq] at hr1 hr3
    obtain ⟨hX1, rfl, rfl⟩ := hr1
    obtain ⟨hX3, rfl, rfl⟩ := hr3
    have hdiv : 64 * (c / 64) + c % 64 = c := Nat.div_add_mod c 64
    have hh := fun (s : Nat) (w : World) => has_calls s (c : Int) (c / 64) (c % 64) w (by omega) (Nat.mod_lt _ (by decide)) (by omega)
    rw [hdiv] at hh
    have K1 := Aside0.mk (hh X1)
    have K3 := Aside0.mk (hh X3)
    rw [← hX1, range_in] at K1
    rw [← hX3, range_out x y c hy hx hc] at K3
    rw [hX1] at K1
    rw [hX3] at K3
    clear hh hdiv hX1 hX3 hxy
    by_cases hxc : x ≤ c
    · have d1 : decide (x ≤ c) = true := decide_eq_true hxc
      have g1 : (x : Int) ≤ (c : Int) := by omega
      by_cases hcy : c ≤ y
      · have d2 : decide (c ≤ y) = true := decide_eq_true hcy
        have g2 : (c : Int) ≤ (y : Int) := by omega
        rw [d1, d2] at K1 K3
        clear d1 d2
        go_wp2_with (fail)
        refine KAL.out.mono ?_
        rintro e w7 ⟨rfl, hb7⟩
        have HB7 := Aside0.mk (HB6.out.trans (hb7.mono HB6.out.size))
        have P7 := Aside0.mk (P6.out.below hb7)
        have S7 := Aside0.mk (SS6.out.below hb7)
        clear q0' q1' hb7 HB6 P6 SS6
        obtain ⟨c0, c1, c2, c3⟩ := P7.out.cell
        go_wp2_with (fail)
        refine (K1.out _).mono ?_
        rintro e w8 ⟨rfl, hb8⟩
        have HB8 := Aside0.mk (HB7.out.trans (hb8.mono HB7.out.size))
        have S8 := Aside0.mk (S7.out.below hb8)
        clear c0 c1 c2 c3 hb8
        obtain ⟨c0, c1, c2, c3⟩ := S8.out.cell
        go_wp2_with (fail)
        refine (K3.out _).mono ?_
        rintro e w9 ⟨rfl, hb9⟩
        clear c0 c1 c2 c3
        go_wp2
        go_ret
        exact ⟨rfl, HB8.out.trans (hb9.mono HB8.out.size)⟩
      · have d2 : decide (c ≤ y) = false := decide_eq_false hcy
        have g2 : ¬ (c : Int) ≤ (y : Int) := by omega
        rw [d1, d2] at K1 K3
        clear d1 d2
        by_cases h10 : c = 10
        · subst h10
          rw [show decide ((10 : Nat) ≠ 10) = false from rfl] at K3
          replace g1 : (x : Int) ≤ 10 := by omega
          replace g2 : ¬ (10 : Int) ≤ (y : Int) := by omega
          go_wp2_with (fail)
          refine KAL.out.mono ?_
          rintro e w7 ⟨rfl, hb7⟩
          have HB7 := Aside0.mk (HB6.out.trans (hb7.mono HB6.out.size))
          have P7 := Aside0.mk (P6.out.below hb7)
          have S7 := Aside0.mk (SS6.out.below hb7)
          clear q0' q1' hb7 HB6 P6 SS6
          obtain ⟨c0, c1, c2, c3⟩ := P7.out.cell
          go_wp2_with (fail)
          refine (K1.out _).mono ?_
          rintro e w8 ⟨rfl, hb8⟩
          have HB8 := Aside0.mk (HB7.out.trans (hb8.mono HB7.out.size))
          have S8 := Aside0.mk (S7.out.below hb8)
          clear c0 c1 c2 c3 hb8
          obtain ⟨c0, c1, c2, c3⟩ := S8.out.cell
          go_wp2_with (fail)
          refine (K3.out _).mono ?_
          rintro e w9 ⟨rfl, hb9⟩
          clear c0 c1 c2 c3
          go_wp2
          go_ret
          refine ⟨?_, HB8.out.trans (hb9.mono HB8.out.size)⟩
          show Ending.returned (Value.bool !decide ((10 : Int) ≤ (y : Int))) = _
          rw [decide_eq_false (show ¬ (10 : Int) ≤ (y : Int) by omega)]
          rfl
        · have d3 : decide (c ≠ 10) = true := by simp [h10]
          have g3 : ¬ (c : Int) = 10 := by omega
          rw [d3] at K3
          clear d3 h10
          go_wp2_with (fail)
          refine KAL.out.mono ?_
          rintro e w7 ⟨rfl, hb7⟩
          have HB7 := Aside0.mk (HB6.out.trans (hb7.mono HB6.out.size))
          have P7 := Aside0.mk (P6.out.below hb7)
          have S7 := Aside0.mk (SS6.out.below hb7)
          clear q0' q1' hb7 HB6 P6 SS6
          obtain ⟨c0, c1, c2, c3⟩ := P7.out.cell
          go_wp2_with (fail)
          refine (K1.out _).mono ?_
          rintro e w8 ⟨rfl, hb8⟩
          have HB8 := Aside0.mk (HB7.out.trans (hb8.mono HB7.out.size))
          have S8 := Aside0.mk (S7.out.below hb8)
          clear c0 c1 c2 c3 hb8
          obtain ⟨c0, c1, c2, c3⟩ := S8.out.cell
          go_wp2_with (fail)
          refine (K3.out _).mono ?_
          rintro e w9 ⟨rfl, hb9⟩
          clear c0 c1 c2 c3
          go_wp2
          go_ret
          refine ⟨?_, HB8.out.trans (hb9.mono HB8.out.size)⟩
          show Ending.returned (Value.bool ((c : Int) != 10)) = _
          rw [show ((c : Int) != 10) = true by simp [g3]]
    · have d1 : decide (x ≤ c) = false := decide_eq_false hxc
      have g1 : ¬ (x : Int) ≤ (c : Int) := by omega
      rw [d1] at K1 K3
      clear d1
      by_cases h10 : c = 10
      · subst h10
        rw [show decide ((10 : Nat) ≠ 10) = false from rfl] at K3
        replace g1 : ¬ (x : Int) ≤ 10 := by omega
        go_wp2_with (fail)
        refine KAL.out.mono ?_
        rintro e w7 ⟨rfl, hb7⟩
        have HB7 := Aside0.mk (HB6.out.trans (hb7.mono HB6.out.size))
        have P7 := Aside0.mk (P6.out.below hb7)
        have S7 := Aside0.mk (SS6.out.below hb7)
        clear q0' q1' hb7 HB6 P6 SS6
        obtain ⟨c0, c1, c2, c3⟩ := P7.out.cell
        go_wp2_with (fail)
        refine (K1.out _).mono ?_
        rintro e w8 ⟨rfl, hb8⟩
        have HB8 := Aside0.mk (HB7.out.trans (hb8.mono HB7.out.size))
        have S8 := Aside0.mk (S7.out.below hb8)
        clear c0 c1 c2 c3 hb8
        obtain ⟨c0, c1, c2, c3⟩ := S8.out.cell
        go_wp2_with (fail)
        refine (K3.out _).mono ?_
        rintro e w9 ⟨rfl, hb9⟩
        clear c0 c1 c2 c3
        go_wp2
        go_ret
        exact ⟨rfl, HB8.out.trans (hb9.mono HB8.out.size)⟩
      · have d3 : decide (c ≠ 10) = true := by simp [h10]
        have g3 : ¬ (c : Int) = 10 := by omega
        rw [d3] at K3
        clear d3 h10
        go_wp2_with (fail)
        refine KAL.out.mono ?_
        rintro e w7 ⟨rfl, hb7⟩
        have HB7 := Aside0.mk (HB6.out.trans (hb7.mono HB6.out.size))
        have P7 := Aside0.mk (P6.out.below hb7)
        have S7 := Aside0.mk (SS6.out.below hb7)
        clear q0' q1' hb7 HB6 P6 SS6
        obtain ⟨c0, c1, c2, c3⟩ := P7.out.cell
        go_wp2_with (fail)
        refine (K1.out _).mono ?_
        rintro e w8 ⟨rfl, hb8⟩
        have HB8 := Aside0.mk (HB7.out.trans (hb8.mono HB7.out.size))
        have S8 := Aside0.mk (S7.out.below hb8)
        clear c0 c1 c2 c3 hb8
        obtain ⟨c0, c1, c2, c3⟩ := S8.out.cell
        go_wp2_with (fail)
        refine (K3.out _).mono ?_
        rintro e w9 ⟨rfl, hb9⟩
        clear c0 c1 c2 c3
        go_wp2
        go_ret
        refine ⟨?_, HB8.out.trans (hb9.mono HB8.out.size)⟩
        show Ending.returned (Value.bool ((c : Int) != 10)) = _
        rw [show ((c : Int) != 10) = true by simp [g3]]
end Go.Proofs.Ytglhhcgoppmipaa.Cl
