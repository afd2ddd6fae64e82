/- ClassInside, walked. -/
import Derived.Test.YtglhhcgoppmipaaAlive
import Derived.Test.YtglhhcgoppmipaaPureInside
import Derived.Test.YtglhhcgoppmipaaWalkRanges
import Derived.Test.YtglhhcgoppmipaaEq
import Derived.Test.YtglhhcgoppmipaaQuiet
namespace Go.Proofs.Ytglhhcgoppmipaa.Cl
open Go.RowKit Go.Proofs.YtglhhcgoppmipaaW.PrintWords

theorem hN (name : ByteArray) (k : Nat) (w : World) (_ : name.size < 1000000) (h : nm name.data.toList = some k) : Calls Try.prog 20 #[.string name] w fun e w' => e = .returned (.tuple #[St k, .bool (k != 0)]) ∧ Below w.heap.size w w' := by
  obtain rfl := Option.some.inj h
  rw [← Lib.toList_data]
  exact named_calls name w
set_option linter.unusedSimpArgs false in
set_option maxHeartbeats 8000000 in
theorem lawInside_calls (a b : ByteArray) (c : Nat) (w : World) (m : Int) (hm : w.cell? ⟨0, 0, none⟩ = some (.int .i64 m)) (hc : c < 256) :
    Calls Try.prog 8 #[.string a, .string b, .int .u8 (c : Int)] w fun e w' => e = .returned (.bool true) ∧ Below w.heap.size w w' := by
  have hw0 : 0 < w.heap.size := Go.block_lt_of_cell hm
  have KAL := Aside0.mk (alive_calls w m hm)
  by_cases h1 : 100 < a.size
  · have g1 : (100 : Int) < (a.size : Int) := by omega
    clear h1
    clear hm hw0 hc
    go_enter Try.func8, Try.ntmps8
    go_wp2_with (fail)
    refine KAL.out.mono ?_
    rintro e w1 ⟨rfl, hb⟩
    go_wp2
    go_ret
    exact ⟨rfl, hb⟩
  have g1 : ¬ (100 : Int) < (a.size : Int) := by omega
  by_cases h2 : 100 < b.size
  · have g2 : (100 : Int) < (b.size : Int) := by omega
    clear h1 h2
    clear hm hw0 hc
    go_enter Try.func8, Try.ntmps8
    go_wp2_with (fail)
    refine KAL.out.mono ?_
    rintro e w1 ⟨rfl, hb⟩
    go_wp2
    go_ret
    exact ⟨rfl, hb⟩
  have g2 : ¬ (100 : Int) < (b.size : Int) := by omega
  by_cases h3 : c < 48
  · have g3 : (c : Int) < 48 := by omega
    clear h1 h2 h3
    clear hm hw0 hc
    go_enter Try.func8, Try.ntmps8
    go_wp2_with (fail)
    refine KAL.out.mono ?_
    rintro e w1 ⟨rfl, hb⟩
    go_wp2
    go_ret
    exact ⟨rfl, hb⟩
  have g3 : ¬ (c : Int) < 48 := by omega
  by_cases h4 : 57 < c
  · have g4 : (57 : Int) < (c : Int) := by omega
    clear h1 h2 h3 h4
    clear hm hw0 hc
    go_enter Try.func8, Try.ntmps8
    go_wp2_with (fail)
    refine KAL.out.mono ?_
    rintro e w1 ⟨rfl, hb⟩
    go_wp2
    go_ret
    exact ⟨rfl, hb⟩
  have g4 : ¬ (57 : Int) < (c : Int) := by omega
  have KA := Aside0.mk (fun w => named_calls a w)
  have KB := Aside0.mk (fun w => named_calls b w)
  obtain ⟨A, hA⟩ : ∃ A, nset a.toList = A := ⟨_, rfl⟩
  obtain ⟨B, hB⟩ : ∃ B, nset b.toList = B := ⟨_, rfl⟩
  rw [hA] at KA
  rw [hB] at KB
  have HM : Aside0 (∀ {w' : World}, Below w.heap.size w w' → w'.cell? ⟨0, 0, none⟩ = some (.int .i64 m)) := ⟨fun h => (h.cell (p := ⟨0, 0, none⟩) hw0).trans hm⟩
  have HB := Aside0.mk (Below.refl w.heap.size w)
  clear hm KAL
  by_cases hz : A = 0 ∨ B = 0
  · by_cases hA0 : A = 0
    · have eA : (A != 0) = false := by simp [hA0]
      rw [eA] at KA
      clear eA hA0 hz
      obtain ⟨q, hq⟩ : ∃ q, (B != 0) = q := ⟨_, rfl⟩
      rw [hq] at KB
      clear hq
      clear hA hB h1 h2 h3 h4 hc hw0
      go_enter Try.func8, Try.ntmps8
      go_wp2_with (fail)
      refine (KA.out _).mono ?_
      rintro e w1 ⟨rfl, hb⟩
      rw [St_eq]
      replace HB := Aside0.mk (HB.out.trans (hb.mono HB.out.size))
      clear hb
      go_wp2_with (fail)
      obtain ⟨w2, hw2⟩ : ∃ z, z = w1.alloc (.cells #[.int .u64 (wd A 0), .int .u64 (wd A 1), .int .u64 (wd A 2), .int .u64 (wd A 3)] 24) := ⟨_, rfl⟩
      rw [← hw2]
      have bel : Below w1.heap.size w1 w2 := by rw [hw2]; exact (Below.refl w1.heap.size w1).alloc (Nat.le_refl _) _
      replace HB := Aside0.mk (HB.out.trans (bel.mono HB.out.size))
      have P7 : Aside0 (Var w1.heap.size A w2) := ⟨by rw [hw2]; exact Go.heap_alloc_new _ _⟩
      clear hw2 bel
      refine (KB.out _).mono ?_
      rintro e w3 ⟨rfl, hb⟩
      rw [St_eq]
      replace P7 := Aside0.mk (P7.out.below hb)
      replace HB := Aside0.mk (HB.out.trans (hb.mono HB.out.size))
      clear hb
      have HB4 : Aside0 (Below w.heap.size w (w3.alloc (.cells #[.int .u64 (wd B 0), .int .u64 (wd B 1), .int .u64 (wd B 2), .int .u64 (wd B 3)] 24))) := ⟨HB.out.alloc HB.out.size _⟩
      have KAL := Aside0.mk (alive_calls _ m (HM.out HB4.out))
      go_wp2_with (fail)
      refine KAL.out.mono ?_
      rintro e w5 ⟨rfl, hb⟩
      go_wp2
      go_ret
      exact ⟨rfl, HB4.out.trans (hb.mono HB4.out.size)⟩
    · have hB0 : B = 0 := hz.resolve_left hA0
      have eA : (A != 0) = true := by simpa using hA0
      have eB : (B != 0) = false := by simp [hB0]
      rw [eA] at KA
      rw [eB] at KB
      clear eA eB hA0 hB0 hz
      clear hA hB h1 h2 h3 h4 hc hw0
      go_enter Try.func8, Try.ntmps8
      go_wp2_with (fail)
      refine (KA.out _).mono ?_
      rintro e w1 ⟨rfl, hb⟩
      rw [St_eq]
      replace HB := Aside0.mk (HB.out.trans (hb.mono HB.out.size))
      clear hb
      go_wp2_with (fail)
      obtain ⟨w2, hw2⟩ : ∃ z, z = w1.alloc (.cells #[.int .u64 (wd A 0), .int .u64 (wd A 1), .int .u64 (wd A 2), .int .u64 (wd A 3)] 24) := ⟨_, rfl⟩
      rw [← hw2]
      have bel : Below w1.heap.size w1 w2 := by rw [hw2]; exact (Below.refl w1.heap.size w1).alloc (Nat.le_refl _) _
      replace HB := Aside0.mk (HB.out.trans (bel.mono HB.out.size))
      have P7 : Aside0 (Var w1.heap.size A w2) := ⟨by rw [hw2]; exact Go.heap_alloc_new _ _⟩
      clear hw2 bel
      refine (KB.out _).mono ?_
      rintro e w3 ⟨rfl, hb⟩
      rw [St_eq]
      replace P7 := Aside0.mk (P7.out.below hb)
      replace HB := Aside0.mk (HB.out.trans (hb.mono HB.out.size))
      clear hb
      have HB4 : Aside0 (Below w.heap.size w (w3.alloc (.cells #[.int .u64 (wd B 0), .int .u64 (wd B 1), .int .u64 (wd B 2), .int .u64 (wd B 3)] 24))) := ⟨HB.out.alloc HB.out.size _⟩
      have KAL := Aside0.mk (alive_calls _ m (HM.out HB4.out))
      go_wp2_with (fail)
      refine KAL.out.mono ?_
      rintro e w5 ⟨rfl, hb⟩
      go_wp2
      go_ret
      exact ⟨rfl, HB4.out.trans (hb.mono HB4.out.size)⟩
  have hA0 : A ≠ 0 := fun h => hz (.inl h)
  have hB0 : B ≠ 0 := fun h => hz (.inr h)
  have eA : (A != 0) = true := by simpa using hA0
  have eB : (B != 0) = true := by simpa using hB0
  rw [eA] at KA
  rw [eB] at KB
  clear eA eB hz
  have hna : nset a.data.toList ≠ 0 := by rw [← Lib.toList_data, hA]; exact hA0
  have hnb : nset b.data.toList ≠ 0 := by rw [← Lib.toList_data, hB]; exact hB0
  have hA' : nset a.data.toList = A := by rw [← Lib.toList_data]; exact hA
  have hB' : nset b.data.toList = B := by rw [← Lib.toList_data]; exact hB
  have hlA : A < 2 ^ 256 := by rw [← hA]; exact nset_lt _
  obtain ⟨U1, hU1⟩ : ∃ t, (⟨#[91, 58]⟩ : ByteArray) ++ a = t := ⟨_, rfl⟩
  obtain ⟨T1, hT1⟩ : ∃ t, U1 ++ (⟨#[58, 93, 93]⟩ : ByteArray) = t := ⟨_, rfl⟩
  obtain ⟨V0, hV0⟩ : ∃ t, strOfNums [(c : Int)] = t := ⟨_, rfl⟩
  obtain ⟨V1, hV1⟩ : ∃ t, V0 ++ (⟨#[91, 58]⟩ : ByteArray) = t := ⟨_, rfl⟩
  obtain ⟨V2, hV2⟩ : ∃ t, V1 ++ a = t := ⟨_, rfl⟩
  obtain ⟨V3, hV3⟩ : ∃ t, V2 ++ (⟨#[58, 93, 91, 58]⟩ : ByteArray) = t := ⟨_, rfl⟩
  obtain ⟨V4, hV4⟩ : ∃ t, V3 ++ b = t := ⟨_, rfl⟩
  obtain ⟨T2, hT2⟩ : ∃ t, V4 ++ (⟨#[58, 93, 93]⟩ : ByteArray) = t := ⟨_, rfl⟩
  obtain ⟨Z1, hZ1⟩ : ∃ t, (⟨#[94, 91, 58]⟩ : ByteArray) ++ a = t := ⟨_, rfl⟩
  obtain ⟨T3, hT3⟩ : ∃ t, Z1 ++ (⟨#[58, 93, 93]⟩ : ByteArray) = t := ⟨_, rfl⟩
  obtain ⟨bc, hbc⟩ : ∃ x, UInt8.ofNat ((c : Int)).toNat = x := ⟨_, rfl⟩
  have hbcn : bc.toNat = c := by rw [← hbc]; exact of_byte c hc
  have hl1 : T1.data.toList = 91 :: 58 :: (a.data.toList ++ [58, 93, 93]) := by rw [← hT1, app_toList, ← hU1, app_toList]; rfl
  have hl2 : T2.data.toList = bc :: 91 :: 58 :: (a.data.toList ++ 58 :: 93 :: 91 :: 58 :: (b.data.toList ++ [58, 93, 93])) := by
    rw [← hT2, app_toList, ← hV4, app_toList, ← hV3, app_toList, ← hV2, app_toList, ← hV1, app_toList, ← hV0, strOfNums_data, ← hbc]
    simp
  have hl3 : T3.data.toList = 94 :: 91 :: 58 :: (a.data.toList ++ [58, 93, 93]) := by rw [← hT3, app_toList, ← hZ1, app_toList]; rfl
  have z1 : T1.size < 1000000 := by rw [Lib.size_eq, hl1]; simp only [List.length_cons, List.length_append, List.length_nil]; rw [← Lib.size_eq]; omega
  have z2 : T2.size < 1000000 := by rw [Lib.size_eq, hl2]; simp only [List.length_cons, List.length_append, List.length_nil]; rw [← Lib.size_eq, ← Lib.size_eq]; omega
  have z3 : T3.size < 1000000 := by rw [Lib.size_eq, hl3]; simp only [List.length_cons, List.length_append, List.length_nil]; rw [← Lib.size_eq]; omega
  have K1 := Aside0.mk (fun (w : World) hm => bracket_calls nm hN nm_lt' T1 w m z1 hm (A, (a.size : Int) + 5, 0) (by rw [hl1, bracket_one _ hna, hA', ← Lib.size_eq]))
  have K2 := Aside0.mk (fun (w : World) hm => bracket_calls nm hN nm_lt' T2 w m z2 hm (wi 0 c (c + 1 - c) ||| A ||| B, (a.size : Int) + (b.size : Int) + 10, 0) (by rw [hl2, bracket_two bc _ _ (by omega) (by omega) hna hnb, hA', hB', hbcn, ← Lib.size_eq, ← Lib.size_eq]))
  have K3 := Aside0.mk (fun (w : World) hm => bracket_calls nm hN nm_lt' T3 w m z3 hm (compl (wi A 10 (10 + 1 - 10)), (a.size : Int) + 6, 0) (by rw [hl3, bracket_not _ hna, hA', ← Lib.size_eq]))
  rw [both_byte A B c] at K2
  have KO := Aside0.mk (fun w => both_calls A B w)
  have KW := Aside0.mk (fun w => with_calls (A ||| B) c c w hc hc)
  have KT := Aside0.mk (fun w => with_calls A 10 10 w (by decide) (by decide))
  have KN := Aside0.mk (fun w => not_calls (wi A 10 (10 + 1 - 10)) w (wi_lt _ _ _ hlA (by decide)))
  obtain ⟨AB, hAB⟩ : ∃ x, A ||| B = x := ⟨_, rfl⟩
  rw [hAB] at K2 KW
  simp only [hAB] at KO
  obtain ⟨W, hW⟩ : ∃ x, wi AB c (c + 1 - c) = x := ⟨_, rfl⟩
  rw [hW] at K2
  simp only [hW] at KW
  obtain ⟨X, hX⟩ : ∃ x, wi A 10 (10 + 1 - 10) = x := ⟨_, rfl⟩
  rw [hX] at K3 KN
  simp only [hX] at KT
  obtain ⟨R, hR⟩ : ∃ x, compl X = x := ⟨_, rfl⟩
  rw [hR] at K3
  simp only [hR] at KN
  have hlen5 : (a.size : Int) ≤ 100 := by omega
  have hlen6 : (b.size : Int) ≤ 100 := by omega
  have sU1 : U1.size = a.size + 2 := by rw [← hU1, ByteArray.size_append]; show 2 + a.size = _; omega
  have sV0 : V0.size = 1 := by rw [← hV0, strOfNums_size]; rfl
  have sV1 : V1.size = 3 := by rw [← hV1, ByteArray.size_append, sV0]; rfl
  have sV2 : V2.size = a.size + 3 := by rw [← hV2, ByteArray.size_append, sV1]; omega
  have sV3 : V3.size = a.size + 7 := by rw [← hV3, ByteArray.size_append, sV2]; rfl
  have sV4 : V4.size = a.size + b.size + 7 := by rw [← hV4, ByteArray.size_append, sV3]; omega
  have sZ1 : Z1.size = a.size + 3 := by rw [← hZ1, ByteArray.size_append]; show 3 + a.size = _; omega
  have sa : a.size ≤ 100 := by omega
  have sb : b.size ≤ 100 := by omega
  have hw5 : IntKind.i64.wrap ((a.size : Int) + 5) = (a.size : Int) + 5 := by rw [IntKind.wrap_i64]; omega
  have hw1 : IntKind.i64.wrap ((a.size : Int) + (b.size : Int)) = (a.size : Int) + (b.size : Int) := by rw [IntKind.wrap_i64]; omega
  have hw10 : IntKind.i64.wrap ((a.size : Int) + (b.size : Int) + 10) = (a.size : Int) + (b.size : Int) + 10 := by rw [IntKind.wrap_i64]; omega
  have mixed : Try.prog.follows Departure.mixedOrders = true := by kernel_rfl
  have hq := eq_same
  unfold St cs at KO KW KT KN
  have HV0 := Aside0.mk hV0
  clear hA hB hA0 hB0 hna hnb hA' hB' hlA hbc hbcn hl1 hl2 hl3 z1 z2 z3 hAB hW hX hR h1 h2 h3 h4 hw0 hV0
  go_enter Try.func8, Try.ntmps8
  go_wp2_with (fail)
  refine (KA.out _).mono ?_
  rintro e w1 ⟨rfl, hb⟩
  rw [St_eq]
  replace HB := Aside0.mk (HB.out.trans (hb.mono HB.out.size))
  clear hb
  go_wp2_with (fail)
  obtain ⟨w2, hw2⟩ : ∃ z, z = w1.alloc (.cells #[.int .u64 (wd A 0), .int .u64 (wd A 1), .int .u64 (wd A 2), .int .u64 (wd A 3)] 24) := ⟨_, rfl⟩
  rw [← hw2]
  have bel : Below w1.heap.size w1 w2 := by rw [hw2]; exact (Below.refl w1.heap.size w1).alloc (Nat.le_refl _) _
  replace HB := Aside0.mk (HB.out.trans (bel.mono HB.out.size))
  have P7 : Aside0 (Var w1.heap.size A w2) := ⟨by rw [hw2]; exact Go.heap_alloc_new _ _⟩
  clear hw2 bel
  refine (KB.out _).mono ?_
  rintro e w3 ⟨rfl, hb⟩
  rw [St_eq]
  replace P7 := Aside0.mk (P7.out.below hb)
  replace HB := Aside0.mk (HB.out.trans (hb.mono HB.out.size))
  clear hb
  go_wp2_with (fail)
  obtain ⟨w4, hw4⟩ : ∃ z, z = w3.alloc (.cells #[.int .u64 (wd B 0), .int .u64 (wd B 1), .int .u64 (wd B 2), .int .u64 (wd B 3)] 24) := ⟨_, rfl⟩
  rw [← hw4]
  have bel : Below w3.heap.size w3 w4 := by rw [hw4]; exact (Below.refl w3.heap.size w3).alloc (Nat.le_refl _) _
  replace P7 := Aside0.mk (P7.out.below bel)
  replace HB := Aside0.mk (HB.out.trans (bel.mono HB.out.size))
  have P9 : Aside0 (Var w3.heap.size B w4) := ⟨by rw [hw4]; exact Go.heap_alloc_new _ _⟩
  clear hw4 bel
  refine (K1.out _ (HM.out HB.out)).mono ?_
  rintro e w5 ⟨rfl, hb⟩
  rw [St_eq]
  replace P7 := Aside0.mk (P7.out.below hb)
  replace P9 := Aside0.mk (P9.out.below hb)
  replace HB := Aside0.mk (HB.out.trans (hb.mono HB.out.size))
  clear hb
  have e5 : (w5.alloc (.cells #[.int .u64 (wd A 0), .int .u64 (wd A 1), .int .u64 (wd A 2), .int .u64 (wd A 3)] 24)).heap.size = w5.heap.size + 1 := by simp
  have kc : (convert 39 9 (.slice (some ⟨w5.heap.size + 1, 0, none⟩) 1 1)).run Try.prog ((w5.alloc (.cells #[.int .u64 (wd A 0), .int .u64 (wd A 1), .int .u64 (wd A 2), .int .u64 (wd A 3)] 24)).alloc (.cells #[.int .u8 (c : Int)] 5)) = .ok (.string V0) ((w5.alloc (.cells #[.int .u64 (wd A 0), .int .u64 (wd A 1), .int .u64 (wd A 2), .int .u64 (wd A 3)] 24)).alloc (.cells #[.int .u8 (c : Int)] 5)) := by
    rw [← e5, ← HV0.out]
    exact conv_lit (w5.alloc (.cells #[.int .u64 (wd A 0), .int .u64 (wd A 1), .int .u64 (wd A 2), .int .u64 (wd A 3)] 24)) [(c : Int)]
  clear e5
  go_wp2_with (fail)
  clear kc hU1 hT1 hV1 hV2 hV3 hV4 hT2
  obtain ⟨w6, hw6⟩ : ∃ z, z = w5.alloc (.cells #[.int .u64 (wd A 0), .int .u64 (wd A 1), .int .u64 (wd A 2), .int .u64 (wd A 3)] 24) := ⟨_, rfl⟩
  rw [← hw6]
  have bel : Below w5.heap.size w5 w6 := by rw [hw6]; exact (Below.refl w5.heap.size w5).alloc (Nat.le_refl _) _
  replace P7 := Aside0.mk (P7.out.below bel)
  replace P9 := Aside0.mk (P9.out.below bel)
  replace HB := Aside0.mk (HB.out.trans (bel.mono HB.out.size))
  have P11 : Aside0 (Var w5.heap.size A w6) := ⟨by rw [hw6]; exact Go.heap_alloc_new _ _⟩
  clear hw6 bel
  obtain ⟨w7, hw7⟩ : ∃ z, z = w6.alloc (.cells #[.int .u8 (c : Int)] 5) := ⟨_, rfl⟩
  rw [← hw7]
  have bel : Below w6.heap.size w6 w7 := by rw [hw7]; exact (Below.refl w6.heap.size w6).alloc (Nat.le_refl _) _
  replace P7 := Aside0.mk (P7.out.below bel)
  replace P9 := Aside0.mk (P9.out.below bel)
  replace P11 := Aside0.mk (P11.out.below bel)
  replace HB := Aside0.mk (HB.out.trans (bel.mono HB.out.size))
  clear hw7 bel
  refine (K2.out _ (HM.out HB.out)).mono ?_
  rintro e w8 ⟨rfl, hb⟩
  rw [St_eq]
  replace P7 := Aside0.mk (P7.out.below hb)
  replace P9 := Aside0.mk (P9.out.below hb)
  replace P11 := Aside0.mk (P11.out.below hb)
  replace HB := Aside0.mk (HB.out.trans (hb.mono HB.out.size))
  clear hb
  go_wp2_with (fail)
  clear hZ1 hT3
  obtain ⟨w9, hw9⟩ : ∃ z, z = w8.alloc (.cells #[.int .u64 (wd W 0), .int .u64 (wd W 1), .int .u64 (wd W 2), .int .u64 (wd W 3)] 24) := ⟨_, rfl⟩
  rw [← hw9]
  have bel : Below w8.heap.size w8 w9 := by rw [hw9]; exact (Below.refl w8.heap.size w8).alloc (Nat.le_refl _) _
  replace P7 := Aside0.mk (P7.out.below bel)
  replace P9 := Aside0.mk (P9.out.below bel)
  replace P11 := Aside0.mk (P11.out.below bel)
  replace HB := Aside0.mk (HB.out.trans (bel.mono HB.out.size))
  have P14 : Aside0 (Var w8.heap.size W w9) := ⟨by rw [hw9]; exact Go.heap_alloc_new _ _⟩
  clear hw9 bel
  refine (K3.out _ (HM.out HB.out)).mono ?_
  rintro e w10 ⟨rfl, hb⟩
  rw [St_eq]
  replace P7 := Aside0.mk (P7.out.below hb)
  replace P9 := Aside0.mk (P9.out.below hb)
  replace P11 := Aside0.mk (P11.out.below hb)
  replace P14 := Aside0.mk (P14.out.below hb)
  replace HB := Aside0.mk (HB.out.trans (hb.mono HB.out.size))
  clear hb
  have bel : Below w10.heap.size w10 (w10.alloc (.cells #[.int .u64 (wd R 0), .int .u64 (wd R 1), .int .u64 (wd R 2), .int .u64 (wd R 3)] 24)) := (Below.refl w10.heap.size w10).alloc (Nat.le_refl _) _
  have P17 : Aside0 (Var w10.heap.size R (w10.alloc (.cells #[.int .u64 (wd R 0), .int .u64 (wd R 1), .int .u64 (wd R 2), .int .u64 (wd R 3)] 24))) := ⟨Go.heap_alloc_new _ _⟩
  replace P7 := Aside0.mk (P7.out.below bel)
  replace P9 := Aside0.mk (P9.out.below bel)
  replace P11 := Aside0.mk (P11.out.below bel)
  replace P14 := Aside0.mk (P14.out.below bel)
  replace HB := Aside0.mk (HB.out.trans (bel.mono HB.out.size))
  clear bel
  obtain ⟨c0, c1, c2, c3⟩ := P7.out.cell
  obtain ⟨d0, d1, d2, d3⟩ := P9.out.cell
  go_wp2_with (fail)
  clear c0 c1 c2 c3 d0 d1 d2 d3
  refine (KO.out _).mono ?_
  rintro e w11 ⟨rfl, hb⟩
  replace P7 := Aside0.mk (P7.out.below hb)
  replace P9 := Aside0.mk (P9.out.below hb)
  replace P11 := Aside0.mk (P11.out.below hb)
  replace P14 := Aside0.mk (P14.out.below hb)
  replace P17 := Aside0.mk (P17.out.below hb)
  replace HB := Aside0.mk (HB.out.trans (hb.mono HB.out.size))
  clear hb
  go_wp2_with (fail)
  refine (KW.out _).mono ?_
  rintro e w12 ⟨rfl, hb⟩
  replace P7 := Aside0.mk (P7.out.below hb)
  replace P9 := Aside0.mk (P9.out.below hb)
  replace P11 := Aside0.mk (P11.out.below hb)
  replace P14 := Aside0.mk (P14.out.below hb)
  replace P17 := Aside0.mk (P17.out.below hb)
  replace HB := Aside0.mk (HB.out.trans (hb.mono HB.out.size))
  clear hb
  go_wp2
  obtain ⟨w13, hw13⟩ : ∃ z, z = w12.alloc (.cells #[.int .u64 (wd W 0), .int .u64 (wd W 1), .int .u64 (wd W 2), .int .u64 (wd W 3)] 24) := ⟨_, rfl⟩
  rw [← hw13]
  have bel : Below w12.heap.size w12 w13 := by rw [hw13]; exact (Below.refl w12.heap.size w12).alloc (Nat.le_refl _) _
  replace P7 := Aside0.mk (P7.out.below bel)
  replace P9 := Aside0.mk (P9.out.below bel)
  replace P11 := Aside0.mk (P11.out.below bel)
  replace P14 := Aside0.mk (P14.out.below bel)
  replace P17 := Aside0.mk (P17.out.below bel)
  replace HB := Aside0.mk (HB.out.trans (bel.mono HB.out.size))
  have P20 : Aside0 (Var w12.heap.size W w13) := ⟨by rw [hw13]; exact Go.heap_alloc_new _ _⟩
  clear hw13 bel
  have lP7 := P7.out.lt
  obtain ⟨p0, p1, p2, p3⟩ := P7.out.cell
  have lP11 := P11.out.lt
  obtain ⟨q0, q1, q2, q3⟩ := P11.out.cell
  have lP14 := P14.out.lt
  obtain ⟨r0, r1, r2, r3⟩ := P14.out.cell
  have lP17 := P17.out.lt
  obtain ⟨s0, s1, s2, s3⟩ := P17.out.cell
  have lP20 := P20.out.lt
  obtain ⟨t0, t1, t2, t3⟩ := P20.out.cell
  have hcells : ∀ w', Below w13.heap.size w13 w' → (w'.cell? ⟨0, 0, none⟩ = some (.int .i64 m) ∧ w'.cell? ⟨w1.heap.size, 0, none⟩ = some (.int .u64 (wd A 0)) ∧ w'.cell? ⟨w1.heap.size, 1, none⟩ = some (.int .u64 (wd A 1)) ∧ w'.cell? ⟨w1.heap.size, 2, none⟩ = some (.int .u64 (wd A 2)) ∧ w'.cell? ⟨w1.heap.size, 3, none⟩ = some (.int .u64 (wd A 3)) ∧ w'.cell? ⟨w5.heap.size, 0, none⟩ = some (.int .u64 (wd A 0)) ∧ w'.cell? ⟨w5.heap.size, 1, none⟩ = some (.int .u64 (wd A 1)) ∧ w'.cell? ⟨w5.heap.size, 2, none⟩ = some (.int .u64 (wd A 2)) ∧ w'.cell? ⟨w5.heap.size, 3, none⟩ = some (.int .u64 (wd A 3)) ∧ w'.cell? ⟨w8.heap.size, 0, none⟩ = some (.int .u64 (wd W 0)) ∧ w'.cell? ⟨w8.heap.size, 1, none⟩ = some (.int .u64 (wd W 1)) ∧ w'.cell? ⟨w8.heap.size, 2, none⟩ = some (.int .u64 (wd W 2)) ∧ w'.cell? ⟨w8.heap.size, 3, none⟩ = some (.int .u64 (wd W 3)) ∧ w'.cell? ⟨w10.heap.size, 0, none⟩ = some (.int .u64 (wd R 0)) ∧ w'.cell? ⟨w10.heap.size, 1, none⟩ = some (.int .u64 (wd R 1)) ∧ w'.cell? ⟨w10.heap.size, 2, none⟩ = some (.int .u64 (wd R 2)) ∧ w'.cell? ⟨w10.heap.size, 3, none⟩ = some (.int .u64 (wd R 3)) ∧ w'.cell? ⟨w12.heap.size, 0, none⟩ = some (.int .u64 (wd W 0)) ∧ w'.cell? ⟨w12.heap.size, 1, none⟩ = some (.int .u64 (wd W 1)) ∧ w'.cell? ⟨w12.heap.size, 2, none⟩ = some (.int .u64 (wd W 2)) ∧ w'.cell? ⟨w12.heap.size, 3, none⟩ = some (.int .u64 (wd W 3))) := fun w' hb => ⟨HM.out (HB.out.trans (hb.mono HB.out.size)), (hb.cell (p := ⟨w1.heap.size, 0, none⟩) lP7).trans p0, (hb.cell (p := ⟨w1.heap.size, 1, none⟩) lP7).trans p1, (hb.cell (p := ⟨w1.heap.size, 2, none⟩) lP7).trans p2, (hb.cell (p := ⟨w1.heap.size, 3, none⟩) lP7).trans p3, (hb.cell (p := ⟨w5.heap.size, 0, none⟩) lP11).trans q0, (hb.cell (p := ⟨w5.heap.size, 1, none⟩) lP11).trans q1, (hb.cell (p := ⟨w5.heap.size, 2, none⟩) lP11).trans q2, (hb.cell (p := ⟨w5.heap.size, 3, none⟩) lP11).trans q3, (hb.cell (p := ⟨w8.heap.size, 0, none⟩) lP14).trans r0, (hb.cell (p := ⟨w8.heap.size, 1, none⟩) lP14).trans r1, (hb.cell (p := ⟨w8.heap.size, 2, none⟩) lP14).trans r2, (hb.cell (p := ⟨w8.heap.size, 3, none⟩) lP14).trans r3, (hb.cell (p := ⟨w10.heap.size, 0, none⟩) lP17).trans s0, (hb.cell (p := ⟨w10.heap.size, 1, none⟩) lP17).trans s1, (hb.cell (p := ⟨w10.heap.size, 2, none⟩) lP17).trans s2, (hb.cell (p := ⟨w10.heap.size, 3, none⟩) lP17).trans s3, (hb.cell (p := ⟨w12.heap.size, 0, none⟩) lP20).trans t0, (hb.cell (p := ⟨w12.heap.size, 1, none⟩) lP20).trans t1, (hb.cell (p := ⟨w12.heap.size, 2, none⟩) lP20).trans t2, (hb.cell (p := ⟨w12.heap.size, 3, none⟩) lP20).trans t3⟩
  clear p0 p1 p2 p3 q0 q1 q2 q3 r0 r1 r2 r3 s0 s1 s2 s3 t0 t1 t2 t3
  refine Qu.region mixed (by kernel_rfl) ?_
  refine Qu.step_call (v := ?_) (f := ?_) (args := ?_) (by kernel_rfl) ?_ ?_ ?_
  rotate_left 3
  · (intro w' hb; go_simp; first | with_reducible rfl | (constructor <;> with_reducible rfl))
  · (intro w' hb; refine (alive_calls w' m (hcells w' hb).1).mono ?_; rintro e w4 ⟨rfl, hb4⟩; refine ⟨?_, hb.trans (hb4.mono hb.size)⟩; with_reducible rfl)
  simp only [Act.put, List.setIfInBounds_toArray, List.set_cons_zero, List.set_cons_succ]
  refine Qu.step_run (v := ?_) (by kernel_rfl) ?_ ?_
  rotate_left
  · (intro w' hb; go_simp; with_reducible rfl)
  simp only [Act.put, List.setIfInBounds_toArray, List.set_cons_zero, List.set_cons_succ]
  refine Qu.step_run (v := ?_) (by kernel_rfl) ?_ ?_
  rotate_left
  · (intro w' hb; go_simp; with_reducible rfl)
  simp only [Act.put, List.setIfInBounds_toArray, List.set_cons_zero, List.set_cons_succ]
  refine Qu.step_run (v := ?_) (by kernel_rfl) ?_ ?_
  rotate_left
  · (intro w' hb; go_simp; with_reducible rfl)
  simp only [Act.put, List.setIfInBounds_toArray, List.set_cons_zero, List.set_cons_succ]
  refine Qu.step_run (v := ?_) (by kernel_rfl) ?_ ?_
  rotate_left
  · (intro w' hb; go_simp; with_reducible rfl)
  simp only [Act.put, List.setIfInBounds_toArray, List.set_cons_zero, List.set_cons_succ]
  refine Qu.step_run (v := ?_) (by kernel_rfl) ?_ ?_
  rotate_left
  · (intro w' hb; go_simp; with_reducible rfl)
  simp only [Act.put, List.setIfInBounds_toArray, List.set_cons_zero, List.set_cons_succ]
  refine Qu.step_run (v := ?_) (by kernel_rfl) ?_ ?_
  rotate_left
  · (intro w' hb; go_simp; with_reducible rfl)
  simp only [Act.put, List.setIfInBounds_toArray, List.set_cons_zero, List.set_cons_succ]
  refine Qu.step_run (v := ?_) (by kernel_rfl) ?_ ?_
  rotate_left
  · (intro w' hb; go_simp; with_reducible rfl)
  simp only [Act.put, List.setIfInBounds_toArray, List.set_cons_zero, List.set_cons_succ]
  refine Qu.step_run (v := ?_) (by kernel_rfl) ?_ ?_
  rotate_left
  · (intro w' hb; go_simp; with_reducible rfl)
  simp only [Act.put, List.setIfInBounds_toArray, List.set_cons_zero, List.set_cons_succ]
  refine Qu.step_run (v := ?_) (by kernel_rfl) ?_ ?_
  rotate_left
  · (intro w' hb; go_simp; with_reducible rfl)
  simp only [Act.put, List.setIfInBounds_toArray, List.set_cons_zero, List.set_cons_succ]
  refine Qu.step_run (v := ?_) (by kernel_rfl) ?_ ?_
  rotate_left
  · (intro w' hb; go_simp; with_reducible rfl)
  simp only [Act.put, List.setIfInBounds_toArray, List.set_cons_zero, List.set_cons_succ]
  refine Qu.step_run (v := ?_) (by kernel_rfl) ?_ ?_
  rotate_left
  · (intro w' hb; go_simp; with_reducible rfl)
  simp only [Act.put, List.setIfInBounds_toArray, List.set_cons_zero, List.set_cons_succ]
  refine Qu.step_run (v := ?_) (by kernel_rfl) ?_ ?_
  rotate_left
  · (intro w' hb; go_simp; with_reducible rfl)
  simp only [Act.put, List.setIfInBounds_toArray, List.set_cons_zero, List.set_cons_succ]
  refine Qu.step_run (v := ?_) (by kernel_rfl) ?_ ?_
  rotate_left
  · (intro w' hb; go_simp; with_reducible rfl)
  simp only [Act.put, List.setIfInBounds_toArray, List.set_cons_zero, List.set_cons_succ]
  refine Qu.step_run (v := ?_) (by kernel_rfl) ?_ ?_
  rotate_left
  · (intro w' hb; obtain ⟨-, p0, p1, p2, p3, q0, q1, q2, q3, r0, r1, r2, r3, s0, s1, s2, s3, t0, t1, t2, t3⟩ := hcells w' hb; go_simp; with_reducible rfl)
  simp only [Act.put, List.setIfInBounds_toArray, List.set_cons_zero, List.set_cons_succ]
  refine Qu.step_run (v := ?_) (by kernel_rfl) ?_ ?_
  rotate_left
  · (intro w' hb; obtain ⟨-, p0, p1, p2, p3, q0, q1, q2, q3, r0, r1, r2, r3, s0, s1, s2, s3, t0, t1, t2, t3⟩ := hcells w' hb; go_simp; with_reducible rfl)
  simp only [Act.put, List.setIfInBounds_toArray, List.set_cons_zero, List.set_cons_succ]
  refine Qu.step_run (v := ?_) (by kernel_rfl) ?_ ?_
  rotate_left
  · (intro w' hb; go_simp; with_reducible rfl)
  simp only [Act.put, List.setIfInBounds_toArray, List.set_cons_zero, List.set_cons_succ]
  refine Qu.step_run (v := ?_) (by kernel_rfl) ?_ ?_
  rotate_left
  · (intro w' hb; go_simp; with_reducible rfl)
  simp only [Act.put, List.setIfInBounds_toArray, List.set_cons_zero, List.set_cons_succ]
  refine Qu.step_run (v := ?_) (by kernel_rfl) ?_ ?_
  rotate_left
  · (intro w' hb; go_simp; with_reducible rfl)
  simp only [Act.put, List.setIfInBounds_toArray, List.set_cons_zero, List.set_cons_succ]
  refine Qu.step_run (v := ?_) (by kernel_rfl) ?_ ?_
  rotate_left
  · (intro w' hb; obtain ⟨-, p0, p1, p2, p3, q0, q1, q2, q3, r0, r1, r2, r3, s0, s1, s2, s3, t0, t1, t2, t3⟩ := hcells w' hb; go_simp; with_reducible rfl)
  simp only [Act.put, List.setIfInBounds_toArray, List.set_cons_zero, List.set_cons_succ]
  refine Qu.step_run (v := ?_) (by kernel_rfl) ?_ ?_
  rotate_left
  · (intro w' hb; obtain ⟨-, p0, p1, p2, p3, q0, q1, q2, q3, r0, r1, r2, r3, s0, s1, s2, s3, t0, t1, t2, t3⟩ := hcells w' hb; go_simp; with_reducible rfl)
  simp only [Act.put, List.setIfInBounds_toArray, List.set_cons_zero, List.set_cons_succ]
  refine Qu.step_run (v := ?_) (by kernel_rfl) ?_ ?_
  rotate_left
  · (intro w' hb; go_simp; with_reducible rfl)
  simp only [Act.put, List.setIfInBounds_toArray, List.set_cons_zero, List.set_cons_succ]
  refine Qu.step_run (v := ?_) (by kernel_rfl) ?_ ?_
  rotate_left
  · (intro w' hb; go_simp; with_reducible rfl)
  simp only [Act.put, List.setIfInBounds_toArray, List.set_cons_zero, List.set_cons_succ]
  refine Qu.step_run (v := ?_) (by kernel_rfl) ?_ ?_
  rotate_left
  · (intro w' hb; go_simp; with_reducible rfl)
  simp only [Act.put, List.setIfInBounds_toArray, List.set_cons_zero, List.set_cons_succ]
  refine Qu.step_run (v := ?_) (by kernel_rfl) ?_ ?_
  rotate_left
  · (intro w' hb; obtain ⟨-, p0, p1, p2, p3, q0, q1, q2, q3, r0, r1, r2, r3, s0, s1, s2, s3, t0, t1, t2, t3⟩ := hcells w' hb; go_simp; with_reducible rfl)
  simp only [Act.put, List.setIfInBounds_toArray, List.set_cons_zero, List.set_cons_succ]
  refine Qu.step_run (v := ?_) (by kernel_rfl) ?_ ?_
  rotate_left
  · (intro w' hb; obtain ⟨-, p0, p1, p2, p3, q0, q1, q2, q3, r0, r1, r2, r3, s0, s1, s2, s3, t0, t1, t2, t3⟩ := hcells w' hb; go_simp; with_reducible rfl)
  simp only [Act.put, List.setIfInBounds_toArray, List.set_cons_zero, List.set_cons_succ]
  refine Qu.step_call (v := ?_) (f := ?_) (args := ?_) (by kernel_rfl) ?_ ?_ ?_
  rotate_left 3
  · (intro w' hb; go_simp; first | with_reducible rfl | (constructor <;> with_reducible rfl))
  · (intro w' hb; refine (KT.out w').mono ?_; rintro e w4 ⟨rfl, hb4⟩; refine ⟨?_, hb.trans (hb4.mono hb.size)⟩; with_reducible rfl)
  simp only [Act.put, List.setIfInBounds_toArray, List.set_cons_zero, List.set_cons_succ]
  refine Qu.step_call (v := ?_) (f := ?_) (args := ?_) (by kernel_rfl) ?_ ?_ ?_
  rotate_left 3
  · (intro w' hb; go_simp; first | with_reducible rfl | (constructor <;> with_reducible rfl))
  · (intro w' hb; refine (KN.out w').mono ?_; rintro e w4 ⟨rfl, hb4⟩; refine ⟨?_, hb.trans (hb4.mono hb.size)⟩; with_reducible rfl)
  simp only [Act.put, List.setIfInBounds_toArray, List.set_cons_zero, List.set_cons_succ]
  refine Qu.step_run (v := ?_) (by kernel_rfl) ?_ ?_
  rotate_left
  · (intro w' hb; go_simp; with_reducible rfl)
  simp only [Act.put, List.setIfInBounds_toArray, List.set_cons_zero, List.set_cons_succ]
  refine Qu.step_run (v := ?_) (by kernel_rfl) ?_ ?_
  rotate_left
  · (intro w' hb; go_simp; with_reducible rfl)
  simp only [Act.put, List.setIfInBounds_toArray, List.set_cons_zero, List.set_cons_succ]
  refine Qu.step_run (v := ?_) (by kernel_rfl) ?_ ?_
  rotate_left
  · (intro w' hb; go_simp; with_reducible rfl)
  simp only [Act.put, List.setIfInBounds_toArray, List.set_cons_zero, List.set_cons_succ]
  refine Qu.step_run (v := ?_) (by kernel_rfl) ?_ ?_
  rotate_left
  · (intro w' hb; go_simp; with_reducible rfl)
  simp only [Act.put, List.setIfInBounds_toArray, List.set_cons_zero, List.set_cons_succ]
  refine Qu.step_run (v := ?_) (by kernel_rfl) ?_ ?_
  rotate_left
  · (intro w' hb; go_simp; with_reducible rfl)
  simp only [Act.put, List.setIfInBounds_toArray, List.set_cons_zero, List.set_cons_succ]
  refine Qu.step_run (v := ?_) (by kernel_rfl) ?_ ?_
  rotate_left
  · (intro w' hb; go_simp; with_reducible rfl)
  simp only [Act.put, List.setIfInBounds_toArray, List.set_cons_zero, List.set_cons_succ]
  refine Qu.step_run (v := ?_) (by kernel_rfl) ?_ ?_
  rotate_left
  · (intro w' hb; go_simp; with_reducible rfl)
  simp only [Act.put, List.setIfInBounds_toArray, List.set_cons_zero, List.set_cons_succ]
  refine Qu.step_run (v := ?_) (by kernel_rfl) ?_ ?_
  rotate_left
  · (intro w' hb; go_simp; with_reducible rfl)
  simp only [Act.put, List.setIfInBounds_toArray, List.set_cons_zero, List.set_cons_succ]
  refine Qu.step_run (v := ?_) (by kernel_rfl) ?_ ?_
  rotate_left
  · (intro w' hb; go_simp; with_reducible rfl)
  simp only [Act.put, List.setIfInBounds_toArray, List.set_cons_zero, List.set_cons_succ]
  refine Qu.step_run (v := ?_) (by kernel_rfl) ?_ ?_
  rotate_left
  · (intro w' hb; go_simp; with_reducible rfl)
  simp only [Act.put, List.setIfInBounds_toArray, List.set_cons_zero, List.set_cons_succ]
  refine Qu.step_run (v := ?_) (by kernel_rfl) ?_ ?_
  rotate_left
  · (intro w' hb; go_simp; with_reducible rfl)
  simp only [Act.put, List.setIfInBounds_toArray, List.set_cons_zero, List.set_cons_succ]
  refine Qu.step_run (v := ?_) (by kernel_rfl) ?_ ?_
  rotate_left
  · (intro w' hb; go_simp; with_reducible rfl)
  simp only [Act.put, List.setIfInBounds_toArray, List.set_cons_zero, List.set_cons_succ]
  refine Qu.step_run (v := ?_) (by kernel_rfl) ?_ ?_
  rotate_left
  · (intro w' hb; go_simp; with_reducible rfl)
  simp only [Act.put, List.setIfInBounds_toArray, List.set_cons_zero, List.set_cons_succ]
  refine Qu.step_run (v := ?_) (by kernel_rfl) ?_ ?_
  rotate_left
  · (intro w' hb; go_simp; with_reducible rfl)
  simp only [Act.put, List.setIfInBounds_toArray, List.set_cons_zero, List.set_cons_succ]
  refine Qu.step_run (v := ?_) (by kernel_rfl) ?_ ?_
  rotate_left
  · (intro w' hb; go_simp; with_reducible rfl)
  simp only [Act.put, List.setIfInBounds_toArray, List.set_cons_zero, List.set_cons_succ]
  refine Qu.step_run (v := ?_) (by kernel_rfl) ?_ ?_
  rotate_left
  · (intro w' hb; go_simp; with_reducible rfl)
  simp only [Act.put, List.setIfInBounds_toArray, List.set_cons_zero, List.set_cons_succ]
  refine Qu.step_run (v := ?_) (by kernel_rfl) ?_ ?_
  rotate_left
  · (intro w' hb; go_simp; with_reducible rfl)
  simp only [Act.put, List.setIfInBounds_toArray, List.set_cons_zero, List.set_cons_succ]
  refine Qu.step_run (v := ?_) (by kernel_rfl) ?_ ?_
  rotate_left
  · (intro w' hb; go_simp; with_reducible rfl)
  simp only [Act.put, List.setIfInBounds_toArray, List.set_cons_zero, List.set_cons_succ]
  refine Qu.step_run (v := ?_) (by kernel_rfl) ?_ ?_
  rotate_left
  · (intro w' hb; go_simp; with_reducible rfl)
  simp only [Act.put, List.setIfInBounds_toArray, List.set_cons_zero, List.set_cons_succ]
  refine Qu.step_run (v := ?_) (by kernel_rfl) ?_ ?_
  rotate_left
  · (intro w' hb; go_simp; with_reducible rfl)
  simp only [Act.put, List.setIfInBounds_toArray, List.set_cons_zero, List.set_cons_succ]
  refine Qu.done ?_
  intro w9 hb9
  go_wp2
  go_ret
  exact ⟨rfl, HB.out.trans (hb9.mono HB.out.size)⟩
end Go.Proofs.Ytglhhcgoppmipaa.Cl
