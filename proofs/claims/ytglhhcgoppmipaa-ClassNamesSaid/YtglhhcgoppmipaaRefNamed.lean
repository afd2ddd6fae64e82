/- headgateref08.Named. -/
import Derived.Test.YtglhhcgoppmipaaNamed1
import Derived.Test.YtglhhcgoppmipaaIn
import Derived.Test.YtglhhcgoppmipaaAdd
import Derived.Test.YtglhhcgoppmipaaRefs2
namespace Go.Proofs.Ytglhhcgoppmipaa.Cl
open Go.RowKit Go.Proofs.YtglhhcgoppmipaaW.PrintWords

set_option linter.unusedSimpArgs false in
theorem inv_nset (l : List UInt8) : (nset l ≠ 0 ∧ ∀ c, c < 256 → inv l c = if (nset l).testBit c = true then 1 else 0) ∨ (nset l = 0 ∧ ∀ c, inv l c = -1) := by
  by_cases h0 : l = [97, 108, 112, 104, 97]
  · subst h0
    left
    refine ⟨by decide +kernel, fun c hc => ?_⟩
    show (if up c = true ∨ lw c = true then (1 : Int) else 0) = if (UP ||| LO).testBit c = true then 1 else 0
    have hiff : (up c = true ∨ lw c = true) ↔ (UP ||| LO).testBit c = true := by
      unfold up lw UP LO
      simp only [Nat.testBit_or, wi_bit, Nat.zero_testBit, Bool.false_or, Bool.or_eq_true, Bool.and_eq_true, Bool.not_eq_true', Bool.or_eq_false_iff, Bool.and_eq_false_iff, decide_eq_true_eq, decide_eq_false_iff_not, Bool.not_eq_false']
      omega
    by_cases hp : up c = true ∨ lw c = true
    · rw [if_pos hp, if_pos (hiff.1 hp)]
    · rw [if_neg hp, if_neg (fun h => hp (hiff.2 h))]
  by_cases h1 : l = [100, 105, 103, 105, 116]
  · subst h1
    left
    refine ⟨by decide +kernel, fun c hc => ?_⟩
    show (if dg c = true then (1 : Int) else 0) = if (DI).testBit c = true then 1 else 0
    have hiff : (dg c = true) ↔ (DI).testBit c = true := by
      unfold dg DI
      simp only [Nat.testBit_or, wi_bit, Nat.zero_testBit, Bool.false_or, Bool.or_eq_true, Bool.and_eq_true, Bool.not_eq_true', Bool.or_eq_false_iff, Bool.and_eq_false_iff, decide_eq_true_eq, decide_eq_false_iff_not, Bool.not_eq_false']
      omega
    by_cases hp : dg c = true
    · rw [if_pos hp, if_pos (hiff.1 hp)]
    · rw [if_neg hp, if_neg (fun h => hp (hiff.2 h))]
  by_cases h2 : l = [97, 108, 110, 117, 109]
  · subst h2
    left
    refine ⟨by decide +kernel, fun c hc => ?_⟩
    show (if up c = true ∨ lw c = true ∨ dg c = true then (1 : Int) else 0) = if (UP ||| LO ||| DI).testBit c = true then 1 else 0
    have hiff : (up c = true ∨ lw c = true ∨ dg c = true) ↔ (UP ||| LO ||| DI).testBit c = true := by
      unfold up lw dg UP LO DI
      simp only [Nat.testBit_or, wi_bit, Nat.zero_testBit, Bool.false_or, Bool.or_eq_true, Bool.and_eq_true, Bool.not_eq_true', Bool.or_eq_false_iff, Bool.and_eq_false_iff, decide_eq_true_eq, decide_eq_false_iff_not, Bool.not_eq_false']
      omega
    by_cases hp : up c = true ∨ lw c = true ∨ dg c = true
    · rw [if_pos hp, if_pos (hiff.1 hp)]
    · rw [if_neg hp, if_neg (fun h => hp (hiff.2 h))]
  by_cases h3 : l = [117, 112, 112, 101, 114]
  · subst h3
    left
    refine ⟨by decide +kernel, fun c hc => ?_⟩
    show (if up c = true then (1 : Int) else 0) = if (UP).testBit c = true then 1 else 0
    have hiff : (up c = true) ↔ (UP).testBit c = true := by
      unfold up UP
      simp only [Nat.testBit_or, wi_bit, Nat.zero_testBit, Bool.false_or, Bool.or_eq_true, Bool.and_eq_true, Bool.not_eq_true', Bool.or_eq_false_iff, Bool.and_eq_false_iff, decide_eq_true_eq, decide_eq_false_iff_not, Bool.not_eq_false']
      omega
    by_cases hp : up c = true
    · rw [if_pos hp, if_pos (hiff.1 hp)]
    · rw [if_neg hp, if_neg (fun h => hp (hiff.2 h))]
  by_cases h4 : l = [108, 111, 119, 101, 114]
  · subst h4
    left
    refine ⟨by decide +kernel, fun c hc => ?_⟩
    show (if lw c = true then (1 : Int) else 0) = if (LO).testBit c = true then 1 else 0
    have hiff : (lw c = true) ↔ (LO).testBit c = true := by
      unfold lw LO
      simp only [Nat.testBit_or, wi_bit, Nat.zero_testBit, Bool.false_or, Bool.or_eq_true, Bool.and_eq_true, Bool.not_eq_true', Bool.or_eq_false_iff, Bool.and_eq_false_iff, decide_eq_true_eq, decide_eq_false_iff_not, Bool.not_eq_false']
      omega
    by_cases hp : lw c = true
    · rw [if_pos hp, if_pos (hiff.1 hp)]
    · rw [if_neg hp, if_neg (fun h => hp (hiff.2 h))]
  by_cases h5 : l = [115, 112, 97, 99, 101]
  · subst h5
    left
    refine ⟨by decide +kernel, fun c hc => ?_⟩
    show (if (9 ≤ c ∧ c ≤ 13) ∨ c = 32 then (1 : Int) else 0) = if (wi (wi 0 9 (13 + 1 - 9)) 32 (32 + 1 - 32)).testBit c = true then 1 else 0
    have hiff : ((9 ≤ c ∧ c ≤ 13) ∨ c = 32) ↔ (wi (wi 0 9 (13 + 1 - 9)) 32 (32 + 1 - 32)).testBit c = true := by
      simp only [Nat.testBit_or, wi_bit, Nat.zero_testBit, Bool.false_or, Bool.or_eq_true, Bool.and_eq_true, Bool.not_eq_true', Bool.or_eq_false_iff, Bool.and_eq_false_iff, decide_eq_true_eq, decide_eq_false_iff_not, Bool.not_eq_false']
      omega
    by_cases hp : (9 ≤ c ∧ c ≤ 13) ∨ c = 32
    · rw [if_pos hp, if_pos (hiff.1 hp)]
    · rw [if_neg hp, if_neg (fun h => hp (hiff.2 h))]
  by_cases h6 : l = [98, 108, 97, 110, 107]
  · subst h6
    left
    refine ⟨by decide +kernel, fun c hc => ?_⟩
    show (if c = 9 ∨ c = 32 then (1 : Int) else 0) = if (wi (wi 0 9 (9 + 1 - 9)) 32 (32 + 1 - 32)).testBit c = true then 1 else 0
    have hiff : (c = 9 ∨ c = 32) ↔ (wi (wi 0 9 (9 + 1 - 9)) 32 (32 + 1 - 32)).testBit c = true := by
      simp only [Nat.testBit_or, wi_bit, Nat.zero_testBit, Bool.false_or, Bool.or_eq_true, Bool.and_eq_true, Bool.not_eq_true', Bool.or_eq_false_iff, Bool.and_eq_false_iff, decide_eq_true_eq, decide_eq_false_iff_not, Bool.not_eq_false']
      omega
    by_cases hp : c = 9 ∨ c = 32
    · rw [if_pos hp, if_pos (hiff.1 hp)]
    · rw [if_neg hp, if_neg (fun h => hp (hiff.2 h))]
  by_cases h7 : l = [112, 117, 110, 99, 116]
  · subst h7
    left
    refine ⟨by decide +kernel, fun c hc => ?_⟩
    show (if 33 ≤ c ∧ c ≤ 126 ∧ up c = false ∧ lw c = false ∧ dg c = false then (1 : Int) else 0) = if (compl (UP ||| LO ||| DI ||| compl (wi 0 33 (126 + 1 - 33)))).testBit c = true then 1 else 0
    have hiff : (33 ≤ c ∧ c ≤ 126 ∧ up c = false ∧ lw c = false ∧ dg c = false) ↔ (compl (UP ||| LO ||| DI ||| compl (wi 0 33 (126 + 1 - 33)))).testBit c = true := by
      rw [compl_bit _ c (Nat.or_lt_two_pow AN_lt (compl_lt _)), Nat.testBit_or, compl_bit _ c (nm_lt (126 + 1 - 33) 0 33 (by decide) (by decide))]
      unfold up lw dg UP LO DI
      simp only [Nat.testBit_or, wi_bit, Nat.zero_testBit, Bool.false_or, Bool.or_eq_true, Bool.and_eq_true, Bool.not_eq_true', Bool.or_eq_false_iff, Bool.and_eq_false_iff, decide_eq_true_eq, decide_eq_false_iff_not, Bool.not_eq_false']
      omega
    by_cases hp : 33 ≤ c ∧ c ≤ 126 ∧ up c = false ∧ lw c = false ∧ dg c = false
    · rw [if_pos hp, if_pos (hiff.1 hp)]
    · rw [if_neg hp, if_neg (fun h => hp (hiff.2 h))]
  by_cases h8 : l = [112, 114, 105, 110, 116]
  · subst h8
    left
    refine ⟨by decide +kernel, fun c hc => ?_⟩
    show (if 32 ≤ c ∧ c ≤ 126 then (1 : Int) else 0) = if (wi 0 32 (126 + 1 - 32)).testBit c = true then 1 else 0
    have hiff : (32 ≤ c ∧ c ≤ 126) ↔ (wi 0 32 (126 + 1 - 32)).testBit c = true := by
      simp only [Nat.testBit_or, wi_bit, Nat.zero_testBit, Bool.false_or, Bool.or_eq_true, Bool.and_eq_true, Bool.not_eq_true', Bool.or_eq_false_iff, Bool.and_eq_false_iff, decide_eq_true_eq, decide_eq_false_iff_not, Bool.not_eq_false']
      omega
    by_cases hp : 32 ≤ c ∧ c ≤ 126
    · rw [if_pos hp, if_pos (hiff.1 hp)]
    · rw [if_neg hp, if_neg (fun h => hp (hiff.2 h))]
  by_cases h9 : l = [103, 114, 97, 112, 104]
  · subst h9
    left
    refine ⟨by decide +kernel, fun c hc => ?_⟩
    show (if 33 ≤ c ∧ c ≤ 126 then (1 : Int) else 0) = if (wi 0 33 (126 + 1 - 33)).testBit c = true then 1 else 0
    have hiff : (33 ≤ c ∧ c ≤ 126) ↔ (wi 0 33 (126 + 1 - 33)).testBit c = true := by
      simp only [Nat.testBit_or, wi_bit, Nat.zero_testBit, Bool.false_or, Bool.or_eq_true, Bool.and_eq_true, Bool.not_eq_true', Bool.or_eq_false_iff, Bool.and_eq_false_iff, decide_eq_true_eq, decide_eq_false_iff_not, Bool.not_eq_false']
      omega
    by_cases hp : 33 ≤ c ∧ c ≤ 126
    · rw [if_pos hp, if_pos (hiff.1 hp)]
    · rw [if_neg hp, if_neg (fun h => hp (hiff.2 h))]
  by_cases h10 : l = [99, 110, 116, 114, 108]
  · subst h10
    left
    refine ⟨by decide +kernel, fun c hc => ?_⟩
    show (if c ≤ 31 ∨ c = 127 then (1 : Int) else 0) = if (wi (wi 0 0 (31 + 1 - 0)) 127 (127 + 1 - 127)).testBit c = true then 1 else 0
    have hiff : (c ≤ 31 ∨ c = 127) ↔ (wi (wi 0 0 (31 + 1 - 0)) 127 (127 + 1 - 127)).testBit c = true := by
      simp only [Nat.testBit_or, wi_bit, Nat.zero_testBit, Bool.false_or, Bool.or_eq_true, Bool.and_eq_true, Bool.not_eq_true', Bool.or_eq_false_iff, Bool.and_eq_false_iff, decide_eq_true_eq, decide_eq_false_iff_not, Bool.not_eq_false']
      omega
    by_cases hp : c ≤ 31 ∨ c = 127
    · rw [if_pos hp, if_pos (hiff.1 hp)]
    · rw [if_neg hp, if_neg (fun h => hp (hiff.2 h))]
  by_cases h11 : l = [120, 100, 105, 103, 105, 116]
  · subst h11
    left
    refine ⟨by decide +kernel, fun c hc => ?_⟩
    show (if dg c = true ∨ (65 ≤ c ∧ c ≤ 70) ∨ (97 ≤ c ∧ c ≤ 102) then (1 : Int) else 0) = if (wi (wi DI 65 (70 + 1 - 65)) 97 (102 + 1 - 97)).testBit c = true then 1 else 0
    have hiff : (dg c = true ∨ (65 ≤ c ∧ c ≤ 70) ∨ (97 ≤ c ∧ c ≤ 102)) ↔ (wi (wi DI 65 (70 + 1 - 65)) 97 (102 + 1 - 97)).testBit c = true := by
      unfold dg DI
      simp only [Nat.testBit_or, wi_bit, Nat.zero_testBit, Bool.false_or, Bool.or_eq_true, Bool.and_eq_true, Bool.not_eq_true', Bool.or_eq_false_iff, Bool.and_eq_false_iff, decide_eq_true_eq, decide_eq_false_iff_not, Bool.not_eq_false']
      omega
    by_cases hp : dg c = true ∨ (65 ≤ c ∧ c ≤ 70) ∨ (97 ≤ c ∧ c ≤ 102)
    · rw [if_pos hp, if_pos (hiff.1 hp)]
    · rw [if_neg hp, if_neg (fun h => hp (hiff.2 h))]
  right
  refine ⟨by unfold nset; rw [if_neg h0, if_neg h1, if_neg h2, if_neg h3, if_neg h4, if_neg h5, if_neg h6, if_neg h7, if_neg h8, if_neg h9, if_neg h10, if_neg h11], fun c => by unfold inv; rw [if_neg h0, if_neg h1, if_neg h2, if_neg h3, if_neg h4, if_neg h5, if_neg h6, if_neg h7, if_neg h8, if_neg h9, if_neg h10, if_neg h11]⟩
theorem sel_self (n : Nat) (hn : n < 2 ^ 256) : sel (fun c => n.testBit c) 0 0 256 = n := by
  apply Nat.eq_of_testBit_eq
  intro j
  rw [sel_bit, Nat.zero_testBit, Bool.false_or]
  by_cases hj : j < 256
  · rw [decide_eq_true (show 0 ≤ j ∧ j < 0 + 256 by omega), Bool.true_and]
  · rw [decide_eq_false (show ¬ (0 ≤ j ∧ j < 0 + 256) by omega), far_bit hn hj]
    rfl
set_option maxHeartbeats 4000000 in
theorem refnamed_calls (s : ByteArray) (w : World) :
    Calls Try.prog 21 #[.string s] w fun e w' => e = .returned (.tuple #[St (nset s.toList), .bool (nset s.toList != 0)]) ∧ Below w.heap.size w w' := by
  obtain ⟨N, hN⟩ : ∃ N, nset s.toList = N := ⟨_, rfl⟩
  have hlt : N < 2 ^ 256 := by rw [← hN]; exact nset_lt _
  have hcase := inv_nset s.toList
  rw [hN] at hcase ⊢
  clear hN
  have KI := Aside0.mk (fun (c : Nat) (hc : c < 256) (w : World) => in_calls s c w hc)
  rcases hcase with ⟨hne, hinv⟩ | ⟨rfl, hinv⟩
  · have hb : (N != 0) = true := by simpa using hne
    have hs := sel_self N hlt
    rw [hb]
    clear hb hne
    have HI := Aside0.mk hinv
    clear hinv
    go_enter Try.func21, Try.ntmps21
    unfold St cs
    go_wp2
    go_loopg [5] 256 (fun kq v5 w' => ∃ c m : Nat, v5 = .int .i64 (c : Int) ∧ c + kq = 256 ∧ sel (fun c => N.testBit c) m c kq = N ∧ Aside0 (Var w.heap.size 0 w') ∧ Aside0 (Var (w.heap.size + 1) m w') ∧ Aside0 (Below w.heap.size w w'))
    case atStart => exact ⟨0, 0, rfl, rfl, hs, ⟨Go.heap_alloc2_old _ _ _⟩, ⟨Go.heap_alloc2_new _ _ _⟩, ⟨((Below.refl _ _).alloc (Nat.le_refl _) _).alloc (by simp) _⟩⟩
    case round =>
      obtain ⟨c, m, rfl, hc, hm, HR, HV, HB⟩ := hrel
      obtain ⟨e0, e1, e2, e3⟩ := HV.out.cell
      clear hs
      cases gk with
      | zero =>
        have hc' : c = 256 := by omega
        subst hc'
        obtain ⟨r0, r1, r2, r3⟩ := HR.out.cell
        obtain ⟨f0, f1, f2, f3⟩ := HR.out.free
        have hm' : m = N := hm
        clear hm
        subst hm'
        go_wp2
        refine bodyPost_ret (results_cell_tmp1 rfl _ _ w.heap.size (cs m) rfl (Var.load1 (HR.out.put (n := m)))) rfl ?_
        exact ⟨rfl, below_put HB.out (Nat.le_refl _) _ _ _ _⟩
      | succ k1 =>
        have d1 : (c : Int) < 256 := by omega
        have hcc : 64 * (c / 64) + c % 64 = c := Nat.div_add_mod c 64
        go_wp2_with (fail)
        refine (KI.out c (by omega) _).mono ?_
        rintro e w1 ⟨rfl, hw1⟩
        rw [hw1, HI.out c (by omega)]
        clear hw1 w1
        cases hp : N.testBit c with
        | false =>
          rw [if_neg (by decide)]
          go_wp2
          go_roundg k1
          case measure => omega
          case rel =>
            refine ⟨c + 1, m, rfl, by omega, ?_, HR, HV, HB⟩
            have h2 := hm
            rw [sel, if_neg (by simp [hp])] at h2
            exact h2
        | true =>
          rw [if_pos rfl]
          go_wp2_with (fail)
          refine (add_calls m (c : Int) (c / 64) (c % 64) wr (by omega) (Nat.mod_lt _ (by decide)) (by omega)).mono ?_
          rintro e w2 ⟨rfl, hb2⟩
          rw [hcc]
          have HV2 := HV.out.below hb2
          clear e0 e1 e2 e3
          obtain ⟨p0, p1, p2, p3⟩ := HV2.cell
          obtain ⟨f0, f1, f2, f3⟩ := HV2.free
          have HV2' := Aside0.mk HV2
          clear HV2
          unfold St cs
          go_wp2
          go_roundg k1
          case measure => omega
          case rel =>
            refine ⟨c + 1, m ||| 2 ^ c, rfl, by omega, ?_, ⟨(HR.out.below hb2).far (by omega) _ _ _ _⟩, ⟨HV2'.out.put⟩, ⟨below_put (HB.out.trans (hb2.mono HB.out.size)) (by omega) _ _ _ _⟩⟩
            have h2 := hm
            rw [sel, if_pos (by simp [hp])] at h2
            exact h2
  · have hi := hinv 0
    have KI0 := KI.out 0 (by decide)
    rw [hi] at KI0
    have K0 := Aside0.mk KI0
    clear KI0 KI hi hinv hlt
    go_enter Try.func21, Try.ntmps21
    unfold St cs
    go_wp2
    go_loopg [5] 1 (fun kq v5 w' => kq = 1 ∧ v5 = .int .i64 0 ∧ Aside0 (Var w.heap.size 0 w') ∧ Aside0 (Below w.heap.size w w'))
    case atStart => exact ⟨rfl, rfl, ⟨Go.heap_alloc2_old _ _ _⟩, ⟨((Below.refl _ _).alloc (Nat.le_refl _) _).alloc (by simp) _⟩⟩
    case round =>
      obtain ⟨hk, rfl, HR, HB⟩ := hrel
      obtain ⟨r0, r1, r2, r3⟩ := HR.out.cell
      obtain ⟨f0, f1, f2, f3⟩ := HR.out.free
      go_wp2_with (fail)
      refine (K0.out _).mono ?_
      rintro e w1 ⟨rfl, hw1⟩
      rw [hw1]
      clear hw1 w1
      go_wp2
      refine bodyPost_ret (results_cell_tmp1 rfl _ _ w.heap.size (cs 0) rfl (Var.load1 (HR.out.put (n := 0)))) rfl ?_
      exact ⟨rfl, below_put HB.out (Nat.le_refl _) _ _ _ _⟩
end Go.Proofs.Ytglhhcgoppmipaa.Cl
