/- headgateref08.in: is a byte of a named set? -/
import Derived.Test.YtglhhcgoppmipaaProg
import Derived.Test.YtglhhcgoppmipaaWMore
import Derived.WalkKit
namespace Go.Proofs.Ytglhhcgoppmipaa.Cl
open Go.RowKit Go.Proofs.YtglhhcgoppmipaaW.PrintWords

def up (c : Nat) : Bool := decide (65 ≤ c ∧ c ≤ 90)
def lw (c : Nat) : Bool := decide (97 ≤ c ∧ c ≤ 122)
def dg (c : Nat) : Bool := decide (48 ≤ c ∧ c ≤ 57)
/-- 1: it is; 0: it is not; -1: there is no such name. -/
def inv (l : List UInt8) (c : Nat) : Int :=
  if l = [97, 108, 112, 104, 97] then (if up c = true ∨ lw c = true then 1 else 0) else
  if l = [100, 105, 103, 105, 116] then (if dg c = true then 1 else 0) else
  if l = [97, 108, 110, 117, 109] then (if up c = true ∨ lw c = true ∨ dg c = true then 1 else 0) else
  if l = [117, 112, 112, 101, 114] then (if up c = true then 1 else 0) else
  if l = [108, 111, 119, 101, 114] then (if lw c = true then 1 else 0) else
  if l = [115, 112, 97, 99, 101] then (if (9 ≤ c ∧ c ≤ 13) ∨ c = 32 then 1 else 0) else
  if l = [98, 108, 97, 110, 107] then (if c = 9 ∨ c = 32 then 1 else 0) else
  if l = [112, 117, 110, 99, 116] then (if 33 ≤ c ∧ c ≤ 126 ∧ up c = false ∧ lw c = false ∧ dg c = false then 1 else 0) else
  if l = [112, 114, 105, 110, 116] then (if 32 ≤ c ∧ c ≤ 126 then 1 else 0) else
  if l = [103, 114, 97, 112, 104] then (if 33 ≤ c ∧ c ≤ 126 then 1 else 0) else
  if l = [99, 110, 116, 114, 108] then (if c ≤ 31 ∨ c = 127 then 1 else 0) else
  if l = [120, 100, 105, 103, 105, 116] then (if dg c = true ∨ (65 ≤ c ∧ c ≤ 70) ∨ (97 ≤ c ∧ c ≤ 102) then 1 else 0) else
  -1
set_option linter.unusedSimpArgs false in
set_option maxHeartbeats 40000000 in
set_option maxRecDepth 100000 in
theorem in_calls (s : ByteArray) (c : Nat) (w : World) (hc : c < 256) :
    Calls Try.prog 26 #[.string s, .int .i64 (c : Int)] w fun e w' => e = .returned (.int .i64 (inv s.toList c)) ∧ w' = w := by
  go_enter Try.func26, Try.ntmps26
  go_step
  go_step
  go_step
  go_step
  go_step
  go_step
  go_step
  go_step
  go_step
  refine wp_seq (Code.wp_mono (Q := fun e a w' => e = .normal ∧ w' = w ∧ ∃ u9 u10 u11 u12 u13 u14 : Value, a = { tmps := #[.string s, .int .i64 (c : Int), undef, undef, .int .i64 0, .bool (up c), undef, undef, undef, u9, u10, u11, u12, u13, u14, undef, undef, undef, undef, undef, undef, undef, undef, undef, undef, undef, undef, undef, undef, undef, undef, undef, undef, undef, undef, undef, undef, undef, undef, undef, undef, undef, undef, undef, undef, undef, undef, undef, undef, undef, undef, undef, undef, undef, undef, undef, undef, undef, undef, undef, undef, undef, undef, undef, undef, undef, undef, undef, undef, undef, undef, undef, undef, undef, undef, undef, undef, undef, undef, undef, undef, undef, undef, undef, undef, undef, undef, undef, undef, undef, undef, undef, undef, undef, undef, undef, undef, undef, undef, undef, undef, undef, undef, undef, undef, undef, undef, undef, undef, undef, undef, undef, undef, undef, undef, undef, undef, undef, undef, undef, undef, undef, undef, undef, undef, undef, undef, undef, undef, undef, undef, undef, undef, undef, undef, undef], defers := [] }) ?rest0 ?reg0)
  case reg0 =>
    have hcase : (65 ≤ c ∧ c ≤ 90) ∨ c < 65 ∨ (65 ≤ c ∧ 90 < c) := by omega
    rcases hcase with ⟨h1, h2⟩ | h1 | ⟨h1, h2⟩
    · have e : up c = true := by unfold up; simp [h1, h2]
      rw [e]
      have g1 : (65 : Int) ≤ (c : Int) := by omega
      have g2 : (c : Int) ≤ 90 := by omega
      clear e h1 h2
      go_wp2
      all_goals exact ⟨rfl, rfl, _, _, _, _, _, _, rfl⟩
    · have e : up c = false := by unfold up; simp; omega
      rw [e]
      have g1 : ¬ (65 : Int) ≤ (c : Int) := by omega
      clear e h1
      go_wp2
      all_goals exact ⟨rfl, rfl, _, _, _, _, _, _, rfl⟩
    · have e : up c = false := by unfold up; simp; omega
      rw [e]
      have g1 : (65 : Int) ≤ (c : Int) := by omega
      have g2 : ¬ (c : Int) ≤ 90 := by omega
      clear e h1 h2
      go_wp2
      all_goals exact ⟨rfl, rfl, _, _, _, _, _, _, rfl⟩
  case rest0 =>
  rintro e a w' ⟨rfl, hw', u9, u10, u11, u12, u13, u14, rfl⟩
  rw [hw']
  clear hw' w'
  show Code.wp _ _ _ _ _
  refine wp_seq (Code.wp_mono (Q := fun e a w' => e = .normal ∧ w' = w ∧ ∃ u9 u10 u11 u12 u13 u14 u15 u16 u17 u18 u19 u20 : Value, a = { tmps := #[.string s, .int .i64 (c : Int), undef, undef, .int .i64 0, .bool (up c), .bool (lw c), undef, undef, u9, u10, u11, u12, u13, u14, u15, u16, u17, u18, u19, u20, undef, undef, undef, undef, undef, undef, undef, undef, undef, undef, undef, undef, undef, undef, undef, undef, undef, undef, undef, undef, undef, undef, undef, undef, undef, undef, undef, undef, undef, undef, undef, undef, undef, undef, undef, undef, undef, undef, undef, undef, undef, undef, undef, undef, undef, undef, undef, undef, undef, undef, undef, undef, undef, undef, undef, undef, undef, undef, undef, undef, undef, undef, undef, undef, undef, undef, undef, undef, undef, undef, undef, undef, undef, undef, undef, undef, undef, undef, undef, undef, undef, undef, undef, undef, undef, undef, undef, undef, undef, undef, undef, undef, undef, undef, undef, undef, undef, undef, undef, undef, undef, undef, undef, undef, undef, undef, undef, undef, undef, undef, undef, undef, undef, undef, undef], defers := [] }) ?rest1 ?reg1)
  case reg1 =>
    have hcase : (97 ≤ c ∧ c ≤ 122) ∨ c < 97 ∨ (97 ≤ c ∧ 122 < c) := by omega
    rcases hcase with ⟨h1, h2⟩ | h1 | ⟨h1, h2⟩
    · have e : lw c = true := by unfold lw; simp [h1, h2]
      rw [e]
      have g1 : (97 : Int) ≤ (c : Int) := by omega
      have g2 : (c : Int) ≤ 122 := by omega
      clear e h1 h2
      go_wp2
      all_goals exact ⟨rfl, rfl, u9, u10, u11, u12, u13, u14, _, _, _, _, _, _, rfl⟩
    · have e : lw c = false := by unfold lw; simp; omega
      rw [e]
      have g1 : ¬ (97 : Int) ≤ (c : Int) := by omega
      clear e h1
      go_wp2
      all_goals exact ⟨rfl, rfl, u9, u10, u11, u12, u13, u14, _, _, _, _, _, _, rfl⟩
    · have e : lw c = false := by unfold lw; simp; omega
      rw [e]
      have g1 : (97 : Int) ≤ (c : Int) := by omega
      have g2 : ¬ (c : Int) ≤ 122 := by omega
      clear e h1 h2
      go_wp2
      all_goals exact ⟨rfl, rfl, u9, u10, u11, u12, u13, u14, _, _, _, _, _, _, rfl⟩
  case rest1 =>
  rintro e a w' ⟨rfl, hw', u9, u10, u11, u12, u13, u14, u15, u16, u17, u18, u19, u20, rfl⟩
  rw [hw']
  clear hw' w'
  show Code.wp _ _ _ _ _
  refine wp_seq (Code.wp_mono (Q := fun e a w' => e = .normal ∧ w' = w ∧ ∃ u9 u10 u11 u12 u13 u14 u15 u16 u17 u18 u19 u20 u21 u22 u23 u24 u25 u26 : Value, a = { tmps := #[.string s, .int .i64 (c : Int), undef, undef, .int .i64 0, .bool (up c), .bool (lw c), .bool (dg c), undef, u9, u10, u11, u12, u13, u14, u15, u16, u17, u18, u19, u20, u21, u22, u23, u24, u25, u26, undef, undef, undef, undef, undef, undef, undef, undef, undef, undef, undef, undef, undef, undef, undef, undef, undef, undef, undef, undef, undef, undef, undef, undef, undef, undef, undef, undef, undef, undef, undef, undef, undef, undef, undef, undef, undef, undef, undef, undef, undef, undef, undef, undef, undef, undef, undef, undef, undef, undef, undef, undef, undef, undef, undef, undef, undef, undef, undef, undef, undef, undef, undef, undef, undef, undef, undef, undef, undef, undef, undef, undef, undef, undef, undef, undef, undef, undef, undef, undef, undef, undef, undef, undef, undef, undef, undef, undef, undef, undef, undef, undef, undef, undef, undef, undef, undef, undef, undef, undef, undef, undef, undef, undef, undef, undef, undef, undef, undef], defers := [] }) ?rest2 ?reg2)
  case reg2 =>
    have hcase : (48 ≤ c ∧ c ≤ 57) ∨ c < 48 ∨ (48 ≤ c ∧ 57 < c) := by omega
    rcases hcase with ⟨h1, h2⟩ | h1 | ⟨h1, h2⟩
    · have e : dg c = true := by unfold dg; simp [h1, h2]
      rw [e]
      have g1 : (48 : Int) ≤ (c : Int) := by omega
      have g2 : (c : Int) ≤ 57 := by omega
      clear e h1 h2
      go_wp2
      all_goals exact ⟨rfl, rfl, u9, u10, u11, u12, u13, u14, u15, u16, u17, u18, u19, u20, _, _, _, _, _, _, rfl⟩
    · have e : dg c = false := by unfold dg; simp; omega
      rw [e]
      have g1 : ¬ (48 : Int) ≤ (c : Int) := by omega
      clear e h1
      go_wp2
      all_goals exact ⟨rfl, rfl, u9, u10, u11, u12, u13, u14, u15, u16, u17, u18, u19, u20, _, _, _, _, _, _, rfl⟩
    · have e : dg c = false := by unfold dg; simp; omega
      rw [e]
      have g1 : (48 : Int) ≤ (c : Int) := by omega
      have g2 : ¬ (c : Int) ≤ 57 := by omega
      clear e h1 h2
      go_wp2
      all_goals exact ⟨rfl, rfl, u9, u10, u11, u12, u13, u14, u15, u16, u17, u18, u19, u20, _, _, _, _, _, _, rfl⟩
  case rest2 =>
  rintro e a w' ⟨rfl, hw', u9, u10, u11, u12, u13, u14, u15, u16, u17, u18, u19, u20, u21, u22, u23, u24, u25, u26, rfl⟩
  rw [hw']
  clear hw' w'
  show Code.wp _ _ _ _ _
  by_cases h0 : s.toList = [97, 108, 112, 104, 97]
  · have hn : inv s.toList c = if up c = true ∨ lw c = true then 1 else 0 := by unfold inv; rw [if_pos h0]
    have e0 : (s.toList == [97, 108, 112, 104, 97]) = true := by rw [h0]; rfl
    replace hn := Aside0.mk hn
    clear h0
    obtain ⟨U, hU⟩ : ∃ U, up c = U := ⟨_, rfl⟩
    obtain ⟨V, hV⟩ : ∃ V, lw c = V := ⟨_, rfl⟩
    obtain ⟨D, hD⟩ : ∃ D, dg c = D := ⟨_, rfl⟩
    rw [hU, hV, hD]
    have hn' := hn.out
    simp only [hU, hV, hD] at hn'
    replace hn := Aside0.mk hn'
    clear hn' hU hV hD
    go_wp2
    all_goals
      go_ret
      refine ⟨?_, rfl⟩
      rw [hn.out]
      first
        | rfl
        | (rw [if_pos (by first | omega | (simp_all; done) | (simp_all; omega))]; rfl)
        | (rw [if_neg (by first | omega | (simp_all; done) | (simp_all; omega))]; rfl)
  have e0 : (s.toList == [97, 108, 112, 104, 97]) = false := by rw [beq_eq_false_iff_ne]; exact h0
  by_cases h1 : s.toList = [100, 105, 103, 105, 116]
  · have hn : inv s.toList c = if dg c = true then 1 else 0 := by unfold inv; rw [if_neg h0, if_pos h1]
    have e1 : (s.toList == [100, 105, 103, 105, 116]) = true := by rw [h1]; rfl
    replace hn := Aside0.mk hn
    clear h0 h1
    obtain ⟨U, hU⟩ : ∃ U, up c = U := ⟨_, rfl⟩
    obtain ⟨V, hV⟩ : ∃ V, lw c = V := ⟨_, rfl⟩
    obtain ⟨D, hD⟩ : ∃ D, dg c = D := ⟨_, rfl⟩
    rw [hU, hV, hD]
    have hn' := hn.out
    simp only [hU, hV, hD] at hn'
    replace hn := Aside0.mk hn'
    clear hn' hU hV hD
    go_wp2
    all_goals
      go_ret
      refine ⟨?_, rfl⟩
      rw [hn.out]
      first
        | rfl
        | (rw [if_pos (by first | omega | (simp_all; done) | (simp_all; omega))]; rfl)
        | (rw [if_neg (by first | omega | (simp_all; done) | (simp_all; omega))]; rfl)
  have e1 : (s.toList == [100, 105, 103, 105, 116]) = false := by rw [beq_eq_false_iff_ne]; exact h1
  by_cases h2 : s.toList = [97, 108, 110, 117, 109]
  · have hn : inv s.toList c = if up c = true ∨ lw c = true ∨ dg c = true then 1 else 0 := by unfold inv; rw [if_neg h0, if_neg h1, if_pos h2]
    have e2 : (s.toList == [97, 108, 110, 117, 109]) = true := by rw [h2]; rfl
    replace hn := Aside0.mk hn
    clear h0 h1 h2
    obtain ⟨U, hU⟩ : ∃ U, up c = U := ⟨_, rfl⟩
    obtain ⟨V, hV⟩ : ∃ V, lw c = V := ⟨_, rfl⟩
    obtain ⟨D, hD⟩ : ∃ D, dg c = D := ⟨_, rfl⟩
    rw [hU, hV, hD]
    have hn' := hn.out
    simp only [hU, hV, hD] at hn'
    replace hn := Aside0.mk hn'
    clear hn' hU hV hD
    go_wp2
    all_goals
      go_ret
      refine ⟨?_, rfl⟩
      rw [hn.out]
      first
        | rfl
        | (rw [if_pos (by first | omega | (simp_all; done) | (simp_all; omega))]; rfl)
        | (rw [if_neg (by first | omega | (simp_all; done) | (simp_all; omega))]; rfl)
  have e2 : (s.toList == [97, 108, 110, 117, 109]) = false := by rw [beq_eq_false_iff_ne]; exact h2
  by_cases h3 : s.toList = [117, 112, 112, 101, 114]
  · have hn : inv s.toList c = if up c = true then 1 else 0 := by unfold inv; rw [if_neg h0, if_neg h1, if_neg h2, if_pos h3]
    have e3 : (s.toList == [117, 112, 112, 101, 114]) = true := by rw [h3]; rfl
    replace hn := Aside0.mk hn
    clear h0 h1 h2 h3
    obtain ⟨U, hU⟩ : ∃ U, up c = U := ⟨_, rfl⟩
    obtain ⟨V, hV⟩ : ∃ V, lw c = V := ⟨_, rfl⟩
    obtain ⟨D, hD⟩ : ∃ D, dg c = D := ⟨_, rfl⟩
    rw [hU, hV, hD]
    have hn' := hn.out
    simp only [hU, hV, hD] at hn'
    replace hn := Aside0.mk hn'
    clear hn' hU hV hD
    go_wp2
    all_goals
      go_ret
      refine ⟨?_, rfl⟩
      rw [hn.out]
      first
        | rfl
        | (rw [if_pos (by first | omega | (simp_all; done) | (simp_all; omega))]; rfl)
        | (rw [if_neg (by first | omega | (simp_all; done) | (simp_all; omega))]; rfl)
  have e3 : (s.toList == [117, 112, 112, 101, 114]) = false := by rw [beq_eq_false_iff_ne]; exact h3
  by_cases h4 : s.toList = [108, 111, 119, 101, 114]
  · have hn : inv s.toList c = if lw c = true then 1 else 0 := by unfold inv; rw [if_neg h0, if_neg h1, if_neg h2, if_neg h3, if_pos h4]
    have e4 : (s.toList == [108, 111, 119, 101, 114]) = true := by rw [h4]; rfl
    replace hn := Aside0.mk hn
    clear h0 h1 h2 h3 h4
    obtain ⟨U, hU⟩ : ∃ U, up c = U := ⟨_, rfl⟩
    obtain ⟨V, hV⟩ : ∃ V, lw c = V := ⟨_, rfl⟩
    obtain ⟨D, hD⟩ : ∃ D, dg c = D := ⟨_, rfl⟩
    rw [hU, hV, hD]
    have hn' := hn.out
    simp only [hU, hV, hD] at hn'
    replace hn := Aside0.mk hn'
    clear hn' hU hV hD
    go_wp2
    all_goals
      go_ret
      refine ⟨?_, rfl⟩
      rw [hn.out]
      first
        | rfl
        | (rw [if_pos (by first | omega | (simp_all; done) | (simp_all; omega))]; rfl)
        | (rw [if_neg (by first | omega | (simp_all; done) | (simp_all; omega))]; rfl)
  have e4 : (s.toList == [108, 111, 119, 101, 114]) = false := by rw [beq_eq_false_iff_ne]; exact h4
  by_cases h5 : s.toList = [115, 112, 97, 99, 101]
  · have hn : inv s.toList c = if (9 ≤ c ∧ c ≤ 13) ∨ c = 32 then 1 else 0 := by unfold inv; rw [if_neg h0, if_neg h1, if_neg h2, if_neg h3, if_neg h4, if_pos h5]
    have e5 : (s.toList == [115, 112, 97, 99, 101]) = true := by rw [h5]; rfl
    replace hn := Aside0.mk hn
    clear h0 h1 h2 h3 h4 h5
    obtain ⟨U, hU⟩ : ∃ U, up c = U := ⟨_, rfl⟩
    obtain ⟨V, hV⟩ : ∃ V, lw c = V := ⟨_, rfl⟩
    obtain ⟨D, hD⟩ : ∃ D, dg c = D := ⟨_, rfl⟩
    rw [hU, hV, hD]
    have hn' := hn.out
    replace hn := Aside0.mk hn'
    clear hn' hU hV hD
    go_wp2
    all_goals
      go_ret
      refine ⟨?_, rfl⟩
      rw [hn.out]
      first
        | rfl
        | (rw [if_pos (by first | omega | (simp_all; done) | (simp_all; omega))]; rfl)
        | (rw [if_neg (by first | omega | (simp_all; done) | (simp_all; omega))]; rfl)
  have e5 : (s.toList == [115, 112, 97, 99, 101]) = false := by rw [beq_eq_false_iff_ne]; exact h5
  by_cases h6 : s.toList = [98, 108, 97, 110, 107]
  · have hn : inv s.toList c = if c = 9 ∨ c = 32 then 1 else 0 := by unfold inv; rw [if_neg h0, if_neg h1, if_neg h2, if_neg h3, if_neg h4, if_neg h5, if_pos h6]
    have e6 : (s.toList == [98, 108, 97, 110, 107]) = true := by rw [h6]; rfl
    replace hn := Aside0.mk hn
    clear h0 h1 h2 h3 h4 h5 h6
    obtain ⟨U, hU⟩ : ∃ U, up c = U := ⟨_, rfl⟩
    obtain ⟨V, hV⟩ : ∃ V, lw c = V := ⟨_, rfl⟩
    obtain ⟨D, hD⟩ : ∃ D, dg c = D := ⟨_, rfl⟩
    rw [hU, hV, hD]
    have hn' := hn.out
    replace hn := Aside0.mk hn'
    clear hn' hU hV hD
    go_wp2
    all_goals
      go_ret
      refine ⟨?_, rfl⟩
      rw [hn.out]
      first
        | rfl
        | (rw [if_pos (by first | omega | (simp_all; done) | (simp_all; omega))]; rfl)
        | (rw [if_neg (by first | omega | (simp_all; done) | (simp_all; omega))]; rfl)
  have e6 : (s.toList == [98, 108, 97, 110, 107]) = false := by rw [beq_eq_false_iff_ne]; exact h6
  by_cases h7 : s.toList = [112, 117, 110, 99, 116]
  · have hn : inv s.toList c = if 33 ≤ c ∧ c ≤ 126 ∧ up c = false ∧ lw c = false ∧ dg c = false then 1 else 0 := by unfold inv; rw [if_neg h0, if_neg h1, if_neg h2, if_neg h3, if_neg h4, if_neg h5, if_neg h6, if_pos h7]
    have e7 : (s.toList == [112, 117, 110, 99, 116]) = true := by rw [h7]; rfl
    replace hn := Aside0.mk hn
    clear h0 h1 h2 h3 h4 h5 h6 h7
    obtain ⟨U, hU⟩ : ∃ U, up c = U := ⟨_, rfl⟩
    obtain ⟨V, hV⟩ : ∃ V, lw c = V := ⟨_, rfl⟩
    obtain ⟨D, hD⟩ : ∃ D, dg c = D := ⟨_, rfl⟩
    rw [hU, hV, hD]
    have hn' := hn.out
    simp only [hU, hV, hD] at hn'
    replace hn := Aside0.mk hn'
    clear hn' hU hV hD
    go_wp2
    all_goals
      go_ret
      refine ⟨?_, rfl⟩
      rw [hn.out]
      first
        | rfl
        | (rw [if_pos (by first | omega | (simp_all; done) | (simp_all; omega))]; rfl)
        | (rw [if_neg (by first | omega | (simp_all; done) | (simp_all; omega))]; rfl)
  have e7 : (s.toList == [112, 117, 110, 99, 116]) = false := by rw [beq_eq_false_iff_ne]; exact h7
  by_cases h8 : s.toList = [112, 114, 105, 110, 116]
  · have hn : inv s.toList c = if 32 ≤ c ∧ c ≤ 126 then 1 else 0 := by unfold inv; rw [if_neg h0, if_neg h1, if_neg h2, if_neg h3, if_neg h4, if_neg h5, if_neg h6, if_neg h7, if_pos h8]
    have e8 : (s.toList == [112, 114, 105, 110, 116]) = true := by rw [h8]; rfl
    replace hn := Aside0.mk hn
    clear h0 h1 h2 h3 h4 h5 h6 h7 h8
    obtain ⟨U, hU⟩ : ∃ U, up c = U := ⟨_, rfl⟩
    obtain ⟨V, hV⟩ : ∃ V, lw c = V := ⟨_, rfl⟩
    obtain ⟨D, hD⟩ : ∃ D, dg c = D := ⟨_, rfl⟩
    rw [hU, hV, hD]
    have hn' := hn.out
    replace hn := Aside0.mk hn'
    clear hn' hU hV hD
    go_wp2
    all_goals
      go_ret
      refine ⟨?_, rfl⟩
      rw [hn.out]
      first
        | rfl
        | (rw [if_pos (by first | omega | (simp_all; done) | (simp_all; omega))]; rfl)
        | (rw [if_neg (by first | omega | (simp_all; done) | (simp_all; omega))]; rfl)
  have e8 : (s.toList == [112, 114, 105, 110, 116]) = false := by rw [beq_eq_false_iff_ne]; exact h8
  by_cases h9 : s.toList = [103, 114, 97, 112, 104]
  · have hn : inv s.toList c = if 33 ≤ c ∧ c ≤ 126 then 1 else 0 := by unfold inv; rw [if_neg h0, if_neg h1, if_neg h2, if_neg h3, if_neg h4, if_neg h5, if_neg h6, if_neg h7, if_neg h8, if_pos h9]
    have e9 : (s.toList == [103, 114, 97, 112, 104]) = true := by rw [h9]; rfl
    replace hn := Aside0.mk hn
    clear h0 h1 h2 h3 h4 h5 h6 h7 h8 h9
    obtain ⟨U, hU⟩ : ∃ U, up c = U := ⟨_, rfl⟩
    obtain ⟨V, hV⟩ : ∃ V, lw c = V := ⟨_, rfl⟩
    obtain ⟨D, hD⟩ : ∃ D, dg c = D := ⟨_, rfl⟩
    rw [hU, hV, hD]
    have hn' := hn.out
    replace hn := Aside0.mk hn'
    clear hn' hU hV hD
    go_wp2
    all_goals
      go_ret
      refine ⟨?_, rfl⟩
      rw [hn.out]
      first
        | rfl
        | (rw [if_pos (by first | omega | (simp_all; done) | (simp_all; omega))]; rfl)
        | (rw [if_neg (by first | omega | (simp_all; done) | (simp_all; omega))]; rfl)
  have e9 : (s.toList == [103, 114, 97, 112, 104]) = false := by rw [beq_eq_false_iff_ne]; exact h9
  by_cases h10 : s.toList = [99, 110, 116, 114, 108]
  · have hn : inv s.toList c = if c ≤ 31 ∨ c = 127 then 1 else 0 := by unfold inv; rw [if_neg h0, if_neg h1, if_neg h2, if_neg h3, if_neg h4, if_neg h5, if_neg h6, if_neg h7, if_neg h8, if_neg h9, if_pos h10]
    have e10 : (s.toList == [99, 110, 116, 114, 108]) = true := by rw [h10]; rfl
    replace hn := Aside0.mk hn
    clear h0 h1 h2 h3 h4 h5 h6 h7 h8 h9 h10
    obtain ⟨U, hU⟩ : ∃ U, up c = U := ⟨_, rfl⟩
    obtain ⟨V, hV⟩ : ∃ V, lw c = V := ⟨_, rfl⟩
    obtain ⟨D, hD⟩ : ∃ D, dg c = D := ⟨_, rfl⟩
    rw [hU, hV, hD]
    have hn' := hn.out
    replace hn := Aside0.mk hn'
    clear hn' hU hV hD
    go_wp2
    all_goals
      go_ret
      refine ⟨?_, rfl⟩
      rw [hn.out]
      first
        | rfl
        | (rw [if_pos (by first | omega | (simp_all; done) | (simp_all; omega))]; rfl)
        | (rw [if_neg (by first | omega | (simp_all; done) | (simp_all; omega))]; rfl)
  have e10 : (s.toList == [99, 110, 116, 114, 108]) = false := by rw [beq_eq_false_iff_ne]; exact h10
  by_cases h11 : s.toList = [120, 100, 105, 103, 105, 116]
  · have hn : inv s.toList c = if dg c = true ∨ (65 ≤ c ∧ c ≤ 70) ∨ (97 ≤ c ∧ c ≤ 102) then 1 else 0 := by unfold inv; rw [if_neg h0, if_neg h1, if_neg h2, if_neg h3, if_neg h4, if_neg h5, if_neg h6, if_neg h7, if_neg h8, if_neg h9, if_neg h10, if_pos h11]
    have e11 : (s.toList == [120, 100, 105, 103, 105, 116]) = true := by rw [h11]; rfl
    replace hn := Aside0.mk hn
    clear h0 h1 h2 h3 h4 h5 h6 h7 h8 h9 h10 h11
    obtain ⟨U, hU⟩ : ∃ U, up c = U := ⟨_, rfl⟩
    obtain ⟨V, hV⟩ : ∃ V, lw c = V := ⟨_, rfl⟩
    obtain ⟨D, hD⟩ : ∃ D, dg c = D := ⟨_, rfl⟩
    rw [hU, hV, hD]
    have hn' := hn.out
    simp only [hU, hV, hD] at hn'
    replace hn := Aside0.mk hn'
    clear hn' hU hV hD
    go_wp2
    all_goals
      go_ret
      refine ⟨?_, rfl⟩
      rw [hn.out]
      first
        | rfl
        | (rw [if_pos (by first | omega | (simp_all; done) | (simp_all; omega))]; rfl)
        | (rw [if_neg (by first | omega | (simp_all; done) | (simp_all; omega))]; rfl)
  have e11 : (s.toList == [120, 100, 105, 103, 105, 116]) = false := by rw [beq_eq_false_iff_ne]; exact h11
  have hn : inv s.toList c = -1 := by unfold inv; rw [if_neg h0, if_neg h1, if_neg h2, if_neg h3, if_neg h4, if_neg h5, if_neg h6, if_neg h7, if_neg h8, if_neg h9, if_neg h10, if_neg h11]
  clear h0 h1 h2 h3 h4 h5 h6 h7 h8 h9 h10 h11
  go_wp2
  go_ret
  exact ⟨by rw [hn]; rfl, rfl⟩
end Go.Proofs.Ytglhhcgoppmipaa.Cl
