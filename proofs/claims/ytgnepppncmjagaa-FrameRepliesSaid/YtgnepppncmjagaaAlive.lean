/- The live question's answer. -/
import Derived.Test.YtgnepppncmjagaaPrintF10
import Derived.Test.YtgnepppncmjagaaPrintF12
import Derived.Test.YtgnepppncmjagaaPrintF13
import Derived.Test.YtgnepppncmjagaaPrintF14
namespace Go.Proofs.Ytgnepppncmjagaa.Ev
open Go.RowKit Go.Proofs.Ytgnepppncmjagaa.Print Go.Proofs.YtgnepppncmjagaaW.PrintWords Go.Proofs.Ytgnepppncmjagaa
set_option maxRecDepth 100000 in
theorem alive_f : headgatelaw23_alive.f 8 = some true := by kernel_rfl
theorem right_eq (a b : Int) (l : List Int) : frame_Frame_right.f a b l = headgateref23_Right.f a b l := rfl
theorem right_some (a b : Int) (l : List Int) : ∃ t, headgateref23_Right.f a b l = some t ∧ (t = true ↔ 0 ≤ a ∧ a ≤ 65535 ∧ 1 ≤ b ∧ b ≤ 4 ∧ (l.length : Int) ≤ 4096) := by
  unfold headgateref23_Right.f
  by_cases h1 : a ≥ 0
  · rw [if_pos h1]
    by_cases h2 : a ≤ 65535
    · rw [if_pos h2]
      by_cases h3 : b ≥ 1
      · rw [if_pos h3]
        by_cases h4 : b ≤ 4
        · rw [if_pos h4]; exact ⟨_, rfl, by rw [decide_eq_true_iff]; omega⟩
        · rw [if_neg h4]; exact ⟨_, rfl, by simp; omega⟩
      · rw [if_neg h3]; exact ⟨_, rfl, by simp; omega⟩
    · rw [if_neg h2]; exact ⟨_, rfl, by simp; omega⟩
  · rw [if_neg h1]; exact ⟨_, rfl, by simp; omega⟩
def hi (n : Int) : Int := (n / 256) % 256
def lo (n : Int) : Int := n % 256
theorem two_f (l : List Int) (n : Int) (h : l.length < 140737488355320) : frame_two.f l n = some (l ++ [hi n, lo n]) := by
  unfold frame_two.f
  rw [Option.bind_some, if_pos (by simp only [List.length_cons, List.length_nil]; omega)]
  rfl
theorem rtwo_f (n : Int) (h0 : 0 ≤ n) (h1 : n ≤ 140737488355320) : headgateref23_two.f n = some [hi n, lo n] := by
  unfold headgateref23_two.f hi lo
  have e : wrap64 (Int.tdiv n 256) = n / 256 := by
    rw [Int.tdiv_eq_ediv_of_nonneg h0]
    unfold wrap64
    omega
  rw [e]
theorem same_f (l : List Int) : headgateref02_Same.f l l = some true := by
  unfold headgateref02_Same.f
  rw [beq_self_eq_true]
/-- A right frame's bytes. -/
def enc (a b : Int) (l : List Int) : List Int := [hi l.length, lo l.length, hi a, lo a, b % 256] ++ l
theorem encode_f (a b : Int) (l : List Int) (h : l.length ≤ 4096) : frame_Encode.f a b l = (headgateref23_Right.f a b l).bind fun t => if t = true then some (enc a b l, 0) else some ([], 231) := by
  unfold frame_Encode.f
  rw [right_eq]
  obtain ⟨t, ht, _⟩ := right_some a b l
  rw [ht, Option.bind_some, Option.bind_some]
  by_cases h1 : t = true
  · rw [if_pos h1, if_pos h1, two_f _ _ (by simp), Option.bind_some, two_f _ _ (by simp), Option.bind_some, Option.bind_some, if_pos (by simp), Option.bind_some, if_pos (by simp; omega)]
    simp [enc]
  · rw [if_neg h1, if_neg h1]
theorem encode_none (a b : Int) (l : List Int) (h : ¬ l.length ≤ 4096) : frame_Encode.f a b l = some ([], 231) ∧ headgateref23_Right.f a b l = some false := by
  obtain ⟨t, ht, h2⟩ := right_some a b l
  have : t = false := by cases t with | false => rfl | true => exact absurd (h2.1 rfl) (by omega)
  subst this
  refine ⟨?_, ht⟩
  unfold frame_Encode.f
  rw [right_eq, ht, Option.bind_some, if_neg (by simp)]
theorem bytes_f (a b : Int) (l : List Int) (h : l.length ≤ 4096) (h0 : 0 ≤ a) (h1 : a ≤ 65535) : headgateref23_Bytes.f a b l = some (enc a b l) := by
  unfold headgateref23_Bytes.f
  rw [Option.bind_some, rtwo_f _ (by omega) (by omega), Option.bind_some, if_pos (by simp), Option.bind_some, rtwo_f _ h0 (by omega), Option.bind_some, if_pos (by simp), Option.bind_some, if_pos (by simp), Option.bind_some, if_pos (by simp; omega)]
  simp [enc]
end Go.Proofs.Ytgnepppncmjagaa.Ev
