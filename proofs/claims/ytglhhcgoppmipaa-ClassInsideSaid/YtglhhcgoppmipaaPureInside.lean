/- Names in brackets: what a bracket with names comes to. -/
import Derived.Test.YtglhhcgoppmipaaPureRanges
import Derived.Test.YtglhhcgoppmipaaNamed1
namespace Go.Proofs.Ytglhhcgoppmipaa.Cl

/-- The names' sets, told of every name. -/
def nm (l : List UInt8) : Option Nat := some (nset l)
theorem index_name (a r : List UInt8) (h : ∀ x ∈ a, x ≠ 58) : Lib.index (a ++ 58 :: 93 :: r) [58, 93] = a.length := by
  induction a with
  | nil =>
    show Lib.index (58 :: 93 :: r) [58, 93] = 0
    rw [Lib.index, if_pos]
    rfl
  | cons x a ih =>
    have hx : x ≠ 58 := h x (List.mem_cons_self ..)
    have hp : ([58, 93] : List UInt8).isPrefixOf (x :: (a ++ 58 :: 93 :: r)) = false := by
      rw [List.isPrefixOf_cons_cons]
      have : ((58 : UInt8) == x) = false := by
        rw [beq_eq_false_iff_ne]
        exact fun e => hx e.symm
      rw [this]
      rfl
    show Lib.index (x :: (a ++ 58 :: 93 :: r)) [58, 93] = _
    have hi := ih (fun y hy => h y (List.mem_cons_of_mem _ hy))
    rw [Lib.index, hp, if_neg (by decide), hi]
    have hne : ((a.length : Int) == -1) = false := by
      rw [beq_eq_false_iff_ne]
      omega
    rw [hne, if_neg (by decide), List.length_cons]
    omega
theorem cut_name (a r : List UInt8) (h : ∀ x ∈ a, x ≠ 58) : Lib.cut (a ++ 58 :: 93 :: r) [58, 93] = (a, r, true) := by
  unfold Lib.cut
  rw [index_name a r h, if_pos (Int.natCast_nonneg _), Int.toNat_natCast]
  have h1 : (a ++ 58 :: 93 :: r).take a.length = a := by simp
  have h2 : (a ++ 58 :: 93 :: r).drop (a.length + ([58, 93] : List UInt8).length) = r := by
    rw [← List.drop_drop]
    simp
  rw [h1, h2]
theorem pre_self (p t : List UInt8) : Lib.hasPrefix (p ++ t) p = true := by
  unfold Lib.hasPrefix
  exact List.isPrefixOf_iff_prefix.2 (List.prefix_append p t)
/-- A name's item. -/
theorem item_name_at (s : Nat) (first : Bool) (a r : List UInt8) (h : ∀ x ∈ a, x ≠ 58) (hn : nset a ≠ 0) :
    item nm s (91 :: 58 :: (a ++ 58 :: 93 :: r)) first = some (some (s ||| nset a, r)) := by
  unfold item
  have hp : Lib.hasPrefix (91 :: 58 :: (a ++ 58 :: 93 :: r)) [91, 58] = true := pre_self [91, 58] _
  rw [if_pos hp]
  have hd : (91 :: 58 :: (a ++ 58 :: 93 :: r)).drop 2 = a ++ 58 :: 93 :: r := rfl
  rw [hd, cut_name a r h]
  show (if nset a = 0 ∨ true = false then (some none : Option (Option (Nat × List UInt8))) else some (some (s ||| nset a, r))) = _
  rw [if_neg (by rintro (h' | h'); exact hn h'; cases h')]
/-- The names have no colon. -/
theorem nset_plain (a : List UInt8) (h : nset a ≠ 0) : ∀ x ∈ a, x ≠ 58 := by
  by_cases h0 : a = [97, 108, 112, 104, 97]
  · subst h0; decide
  by_cases h1 : a = [100, 105, 103, 105, 116]
  · subst h1; decide
  by_cases h2 : a = [97, 108, 110, 117, 109]
  · subst h2; decide
  by_cases h3 : a = [117, 112, 112, 101, 114]
  · subst h3; decide
  by_cases h4 : a = [108, 111, 119, 101, 114]
  · subst h4; decide
  by_cases h5 : a = [115, 112, 97, 99, 101]
  · subst h5; decide
  by_cases h6 : a = [98, 108, 97, 110, 107]
  · subst h6; decide
  by_cases h7 : a = [112, 117, 110, 99, 116]
  · subst h7; decide
  by_cases h8 : a = [112, 114, 105, 110, 116]
  · subst h8; decide
  by_cases h9 : a = [103, 114, 97, 112, 104]
  · subst h9; decide
  by_cases h10 : a = [99, 110, 116, 114, 108]
  · subst h10; decide
  by_cases h11 : a = [120, 100, 105, 103, 105, 116]
  · subst h11; decide
  exact absurd (by unfold nset; rw [if_neg h0, if_neg h1, if_neg h2, if_neg h3, if_neg h4, if_neg h5, if_neg h6, if_neg h7, if_neg h8, if_neg h9, if_neg h10, if_neg h11]) h
theorem nm_lt' (name : List UInt8) (k : Nat) (h : nm name = some k) : k < 2 ^ 256 := by
  obtain rfl := Option.some.inj h
  exact nset_lt name
theorem pre93 (t : List UInt8) : Lib.hasPrefix (93 :: t) [93] = true := pre_self [93] t
/-- "[:a:]]". -/
theorem brk_one (n s : Nat) (first : Bool) (a r : List UInt8) (hn : nset a ≠ 0) :
    brk nm (n + 1) s (91 :: 58 :: (a ++ 58 :: 93 :: 93 :: r)) first = some (some (s ||| nset a, 93 :: r)) := by
  rw [brk, item_name_at s first a (93 :: r) (nset_plain a hn) hn]
  show (if Lib.hasPrefix (93 :: r) [93] = true then _ else _) = _
  rw [if_pos (pre93 r)]
theorem bracket_one (a : List UInt8) (hn : nset a ≠ 0) : bracket nm (91 :: 58 :: (a ++ [58, 93, 93])) = some (nset a, (a.length : Int) + 5, 0) := by
  have hp : Lib.hasPrefix (91 :: 58 :: (a ++ [58, 93, 93])) [94] = false := pre_ne (by decide)
  unfold bracket Lib.trimPrefix
  rw [hp, if_neg (by decide), brk_one _ 0 true a [] hn, Nat.zero_or]
  show some (_, ((_ : Nat) : Int), (0 : Int)) = _
  rw [if_neg (by decide)]
  congr 3
  show (((91 :: 58 :: (a ++ [58, 93, 93])).length - [93].length + 1 : Nat) : Int) = _
  simp only [List.length_cons, List.length_append, List.length_nil]
  omega
theorem bracket_not (a : List UInt8) (hn : nset a ≠ 0) : bracket nm (94 :: 91 :: 58 :: (a ++ [58, 93, 93])) = some (compl (wi (nset a) 10 (10 + 1 - 10)), (a.length : Int) + 6, 0) := by
  have hp : Lib.hasPrefix (94 :: 91 :: 58 :: (a ++ [58, 93, 93])) [94] = true := pre_self [94] _
  unfold bracket Lib.trimPrefix
  rw [hp, if_pos rfl]
  show (brk nm _ 0 (91 :: 58 :: (a ++ [58, 93, 93])) true).map _ = _
  rw [brk_one _ 0 true a [] hn, Nat.zero_or]
  show some (_, ((_ : Nat) : Int), (0 : Int)) = _
  rw [if_pos rfl]
  congr 3
  show (((94 :: 91 :: 58 :: (a ++ [58, 93, 93])).length - [93].length + 1 : Nat) : Int) = _
  simp only [List.length_cons, List.length_append, List.length_nil]
  omega
theorem bracket_two (c : UInt8) (a b : List UInt8) (hc0 : 48 ≤ c.toNat) (hc1 : c.toNat ≤ 57) (ha : nset a ≠ 0) (hb : nset b ≠ 0) :
    bracket nm (c :: 91 :: 58 :: (a ++ 58 :: 93 :: 91 :: 58 :: (b ++ [58, 93, 93]))) = some (wi 0 c.toNat (c.toNat + 1 - c.toNat) ||| nset a ||| nset b, (a.length : Int) + (b.length : Int) + 10, 0) := by
  have n10 : ¬ c = 10 := byte_ne (n := 10) (by decide) (by omega)
  have n91 : ¬ c = 91 := byte_ne (n := 91) (by decide) (by omega)
  have n93 : ¬ c = 93 := byte_ne (n := 93) (by decide) (by omega)
  have n94 : ¬ c = 94 := byte_ne (n := 94) (by decide) (by omega)
  have hp : Lib.hasPrefix (c :: 91 :: 58 :: (a ++ 58 :: 93 :: 91 :: 58 :: (b ++ [58, 93, 93]))) [94] = false := pre_ne n94
  have hi := item_one (nm := nm) (s := 0) (c0 := c) (l := 91 :: 58 :: (a ++ 58 :: 93 :: 91 :: 58 :: (b ++ [58, 93, 93]))) (first := true) (pre_ne n91) (single_letter true n10 n91 n93) (fun c2 l' _ e => by injection e with e1 _; exact absurd e1 (by decide))
  unfold bracket Lib.trimPrefix
  rw [hp, if_neg (by decide)]
  obtain ⟨k, hk⟩ : ∃ k, (c :: 91 :: 58 :: (a ++ 58 :: 93 :: 91 :: 58 :: (b ++ [58, 93, 93]))).length + 1 = k + 1 + 1 + 1 := ⟨a.length + b.length + 8, by simp only [List.length_cons, List.length_append, List.length_nil]; omega⟩
  rw [hk, brk, hi]
  show Option.map _ (if Lib.hasPrefix (91 :: 58 :: (a ++ 58 :: 93 :: 91 :: 58 :: (b ++ [58, 93, 93]))) [93] = true then _ else _) = _
  rw [pre_ne (by decide), if_neg (by decide), brk, item_name_at _ false a _ (nset_plain a ha) ha]
  show Option.map _ (if Lib.hasPrefix (91 :: 58 :: (b ++ [58, 93, 93])) [93] = true then _ else _) = _
  rw [pre_ne (by decide), if_neg (by decide), brk_one k _ false b [] hb]
  show some (_, ((_ : Nat) : Int), (0 : Int)) = _
  rw [if_neg (by decide)]
  congr 3
  show (((c :: 91 :: 58 :: (a ++ 58 :: 93 :: 91 :: 58 :: (b ++ [58, 93, 93]))).length - [93].length + 1 : Nat) : Int) = _
  simp only [List.length_cons, List.length_append, List.length_nil]
  omega
/-- Both, and a byte: in whatever order. -/
theorem both_byte (x y c : Nat) : wi 0 c (c + 1 - c) ||| x ||| y = wi (x ||| y) c (c + 1 - c) := by
  rw [Nat.add_sub_cancel_left]
  show ((0 ||| 2 ^ c) ||| x) ||| y = (x ||| y) ||| 2 ^ c
  rw [Nat.zero_or, Nat.or_assoc, Nat.or_comm]
end Go.Proofs.Ytglhhcgoppmipaa.Cl
