/- strings.Cut at one byte, strings.IndexByte. -/
import Derived.Test.YthedaphclgiknaaDoorShelf
import Derived.Test.YthedaphclgiknaaDoorWMore
import Derived.WalkKit
namespace Go.Proofs.YthedaphclgiknaaDoor.Cu
open Go.RowKit

/-- The first place of a byte, or none. -/
def idx (s : ByteArray) (c : UInt8) : Option Nat := s.data.toList.idxOf? c
theorem indexByte_idx (l : List UInt8) (c : UInt8) : Lib.indexByte l c = match l.idxOf? c with | some n => (n : Int) | none => -1 := by
  induction l with
  | nil => rfl
  | cons b l ih =>
    rw [Lib.indexByte, List.idxOf?_cons, ih]
    by_cases h : (b == c) = true
    · simp [h]
    · simp only [h]
      cases hl : l.idxOf? c with
      | none => simp
      | some n =>
        have : ¬ ((n : Int) == -1) = true := by
          intro h
          have := (beq_iff_eq.1 h)
          omega
        simp [this]
theorem idx_lt {s : ByteArray} {c : UInt8} {n : Nat} (h : idx s c = some n) : n < s.size := by
  unfold idx at h
  have := List.findIdx?_eq_some_iff_findIdx_eq.1 h
  rw [ByteArray.size, ← Array.length_toList]
  exact this.1
def cut (s : ByteArray) (c : UInt8) : ByteArray × ByteArray × Bool :=
  match idx s c with
  | some n => (s.extract 0 n, s.extract (n + 1) s.size, true)
  | none => (s, ⟨#[]⟩, false)
set_option maxHeartbeats 1000000 in
theorem lite_calls (s : ByteArray) (c : UInt8) (w : World) (hs : s.size ≤ 9223372036854775807) :
    Calls Tryd.prog 21 #[.string s, .string ⟨#[c]⟩] w fun e w' => e = .returned (.tuple #[.string (cut s c).1, .string (cut s c).2.1, .bool (cut s c).2.2]) ∧ ∃ k, w' = w.drewN k := by
  unfold cut
  have hi := indexByte_idx s.data.toList c
  have hx : idx s c = s.data.toList.idxOf? c := rfl
  rw [← hx] at hi
  cases h : idx s c with
  | none =>
    rw [h] at hi
    have K : ∀ w, Calls Tryd.prog 25 #[.string s, .string ⟨#[c]⟩] w fun e w' => e = .returned (.int .i64 (-1)) ∧ w' = w := fun w => by
      have := Tryd.stringslite_Index_one s c w
      rwa [hi] at this
    go_enter Tryd.func21, Tryd.ntmps21
    go_wp2_with (go_at_call 25; refine (K _).mono ?_; rintro e w1 ⟨rfl, rfl⟩)
    go_ret3
    exact ⟨rfl, 0, rfl⟩
  | some n =>
    rw [h] at hi
    have hlt := idx_lt h
    have K : ∀ w, Calls Tryd.prog 25 #[.string s, .string ⟨#[c]⟩] w fun e w' => e = .returned (.int .i64 (n : Int)) ∧ w' = w := fun w => by
      have := Tryd.stringslite_Index_one s c w
      rwa [hi] at this
    have c1 : (0 : Int) ≤ ↑n := by omega
    have c2 : (↑n : Int) ≤ ↑s.size := by omega
    have cw : IntKind.i64.wrap ((n : Int) + 1) = (n : Int) + 1 := by
      have : IntKind.i64.wrap ((n : Int) + 1) = RowKit.wrap64 ((n : Int) + 1) := by unfold RowKit.wrap64; exact IntKind.wrap_i64 _
      rw [this]; unfold RowKit.wrap64; omega
    have c3 : (0 : Int) ≤ IntKind.i64.wrap ((n : Int) + 1) := by omega
    have c4 : IntKind.i64.wrap ((n : Int) + 1) ≤ ↑s.size := by omega
    have mixed : Tryd.prog.follows Departure.mixedOrders = true := by kernel_rfl
    go_enter Tryd.func21, Tryd.ntmps21
    go_wp2_with (go_at_call 25; refine (K _).mono ?_; rintro e w1 ⟨rfl, rfl⟩)
    go_region_o
    go_wp2
    go_ret3
    exact ⟨rfl, 1, rfl⟩
theorem cut_calls (s : ByteArray) (c : UInt8) (w : World) (hs : s.size ≤ 9223372036854775807) :
    Calls Tryd.prog 15 #[.string s, .string ⟨#[c]⟩] w fun e w' => e = .returned (.tuple #[.string (cut s c).1, .string (cut s c).2.1, .bool (cut s c).2.2]) ∧ ∃ k, w' = w.drewN k := by
  go_enter Tryd.func15, Tryd.ntmps15
  go_wp2_with (go_at_call 21; refine (lite_calls _ _ _ hs).mono ?_; rintro e w1 ⟨rfl, k, rfl⟩)
  go_ret3
  exact ⟨rfl, k, rfl⟩
end Go.Proofs.YthedaphclgiknaaDoor.Cu
