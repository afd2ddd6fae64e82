/- The reference disk: Write that is refused; New. -/
import Derived.Test.YtinhednmfldmbaaRef4
namespace Go.Proofs.Ytinhednmfldmbaa.Dk
open Go Go.RowKit Hp Rd

theorem refWrite_bad {F : Nat → Prop} {w : World} {rb gf cf : Nat} {vc : Value} {fs vs : List Value} {R : RSt} (h : RefIs w F rb gf cf vc fs vs R) (n : Int) (v : Value) (hn : n < 0 ∨ R.size ≤ n) :
    Calls Try.prog 15 #[.pointer (some ⟨rb, 0, none⟩), .int .i64 n, v] w fun e w' => e = .returned (.int .i64 21) ∧ w = w' := by
  have hh := h.head
  have c0 : w.cell? ⟨rb, 0, none⟩ = some (.int .i64 R.size) := by simp [World.cell?, hh]
  clear hh
  by_cases h0 : n < 0
  · go_enter Try.func15, Try.ntmps15
    go_wp2
    go_ret
    exact ⟨rfl, rfl⟩
  · have h1 : R.size ≤ n := by omega
    go_enter Try.func15, Try.ntmps15
    go_wp2
    go_ret
    exact ⟨rfl, rfl⟩
theorem refWrite_short {F : Nat → Prop} {w : World} {rb gf cf : Nat} {vc : Value} {fs vs : List Value} {R : RSt} (h : RefIs w F rb gf cf vc fs vs R) (n : Int) (h0 : 0 ≤ n) (h1 : n < R.size) (a : Option Addr) (k c : Nat) (hk : k ≠ 32) :
    Calls Try.prog 15 #[.pointer (some ⟨rb, 0, none⟩), .int .i64 n, .slice a k c] w fun e w' => e = .returned (.int .i64 1) ∧ w = w' := by
  have hh := h.head
  have c0 : w.cell? ⟨rb, 0, none⟩ = some (.int .i64 R.size) := by simp [World.cell?, hh]
  have hk2 : ¬ ((k : Int) = 32) := by omega
  clear hh
  go_enter Try.func15, Try.ntmps15
  go_wp2
  go_ret
  exact ⟨rfl, rfl⟩
theorem refNew_bad (n : Int) (w : World) (h : n < 1 ∨ 65536 < n) :
    Calls Try.prog 13 #[.int .i64 n] w fun e w' => e = .returned (.tuple #[.pointer none, .int .i64 1]) ∧ w = w' := by
  by_cases h1 : n < 1
  · go_enter Try.func13, Try.ntmps13
    go_wp2
    go_ret2
    exact ⟨rfl, rfl⟩
  · have h2 : 65536 < n := by omega
    go_enter Try.func13, Try.ntmps13
    go_wp2
    go_ret2
    exact ⟨rfl, rfl⟩
end Go.Proofs.Ytinhednmfldmbaa.Dk
