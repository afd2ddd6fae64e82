/- Gather's 'part': a number of the end's body as a float. -/
import Derived.Test.YtgnepppncmjagaaRefGat
import Derived.Test.YtgnepppncmjagaaPrintF35
namespace Go.Proofs.Ytgnepppncmjagaa.Gt
open Go Go.RowKit Hp Rd Go.Proofs.Ytgnepppncmjagaa.Fr Go.Proofs.YtgnepppncmjagaaW.PrintWords Go.Proofs.YtgnepppncmjagaaW.PrintLast Go.Proofs.Ytgnepppncmjagaa.Print
theorem num_or (a b : Int) (ha : 0 ≤ a ∧ a ≤ 255) (hb : 0 ≤ b ∧ b ≤ 255) : Go.bits .or .i64 (wrap64 ((wrap64 a) * 256)) (wrap64 b) = 256 * a + b := by
  have e1 : wrap64 a = a := by unfold wrap64; omega
  have e2 : wrap64 (a * 256) = a * 256 := by unfold wrap64; omega
  have e3 : wrap64 b = b := by unfold wrap64; omega
  rw [e1, e2, e3]
  have p8 : (2 : Int) ^ 8 = 256 := by decide
  have p32 : (2 : Int) ^ 32 = 4294967296 := by decide
  have h := bits_join .i64 32 (by decide) (fun n h0 h1 => by rw [IntKind.wrap_i64]; rw [p32] at h1; omega) 8 (a * 256) b (by omega) (by rw [p8]; omega) (by rw [p32]; omega) (by omega) (by rw [p8]; omega) (by rw [p32]; omega)
  omega
theorem number_ok {w : World} {A : Option Addr} {c : Nat} {l : List Int} {x y : Int} {r : List Int} (h : Bytes w A l) (hb : ∀ x ∈ l, 0 ≤ x ∧ x ≤ 255) (hl : l = x :: y :: r) (hc : l.length ≤ c) (hm : l.length ≤ 9223372036854775807) :
    Calls Try.prog 35 #[.slice A l.length c] w fun e w' => e = .returned (.int .i64 (256 * x + y)) ∧ Below w.heap.size w w' := by
  have hx := hb x (by rw [hl]; simp)
  have hy := hb y (by rw [hl]; simp)
  refine (frame_number.calls A c l (256 * x + y) w (h.C hm) hc ?_).mono ?_
  · subst hl
    unfold frame_number.f
    rw [if_pos (by simp; omega), if_pos (by simp; omega)]
    show some (Go.bits .or .i64 (wrap64 ((wrap64 x) * 256)) (wrap64 y)) = _
    rw [num_or x y hx hy]
  · rintro e w' ⟨rfl, hd⟩
    exact ⟨rfl, hd.below⟩
set_option maxRecDepth 100000 in
theorem part_ok (w : World) (b5 c j : Nat) (ad : Addr) (l : List Int) (x y : Int) (r : List Int) (h : w.cell? ⟨b5, 2, none⟩ = some (.slice (some ad) 6 c)) (hb : Bytes w (some ad) l) (h6 : l.length = 6) (hn : ∀ x ∈ l, 0 ≤ x ∧ x ≤ 255) (hc : 6 ≤ c) (hj : j ≤ 4) (hl : l.drop j = x :: y :: r) :
    Calls Try.prog 41 #[.int .i64 (j : Int), .pointer (some ⟨b5, 0, none⟩)] w fun e w' => e = .returned (.float .f64 (FloatKind.f64.nearest (256 * x + y))) ∧ Below w.heap.size w w' := by
  have hdr := Bytes.drop hb j (show l.length ≤ c by omega)
  have hdl : (l.drop j).length = 6 - j := by rw [List.length_drop, h6]
  have hnd : ∀ x ∈ l.drop j, 0 ≤ x ∧ x ≤ 255 := fun x hx => hn x (List.mem_of_mem_drop hx)
  have hcj : ¬ c = j := by omega
  have hnum := number_ok (c := c - j) hdr hnd hl (by rw [hdl]; omega) (by rw [hdl]; omega)
  rw [hdl, if_neg hcj, Nat.mul_one] at hnum
  have HNUM := Sh.mk hnum
  have j0_ : (0 : Int) ≤ (j : Int) := by omega
  have j6_ : (j : Int) ≤ 6 := by omega
  have hfl : ∀ (W : World) (n : Int), Sem.run Try.prog (convert 3 67 (.int .i64 n)) W = .ok (.float .f64 (FloatKind.f64.nearest n)) W := fun _ _ => rfl
  clear hdr hdl hnd hnum hl h6 hn hb hc hj
  go_enter Try.func41, Try.ntmps41
  go_wp2_with fail
  refine HNUM.out.mono ?_
  rintro e w' ⟨rfl, hB⟩
  go_wp2_with fail
  go_ret
  exact ⟨rfl, hB⟩
theorem near_fl (k : Int) (h : 0 ≤ k) : FloatKind.f64.nearest k = fl k.toNat := by
  unfold fl
  rw [Int.toNat_of_nonneg h]
theorem toErrI (w : World) (k : Int) (h0 : 0 ≤ k) (h1 : k ≤ 65535) : Sem.run Try.prog (convert 67 24 (.float .f64 (FloatKind.f64.nearest k))) w = .ok (.int .i64 k) w := by
  rw [near_fl k h0, toErr w k.toNat (by omega), Int.toNat_of_nonneg h0]
end Go.Proofs.Ytgnepppncmjagaa.Gt
