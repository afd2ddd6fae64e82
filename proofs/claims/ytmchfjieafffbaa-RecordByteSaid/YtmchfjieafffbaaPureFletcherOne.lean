/- Where just one byte is another one the Fletcher sum is another one; no condition. -/
import Derived.Test.YtmchfjieafffbaaPrintF5
import Derived.Test.YtmchfjieafffbaaEval1
namespace Go.Proofs.Ytmchfjieafffbaa.Pure
open Go.RowKit Go.Proofs.Ytmchfjieafffbaa.Print Go.Proofs.YtmchfjieafffbaaW.PrintWords Go.Proofs.YtmchfjieafffbaaW.PrintLast Go.Proofs.Ytmchfjieafffbaa Go.Proofs.Ytmchfjieafffbaa.Ev1

theorem xor_byte {x y : Int} (hx : 0 ≤ x ∧ x < 256) (hy : 0 ≤ y ∧ y < 256) (hne : y ≠ 0) : (0 ≤ Go.bits .xor .u8 x y ∧ Go.bits .xor .u8 x y < 256) ∧ Go.bits .xor .u8 x y ≠ x := by
  rw [u8_xor x y hx.1 hx.2 hy.1 hy.2]
  have h1 : x.toNat < 2 ^ 8 := by omega
  have h2 : y.toNat < 2 ^ 8 := by omega
  have h3 := Nat.xor_lt_two_pow h1 h2
  refine ⟨⟨by omega, by omega⟩, fun h => ?_⟩
  have h4 : x.toNat ^^^ y.toNat = x.toNat := by omega
  have h5 : x.toNat ^^^ (x.toNat ^^^ y.toNat) = x.toNat ^^^ x.toNat := by rw [h4]
  rw [← Nat.xor_assoc, Nat.xor_self, Nat.zero_xor] at h5
  omega
theorem bytes_set {l : List Int} (hl : Pl.bytes l) (i : Nat) {y : Int} (hy : 0 ≤ y ∧ y < 256) : Pl.bytes (l.set i y) := fun x hx => by
  rcases List.mem_or_eq_of_mem_set hx with h | h
  · exact hl x h
  · rw [h]; exact hy
/-- A byte of these, changed by another one that isn't 0: another sum. -/
theorem one_sum (l : List Int) (hl : Pl.bytes l) (i : Int) (h0 : 0 ≤ i) (h1 : i < (l.length : Int)) (b : Int) (hb : 0 ≤ b ∧ b < 256) (hne : b ≠ 0) :
    ∃ s, fletcher_Sum.f (l.set i.toNat (Go.bits .xor .u8 (rd l i) b)) = some s ∧ s ≠ Pl.more 1 l := by
  obtain ⟨n, rfl⟩ := Int.eq_ofNat_of_zero_le h0
  have hlt : n < l.length := by omega
  have hr : rd l (n : Int) = l[n] := by
    unfold rd
    rw [Int.toNat_natCast, List.getD_eq_getElem?_getD, List.getElem?_eq_getElem hlt]
    rfl
  have hbyte := hl l[n] (List.getElem_mem hlt)
  rw [hr, Int.toNat_natCast]
  obtain ⟨hx1, hx2⟩ := xor_byte hbyte hb hne
  refine ⟨_, sum_f (bytes_set hl n hx1), ?_⟩
  have e1 : l.set n (Go.bits .xor .u8 l[n] b) = l.take n ++ Go.bits .xor .u8 l[n] b :: l.drop (n + 1) := by
    rw [List.set_eq_take_append_cons_drop, if_pos hlt]
  have e2 : l = l.take n ++ l[n] :: l.drop (n + 1) := by
    rw [← List.drop_eq_getElem_cons hlt, List.take_append_drop]
  rw [e1]
  intro h
  have e3 : Pl.more 1 l = Pl.more 1 (l.take n ++ l[n] :: l.drop (n + 1)) := by rw [← e2]
  rw [e3] at h
  exact Pl.more_one 1 (l.take n) (l.drop (n + 1)) _ _ hx1 hbyte hx2 h
theorem one_j0 (k : Nat) (l : List Int) (a b : Int) (t : Bool) (hlen : l.length * 1 ≤ 140737488351232) (hl : Pl.bytes l) (ha : -9223372036854775808 ≤ a ∧ a ≤ 9223372036854775807) (hb : 0 ≤ b ∧ b < 256)
    (ht : t = false → l.length ≠ 0 ∧ b ≠ 0) : headgatelaw03_FletcherOne.j0 (k + 1) l a b t = some true := by
  simp only [headgatelaw03_FletcherOne.j0]
  cases t with
  | true => rw [if_pos rfl, alive_f]; rfl
  | false =>
    obtain ⟨h1, h2⟩ := ht rfl
    rw [if_neg (by decide)]
    have fin : ∀ i : Int, 0 ≤ i → i < (l.length : Int) → ((fletcher_Sum.f (l.set i.toNat (Go.bits .xor .u8 (rd l i) b))).bind fun t163 => (fletcher_Sum.f l).bind fun t164 => some (t163 != t164)) = some true := fun i hi0 hi1 => by
      obtain ⟨s, hs, hne⟩ := one_sum l hl i hi0 hi1 b hb h2
      rw [hs, sum_f hl]
      simpa using hne
    by_cases hneg : a < 0
    · rw [if_pos hneg]
      simp only [Option.bind_some, List.nil_append, List.length_nil]
      have e : wrap64 (-(wrap64 (a + 1))) = -(a + 1) := by rw [wrap64_small (a + 1) (by omega) (by omega), wrap64_small _ (by omega) (by omega)]
      have ep : Int.tmod (-(a + 1)) (l.length : Int) = (-(a + 1)) % (l.length : Int) := tmod_pos _ _ (by omega)
      have p0 := Int.emod_nonneg (-(a + 1)) (show (l.length : Int) ≠ 0 by omega)
      have p1 := Int.emod_lt_of_pos (-(a + 1)) (show 0 < (l.length : Int) by omega)
      rw [e, ep, if_pos (by omega), if_neg (by omega), if_pos p0, if_pos p1, alive_f]
      simp only [Option.bind_some, if_true]
      exact fin _ p0 p1
    · rw [if_neg hneg]
      simp only [Option.bind_some, List.nil_append, List.length_nil]
      have ep : Int.tmod a (l.length : Int) = a % (l.length : Int) := tmod_pos _ _ (by omega)
      have p0 := Int.emod_nonneg a (show (l.length : Int) ≠ 0 by omega)
      have p1 := Int.emod_lt_of_pos a (show 0 < (l.length : Int) by omega)
      rw [ep, if_pos (by omega), if_neg (by omega), if_pos p0, if_pos p1, alive_f]
      simp only [Option.bind_some, if_true]
      exact fin _ p0 p1
theorem FletcherOne : headgatelaw03_FletcherOne.Pure := by
  intro l a b _ hlen hl ha hb
  refine ⟨1, ?_⟩
  unfold headgatelaw03_FletcherOne.f
  have J := fun t ht => one_j0 0 l a b t hlen (bytes_wf hl) (i64_wf ha) (u8_wf hb) ht
  by_cases h1 : (l.length : Int) > 5000
  · rw [if_pos h1]; exact J true (fun h => by cases h)
  · rw [if_neg h1]
    by_cases h2 : (l.length : Int) = 0
    · rw [if_pos h2]; exact J true (fun h => by cases h)
    · rw [if_neg h2]
      refine J _ (fun h => ⟨by omega, by simpa using h⟩)
end Go.Proofs.Ytmchfjieafffbaa.Pure
