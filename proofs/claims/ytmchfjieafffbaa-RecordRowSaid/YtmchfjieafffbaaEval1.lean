/- What the printed functions of chapter 3 come to. -/
import Derived.Test.YtmchfjieafffbaaPrintF15
import Derived.Test.YtmchfjieafffbaaPrintF13
namespace Go.Proofs.Ytmchfjieafffbaa.Ev1
open Go.RowKit Go.Proofs.Ytmchfjieafffbaa.Print Go.Proofs.YtmchfjieafffbaaW.PrintWords Go.Proofs.YtmchfjieafffbaaW.PrintLast Go.Proofs.Ytmchfjieafffbaa

theorem u8_wf {x : Int} (h : (Lit.int .u8 x).wf = true) : 0 ≤ x ∧ x < 256 := by
  simp only [Lit.wf, Bool.and_eq_true, decide_eq_true_eq] at h
  have e1 : IntKind.u8.min = 0 := by decide
  have e2 : IntKind.u8.max = 255 := by decide
  omega
theorem u32_wf {x : Int} (h : (Lit.int .u32 x).wf = true) : 0 ≤ x ∧ x < 4294967296 := by
  simp only [Lit.wf, Bool.and_eq_true, decide_eq_true_eq] at h
  have e1 : IntKind.u32.min = 0 := by decide
  have e2 : IntKind.u32.max = 4294967295 := by decide
  omega
theorem i64_wf {x : Int} (h : (Lit.int .i64 x).wf = true) : -9223372036854775808 ≤ x ∧ x ≤ 9223372036854775807 := by
  simp only [Lit.wf, Bool.and_eq_true, decide_eq_true_eq] at h
  have e1 : IntKind.i64.min = -9223372036854775808 := by decide
  have e2 : IntKind.i64.max = 9223372036854775807 := by decide
  omega
theorem bytes_wf {l : List Int} (h : ∀ x ∈ l, (Lit.int .u8 x).wf = true) : Pl.bytes l := fun x hx => u8_wf (h x hx)
theorem more_f {a : Int} {l : List Int} (h0 : 0 ≤ a) (h1 : a < 4294967296) (hl : Pl.bytes l) : fletcher_More.f a l = some (Pl.more a l) := by
  unfold fletcher_More.f
  rw [if_pos ⟨⟨h0, h1⟩, hl⟩]
theorem sum_f {l : List Int} (hl : Pl.bytes l) : fletcher_Sum.f l = some (Pl.more 1 l) := by
  unfold fletcher_Sum.f
  rw [more_f (by decide) (by decide) hl]
  rfl
theorem tmod_pos (a b : Int) (h : 0 ≤ a) : Int.tmod a b = a % b := Int.tmod_eq_emod_of_nonneg h
theorem tdiv_pos (a b : Int) (h : 0 ≤ a) : Int.tdiv a b = a / b := Int.tdiv_eq_ediv_of_nonneg h
theorem u64_small (a : Int) (h : 0 ≤ a) (h1 : a < 18446744073709551616) : IntKind.u64.wrap a = a := by
  have : IntKind.u64.wrap a = a % 18446744073709551616 := by simp [IntKind.wrap, IntKind.bits, IntKind.signed]
  rw [this]; omega
theorem wrap64_small (a : Int) (h : -9223372036854775808 ≤ a) (h1 : a ≤ 9223372036854775807) : wrap64 a = a := by unfold wrap64; omega
theorem ref_l0 (l : List Int) (hl : Pl.bytes l) (hlen : l.length ≤ 140737488351232) (d : Nat) : ∀ (k i : Nat) (a s : Int), Pl.Ok (a, s) → i ≤ l.length → l.length - i = d → d < k → headgateref03_More.l0 k l a s (i : Int) = some (Pl.mto (Pl.mrun (a, s) (l.drop i))) := by
  induction d with
  | zero =>
    intro k i a s ok hi hd hk
    obtain ⟨k, rfl⟩ : ∃ m, k = m + 1 := ⟨k - 1, by omega⟩
    simp only [headgateref03_More.l0]
    rw [if_neg (by omega), List.drop_of_length_le (by omega), Pl.mrun_nil]
    unfold Pl.Ok at ok
    unfold Pl.mto
    simp only at ok ⊢
    congr 1
    omega
  | succ d ih =>
    intro k i a s ok hi hd hk
    obtain ⟨k, rfl⟩ : ∃ m, k = m + 1 := ⟨k - 1, by omega⟩
    have hlt : i < l.length := by omega
    simp only [headgateref03_More.l0]
    rw [if_pos (by omega), if_pos (by omega)]
    have hr : rd l (i : Int) = l[i] := by
      unfold rd
      rw [Int.toNat_natCast, List.getD_eq_getElem?_getD, List.getElem?_eq_getElem hlt]
      rfl
    have hb := hl l[i] (List.getElem_mem hlt)
    have ok' := ok
    unfold Pl.Ok at ok
    simp only at ok
    rw [hr]
    rw [u64_small l[i] (by omega) (by omega), u64_small (a + l[i]) (by omega) (by omega), tmod_pos _ _ (by omega), u64_small _ (by omega) (by omega), tmod_pos _ _ (by omega), wrap64_small _ (by omega) (by omega)]
    have e : (i : Int) + 1 = ((i + 1 : Nat) : Int) := by omega
    rw [e, ih k (i + 1) _ _ (Pl.mstep_ok (a, s) l[i]) (by omega) (by omega) (by omega)]
    rw [List.drop_eq_getElem_cons hlt, Pl.mrun_cons]
    rfl
theorem refmore_f {k : Nat} {a : Int} {l : List Int} (h0 : 0 ≤ a) (h1 : a < 4294967296) (hl : Pl.bytes l) (hlen : l.length ≤ 140737488351232) (hk : l.length < k) : headgateref03_More.f k a l = some (Pl.more a l) := by
  unfold headgateref03_More.f
  have e1 : IntKind.u64.wrap (Int.tmod (Int.tmod a 65536) 65521) = a % 65536 % 65521 := by
    rw [tmod_pos a _ h0, tmod_pos _ _ (by omega), u64_small _ (by omega) (by omega)]
  have e2 : (Int.tdiv a 65536) % 4294967296 % 65521 = a / 65536 % 65521 := by rw [tdiv_pos a _ h0, Int.emod_eq_of_lt (a := a / 65536) (b := 4294967296) (by omega) (by omega)]
  rw [e1, e2]
  exact ref_l0 l hl hlen l.length k 0 _ _ (Pl.mfrom_ok a) (by omega) (by omega) hk
theorem refsum_f {k : Nat} {l : List Int} (hl : Pl.bytes l) (hlen : l.length ≤ 140737488351232) (hk : l.length < k) : headgateref03_Sum.f k l = some (Pl.more 1 l) := by
  unfold headgateref03_Sum.f
  rw [refmore_f (by decide) (by decide) hl hlen hk]
  rfl
theorem alive_f : headgatelaw03_alive.f = some true := rfl
end Go.Proofs.Ytmchfjieafffbaa.Ev1
