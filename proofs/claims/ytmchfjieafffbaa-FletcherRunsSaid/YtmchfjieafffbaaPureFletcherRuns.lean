/- The Fletcher sum of a run of one byte is as it is reckoned at once; no condition. -/
import Derived.Test.YtmchfjieafffbaaPrint9
import Derived.Test.YtmchfjieafffbaaEval1
namespace Go.Proofs.Ytmchfjieafffbaa.Pure
open Go.RowKit Go.Proofs.Ytmchfjieafffbaa.Print Go.Proofs.YtmchfjieafffbaaW.PrintWords Go.Proofs.YtmchfjieafffbaaW.PrintLast Go.Proofs.Ytmchfjieafffbaa Go.Proofs.Ytmchfjieafffbaa.Ev1

theorem runs_end (c : Int) (n : Nat) (hc : 0 ≤ c ∧ c < 256) (hn : n ≤ 3000) (k : Nat) : headgatelaw03_FletcherRuns.l0 (k + 1) c (n : Int) (List.replicate n c) (n : Int) = some true := by
  simp only [headgatelaw03_FletcherRuns.l0]
  have hb : Pl.bytes (List.replicate n c) := fun x hx => by rw [List.eq_of_mem_replicate hx]; exact hc
  rw [if_neg (by omega), sum_f hb, alive_f]
  simp only [Option.bind_some, if_true]
  have e : Pl.more 1 (List.replicate n c) = Pl.mto ((1 + (n : Int) * c) % 65521, ((n : Int) + c * ((n : Int) * ((n : Int) + 1) / 2)) % 65521) := by
    unfold Pl.more
    rw [show Pl.mfrom 1 = (1, 0) from by decide, Pl.mrun_replicate]
  rw [e]
  have b1 : 0 ≤ (n : Int) * c := Int.mul_nonneg (by omega) hc.1
  have b2 : (n : Int) * c ≤ 3000 * 255 := Int.mul_le_mul (by omega) (by omega) hc.1 (by omega)
  have b3 : c * (n : Int) = (n : Int) * c := Int.mul_comm _ _
  have b4 : 0 ≤ (n : Int) * c * ((n : Int) + 1) := Int.mul_nonneg b1 (by omega)
  have b5 : (n : Int) * c * ((n : Int) + 1) ≤ 3000 * 255 * 3001 := Int.mul_le_mul b2 (by omega) (by omega) (by omega)
  have ev : ∃ q, (n : Int) * ((n : Int) + 1) = 2 * q := by
    rcases Nat.mod_two_eq_zero_or_one n with h | h
    · refine ⟨((n / 2 : Nat) : Int) * ((n : Int) + 1), ?_⟩
      rw [← Int.mul_assoc]
      congr 1
      omega
    · refine ⟨(n : Int) * (((n + 1) / 2 : Nat) : Int), ?_⟩
      rw [← Int.mul_assoc, Int.mul_comm 2 (n : Int), Int.mul_assoc]
      congr 1
      omega
  obtain ⟨q, hq⟩ := ev
  have e6 : (n : Int) * c * ((n : Int) + 1) = 2 * (c * q) := by
    rw [Int.mul_comm (n : Int) c, Int.mul_assoc, hq, ← Int.mul_assoc, ← Int.mul_assoc, Int.mul_comm c 2]
  have e7 : (n : Int) * ((n : Int) + 1) / 2 = q := by rw [hq]; omega
  rw [e7]
  unfold Pl.mto
  simp only
  rw [wrap64_small c (by omega) (by omega), b3, wrap64_small ((n : Int) * c) (by omega) (by omega), wrap64_small (1 + (n : Int) * c) (by omega) (by omega), wrap64_small ((n : Int) + 1) (by omega) (by omega)]
  rw [wrap64_small ((n : Int) * c * ((n : Int) + 1)) (by omega) (by omega), e6]
  rw [e6] at b4 b5
  generalize c * q = z at *
  generalize (n : Int) * c = y at *
  rw [tdiv_pos (2 * z) 2 (by omega), tmod_pos _ 65536 (by omega), tdiv_pos _ 65536 (by omega)]
  rw [wrap64_small (2 * z / 2) (by omega) (by omega), wrap64_small ((n : Int) + 2 * z / 2) (by omega) (by omega), tmod_pos (1 + y) _ (by omega), tmod_pos ((n : Int) + 2 * z / 2) _ (by omega)]
  rw [wrap64_small _ (by omega) (by omega), if_pos (by omega)]
  simp only [Option.some.injEq, beq_iff_eq]
  omega
theorem runs_l0 (c : Int) (n : Nat) (hc : 0 ≤ c ∧ c < 256) (hn : n ≤ 3000) (d : Nat) : ∀ (k i : Nat), i ≤ n → n - i = d → d < k → headgatelaw03_FletcherRuns.l0 k c (n : Int) (List.replicate i c ++ List.replicate (n - i) 0) (i : Int) = some true := by
  induction d with
  | zero =>
    intro k i hi hd hk
    obtain ⟨k, rfl⟩ : ∃ m, k = m + 1 := ⟨k - 1, by omega⟩
    obtain rfl : i = n := by omega
    rw [Nat.sub_self, List.replicate_zero, List.append_nil]
    exact runs_end c i hc hn k
  | succ d ih =>
    intro k i hi hd hk
    obtain ⟨k, rfl⟩ : ∃ m, k = m + 1 := ⟨k - 1, by omega⟩
    simp only [headgatelaw03_FletcherRuns.l0]
    rw [if_pos (by omega), if_pos (by omega), if_pos (by simp; omega), wrap64_small _ (by omega) (by omega)]
    have e : (List.replicate i c ++ List.replicate (n - i) (0 : Int)).set ((i : Int)).toNat c = List.replicate (i + 1) c ++ List.replicate (n - (i + 1)) 0 := by
      rw [Int.toNat_natCast, show n - i = (n - (i + 1)) + 1 from by omega, List.replicate_succ, List.set_append_right _ _ (by simp)]
      simp [List.replicate_succ', List.append_assoc]
    rw [e, show (i : Int) + 1 = ((i + 1 : Nat) : Int) from by omega]
    exact ih k (i + 1) (by omega) (by omega) (by omega)
theorem FletcherRuns : headgatelaw03_FletcherRuns.Pure := by
  intro c n hc hn
  have hc' := u8_wf hc
  have hn' := i64_wf hn
  refine ⟨n.toNat + 3, ?_⟩
  unfold headgatelaw03_FletcherRuns.f
  have T : ∀ k, headgatelaw03_FletcherRuns.j0 (k + 1) c n true = some true := fun k => by
    simp only [headgatelaw03_FletcherRuns.j0]; rw [if_pos trivial, alive_f]; rfl
  by_cases h1 : n < 0
  · rw [if_pos h1]; exact T _
  · rw [if_neg h1]
    by_cases h2 : n > 3000
    · rw [decide_eq_true h2]; exact T _
    · rw [decide_eq_false h2]
      simp only [headgatelaw03_FletcherRuns.j0]
      rw [if_neg (by decide), if_pos (by omega), if_pos (by omega)]
      obtain ⟨m, rfl⟩ := Int.eq_ofNat_of_zero_le (show 0 ≤ n by omega)
      have := runs_l0 c m hc' (by omega) m (m + 2) 0 (by omega) (by omega) (by omega)
      simpa using this
end Go.Proofs.Ytmchfjieafffbaa.Pure
