/- FrameChunks, walked. -/
import Derived.Test.YtgnepppncmjagaaPureChunks
import Derived.Test.YtgnepppncmjagaaAlive
namespace Go.Proofs.Ytgnepppncmjagaa.Ch
open Go Go.Proofs.Ytgnepppncmjagaa.Fr Go.Proofs.Ytgnepppncmjagaa.Ck Go.RowKit Hp Rd Go.Proofs.YtgnepppncmjagaaW.PrintWords Go.Proofs.Ytgnepppncmjagaa.Print
set_option maxHeartbeats 4000000 in
set_option maxRecDepth 100000 in
theorem frameChunks_calls (v0 v1 : Value) (W : World) (a0 : Arg Try.prog W 3 v0) (a1 : Arg Try.prog W 9 v1) : Calls Try.prog 5 #[v0, v1] W fun e w' => e = .returned (.bool true) ∧ Below W.heap.size W w' := by
  obtain ⟨id, rfl, -⟩ := arg_int Try.underlying3 a0
  obtain ⟨s, rfl, hs0⟩ := arg_string Try.underlying9 a1
  clear a0 a1 hs0
  have quit : ∀ (w2 : World), Below W.heap.size W w2 → Calls Try.prog 10 #[] w2 fun e w' => e = .returned (.bool true) ∧ Below W.heap.size W w' := fun w2 hb => by
    refine (headgatelaw23_alive.calls 8 true w2 Go.Proofs.Ytgnepppncmjagaa.Ev.alive_f).mono ?_
    rintro e w' ⟨rfl, h⟩
    exact ⟨rfl, hb.trans (h.mono hb.size)⟩
  have QUIT := Sh.mk quit
  clear quit
  go_enter Try.func5, Try.ntmps5
  by_cases h1 : (20000 : Int) < (s.size : Int)
  · go_wp2_with fail
    refine (QUIT.out W (Below.refl _ _)).mono ?_
    rintro e w' ⟨rfl, h⟩
    go_wp2_with fail
    go_ret
    exact ⟨rfl, h⟩
  by_cases h2 : id < 0
  · go_wp2_with fail
    refine (QUIT.out W (Below.refl _ _)).mono ?_
    rintro e w' ⟨rfl, h⟩
    go_wp2_with fail
    go_ret
    exact ⟨rfl, h⟩
  by_cases h3 : (65535 : Int) < id
  · go_wp2_with fail
    refine (QUIT.out W (Below.refl _ _)).mono ?_
    rintro e w' ⟨rfl, h⟩
    go_wp2_with fail
    go_ret
    exact ⟨rfl, h⟩
  have hL : s.size ≤ 20000 := by omega
  go_wp2_with fail
  refine (reply_ok W id s (by omega) (by omega) hL).mono ?_
  rintro e w1 ⟨ad, A6, c6, v, rfl, hrow, hbytes, hB⟩
  obtain ⟨g, cap, rfl, hg, hF⟩ := frs_of hrow hbytes
  clear hrow hbytes hg h1 h2 h3
  have hcq : (((count s.size : Nat) : Int) + 1 != ((s.size : Int) + 999) / 1000 + 1) = false := by
    rw [bne_eq_false_iff_eq]
    unfold count
    omega
  obtain ⟨c, hc⟩ : ∃ c, count s.size = c := ⟨_, rfl⟩
  have hc20 : c ≤ 20 := by rw [← hc]; unfold count; omega
  rw [hc] at hcq ⊢
  go_wp2_with fail
  clear hcq
  go_loopg [7, 8] (c + 1) (fun kq v7 v8 w' => ∃ i : Nat, i + kq = c + 1 ∧ v7 = .string (joined s i) ∧ v8 = .int .i64 (i : Int) ∧ w' = w1)
  case atStart => exact ⟨0, by omega, rfl, rfl, rfl⟩
  case round =>
    obtain ⟨i, hik, rfl, rfl, rfl⟩ := hrel
    cases gk with
    | zero =>
      obtain rfl : i = c + 1 := by omega
      rw [joined_all (show count s.size ≤ c + 1 by omega)]
      have kk : ¬ (((c + 1 : Nat) : Int) < (c : Int) + 1) := by omega
      go_wp2_with fail
      refine (QUIT.out wr hB).mono ?_
      rintro e w2 ⟨rfl, h⟩
      go_wp2_with fail
      go_ret
      exact ⟨rfl, h⟩
    | succ g1_ =>
      have kk : (i : Int) < (c : Int) + 1 := by omega
      have d0_ : wr.cell? ⟨g, i * 3, none⟩ = some (.int .i64 id) := by rw [Nat.mul_comm]; exact hF.at0 i (by omega)
      rcases Nat.lt_or_ge i c with hic | hic
      · have d1_ : wr.cell? ⟨g, i * 3 + 1, none⟩ = some (.int .i64 2) := by rw [Nat.mul_comm]; exact hF.at1 i (by omega)
        have d2_ : wr.cell? ⟨g, i * 3 + 2, none⟩ = some (piece ad s.size i) := by rw [Nat.mul_comm]; exact hF.at2 i (by omega)
        have hi : 1000 * i < s.size := by rw [← hc] at hic; unfold count at hic; omega
        have hpB := piece_bytes (hF.bytes (by omega)) i hi
        obtain ⟨m, hm⟩ : ∃ m, min 1000 (s.size - 1000 * i) = m := ⟨_, rfl⟩
        have hpl := (piece_len s i).trans hm
        have hmul : joined s i ++ strOfNums (((nums s).drop (1000 * i)).take 1000) = joined s (i + 1) := joined_succ s i
        have hcv := Bytes.str hpB (by rw [hpl]; omega) m
        rw [hpl] at hcv
        have hpc : piece ad s.size i = .slice (some (ad.add (1000 * i))) m m := by unfold piece; rw [hm]
        rw [hpc] at d2_
        have kne : ((i : Int) == (c : Int)) = false := by rw [beq_eq_false_iff_ne]; omega
        have k8_ : wrap64 ((i : Int) + 1) = ((i + 1 : Nat) : Int) := by unfold wrap64; omega
        have hm1 : i + 1 < c → m = 1000 := fun h => by rw [← hc] at h; unfold count at h; omega
        have sz_ : ¬ (9223372036854775807 : Int) < ((joined s i).size : Int) + ((strOfNums (((nums s).drop (1000 * i)).take 1000)).size : Int) := by
          have h1 := joined_size s i
          rw [strOfNums_size, hpl]
          omega
        clear hm hpc hpl hpB hi
        by_cases hl : i + 1 < c
        · have kl_ : (i : Int) < (c : Int) - 1 := by omega
          obtain rfl := hm1 hl
          clear hm1
          go_wp2_with fail
          go_roundg g1_
          case measure => omega
          case rel => exact ⟨i + 1, by omega, (by first | rfl | (rw [hmul])), rfl, rfl⟩
        · have kl_ : ¬ (i : Int) < (c : Int) - 1 := by omega
          clear hm1
          go_wp2_with fail
          go_roundg g1_
          case measure => omega
          case rel => exact ⟨i + 1, by omega, (by first | rfl | (rw [hmul])), rfl, rfl⟩
      · obtain rfl : i = c := by omega
        have d1_ : wr.cell? ⟨g, i * 3 + 1, none⟩ = some (.int .i64 3) := by rw [Nat.mul_comm, ← hc]; exact hF.end1
        have d2_ : wr.cell? ⟨g, i * 3 + 2, none⟩ = some (.slice (some A6) 6 c6) := by rw [Nat.mul_comm, ← hc]; exact hF.end2
        have kne : ((i : Int) == (i : Int)) = true := beq_self_eq_true _
        have k8_ : wrap64 ((i : Int) + 1) = ((i + 1 : Nat) : Int) := by unfold wrap64; omega
        have kl_ : ¬ (i : Int) < (i : Int) - 1 := by omega
        have hmul : joined s i = joined s (i + 1) := by rw [joined_all (by omega), joined_all (by omega)]
        go_wp2_with fail
        go_roundg g1_
        case measure => omega
        case rel => exact ⟨i + 1, by omega, (by first | rfl | (rw [hmul])), rfl, rfl⟩
end Go.Proofs.Ytgnepppncmjagaa.Ch
