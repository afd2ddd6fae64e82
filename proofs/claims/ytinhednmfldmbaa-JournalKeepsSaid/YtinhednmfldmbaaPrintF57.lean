-- written by hgprint.py (this work's own call of the kit's printer, with texts of its own for some functions)
import Derived.Test.YtinhednmfldmbaaPrint0
namespace Go.Proofs.Ytinhednmfldmbaa.Print
open Go.RowKit Go.Proofs.YtinhednmfldmbaaW.PrintWords Go.Proofs.YtinhednmfldmbaaW.PrintLast Go.Proofs.YtinhednmfldmbaaW.PrintMore
attribute [local go_sem] Go.Proofs.Ytinhednmfldmbaa.Goto.Jumps_ret Go.Proofs.Ytinhednmfldmbaa.Goto.Jumps_normal Go.Proofs.Ytinhednmfldmbaa.Goto.Jumps_exit Go.Proofs.Ytinhednmfldmbaa.Goto.Jumps_panic Go.Proofs.Ytinhednmfldmbaa.Goto.Jumps_outgrown max2_int min2_int max_two min_two max_three min_three max_four min_four   -- for this text's walks alone
open Go.Proofs.YtinhednmfldmbaaW.PrintWords Go.Proofs.Ytinhednmfldmbaa
set_option linter.unusedVariables false
set_option linter.unusedSimpArgs false

/-! ### fletcher_More: function 57 -/
def fletcher_More.f (a0 : Int) (l1 : List Int) : Option Int := if (0 ≤ a0 ∧ a0 < 4294967296) ∧ Pl.bytes l1 then some (Pl.more a0 l1) else none
set_option maxHeartbeats 8000000 in
set_option maxRecDepth 100000 in
theorem fletcher_More.calls (a0 : Int) (A1 : Option Addr) (c1 : Nat) (l1 : List Int) (r : Int) (w : World) (hr1 : Kd.C (Kd.int .u8) w A1 l1.length l1) (hc1 : l1.length ≤ c1) (h : fletcher_More.f a0 l1 = some r) :
    Calls Try.prog 57 #[.int .u32 a0, .slice A1 l1.length c1] w fun e w' => e = .returned (.int .u32 r) ∧ Drawn0 w w' := by
  have HR1 := Aside0.mk hr1
  clear hr1
  unfold fletcher_More.f at h
  split at h
  case isFalse => cases h
  case isTrue hb =>
  obtain ⟨⟨h0, h1⟩, hb⟩ := hb
  have HX := Aside0.mk hb
  clear hb
  have HE := Aside0.mk (Option.some.inj h)
  clear h
  have hlen : (l1.length : Int) ≤ 9223372036854775807 := by have := HR1.out.2.1; omega
  have ok := Pl.mfrom_ok a0
  obtain ⟨p, hp⟩ : ∃ p, Pl.mfrom a0 = p := ⟨_, rfl⟩
  have hand : bits .and .u32 a0 65535 = a0 % 65536 := Pl.and16 a0 h0 h1
  rw [hp] at ok
  have HP := Aside0.mk hp
  clear hp
  go_enter Try.func57, Try.ntmps57
  go_wp2
  apply Goto.wp_scope_goto
  go_wp2
  apply wp_label
  go_step
  go_step
  refine Goto.wp_label_loop 0 ?hf (fun n a w' => ∃ u0 u1 u2 u3 u4 u5 u6 u7 u8 u9 u10 u11 u12 u13 u14 u15 u16 u17 u18 u19 u20 u21 u22 u23 u24 u25 u26 u27 u28 u29 u30 u31 u32 u33 u34 u35 u36 u37 u38 u39 u40 u41 : Value, ∃ (k : Nat) (x s : Int), k ≤ l1.length ∧ n = l1.length - k ∧ 0 ≤ x ∧ x < 65521 ∧ 0 ≤ s ∧ s < 65521 ∧ Aside0 (Pl.mrun p (l1.take k) = (x, s)) ∧ u1 = .slice A1 l1.length c1 ∧ u5 = .int .u32 x ∧ u6 = .int .u32 s ∧ u7 = .int .i64 k ∧ Drawn0 w w' ∧ a = { tmps := #[u0, u1, u2, u3, u4, u5, u6, u7, u8, u9, u10, u11, u12, u13, u14, u15, u16, u17, u18, u19, u20, u21, u22, u23, u24, u25, u26, u27, u28, u29, u30, u31, u32, u33, u34, u35, u36, u37, u38, u39, u40, u41], defers := [] }) l1.length ?start ?round; case hf => rfl
  case start => exact ⟨_, _, _, _, _, _, _, _, _, _, _, _, _, _, _, _, _, _, _, _, _, _, _, _, _, _, _, _, _, _, _, _, _, _, _, _, _, _, _, _, _, _, 0, a0 % 65536 % 65521, a0 / 65536 % 65521, by omega, by omega, by omega, by omega, by omega, by omega, ⟨HP.out.symm⟩, rfl, rfl, rfl, rfl, ⟨⟨0, rfl⟩⟩, rfl⟩
  case round =>
    rintro n a w' ⟨u0, u1, u2, u3, u4, u5, u6, u7, u8, u9, u10, u11, u12, u13, u14, u15, u16, u17, u18, u19, u20, u21, u22, u23, u24, u25, u26, u27, u28, u29, u30, u31, u32, u33, u34, u35, u36, u37, u38, u39, u40, u41, k, x, s, hk, rfl, hx0, hx1, hs0, hs1, HM, rfl, rfl, rfl, rfl, ⟨⟨m1, rfl⟩⟩, rfl⟩ J hJ hG hB
    clear hB hG hand
    by_cases hlt : k < l1.length
    · obtain ⟨ad, e, hcell⟩ := Kd.at_int HR1.out (k : Int) (by omega) (by omega)
      cases e
      obtain ⟨hc0, hc1'⟩ := HX.out (rd l1 k) (Pl.rd_mem l1 k hlt)
      obtain ⟨c, hce⟩ : ∃ c, rd l1 k = c := ⟨_, rfl⟩
      have HT : Aside0 (l1.take (k + 1) = l1.take k ++ [c]) := ⟨by rw [← hce]; exact Pl.take_succ l1 k hlt⟩
      rw [Int.toNat_natCast] at hcell
      rw [hce] at hcell hc0 hc1'
      clear hce
      go_wp2
      all_goals
        apply wp_goto
        refine hJ _ _ _ (by omega : l1.length - (k + 1) < l1.length - k) ?_
        refine ⟨_, _, _, _, _, _, _, _, _, _, _, _, _, _, _, _, _, _, _, _, _, _, _, _, _, _, _, _, _, _, _, _, _, _, _, _, _, _, _, _, _, _, k + 1, _, _, by omega, rfl, ?_, ?_, ?_, ?_, ⟨?_⟩, rfl, rfl, rfl, by go_num, ⟨⟨m1, rfl⟩⟩, rfl⟩
        · omega
        · omega
        · omega
        · omega
        · rw [HT.out, Pl.mrun_snoc, HM.out]; unfold Pl.mstep; simp only [Prod.mk.injEq]; exact ⟨by omega, by omega⟩
    · have hr : bits .or .u32 (s * 65536) x = r := by
        rw [Pl.or16 s x hs0 hs1 hx0 hx1, ← HE.out]
        unfold Pl.more
        rw [HP.out, ← List.take_of_length_le (l := l1) (i := k) (by omega), HM.out]
        rfl
      have HR := Aside0.mk hr
      clear hr
      go_wp2
      try rw [Goto.Jumps_ret]
      rw [HR.out]
      go_ret
      exact ⟨rfl, ⟨⟨m1, rfl⟩⟩⟩

end Go.Proofs.Ytinhednmfldmbaa.Print
