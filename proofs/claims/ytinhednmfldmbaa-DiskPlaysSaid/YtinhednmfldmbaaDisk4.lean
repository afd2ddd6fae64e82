/- The disk: Sync; a number counted round; what a loss of power leaves, as a function. -/
import Derived.Test.YtinhednmfldmbaaDisk3
namespace Go.Proofs.Ytinhednmfldmbaa.Dk
open Go Go.RowKit Hp

def St.sync (D : St) : St := { D with calls := D.calls ++ [(-1, zeros)] }
theorem St.sync_ok {D : St} (h : D.Ok) : D.sync.Ok := by
  refine ⟨h.pos, h.le, h.first, h.now, fun p hp => ?_⟩
  simp only [St.sync, List.mem_append, List.mem_singleton] at hp
  rcases hp with hp | rfl
  · exact h.calls p hp
  · rfl
set_option maxHeartbeats 2000000 in
set_option maxRecDepth 100000 in
theorem sync_ok (b m1 m2 : Nat) (sv : Value) (D : St) (w : World) (h : DiskIs w b m1 m2 sv D) (hn : D.calls.length < 1000000000000) :
    Calls Try.prog 16 #[.pointer (some ⟨b, 0, none⟩)] w fun e w' => ∃ sv', e = .returned (.int .i64 0) ∧ DiskIs w' b m1 m2 sv' D.sync ∧ Kept (foot b m1 m2 sv) w w' ∧ ∀ i, sv'.ownBlock = some i → sv.ownBlock = some i ∨ w.heap.size ≤ i := by
  obtain ⟨c0, c1, c2, c3⟩ := h.cells
  obtain ⟨i0, hi, hz⟩ := Option.map_eq_some_iff.1 info_write
  simp only [Prod.mk.injEq] at hz
  obtain ⟨hz0, hz1, hz2⟩ := hz
  have hrow := h.row.alloc (.cells (.int .i64 (-1) :: zeros.map (.int .u8)).toArray 81)
  go_enter Try.func16, Try.ntmps16
  go_wp2_with (at_builtin; refine Ow.wpList_append _ rfl _ _ 74 rfl 0 81 i0 _ 33 40 Try.underlying74 hi hz0 hz1 hz2 rfl (by decide) _ D.calls.length (wcells D.calls) rfl hrow ⟨w.heap.size, 0, none⟩ 1 1 (.int .i64 (-1) :: zeros.map (.int .u8)) rfl ?c1 ?c2 ?c3 ?c4 ?c5 (Nat.zero_le _) ?_)
  case c1 => rfl
  case c2 =>
    intro j u hu
    rw [Addr.add_mid, Nat.zero_add]
    simp only [World.cell?, heap_alloc_new]
    simpa [zeros] using hu
  case c3 =>
    intro u hu
    rcases List.mem_cons.1 hu with rfl | hu
    · rfl
    · exact one_u8 zeros u hu
  case c4 => unfold maxLen; omega
  case c5 => omega
  intro v' w2 O1 hgr _ O2
  have KA : Kept (fun k => sv.ownBlock = some k) w w2 := ((Kept.refl (fun k => sv.ownBlock = some k) w).alloc _).grown hgr (fun k hk => Or.inr hk)
  have H2 := KA.heap h.head h.far
  have c3w : w2.cell? ⟨b, 3, none⟩ = some sv := by simp [World.cell?, H2]
  have fzw : w2.frozen? ⟨b, 3, none⟩ = false := by simp [World.frozen?, H2]
  obtain ⟨a11, c11, rfl⟩ := own_len O1
  clear hrow
  go_wp2
  go_ret
  have hmS : ∀ (m : Nat) (M : Int → Option Value), MapIs w m M → ¬ sv.ownBlock = some m := fun m M hM e => by
    rcases h.row.2 with ⟨hv, _⟩ | ⟨x, cap, cur, hv, _, hx, _⟩
    · rw [hv] at e; cases e
    · rw [hv] at e
      have hxi : x = m := by simpa [Value.ownBlock] using e
      obtain ⟨es', ck', hy, _⟩ := hM
      rw [← hxi, hx] at hy
      cases hy
  have A2 := h.first.kept KA (hmS m1 _ h.first)
  have M2 := h.now.kept KA (hmS m2 _ h.now)
  have hbl := lt_of_heap h.head
  have hfar : (Value.slice a11 (D.calls.length + 1) c11).ownBlock ≠ some b := fun e => by
    rcases O2 b e with h5 | h5
    · exact h.far h5
    · omega
  have KS : Kept (fun k => k = b) w2 (w2.setCell ⟨b, 3, none⟩ (Value.slice a11 (D.calls.length + 1) c11)) := (Kept.refl (fun k => k = b) w2).setCell (p := ⟨b, 3, none⟩) (Or.inr rfl) _
  have hmb : ∀ (m : Nat) (M : Int → Option Value), MapIs w2 m M → m ≠ b := fun m M hM e => by
    obtain ⟨es', ck', hy, _⟩ := hM
    rw [e, H2] at hy
    cases hy
  refine ⟨_, rfl, ⟨?_, A2.kept KS (hmb m1 _ A2), M2.kept KS (hmb m2 _ M2), h.apart, ?_, hfar, St.sync_ok h.ok⟩, ?_, fun i hi => ?_⟩
  · simp [World.setCell, Array.getElem?_modify, H2, St.sync]
  · have := own_kept O1 KS (fun i hi e => by subst e; exact hfar hi)
    simp only [St.sync, wcells_snoc, List.length_append, List.length_cons, List.length_nil]
    exact this
  · refine (KA.mono (S' := foot b m1 m2 sv) (fun i _ e => Or.inr (Or.inr (Or.inr e)))).trans (S' := fun k => k = b) KS (fun i _ e => Or.inl e)
  · rcases O2 i hi with h5 | h5
    · exact Or.inl h5
    · refine Or.inr ?_
      omega
/-- A number counted round. -/
def pick (c n : Int) : Int := (if c < 0 then -(c + 1) else c) % n
theorem pick_lt (c n : Int) (hn : 0 < n) : 0 ≤ pick c n ∧ pick c n < n := ⟨Int.emod_nonneg _ (by omega), Int.emod_lt_of_pos _ hn⟩
theorem round_calls (c n : Int) (w : World) (hc : (Lit.int .i64 c).wf = true) (hn : 0 < n) (hn' : n ≤ 9223372036854775807) : Calls Try.prog 41 #[.int .i64 c, .int .i64 n] w fun e w' => e = .returned (.int .i64 (pick c n)) ∧ w = w' := by
  have hw : -9223372036854775808 ≤ c ∧ c ≤ 9223372036854775807 := by
    simp only [Lit.wf, IntKind.min, IntKind.max, IntKind.bits, IntKind.signed, Bool.and_eq_true] at hc
    simpa using hc
  obtain ⟨hw1, hw2⟩ := hw
  clear hc
  unfold pick
  by_cases h : c < 0
  · have e1 : wrap64 (c + 1) = c + 1 := by unfold wrap64; omega
    have e2 : wrap64 (-(c + 1)) = -(c + 1) := by unfold wrap64; omega
    go_enter Try.func41, Try.ntmps41
    go_wp2
    go_ret
    refine ⟨?_, rfl⟩
    have e3 : -((c + 1).tmod n) = -(c + 1) % n := by rw [← Int.neg_tmod, Int.tmod_eq_emod_of_nonneg (by omega)]
    rw [← e3]
    rfl
  · have h' : 0 ≤ c := by omega
    go_enter Try.func41, Try.ntmps41
    go_wp2
    go_ret
    refine ⟨?_, rfl⟩
    rfl
end Go.Proofs.Ytinhednmfldmbaa.Dk
