/- The reference disk: its calls grow; Sync. -/
import Derived.Test.YtinhednmfldmbaaRef1
namespace Go.Proofs.Ytinhednmfldmbaa.Dk
open Go Go.RowKit Hp Rd

def RSt.add (R : RSt) (n : Int) (b : List Int) : RSt := { R with calls := R.calls ++ [(n, b)] }
abbrev ccells (cs : List Wr) (vs : List Value) : List Value := (cs.zip vs).flatMap fun x => [.int .i64 x.1.1, x.2]
theorem ccells_snoc {cs : List Wr} {vs : List Value} (h : vs.length = cs.length) (n : Int) (b : List Int) (v : Value) : ccells (cs ++ [(n, b)]) (vs ++ [v]) = ccells cs vs ++ [.int .i64 n, v] := by
  unfold ccells
  rw [List.zip_append h.symm]
  simp
theorem RefIs.grow {F F' : Nat → Prop} {w w2 : World} {rb gf cf : Nat} {vc vc' : Value} {fs vs : List Value} {R : RSt} (h : RefIs w F rb gf cf vc fs vs R) (K : Kept (fun i => vc.ownBlock = some i) w w2) (n : Int) (b : List Int) (v : Value)
    (O : w2.ownsRow 0 83 2 vc' (R.calls.length + 1) (ccells R.calls vs ++ [.int .i64 n, v])) (O2 : ∀ i, vc'.ownBlock = some i → vc.ownBlock = some i ∨ w.heap.size ≤ i) (hF : ∀ i, F i → F' i) (hF' : ∀ i, F' i → i < w2.heap.size) (hv' : ∀ k, vc'.ownBlock = some k → F' k)
    (hb : 0 ≤ n → Kin w2 F' rb gf vc' v b) :
    RefIs (w2.setCell ⟨rb, 2, none⟩ vc') F' rb gf cf vc' fs (vs ++ [v]) (R.add n b) ∧ Kept (fun i => i = rb ∨ vc.ownBlock = some i) w (w2.setCell ⟨rb, 2, none⟩ vc') := by
  have KS : Kept (fun i => i = rb) w2 (w2.setCell ⟨rb, 2, none⟩ vc') := (Kept.refl (fun i => i = rb) w2).setCell (p := ⟨rb, 2, none⟩) (Or.inr rfl) vc'
  have hrb : rb < w.heap.size := h.lt _ h.inF.1
  have hgf : gf < w.heap.size := h.lt _ h.inF.2.1
  have H2 := K.heap h.head h.apart.2.1
  have a1 : vc'.ownBlock ≠ some rb := fun e => by
    rcases O2 rb e with h5 | h5
    · exact h.apart.2.1 h5
    · omega
  have a2 : vc'.ownBlock ≠ some gf := fun e => by
    rcases O2 gf e with h5 | h5
    · exact h.apart.2.2 h5
    · omega
  have kin : ∀ {u : Value} {l : List Int}, Kin w F rb gf vc u l → Kin (w2.setCell ⟨rb, 2, none⟩ vc') F' rb gf vc' u l := fun {u l} hk => by
    refine ⟨(hk.1.kept K (fun g off cap he => (hk.2 g off cap he).2.2.2.1)).kept KS (fun g off cap he => (hk.2 g off cap he).2.1), fun g off cap he => ?_⟩
    obtain ⟨k1, k2, k3, k4, k5⟩ := hk.2 g off cap he
    refine ⟨hF g k1, k2, k3, fun e => ?_, k5⟩
    rcases O2 g e with h5 | h5
    · exact k4 h5
    · have := h.lt g k1
      omega
  refine ⟨⟨h.pos, ?_, fun j u hu => kept_cell' KS (kept_cell' K (h.frow j u hu) h.apart.2.2) (fun e => h.apart.1 e.symm), h.fcap, h.flen, fun m u hu => kin (h.firsts m u hu), ?_, by simp [RSt.add, h.vlen], ?_, ⟨hF _ h.inF.1, hF _ h.inF.2.1, hv'⟩, ⟨h.apart.1, a1, a2⟩, fun i hi => Nat.lt_of_lt_of_le (hF' i hi) KS.size⟩, ?_⟩
  · simp [World.setCell, Array.getElem?_modify, H2, RSt.add]
  · have := own_kept O KS (fun i hi e => a1 (e ▸ hi))
    simp only [RSt.add, List.length_append, List.length_cons, List.length_nil]
    rw [show ((R.calls ++ [(n, b)]).zip (vs ++ [v])).flatMap (fun x => [Value.int .i64 x.1.1, x.2]) = ccells R.calls vs ++ [.int .i64 n, v] from ccells_snoc h.vlen n b v]
    exact this
  · intro j c u hc hu h0
    simp only [RSt.add] at hc
    rcases Nat.lt_or_ge j R.calls.length with hj | hj
    · rw [List.getElem?_append_left hj] at hc
      rw [List.getElem?_append_left (by rw [h.vlen]; exact hj)] at hu
      exact kin (h.bytes j c u hc hu h0)
    · rw [List.getElem?_append_right hj] at hc
      rw [List.getElem?_append_right (by rw [h.vlen]; exact hj), h.vlen] at hu
      have hj0 : j - R.calls.length = 0 := by
        have := (List.getElem?_eq_some_iff.1 hc).1
        simp at this
        omega
      rw [hj0] at hc hu
      obtain rfl : (n, b) = c := by simpa using hc
      obtain rfl : v = u := by simpa using hu
      have hk := hb h0
      exact ⟨hk.1.kept KS (fun g off cap he => (hk.2 g off cap he).2.1), hk.2⟩
  · exact (K.mono (fun i _ e => Or.inr e)).trans KS (fun i _ e => Or.inl e)
theorem info_call : (Try.prog.info? 83).map (fun i => (i.zero, i.size, i.bytes)) = some (some (.agg #[.int .i64 0, .slice none 0 0]), 2, 32) := by kernel_rfl
set_option maxHeartbeats 2000000 in
set_option maxRecDepth 100000 in
theorem refSync_ok {F : Nat → Prop} {w : World} {rb gf cf : Nat} {vc : Value} {fs vs : List Value} {R : RSt} (h : RefIs w F rb gf cf vc fs vs R) (hl : R.calls.length < 1000000000000) :
    Calls Try.prog 17 #[.pointer (some ⟨rb, 0, none⟩)] w fun e w' => ∃ vc' vs', e = .returned (.int .i64 0) ∧ RefIs w' (fun i => F i ∨ (w.heap.size ≤ i ∧ i < w'.heap.size)) rb gf cf vc' fs vs' (R.add (-1) zeros) ∧ Kept F w w' := by
  have hh := h.head
  have c2 : w.cell? ⟨rb, 2, none⟩ = some vc := by simp [World.cell?, hh]
  obtain ⟨i0, hi, hz⟩ := Option.map_eq_some_iff.1 info_call
  simp only [Prod.mk.injEq] at hz
  obtain ⟨hz0, hz1, hz2⟩ := hz
  have hrow := h.crow.alloc (.cells #[.int .i64 (-1), .slice none 0 0] 83)
  clear hh
  go_enter Try.func17, Try.ntmps17
  go_wp2_with (at_builtin; refine Ow.wpList_append _ rfl _ _ 66 rfl 0 83 i0 _ 2 32 Try.underlying66 hi hz0 hz1 hz2 rfl (by decide) _ R.calls.length (ccells R.calls vs) rfl hrow ⟨w.heap.size, 0, none⟩ 1 1 [.int .i64 (-1), .slice none 0 0] rfl ?c1 ?c2 ?c3 ?c4 ?c5 (Nat.zero_le _) ?_)
  case c1 => rfl
  case c2 =>
    intro j u hu
    rw [Addr.add_mid, Nat.zero_add]
    simp only [World.cell?, heap_alloc_new]
    simpa using hu
  case c3 =>
    intro u hu
    rcases List.mem_cons.1 hu with rfl | hu
    · rfl
    · rw [List.mem_singleton.1 hu]; rfl
  case c4 => unfold maxLen; omega
  case c5 => omega
  intro v' w2 O1 hgr _ O2
  have KA : Kept (fun k => vc.ownBlock = some k) w w2 := ((Kept.refl (fun k => vc.ownBlock = some k) w).alloc _).grown hgr (fun k hk => Or.inr hk)
  have H2 := KA.heap h.head h.apart.2.1
  have c2w : w2.cell? ⟨rb, 2, none⟩ = some vc := by simp [World.cell?, H2]
  have fzw : w2.frozen? ⟨rb, 2, none⟩ = false := by simp [World.frozen?, H2]
  obtain ⟨a11, c11, rfl⟩ := own_len O1
  have O2' : ∀ i, (Value.slice a11 (R.calls.length + 1) c11).ownBlock = some i → vc.ownBlock = some i ∨ w.heap.size ≤ i := fun i hi => by
    rcases O2 i hi with h5 | h5
    · exact .inl h5
    · (try simp at h5)
      exact .inr (by omega)
  have hgrow := h.grow (F' := fun i => F i ∨ (w.heap.size ≤ i ∧ i < w2.heap.size)) KA (-1) zeros (.slice none 0 0) O1 O2' (fun i hi => .inl hi) (fun i hi => by
    rcases hi with hi | hi
    · exact Nat.lt_of_lt_of_le (h.lt i hi) KA.size
    · exact hi.2) (fun k hk => by
    rcases O2' k hk with h5 | h5
    · exact .inl (h.inF.2.2 k h5)
    · exact .inr ⟨h5, (O1.lt k hk).2⟩) (fun h0 => by omega)
  have hsz : (w2.setCell ⟨rb, 2, none⟩ (.slice a11 (R.calls.length + 1) c11)).heap.size = w2.heap.size := by simp [World.setCell]
  clear hrow hgr
  go_wp2
  go_ret
  refine ⟨.slice a11 (R.calls.length + 1) c11, vs ++ [.slice none 0 0], rfl, ?_, hgrow.2.mono (fun i _ e => ?_)⟩
  · rw [hsz]
    exact hgrow.1
  · rcases e with rfl | e
    · exact h.inF.1
    · exact h.inF.2.2 i e
end Go.Proofs.Ytinhednmfldmbaa.Dk
