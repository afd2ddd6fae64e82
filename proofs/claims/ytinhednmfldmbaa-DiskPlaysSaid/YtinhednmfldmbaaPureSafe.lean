/- A block after a loss of power, byte by byte. -/
import Derived.Test.YtinhednmfldmbaaDisk6
namespace Go.Proofs.Ytinhednmfldmbaa.Dk
open Go Go.RowKit Hp Rd

theorem drain_append {cs : List Wr} {M M' : BM} {r : List Wr} (h : drain cs M = (M', r)) : ∀ {W : List Wr} (_ : ∀ c ∈ W, 0 ≤ c.1), drain (cs ++ W) M = (M', r ++ W) := by
  intro W
  induction W generalizing cs r with
  | nil => intro _; simpa using h
  | cons c W ih =>
    intro hW
    have hc : ¬ (c.1 = -1) := by have := hW c (List.mem_cons.2 (Or.inl rfl)); omega
    have h1 : drain (cs ++ [c]) M = (M', r ++ [c]) := by
      rw [drain_snoc, h]
      simp [step1, hc]
    have := ih h1 (fun x hx => hW x (List.mem_cons.2 (Or.inr hx)))
    simpa using this
theorem lay_byte {t : Nat} (ht : t ≤ 32) {M0 : BM} (hM : Fine M0) {W kept : List Wr} (hk : ∀ c ∈ kept, c ∈ W) (hl : ∀ c ∈ W, c.2.length = 32) (n : Int) (k : Nat) (hk32 : k < 32) : ∀ j, ((layN t kept M0 j n).getD zeros).getD k 0 = ((M0 n).getD zeros).getD k 0 ∨ ∃ c ∈ W, c.1 = n ∧ c.2.getD k 0 = ((layN t kept M0 j n).getD zeros).getD k 0
  | 0 => Or.inl rfl
  | j + 1 => by
    have ih := lay_byte ht hM hk hl n k hk32 j
    cases hc : kept[j]? with
    | none =>
      have : layN t kept M0 (j + 1) = layN t kept M0 j := by
        conv => lhs; unfold layN
        rw [hc]
      rw [this]
      exact ih
    | some c =>
      have hcW := hk c (List.mem_of_getElem? hc)
      have hc32 := hl c hcW
      rw [lay_succ t kept M0 j c hc]
      by_cases hn : n = c.1
      · subst hn
        have hu : ∀ l, upd (layN t kept M0 j) c.1 l c.1 = some l := fun l => by simp [upd]
        rw [hu, Option.getD_some]
        split
        · unfold tornOf
          by_cases hkt : k < t
          · refine Or.inr ⟨c, hcW, rfl, ?_⟩
            rw [List.getD_eq_getElem?_getD, List.getD_eq_getElem?_getD, List.getElem?_append_left (by rw [List.length_take, hc32]; omega), List.getElem?_take, if_pos hkt]
          · have : (c.2.take t ++ ((layN t kept M0 j c.1).getD zeros).drop t).getD k 0 = ((layN t kept M0 j c.1).getD zeros).getD k 0 := by
              have htl : (c.2.take t).length = t := by rw [List.length_take, hc32]; omega
              rw [List.getD_eq_getElem?_getD, List.getD_eq_getElem?_getD, List.getElem?_append_right (by omega), htl, List.getElem?_drop]
              congr 2
              omega
            rw [this]
            exact ih
        · exact Or.inr ⟨c, hcW, rfl, rfl⟩
      · have hu : ∀ l, upd (layN t kept M0 j) c.1 l n = layN t kept M0 j n := fun l => by simp [upd, hn]
        rw [hu]
        exact ih
/-- Each byte of a block after a loss of power stood there at the last sync, or was written since. -/
theorem safe_byte {D1 D2 : St} {W : List Wr} {N0 : BM} (h1 : drain D1.calls D1.first = (N0, [])) (hN : Fine N0) (hc : D2.calls = D1.calls ++ W) (hf : D2.first = D1.first) (hW : ∀ c ∈ W, 0 ≤ c.1) (hl : ∀ c ∈ W, c.2.length = 32) (p : Nat) (hp1 : D1.calls.length ≤ p) (hp2 : p ≤ D2.calls.length) (keep : List Bool) (torn : Int) (n : Int) (k : Nat) (hk : k < 32) :
    ((D2.cutM p keep torn n).getD zeros).getD k 0 = ((N0 n).getD zeros).getD k 0 ∨ ∃ c ∈ W, c.1 = n ∧ c.2.getD k 0 = ((D2.cutM p keep torn n).getD zeros).getD k 0 := by
  have hpk : pick (p : Int) (D2.calls.length + 1) = (p : Int) := by
    unfold pick
    rw [if_neg (by omega)]
    exact Int.emod_eq_of_lt (by omega) (by omega)
  have htk : D2.calls.take p = D1.calls ++ W.take (p - D1.calls.length) := by
    rw [hc, List.take_append, List.take_of_length_le hp1]
  have hd : drain (D2.calls.take p) D2.first = (N0, W.take (p - D1.calls.length)) := by
    rw [htk, hf]
    have := drain_append h1 (W := W.take (p - D1.calls.length)) (fun c hc => hW c (List.mem_of_mem_take hc))
    simpa using this
  have hcut : D2.cutM p keep torn = layN (pick torn 33).toNat (keepOf keep (W.take (p - D1.calls.length))) N0 (keepOf keep (W.take (p - D1.calls.length))).length := by
    unfold St.cutM
    rw [hpk, Int.toNat_natCast, hd]
  rw [hcut]
  have ht := pick_lt torn 33 (by decide)
  exact lay_byte (by omega) hN (fun c hc => List.mem_of_mem_take (keep_mem hc)) hl n k hk _
theorem bcell' {w w' : World} {p : Addr} {v : Value} (k : Below w.heap.size w w') (h : w.cell? p = some v) : w'.cell? p = some v := (k.cell (World.block_lt_of_cell? w p h)).trans h
theorem kept_cell' {S : Nat → Prop} {w w' : World} {p : Addr} {v : Value} (k : Kept S w w') (h : w.cell? p = some v) (hS : ¬ S p.block) : w'.cell? p = some v := by
  have := k.block p.block (World.block_lt_of_cell? w p h) hS
  unfold World.cell? at h ⊢
  rw [this]
  exact h
theorem lit_small' {x : Int} (h0 : 0 ≤ x) (h1 : x < 1000000000000) : (Lit.int .i64 x).wf = true := by
  simp only [Lit.wf, IntKind.min, IntKind.max, IntKind.bits, IntKind.signed, Bool.and_eq_true]
  simp
  omega
theorem lit_range {x : Int} (h : (Lit.int .i64 x).wf = true) : -9223372036854775808 ≤ x ∧ x ≤ 9223372036854775807 := by
  simp only [Lit.wf, IntKind.min, IntKind.max, IntKind.bits, IntKind.signed, Bool.and_eq_true] at h
  simpa using h
theorem Row32.kept {S : Nat → Prop} {w w' : World} {v : Value} {l : List Int} (h : Row32 w v l) (k : Kept S w w') (hS : ∀ g off cap, v = .slice (some ⟨g, off, none⟩) 32 cap → ¬ S g) : Row32 w' v l := by
  obtain ⟨h1, g, off, cap, rfl, h2⟩ := h
  exact ⟨h1, g, off, cap, rfl, fun j u hu => kept_cell' k (h2 j u hu) (hS _ _ _ rfl)⟩
/-- The disk, and the last operation's cells, of a script. -/
structure Sst (w w' : World) (b m1 m2 : Nat) (o : OpD) (vk : Value) (sv : Value) (D : St) : Prop where
  disk : DiskIs w' b m1 m2 sv D
  size : D.size = 12
  below : Below w.heap.size w w'
  nn : w'.cell? ⟨w.heap.size, 1, none⟩ = some (.int .i64 o.n)
  keep : w'.cell? ⟨w.heap.size, 3, none⟩ = some vk
  torn : w'.cell? ⟨w.heap.size, 4, none⟩ = some (.int .i64 o.torn)
  far : ∀ i, foot b m1 m2 sv i → w.heap.size < i
theorem Sst.step {S : Nat → Prop} {w w' w'' : World} {b m1 m2 : Nat} {o : OpD} {vk sv : Value} {D : St} (h : Sst w w' b m1 m2 o vk sv D) (K : Kept S w' w'') (hS : ∀ i, foot b m1 m2 sv i ∨ i ≤ w.heap.size → ¬ S i) : Sst w w'' b m1 m2 o vk sv D :=
  ⟨h.disk.kept K (fun i hi => hS i (.inl hi)), h.size, h.below.trans (K.below h.below.size (fun i hi => hS i (.inr (Nat.le_of_lt hi)))), kept_cell' K h.nn (hS _ (.inr (Nat.le_refl _))), kept_cell' K h.keep (hS _ (.inr (Nat.le_refl _))), kept_cell' K h.torn (hS _ (.inr (Nat.le_refl _))), h.far⟩
theorem Sst.next {w w' w'' : World} {b m1 m2 : Nat} {o : OpD} {vk sv sv' : Value} {D D' : St} (h : Sst w w' b m1 m2 o vk sv D) (hd : DiskIs w'' b m1 m2 sv' D') (hs : D'.size = D.size) (K : Kept (foot b m1 m2 sv) w' w'') (hsv : ∀ i, sv'.ownBlock = some i → sv.ownBlock = some i ∨ w'.heap.size ≤ i) : Sst w w'' b m1 m2 o vk sv' D' := by
  have hk : ¬ foot b m1 m2 sv w.heap.size := fun hf => by have := h.far _ hf; omega
  have hb2 : Below w.heap.size w w'' := h.below.trans (K.below h.below.size (fun i hi hf => by have := h.far _ hf; omega))
  have h2 : w.heap.size < w'.heap.size := World.block_lt_of_cell? w' _ h.nn
  refine ⟨hd, hs.trans h.size, hb2, kept_cell' K h.nn hk, kept_cell' K h.keep hk, kept_cell' K h.torn hk, fun i hi => ?_⟩
  rcases hi with hi | hi | hi | hi
  · exact h.far i (.inl hi)
  · exact h.far i (.inr (.inl hi))
  · exact h.far i (.inr (.inr (.inl hi)))
  · rcases hsv i hi with h7 | h7
    · exact h.far i (.inr (.inr (.inr h7)))
    · omega
end Go.Proofs.Ytinhednmfldmbaa.Dk
