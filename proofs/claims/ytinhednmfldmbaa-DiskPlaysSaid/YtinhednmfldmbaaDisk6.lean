/- What the scripts' laws lean on: rows of 32 bytes, the scripts, a disk's calls laid over its first blocks. -/
import Derived.Test.YtinhednmfldmbaaDisk5
import Derived.Laws.BytesArg
namespace Go.Proofs.Ytinhednmfldmbaa.Dk
open Go Go.RowKit Hp Rd

/-- A row of 32 bytes. -/
def Row32 (w : World) (v : Value) (l : List Int) : Prop := l.length = 32 ∧ ∃ g off cap, v = .slice (some ⟨g, off, none⟩) 32 cap ∧ w.rangeAt g off (l.map (Value.int .u8))
theorem Row32.block {w : World} {v : Value} {l : List Int} (h : Row32 w v l) : ∃ g off cap, v = .slice (some ⟨g, off, none⟩) 32 cap ∧ g < w.heap.size ∧ w.rangeAt g off (l.map (Value.int .u8)) := by
  obtain ⟨h1, g, off, cap, rfl, h2⟩ := h
  refine ⟨g, off, cap, rfl, ?_, h2⟩
  have := h2 0 (.int .u8 (l[0]'(by omega))) (by rw [List.getElem?_map, List.getElem?_eq_getElem (by omega)]; rfl)
  exact World.block_lt_of_cell? w _ this
theorem Row32.below {w w' : World} {v : Value} {l : List Int} (h : Row32 w v l) (k : Below w.heap.size w w') : Row32 w' v l := by
  obtain ⟨g, off, cap, rfl, hg, h2⟩ := h.block
  exact ⟨h.1, g, off, cap, rfl, fun j u hu => by rw [k.cell hg]; exact h2 j u hu⟩
theorem Row32.conv {w : World} {v : Value} {l : List Int} (h : Row32 w v l) : (convert 31 9 v).run Try.prog w = .ok (.string (strOfNums l)) w := by
  obtain ⟨h1, g, off, cap, rfl, h2⟩ := h
  exact run_convert_bytes_arg (P := Try.prog) w 31 5 Try.underlying31 Try.underlying5 g off 32 cap l h1 (fun i hi => by
    rw [h2 i (.int .u8 (l.getD i 0)) (by rw [List.getElem?_map, List.getElem?_eq_getElem (by omega), List.getD_eq_getElem?_getD, List.getElem?_eq_getElem (by omega)]; rfl)]) 9 Try.underlying9
theorem Row32.own {w : World} {base : Nat} {v : Value} {l : List Int} (h : w.ownsRow base 5 1 v 32 (l.map (Value.int .u8))) (hl : l.length = 32) : Row32 w v l := by
  refine ⟨hl, ?_⟩
  rcases h.2 with ⟨h1, h2⟩ | ⟨g, cap, cur, h1, _⟩
  · omega
  · exact ⟨g, 0, cap, h1, fun j u hu => by have := h.cells (g := g) (by rw [h1]; rfl) j u hu; rwa [Addr.add_mid] at this⟩
theorem Row32.of_row {w : World} {v : Value} {l : List Int} (h : Row1 w (Value.int .u8) v l) (hl : l.length = 32) : Row32 w v l := by
  obtain ⟨a, cap, rfl, h0, h1⟩ := h
  cases a with
  | none => rw [(h0 rfl).1] at hl; simp at hl
  | some ad =>
    obtain ⟨_, hc⟩ := h1 ad rfl
    obtain ⟨b, off, sp⟩ := ad
    have h2 := hc 0 (l[0]'(by omega)) (List.getElem?_eq_getElem _)
    have : sp = none := by
      cases sp with
      | none => rfl
      | some x => simp [World.cell?, Addr.add] at h2; split at h2 <;> simp_all
    subst this
    refine ⟨hl, b, off, cap, by rw [hl], fun j u hu => ?_⟩
    rw [List.getElem?_map] at hu
    obtain ⟨x, hx, rfl⟩ := Option.map_eq_some_iff.1 hu
    have := hc j x hx
    rwa [Addr.add_mid] at this
/-- What a script's operation asks of its bytes. -/
structure OpAt (w : World) (o : OpD) (g off : Nat) : Prop where
  n : w.cell? ⟨g, off + 1, none⟩ = some (.int .i64 o.n)
  bytes : ∃ vb, w.cell? ⟨g, off + 2, none⟩ = some vb ∧ Row1 w (Value.int .u8) vb o.b
  len : o.b.length ≤ 140737488355328
  wn : (Lit.int .i64 o.n).wf = true
/-- A script. -/
def OpsAt (w : World) (v : Value) (l : List OpD) : Prop := l.length ≤ maxLen ∧ ∃ a cap, v = .slice a l.length cap ∧ ∀ (i : Nat) (o : OpD), l[i]? = some o → ∃ g off, a = some ⟨g, off, none⟩ ∧ OpAt w o g (off + i * 5)
theorem cells_five {w : World} {a : Addr} {c0 c1 c2 c3 c4 : Value} (h : w.cells? 0 a 5 = some [c0, c1, c2, c3, c4]) : a.spot = none ∧ w.cell? (a.add 1) = some c1 ∧ w.cell? (a.add 2) = some c2 := by
  unfold World.cells? at h
  split at h
  · have : List.range 5 = [0, 1, 2, 3, 4] := rfl
    rw [this] at h
    simp only [List.mapM_cons, List.mapM_nil, Option.bind_eq_bind, Option.bind_eq_some_iff, Option.pure_def, Option.some.injEq] at h
    obtain ⟨v0, h0, x1, ⟨v1, h1, x2, ⟨v2, h2, x3, ⟨v3, h3, x4, ⟨v4, h4, x5, rfl, rfl⟩, rfl⟩, rfl⟩, rfl⟩, e⟩ := h
    simp only [List.cons.injEq] at e
    obtain ⟨rfl, rfl, rfl, rfl, rfl, _⟩ := e
    refine ⟨?_, h1, h2⟩
    obtain ⟨b, off, sp⟩ := a
    cases sp with
    | none => rfl
    | some x => simp [World.cell?, Addr.add] at h0; split at h0 <;> simp_all
  · cases h
theorem arg_ops {w : World} {v : Value} (h : Arg Try.prog w 22 v) : ∃ l, OpsAt w v l := by
  obtain ⟨a, len, cap, rfl, hh⟩ := arg_slice Try.underlying22 h
  rcases hh with ⟨rfl, rfl, rfl⟩ | ⟨ad, rfl, hlc, hcm, _, hel⟩
  · exact ⟨[], by unfold maxLen; simp, none, 0, rfl, fun i o hi => by simp at hi⟩
  · rw [cells_op] at hel
    obtain ⟨l, hl, hp⟩ := list_of (p := fun i (o : OpD) => ∃ cs, w.cells? 0 (ad.add (i * 5)) 5 = some cs ∧ o.Reads w cs) len (fun i hi => by
      obtain ⟨es, h1, h2⟩ := hel i (by omega)
      obtain ⟨o, ho⟩ := rd_op h2
      exact ⟨o, es, h1, ho⟩)
    refine ⟨l, by omega, some ad, cap, by rw [hl], fun i o hi => ?_⟩
    obtain ⟨cs, h1, h2⟩ := hp i o hi
    obtain ⟨vb, vk, rfl, hb, _⟩ := h2.is
    obtain ⟨s0, h3, h4⟩ := cells_five h1
    have hsp : ad.spot = none := by
      have hl0 : 0 < l.length := by have := (List.getElem?_eq_some_iff.1 hi).1; omega
      obtain ⟨cs', k1, k2⟩ := hp 0 l[0] (List.getElem?_eq_getElem hl0)
      obtain ⟨vb', vk', rfl, _, _⟩ := k2.is
      have := (cells_five k1).1
      simpa [Addr.add] using this
    obtain ⟨b, off, sp⟩ := ad
    simp only at hsp
    subst hsp
    rw [Addr.add_mid, Addr.add_mid] at h3 h4
    exact ⟨b, off, rfl, h3, ⟨vb, h4, hb⟩, h2.len, h2.wn⟩
theorem row1_below {α : Type} {w w' : World} {f : α → Value} {v : Value} {l : List α} (h : Row1 w f v l) (k : Below w.heap.size w w') : Row1 w' f v l := by
  obtain ⟨a, cap, rfl, h0, h1⟩ := h
  refine ⟨a, cap, rfl, h0, fun ad ha => ?_⟩
  obtain ⟨h2, h3⟩ := h1 ad ha
  refine ⟨h2, fun i x hx => ?_⟩
  have := h3 i x hx
  rw [k.cell (World.block_lt_of_cell? w _ this)]
  exact this
theorem OpAt.below {w w' : World} {o : OpD} {g off : Nat} (h : OpAt w o g off) (k : Below w.heap.size w w') : OpAt w' o g off := by
  obtain ⟨vb, h1, h2⟩ := h.bytes
  refine ⟨?_, ⟨vb, ?_, row1_below h2 k⟩, h.len, h.wn⟩
  · rw [k.cell (World.block_lt_of_cell? w _ h.n)]; exact h.n
  · rw [k.cell (World.block_lt_of_cell? w _ h1)]; exact h1
/-- The calls, laid over the first blocks, are the blocks as they stand. -/
def Inv (D : St) : Prop := apply (drain D.calls D.first).1 (drain D.calls D.first).2 = D.now
theorem drain_snoc (cs : List Wr) (M : BM) (c : Wr) : drain (cs ++ [c]) M = step1 (drain cs M) c := by
  unfold drain
  rw [List.foldl_append]
  rfl
theorem inv_write {D : St} (h : Inv D) {n : Int} (l : List Int) (hn : 0 ≤ n) : Inv (D.write n l) := by
  unfold Inv St.write at *
  simp only
  rw [drain_snoc]
  have : ¬ (n = -1) := by omega
  simp only [step1, this, if_false]
  unfold apply at *
  rw [List.foldl_append, h]
  rfl
theorem drain_sync {D : St} (h : Inv D) : drain D.sync.calls D.first = (D.now, []) := by
  unfold St.sync
  simp only
  rw [drain_snoc]
  simp only [step1, if_true]
  rw [h]
theorem keep_nil (keep : List Bool) : keepOf keep [] = [] := rfl
/-- A disk synced and cut at its last call stands as it stood. -/
theorem cut_synced {D : St} (h : Inv D) (keep : List Bool) (torn : Int) : D.sync.cutM D.sync.calls.length keep torn = D.now := by
  unfold St.cutM
  have : pick (D.sync.calls.length : Int) (D.sync.calls.length + 1) = D.sync.calls.length := by
    unfold pick
    rw [if_neg (by omega)]
    exact Int.emod_eq_of_lt (by omega) (by omega)
  rw [this, Int.toNat_natCast, List.take_length]
  show layN _ (keepOf keep (drain D.sync.calls D.first).2) (drain D.sync.calls D.first).1 (keepOf keep (drain D.sync.calls D.first).2).length = _
  rw [drain_sync h]
  rfl
theorem cut_none (D : St) (keep : List Bool) (torn : Int) : D.cutM 0 keep torn = D.first := by
  unfold St.cutM
  have : pick 0 (D.calls.length + 1) = 0 := by
    unfold pick
    rw [if_neg (by omega)]
    exact Int.emod_eq_of_lt (by omega) (by omega)
  rw [this]
  rfl
end Go.Proofs.Ytinhednmfldmbaa.Dk
