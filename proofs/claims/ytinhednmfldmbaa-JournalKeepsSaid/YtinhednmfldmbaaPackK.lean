/- What was synced outlives all. -/
import Derived.Test.YtinhednmfldmbaaPackA
import Derived.Test.YtinhednmfldmbaaPackB
import Derived.Test.YtinhednmfldmbaaPrintF32
import Derived.Test.YtinhednmfldmbaaPrintF33
namespace Go.Proofs.Ytinhednmfldmbaa.Dk
open Go Go.RowKit Hp Rd

/-- An operation of a script, all its cells. -/
structure OpF (w : World) (o : OpD) (g off : Nat) (vb vk : Value) : Prop where
  c0 : w.cell? ⟨g, off, none⟩ = some (.int .i64 o.kind)
  c1 : w.cell? ⟨g, off + 1, none⟩ = some (.int .i64 o.n)
  c2 : w.cell? ⟨g, off + 2, none⟩ = some vb
  c3 : w.cell? ⟨g, off + 3, none⟩ = some vk
  c4 : w.cell? ⟨g, off + 4, none⟩ = some (.int .i64 o.torn)
  rb : Row1 w (Value.int .u8) vb o.b
  rk : Row1 w Value.bool vk o.keep
  len : o.b.length ≤ 140737488355328
  wn : (Lit.int .i64 o.n).wf = true
  wt : (Lit.int .i64 o.torn).wf = true
  byt : ∀ x ∈ o.b, 0 ≤ x ∧ x ≤ 255
def OpsF (w : World) (v : Value) (l : List OpD) : Prop := l.length ≤ maxLen ∧ ∃ a cap, v = .slice a l.length cap ∧ ∀ (i : Nat) (o : OpD), l[i]? = some o → ∃ g off vb vk, a = some ⟨g, off, none⟩ ∧ OpF w o g (off + i * 5) vb vk
theorem cells_all {w : World} {a : Addr} {c0 c1 c2 c3 c4 : Value} (h : w.cells? 0 a 5 = some [c0, c1, c2, c3, c4]) : a.spot = none ∧ w.cell? a = some c0 ∧ w.cell? (a.add 1) = some c1 ∧ w.cell? (a.add 2) = some c2 ∧ w.cell? (a.add 3) = some c3 ∧ w.cell? (a.add 4) = some c4 := by
  have hs := (cells_five h).1
  unfold World.cells? at h
  split at h
  · have : List.range 5 = [0, 1, 2, 3, 4] := rfl
    rw [this] at h
    simp only [List.mapM_cons, List.mapM_nil, Option.bind_eq_bind, Option.bind_eq_some_iff, Option.pure_def, Option.some.injEq] at h
    obtain ⟨v0, h0, x1, ⟨v1, h1, x2, ⟨v2, h2, x3, ⟨v3, h3, x4, ⟨v4, h4, x5, rfl, rfl⟩, rfl⟩, rfl⟩, rfl⟩, e⟩ := h
    simp only [List.cons.injEq] at e
    obtain ⟨rfl, rfl, rfl, rfl, rfl, _⟩ := e
    refine ⟨hs, ?_, h1, h2, h3, h4⟩
    obtain ⟨b, off, sp⟩ := a
    simp only at hs
    subst hs
    rw [Addr.add_mid, Nat.add_zero] at h0
    exact h0
  · cases h
theorem arg_opsF {w : World} {v : Value} (h : Arg Try.prog w 22 v) : ∃ l, OpsF w v l := by
  obtain ⟨a, len, cap, rfl, hh⟩ := arg_slice Try.underlying22 h
  rcases hh with ⟨rfl, rfl, rfl⟩ | ⟨ad, rfl, hlc, hcm, _, hel⟩
  · exact ⟨[], by unfold maxLen; simp, none, 0, rfl, fun i o hi => by simp at hi⟩
  · rw [cells_op] at hel
    obtain ⟨l, hl, hp⟩ := list_of (p := fun i (o : OpD) => ∃ cs, w.cells? 0 (ad.add (i * 5)) 5 = some cs ∧ o.Reads w cs) len (fun i hi => by
      obtain ⟨es, h1, h2⟩ := hel i (by omega)
      obtain ⟨o, ho⟩ := rd_op h2
      exact ⟨o, es, h1, ho⟩)
    refine ⟨l, by omega, some ad, cap, by rw [hl], fun i o hi => ?_⟩
    obtain ⟨cs, h1, h2⟩ := hp i o hi
    obtain ⟨vb, vk, rfl, hb, hk⟩ := h2.is
    obtain ⟨s0, g0, g1, g2, g3, g4⟩ := cells_all h1
    have hsp : ad.spot = none := by
      have hl0 : 0 < l.length := by have := (List.getElem?_eq_some_iff.1 hi).1; omega
      obtain ⟨cs', k1, k2⟩ := hp 0 l[0] (List.getElem?_eq_getElem hl0)
      obtain ⟨vb', vk', rfl, _, _⟩ := k2.is
      have := (cells_five k1).1
      simpa [Addr.add] using this
    obtain ⟨b, off, sp⟩ := ad
    simp only at hsp
    subst hsp
    rw [Addr.add_mid] at g0 g1 g2 g3 g4
    rw [Addr.add_mid] at g1 g2 g3 g4
    exact ⟨b, off, vb, vk, rfl, g0, g1, g2, g3, g4, hb, hk, h2.len, h2.wn, h2.wt, h2.bytes⟩
end Go.Proofs.Ytinhednmfldmbaa.Dk

namespace Go.Proofs.Ytinhednmfldmbaa.Dk
open Go Go.RowKit Hp Rd

theorem at_write (D : St) (n : Int) (l : List Int) (m : Int) : (D.write n l).at m = if m = n then l else D.at m := by
  unfold St.at St.write upd
  simp only
  split <;> rfl
theorem at_sync (D : St) (m : Int) : D.sync.at m = D.at m := rfl
theorem wl_at_out (first : Nat) (bs : List Int) : ∀ (m k : Nat) (D : St) (x : Int), (∀ i : Nat, k ≤ i → i < k + m → x ≠ (first : Int) + (i : Int)) → (wl first bs k m D).at x = D.at x
  | 0, _, _, _, _ => rfl
  | m + 1, k, D, x, h => by
    unfold wl
    rw [wl_at_out first bs m (k + 1) _ x (fun i h1 h2 => h i (by omega) (by omega)), at_write, if_neg (h k (Nat.le_refl _) (by omega))]
theorem wl_at_in (first : Nat) (bs : List Int) : ∀ (m k : Nat) (D : St) (i : Nat), k ≤ i → i < k + m → (wl first bs k m D).at ((first : Int) + (i : Int)) = (bs.drop (i * 32)).take 32
  | 0, _, _, _, h1, h2 => by omega
  | m + 1, k, D, i, h1, h2 => by
    unfold wl
    rcases Nat.eq_or_lt_of_le h1 with h3 | h3
    · subst h3
      rw [wl_at_out first bs m (k + 1) _ _ (fun j h4 h5 e => by omega), at_write, if_pos rfl]
    · exact wl_at_in first bs m (k + 1) _ i h3 (by omega)
theorem wl_size (first : Nat) (bs : List Int) : ∀ (m k : Nat) (D : St), (wl first bs k m D).size = D.size
  | 0, _, _ => rfl
  | m + 1, k, D => by
    unfold wl
    rw [wl_size first bs m (k + 1)]
    rfl
theorem wl_len (first : Nat) (bs : List Int) : ∀ (m k : Nat) (D : St), (wl first bs k m D).calls.length = D.calls.length + m
  | 0, _, _ => rfl
  | m + 1, k, D => by
    unfold wl
    rw [wl_len first bs m (k + 1)]
    simp [St.write]
    omega
theorem zd_size (first : Nat) (old new : List Int) : ∀ (k : Nat) (s : St × Bool), (zd first old new k s).1.size = s.1.size
  | 0, _ => rfl
  | k + 1, s => by
    unfold zd
    rw [zd_size first old new k]
    split <;> rfl
theorem zd_out (first : Nat) (old new : List Int) : ∀ (k : Nat) (s : St × Bool) (x : Int), (∀ i : Nat, i < k → x ≠ (first : Int) + (i : Int)) → (zd first old new k s).1.at x = s.1.at x
  | 0, _, _, _ => rfl
  | k + 1, s, x, h => by
    unfold zd
    rw [zd_out first old new k _ x (fun i hi => h i (by omega))]
    split
    · rfl
    · rw [at_write, if_neg (h k (by omega))]
theorem zd_in (first : Nat) (old new : List Int) : ∀ (k : Nat) (s : St × Bool), (∀ i : Nat, i < k → s.1.at ((first : Int) + (i : Int)) = (old.drop (i * 32)).take 32) → ∀ i : Nat, i < k → (zd first old new k s).1.at ((first : Int) + (i : Int)) = (new.drop (i * 32)).take 32
  | 0, _, _, _, h => by omega
  | k + 1, s, h, i, hi => by
    unfold zd
    rcases Nat.lt_or_ge i k with h3 | h3
    · refine zd_in first old new k _ (fun j hj => ?_) i h3
      split
      · exact h j (by omega)
      · rw [at_write, if_neg (by omega)]
        exact h j (by omega)
    · obtain rfl : i = k := by omega
      rw [zd_out first old new i _ _ (fun j hj e => by omega)]
      split
      · rename_i he
        rw [h i (by omega)]
        exact he.symm
      · rw [at_write, if_pos rfl]
theorem lay_get (bs : List Int) (o : Nat) (cs : List Int) (h : o + cs.length ≤ bs.length) (j : Nat) : (lay bs o cs)[j]? = if j < o then bs[j]? else if j < o + cs.length then cs[j - o]? else bs[j]? := by
  unfold lay
  by_cases h1 : j < o
  · rw [if_pos h1, List.getElem?_append_left (by simp; omega), List.getElem?_take_of_lt h1]
  · rw [if_neg h1, List.getElem?_append_right (by simp; omega), List.length_take, Nat.min_eq_left (by omega)]
    by_cases h2 : j < o + cs.length
    · rw [if_pos h2, List.getElem?_append_left (by omega)]
    · rw [if_neg h2, List.getElem?_append_right (by omega), List.getElem?_drop]
      congr 1
      omega
/-- A block that what was laid does not reach. -/
theorem lay_blk (bs : List Int) (o : Nat) (cs : List Int) (h : o + cs.length ≤ bs.length) (k : Nat) (hk : (k + 1) * 32 ≤ o ∨ o + cs.length ≤ k * 32) : ((lay bs o cs).drop (k * 32)).take 32 = (bs.drop (k * 32)).take 32 := by
  apply List.ext_getElem?
  intro j
  rw [List.getElem?_take, List.getElem?_take]
  split
  · rename_i hj
    rw [List.getElem?_drop, List.getElem?_drop, lay_get bs o cs h]
    rcases hk with hk | hk
    · rw [if_pos (by omega)]
    · rw [if_neg (by omega), if_neg (by omega)]
  · rfl
/-- The disk's blocks are the journal's bytes; all others are zero. -/
structure Mir (D : St) (first nb : Nat) (bs : List Int) : Prop where
  in_ : ∀ k : Nat, k < nb → D.at ((first : Int) + (k : Int)) = (bs.drop (k * 32)).take 32
  out : ∀ m : Int, (m < (first : Int) ∨ (first : Int) + (nb : Int) ≤ m) → D.at m = zeros
  len : bs.length = nb * 32
theorem Mir.wl {D : St} {first nb : Nat} {bs : List Int} (h : Mir D first nb bs) {o : Nat} {cs : List Int} (ho : o + cs.length ≤ bs.length) : Mir (Dk.wl first (lay bs o cs) (o / 32) ((o + cs.length + 31) / 32 - o / 32) D) first nb (lay bs o cs) := by
  have hl := h.len
  refine ⟨fun k hk => ?_, fun m hm => ?_, by rw [lay_length _ _ _ ho, hl]⟩
  · by_cases hin : o / 32 ≤ k ∧ k < o / 32 + ((o + cs.length + 31) / 32 - o / 32)
    · exact wl_at_in first _ _ _ D k hin.1 hin.2
    · rw [wl_at_out first _ _ _ D _ (fun i h1 h2 e => by omega), h.in_ k hk, lay_blk bs o cs ho k (by omega)]
  · rw [wl_at_out first _ _ _ D _ (fun i h1 h2 e => by omega), h.out m hm]
theorem Mir.zd {D : St} {first nb : Nat} {bs : List Int} (h : Mir D first nb bs) (new : List Int) (hl : new.length = nb * 32) (any : Bool) : Mir (Dk.zd first bs new nb (D, any)).1 first nb new :=
  ⟨fun k hk => zd_in first bs new nb (D, any) h.in_ k hk, fun m hm => by rw [zd_out first bs new nb (D, any) m (fun i hi e => by omega)]; exact h.out m hm, hl⟩
theorem Mir.zero {D : St} {first nb : Nat} (h : Mir D first nb (List.replicate (nb * 32) 0)) (m : Int) : D.at m = zeros := by
  by_cases hin : (first : Int) ≤ m ∧ m < (first : Int) + (nb : Int)
  · obtain ⟨k, hk⟩ : ∃ k : Nat, m - first = (k : Int) := Int.eq_ofNat_of_zero_le (by omega)
    have hm : m = (first : Int) + (k : Int) := by omega
    rw [hm, h.in_ k (by omega), List.drop_replicate, List.take_replicate, zeros]
    congr 1
    omega
  · exact h.out m (by omega)
theorem Mir.start (D : St) (first nb : Nat) (h : ∀ m : Int, D.at m = zeros) : Mir D first nb (List.replicate (nb * 32) 0) :=
  ⟨fun k hk => by
    rw [h, List.drop_replicate, List.take_replicate, zeros]
    congr 1
    omega, fun m _ => h m, by simp⟩
/-- Rows of bytes that came in. -/
def RowsAt (w : World) (v : Value) (l : List (List Int)) : Prop := l.length ≤ maxLen ∧ ∃ a cap, v = .slice a l.length cap ∧ ∀ (i : Nat) (x : List Int), l[i]? = some x → ∃ g off vb, a = some ⟨g, off, none⟩ ∧ w.cell? ⟨g, off + i, none⟩ = some vb ∧ Row1 w (Value.int .u8) vb x ∧ x.length ≤ 140737488355328 ∧ Pl.bytes x
theorem cells_row1 : Try.prog.cellsOf 31 = 1 := by kernel_rfl
theorem arg_rows {w : World} {v : Value} (h : Arg Try.prog w 42 v) : ∃ l, RowsAt w v l := by
  obtain ⟨a, len, cap, rfl, hh⟩ := arg_slice Try.underlying42 h
  rcases hh with ⟨rfl, rfl, rfl⟩ | ⟨ad, rfl, hlc, hcm, _, hel⟩
  · exact ⟨[], by unfold maxLen; simp, none, 0, rfl, fun i x hi => by simp at hi⟩
  · rw [cells_row1] at hel
    obtain ⟨l, hl, hp⟩ := list_of (p := fun i (x : List Int) => ∃ vb, w.cell? (ad.add i) = some vb ∧ Row1 w (Value.int .u8) vb x ∧ x.length ≤ 140737488355328 ∧ Pl.bytes x) len (fun i hi => by
      obtain ⟨es, h1, h2⟩ := hel i (by omega)
      rw [Nat.mul_one] at h1
      obtain ⟨vb, rfl, hc⟩ := cells_one h1
      obtain ⟨vb', he, x, hr, hx, hb⟩ := row_bytes h2
      obtain rfl : vb = vb' := by simpa using he
      exact ⟨x, vb, hc, hr, hx, fun y hy => ⟨(hb y hy).1, by have := (hb y hy).2; omega⟩⟩)
    refine ⟨l, by omega, some ad, cap, by rw [hl], fun i x hi => ?_⟩
    obtain ⟨vb, h1, h2, h3, h4⟩ := hp i x hi
    have hsp : ad.spot = none := by
      have hl0 : 0 < l.length := by have := (List.getElem?_eq_some_iff.1 hi).1; omega
      obtain ⟨vb0, k1, -⟩ := hp 0 l[0] (List.getElem?_eq_getElem hl0)
      have k2 : w.cell? ad = some vb0 := by simpa [Addr.add] using k1
      unfold World.cell? at k2
      split at k2
      · split at k2
        · cases k2
        · rename_i hs
          simpa using hs
      · cases k2
    obtain ⟨b, off, sp⟩ := ad
    simp only at hsp
    subst hsp
    rw [Addr.add_mid] at h1
    exact ⟨b, off, vb, rfl, h1, h2, h3, h4⟩
theorem arg_bytes {w : World} {v : Value} (h : Arg Try.prog w 31 v) : ∃ l, Row1 w (Value.int .u8) v l ∧ l.length ≤ 140737488351232 ∧ Pl.bytes l := by
  obtain ⟨a, len, cap, rfl, hh⟩ := arg_slice Try.underlying31 h
  obtain ⟨-, hr⟩ := h
  obtain ⟨v', he, l, hr, hl, hb⟩ := row_bytes hr
  simp [Value.cells] at he
  subst he
  refine ⟨l, hr, ?_, fun y hy => ⟨(hb y hy).1, by have := (hb y hy).2; omega⟩⟩
  obtain ⟨a', c', he, -, -⟩ := hr
  obtain ⟨rfl, rfl, rfl⟩ : a = a' ∧ len = l.length ∧ cap = c' := by simpa using he
  rcases hh with ⟨_, h0, _⟩ | ⟨ad, _, hlc, _, hby, _⟩
  · omega
  · rw [bytes_u8] at hby
    omega
theorem Row1.bytes {w : World} {v : Value} {l : List Int} (h : Row1 w (Value.int .u8) v l) : ∃ a c, v = .slice a l.length c ∧ l.length ≤ c ∧ Bytes w a l ∧ (0 < l.length → ∀ ad, a = some ad → ad.block < w.heap.size) := by
  obtain ⟨a, c, rfl, h0, h1⟩ := h
  cases a with
  | none =>
    obtain ⟨rfl, rfl⟩ := h0 rfl
    exact ⟨none, 0, rfl, Nat.le_refl _, fun h => absurd h (by simp), fun h => absurd h (by simp)⟩
  | some ad =>
    obtain ⟨h2, h3⟩ := h1 ad rfl
    refine ⟨some ad, c, rfl, h2, fun _ => ⟨ad, rfl, h3⟩, fun hl ad' he => ?_⟩
    cases he
    have := h3 0 _ (List.getElem?_eq_getElem hl)
    have hb := World.block_lt_of_cell? w _ this
    simpa [Addr.add] using hb
theorem Bytes.below {w w' : World} {A : Option Addr} {l : List Int} (h : Bytes w A l) (k : Below w.heap.size w w') : Bytes w' A l := fun h0 => by
  obtain ⟨ad, he, hc⟩ := h h0
  exact ⟨ad, he, fun j x hj => bcell' k (hc j x hj)⟩
end Go.Proofs.Ytinhednmfldmbaa.Dk

namespace Go.Proofs.Ytinhednmfldmbaa.Dk
open Go Go.RowKit Hp Rd

/-- The journal, its disk, and the world so far. -/
structure Rst (w w' : World) (first nb jb b gb cb m1 m2 : Nat) (vr sv : Value) (rvs : List Value) (bs : List Int) (used : Nat) (recs : List (List Int)) (D : St) : Prop where
  jrn : JIs w' jb b first gb cb bs used vr recs rvs
  disk : DiskIs w' b m1 m2 sv D
  apart : ∀ i, jfoot jb gb vr rvs i → ¬ foot b m1 m2 sv i
  below : Below w.heap.size w w'
  newJ : ∀ i, jfoot jb gb vr rvs i → w.heap.size ≤ i
  newD : ∀ i, foot b m1 m2 sv i → w.heap.size ≤ i
  mir : Mir D first nb bs
  fit : (first : Int) + (nb : Int) ≤ D.size
  big : (12 : Int) ≤ D.size
  ule : used ≤ bs.length
theorem Rst.kept {w w' w'' : World} {first nb jb b gb cb m1 m2 : Nat} {vr sv : Value} {rvs : List Value} {bs : List Int} {used : Nat} {recs : List (List Int)} {D : St} (h : Rst w w' first nb jb b gb cb m1 m2 vr sv rvs bs used recs D) (K : Below w'.heap.size w' w'') : Rst w w'' first nb jb b gb cb m1 m2 vr sv rvs bs used recs D :=
  ⟨h.jrn.kept (S := fun _ => False) (Kept.of_below K) (fun _ _ e => e), h.disk.kept (S := fun _ => False) (Kept.of_below K) (fun _ _ e => e), h.apart, h.below.trans (K.mono h.below.size), h.newJ, h.newD, h.mir, h.fit, h.big, h.ule⟩
/-- An append, as the walk has it. -/
theorem Rst.append {w w' : World} {first nb jb b gb cb m1 m2 : Nat} {vr sv : Value} {rvs : List Value} {bs : List Int} {used : Nat} {recs : List (List Int)} {D : St} (h : Rst w w' first nb jb b gb cb m1 m2 vr sv rvs bs used recs D) (hn : D.calls.length ≤ 1000000000) (hrl : recs.length ≤ 1000000000)
    (A : Option Addr) (c : Nat) (l : List Int) (hb : Pl.bytes l) (hc : l.length ≤ c) (hr : Bytes w A l) (hA : ∀ ad, A = some ad → ad.block < w.heap.size) (hf : Pl.fits l) (hroom : used + (7 + l.length) ≤ bs.length) :
    Calls Try.prog 27 #[.pointer (some ⟨jb, 0, none⟩), .slice A l.length c] w' fun e w'' => e = .returned (.int .i64 0) ∧ ∃ sv' vr' rvs' bs' D', bs'.length = bs.length ∧ D'.calls.length ≤ D.calls.length + nb ∧ Rst w w'' first nb jb b gb cb m1 m2 vr' sv' rvs' bs' (used + (7 + l.length)) (recs ++ [l]) D' := by
  have hlen := h.mir.len
  refine (append_ok h.jrn h.disk h.apart nb hlen h.fit hn hrl A c l hb hc (hr.below h.below) (fun ad he => ⟨fun hj => by have := h.newJ _ hj; have := hA ad he; omega, fun hj => by have := h.newD _ hj; have := hA ad he; omega⟩) hf hroom).mono ?_
  rintro e w'' ⟨sv', vr', rv, rfl, k1, k2, k3, k4, k5, k6, k7⟩
  have hfl := Pl.frame_length l
  have ho : used + (Pl.frame l).length ≤ bs.length := by omega
  have hs := h.below.size
  have hm := h.mir.wl ho
  rw [hfl] at hm
  refine ⟨rfl, sv', vr', rvs ++ [rv], _, _, lay_length _ _ _ ho, ?_, ⟨k1, k2, k7, h.below.trans (k3.below hs (fun i hi e => ?_)), fun i hi => ?_, fun i hi => ?_, hm, by rw [wl_size]; exact h.fit, by rw [wl_size]; exact h.big, by rw [lay_length _ _ _ ho]; omega⟩⟩
  · rw [wl_len]
    omega
  · rcases e with e | e
    · have := h.newJ i e; omega
    · have := h.newD i e; omega
  · rcases hi with hi | hi | hi | ⟨u, hu, hi⟩
    · exact h.newJ i (.inl hi)
    · exact h.newJ i (.inr (.inl hi))
    · rcases k5 i hi with h5 | h5
      · exact h.newJ i (.inr (.inr (.inl h5)))
      · omega
    · rcases List.mem_append.1 hu with hu | hu
      · exact h.newJ i (.inr (.inr (.inr ⟨u, hu, hi⟩)))
      · rw [List.mem_singleton.1 hu] at hi
        have := k6 i hi
        omega
  · rcases hi with hi | hi | hi | hi
    · exact h.newD i (.inl hi)
    · exact h.newD i (.inr (.inl hi))
    · exact h.newD i (.inr (.inr (.inl hi)))
    · rcases k4 i hi with h5 | h5
      · exact h.newD i (.inr (.inr (.inr h5)))
      · omega
theorem Rst.clear {w w' : World} {first nb jb b gb cb m1 m2 : Nat} {vr sv : Value} {rvs : List Value} {bs : List Int} {used : Nat} {recs : List (List Int)} {D : St} (h : Rst w w' first nb jb b gb cb m1 m2 vr sv rvs bs used recs D) (hn : D.calls.length ≤ 1000000000) (hnb : nb ≤ 100000) :
    Calls Try.prog 29 #[.pointer (some ⟨jb, 0, none⟩)] w' fun e w'' => e = .returned (.int .i64 0) ∧ ∃ sv' D', D'.calls.length ≤ D.calls.length + nb + 1 ∧ Rst w w'' first nb jb b gb cb m1 m2 (.slice none 0 0) sv' [] (List.replicate (nb * 32) 0) 0 [] D' := by
  have hlen := h.mir.len
  have hzl := zd_len first bs (List.replicate bs.length 0) nb (D, false)
  have hzs := zd_size first bs (List.replicate bs.length 0) nb (D, false)
  simp only at hzl hzs
  refine (clear_ok h.jrn h.disk h.apart nb hlen h.fit hn (by omega)).mono ?_
  rintro e w'' ⟨sv', rfl, k1, k2, k3, k4⟩
  have hs := h.below.size
  have hm := h.mir.zd (List.replicate bs.length 0) (by simp [hlen]) false
  rw [hlen] at hm k1 k2 hzl hzs
  refine ⟨rfl, sv', _, ?_, ⟨k1, k2, fun i hi hf => ?_, h.below.trans (k3.below hs (fun i hi e => ?_)), fun i hi => ?_, fun i hi => ?_, ⟨hm.in_, hm.out, hm.len⟩, ?_, ?_, Nat.zero_le _⟩⟩
  · simp [St.sync]
    omega
  · have hi' : jfoot jb gb vr rvs i := by
      rcases hi with hi | hi | hi | ⟨u, hu, hi⟩
      · exact .inl hi
      · exact .inr (.inl hi)
      · cases hi
      · cases hu
    have hlt := h.jrn.lt i hi'
    rcases hf with hf | hf | hf | hf
    · exact h.apart i hi' (.inl hf)
    · exact h.apart i hi' (.inr (.inl hf))
    · exact h.apart i hi' (.inr (.inr (.inl hf)))
    · rcases k4 i hf with h5 | h5
      · exact h.apart i hi' (.inr (.inr (.inr h5)))
      · omega
  · rcases e with e | e | e
    · have := h.newJ i (.inl e); omega
    · have := h.newJ i (.inr (.inl e)); omega
    · have := h.newD i e; omega
  · rcases hi with hi | hi | hi | ⟨u, hu, hi⟩
    · exact h.newJ i (.inl hi)
    · exact h.newJ i (.inr (.inl hi))
    · cases hi
    · cases hu
  · rcases hi with hi | hi | hi | hi
    · exact h.newD i (.inl hi)
    · exact h.newD i (.inr (.inl hi))
    · exact h.newD i (.inr (.inr (.inl hi)))
    · rcases k4 i hi with h5 | h5
      · exact h.newD i (.inr (.inr (.inr h5)))
      · omega
  · show (first : Int) + (nb : Int) ≤ (zd first bs (List.replicate (nb * 32) 0) nb (D, false)).1.size
    rw [hzs]
    exact h.fit
  · show (12 : Int) ≤ (zd first bs (List.replicate (nb * 32) 0) nb (D, false)).1.size
    rw [hzs]
    exact h.big
/-- What the last region of a read leaves: a fresh row of zeros. -/
def PsiZ (w1 : World) (k : Nat) (_ : Array Value) (v : Value) (w : World) : Prop := if k = 2 then ∃ x, v = .slice (some ⟨x, 0, none⟩) 32 32 ∧ w1.heap.size ≤ x ∧ Row32 w v zeros else True
def TrZ (k : Nat) (u u' : World) : Prop := if k = 2 then Below u.heap.size u u' else u = u'
theorem TrZ.below {k : Nat} {u u' : World} (h : TrZ k u u') : Below u.heap.size u u' := by
  unfold TrZ at h
  split at h
  · exact h
  · exact h ▸ Below.refl _ _
theorem psiZ_stays {w1 : World} {j k : Nat} {A : Array Value} {v : Value} {w w' : World} (ht : TrZ k w w') (h : PsiZ w1 j A v w) : PsiZ w1 j A v w' := by
  unfold PsiZ at *
  split at h
  · rename_i h0
    rw [if_pos h0]
    obtain ⟨x, rfl, hx, hr⟩ := h
    exact ⟨x, rfl, hx, hr.below ht.below⟩
  · rename_i h0
    rw [if_neg h0]
    trivial
theorem row32_new (w : World) : Row32 (w.alloc (.cells (zeros.map (Value.int .u8)).toArray 5)) (.slice (some ⟨w.heap.size, 0, none⟩) 32 32) zeros := ⟨rfl, _, _, _, rfl, fun j u hu => by
  simp only [World.cell?, heap_alloc_new, Nat.zero_add]
  simpa using hu⟩
end Go.Proofs.Ytinhednmfldmbaa.Dk

namespace Go.Proofs.Ytinhednmfldmbaa.Dk
open Go Go.RowKit Hp Rd

/-- A byte of a block. -/
def byteM (M : BM) (n : Int) (k : Nat) : Int := ((M n).getD zeros).getD k 0
/-- What each byte of a map of blocks, of a write, may be. -/
def OkM (P : Int → Nat → Int → Prop) (M : BM) : Prop := ∀ (n : Int) (k : Nat), k < 32 → P n k (byteM M n k)
def OkW (P : Int → Nat → Int → Prop) (c : Wr) : Prop := c.1 ≠ -1 → ∀ k, k < 32 → P c.1 k (c.2.getD k 0)
theorem okM_upd {P : Int → Nat → Int → Prop} {M : BM} (h : OkM P M) {n : Int} {l : List Int} (hl : ∀ k, k < 32 → P n k (l.getD k 0)) : OkM P (upd M n l) := by
  intro m k hk
  unfold byteM upd
  by_cases hm : m = n
  · rw [if_pos hm, hm]
    exact hl k hk
  · rw [if_neg hm]
    exact h m k hk
theorem okM_apply {P : Int → Nat → Int → Prop} : ∀ (wt : List Wr) {M : BM}, OkM P M → (∀ c ∈ wt, c.1 ≠ -1 ∧ OkW P c) → OkM P (apply M wt)
  | [], _, h, _ => h
  | c :: wt, M, h, hw => by
    obtain ⟨h1, h2⟩ := hw c (List.mem_cons.2 (.inl rfl))
    exact okM_apply wt (M := upd M c.1 c.2) (okM_upd h (h2 h1)) (fun d hd => hw d (List.mem_cons.2 (.inr hd)))
/-- The calls drained: what stands, and what waits. -/
def OkS (P : Int → Nat → Int → Prop) (s : BM × List Wr) : Prop := OkM P s.1 ∧ ∀ c ∈ s.2, c.1 ≠ -1 ∧ OkW P c
theorem okS_drain {P : Int → Nat → Int → Prop} : ∀ (cs : List Wr) {s : BM × List Wr}, OkS P s → (∀ c ∈ cs, OkW P c) → OkS P (cs.foldl step1 s)
  | [], _, h, _ => h
  | c :: cs, s, h, hw => by
    have hc := hw c (List.mem_cons.2 (.inl rfl))
    refine okS_drain cs (s := step1 s c) ?_ (fun d hd => hw d (List.mem_cons.2 (.inr hd)))
    unfold step1
    by_cases h1 : c.1 = -1
    · rw [if_pos h1]
      exact ⟨okM_apply s.2 h.1 h.2, fun d hd => by cases hd⟩
    · rw [if_neg h1]
      refine ⟨h.1, fun d hd => ?_⟩
      rcases List.mem_append.1 hd with hd | hd
      · exact h.2 d hd
      · rw [List.mem_singleton.1 hd]
        exact ⟨h1, hc⟩
theorem okM_lay {P : Int → Nat → Int → Prop} {t : Nat} (ht : t ≤ 32) {kept : List Wr} (hk : ∀ c ∈ kept, (c.1 ≠ -1 ∧ OkW P c) ∧ c.2.length = 32) {M : BM} (h : OkM P M) : ∀ j, OkM P (layN t kept M j)
  | 0 => h
  | j + 1 => by
    have ih := okM_lay ht hk h j
    cases hc : kept[j]? with
    | none =>
      have : layN t kept M (j + 1) = layN t kept M j := by
        conv => lhs; unfold layN
        rw [hc]
      rw [this]
      exact ih
    | some c =>
      obtain ⟨⟨h1, h2⟩, h3⟩ := hk c (List.mem_of_getElem? hc)
      rw [lay_succ t kept M j c hc]
      refine okM_upd ih fun k hk32 => ?_
      split
      · unfold tornOf
        by_cases hkt : k < t
        · have : (c.2.take t ++ ((layN t kept M j c.1).getD zeros).drop t).getD k 0 = c.2.getD k 0 := by
            rw [List.getD_eq_getElem?_getD, List.getD_eq_getElem?_getD, List.getElem?_append_left (by rw [List.length_take, h3]; omega), List.getElem?_take, if_pos hkt]
          rw [this]
          exact h2 h1 k hk32
        · have : (c.2.take t ++ ((layN t kept M j c.1).getD zeros).drop t).getD k 0 = byteM (layN t kept M j) c.1 k := by
            have htl : (c.2.take t).length = t := by rw [List.length_take, h3]; omega
            unfold byteM
            rw [List.getD_eq_getElem?_getD, List.getD_eq_getElem?_getD, List.getElem?_append_right (by omega), htl, List.getElem?_drop]
            congr 2
            omega
          rw [this]
          exact ih c.1 k hk32
      · exact h2 h1 k hk32
/-- THE LAW OF A BYTE: what stood there when the calls 'pre' were drained, or what was written since. -/
theorem okM_cut {P : Int → Nat → Int → Prop} {D : St} (hD : D.Ok) {at_ torn : Int} {keep : List Bool} {pre suf : List Wr} (hs : D.calls.take (pick at_ (D.calls.length + 1)).toNat = pre ++ suf) (hp : OkS P (drain pre D.first)) (hw : ∀ c ∈ suf, OkW P c) : OkM P (D.cutM at_ keep torn) := by
  have ht := pick_lt torn 33 (by decide)
  have hd : drain (pre ++ suf) D.first = suf.foldl step1 (drain pre D.first) := by
    unfold drain
    rw [List.foldl_append]
  have hok := okS_drain suf hp hw
  have hfine := (fine_drain (cs := pre ++ suf) (M := D.first) (fun c hc => hD.calls c (by rw [← hs] at hc; exact List.mem_of_mem_take hc)) hD.first).2
  unfold St.cutM
  simp only
  rw [hs]
  rw [← hd] at hok
  exact okM_lay (by omega) (fun c hc => ⟨hok.2 c (keep_mem hc), hfine c (keep_mem hc)⟩) hok.1 _
end Go.Proofs.Ytinhednmfldmbaa.Dk

namespace Go.Proofs.Ytinhednmfldmbaa.Dk
open Go Go.RowKit Hp Rd

/-- The frames of records, one behind the other. -/
def frs (l : List (List Int)) : List Int := (l.map Pl.frame).flatten
theorem frs_nil : frs [] = [] := rfl
theorem frs_cons (x : List Int) (l : List (List Int)) : frs (x :: l) = Pl.frame x ++ frs l := rfl
theorem frs_append (a b : List (List Int)) : frs (a ++ b) = frs a ++ frs b := by simp [frs]
theorem scans_prefix : ∀ (a : List (List Int)) {y : List Int} {xs : List (List Int)} {r : List Int}, (∀ x ∈ a, Pl.fits x) → Pl.Scans (frs a ++ y) xs r → ∃ ys, xs = a ++ ys ∧ Pl.Scans y ys r
  | [], _, xs, _, _, h => ⟨xs, rfl, h⟩
  | x :: a, y, xs, r, hf, h => by
    have hx := hf x (List.mem_cons.2 (.inl rfl))
    have ht := Pl.take_frame x (frs a ++ y) hx
    rw [frs_cons, List.append_assoc] at h
    generalize hb : Pl.frame x ++ (frs a ++ y) = b at h ht
    cases h with
    | done h1 =>
      rw [ht] at h1
      exact absurd rfl h1
    | @more _ z n zs _ h1 h2 =>
      rw [ht] at h1
      obtain ⟨rfl, rfl⟩ : x = z ∧ 7 + (x.length : Int) = n := by simpa using h1
      have hd : b.drop (7 + (x.length : Int)).toNat = frs a ++ y := by
        rw [← hb, List.drop_append_of_le_length (by rw [Pl.frame_length]; omega), List.drop_of_length_le (by rw [Pl.frame_length]; omega), List.nil_append]
      rw [hd] at h2
      obtain ⟨ys, rfl, h3⟩ := scans_prefix a (fun u hu => hf u (List.mem_cons.2 (.inr hu))) h2
      exact ⟨ys, rfl, h3⟩
/-- A list that begins as another. -/
theorem begins {a X : List Int} (hl : a.length ≤ X.length) (h : ∀ j, j < a.length → X.getD j 0 = a.getD j 0) : X = a ++ X.drop a.length := by
  apply List.ext_getElem?
  intro j
  rcases Nat.lt_or_ge j a.length with hj | hj
  · have := h j hj
    rw [List.getElem?_append_left hj, List.getElem?_eq_getElem (by omega), List.getElem?_eq_getElem hj]
    rw [List.getD_eq_getElem?_getD, List.getD_eq_getElem?_getD, List.getElem?_eq_getElem (by omega), List.getElem?_eq_getElem hj] at this
    simpa using this
  · rw [List.getElem?_append_right hj, List.getElem?_drop]
    congr 1
    omega
/-- What was sure is read back. -/
theorem scan_least {all : List (List Int)} {X : List Int} {xs : List (List Int)} {r : List Int} (hf : ∀ x ∈ all, Pl.fits x) {s : Nat} (hs : s ≤ all.length) (hl : (frs (all.take s)).length ≤ X.length) (hX : ∀ j, j < (frs (all.take s)).length → X.getD j 0 = (frs (all.take s)).getD j 0) (hsc : Pl.Scans X xs r) : s ≤ xs.length := by
  rw [begins hl hX] at hsc
  obtain ⟨ys, rfl, -⟩ := scans_prefix (all.take s) (fun x hx => hf x (List.mem_of_mem_take hx)) hsc
  simp
  omega
theorem frs_at (a : List (List Int)) (z : List Int) (b : List (List Int)) (i : Nat) (hi : i < (Pl.frame z).length) : (frs (a ++ z :: b)).getD ((frs a).length + i) 0 = (Pl.frame z).getD i 0 := by
  rw [frs_append, frs_cons, List.getD_eq_getElem?_getD, List.getD_eq_getElem?_getD, List.getElem?_append_right (by omega), Nat.add_sub_cancel_left, List.getElem?_append_left hi]
/-- Opened again, cut anywhere, it reads the same, or what was never there. -/
theorem scan_again {all : List (List Int)} {X Y : List Int} {xs ys : List (List Int)} {r r2 : List Int} (hbX : Pl.bytes X) (hbY : Pl.bytes Y) (hX : Pl.Scans X xs r) (hY : Pl.Scans Y ys r2) (hl : Y.length = X.length)
    (hnX : ∀ (i : Nat) (x : List Int), xs[i]? = some x → all[i]? = some x) (hnY : ∀ (i : Nat) (x : List Int), ys[i]? = some x → all[i]? = some x)
    (hz : ∀ j, j < X.length → X.getD j 0 = 0 ∨ X.getD j 0 = (frs all).getD j 0) (hy : ∀ j, j < X.length → Y.getD j 0 = X.getD j 0 ∨ (X.length - r.length ≤ j ∧ Y.getD j 0 = 0)) : ys = xs := by
  obtain ⟨e1, hfx, hbad⟩ := Pl.scans_back hbX hX
  have e1' : X = frs xs ++ r := e1
  have hlX : X.length = (frs xs).length + r.length := by rw [e1', List.length_append]
  have hYb := begins (a := frs xs) (X := Y) (by omega) (fun j hj => by
    rcases hy j (by omega) with h5 | h5
    · rw [h5, e1', List.getD_eq_getElem?_getD, List.getD_eq_getElem?_getD, List.getElem?_append_left hj]
    · omega)
  rw [hYb] at hY
  obtain ⟨zs, rfl, hzs⟩ := scans_prefix xs (fun x hx => (hfx x hx).1) hY
  have hbd : Pl.bytes (Y.drop (frs xs).length) := Pl.bytes_drop hbY _
  generalize hD : Y.drop (frs xs).length = Yt at hzs hbd
  cases hzs with
  | done _ => simp
  | @more _ z n zs' _ h1 h2 =>
    exfalso
    obtain ⟨q, hq, hfz, -⟩ := Pl.take_ok hbd h1
    have hz0 := hnY xs.length z (by rw [List.getElem?_append_right (Nat.le_refl _)]; simp)
    have htake : all.take xs.length = xs := by
      apply List.ext_getElem?
      intro i
      rcases Nat.lt_or_ge i xs.length with hi | hi
      · rw [List.getElem?_take_of_lt hi, List.getElem?_eq_getElem hi]
        exact hnX i _ (List.getElem?_eq_getElem hi)
      · rw [List.getElem?_eq_none (by simp; omega), List.getElem?_eq_none hi]
    obtain ⟨hzl, hze⟩ := List.getElem?_eq_some_iff.1 hz0
    have hall : all = xs ++ z :: all.drop (xs.length + 1) := by
      conv => lhs; rw [← List.take_append_drop xs.length all, htake, List.drop_eq_getElem_cons hzl, hze]
    have hYl : Yt.length = r.length := by rw [← hD, List.length_drop]; omega
    have hfl : (Pl.frame z).length ≤ r.length := by rw [← hYl, hq, List.length_append]; omega
    have hr := begins (a := Pl.frame z) (X := r) hfl (fun i hi => by
      have hyi : Y.getD ((frs xs).length + i) 0 = (Pl.frame z).getD i 0 := by
        rw [hYb, hD, hq, List.getD_eq_getElem?_getD, List.getD_eq_getElem?_getD, List.getElem?_append_right (by omega), Nat.add_sub_cancel_left, List.getElem?_append_left hi]
      have hai : (frs all).getD ((frs xs).length + i) 0 = (Pl.frame z).getD i 0 := by
        rw [hall]
        exact frs_at xs z _ i hi
      have hxi : X.getD ((frs xs).length + i) 0 = r.getD i 0 := by
        rw [e1', List.getD_eq_getElem?_getD, List.getD_eq_getElem?_getD, List.getElem?_append_right (by omega), Nat.add_sub_cancel_left]
      rw [← hxi]
      rcases hz ((frs xs).length + i) (by omega) with h5 | h5
      · rw [h5]
        rcases hy ((frs xs).length + i) (by omega) with h6 | h6
        · rw [h5, hyi] at h6
          exact h6.symm
        · rw [hyi] at h6
          exact h6.2.symm
      · rw [h5, hai])
    rw [hr] at hbad
    rw [Pl.take_frame z _ hfz] at hbad
    exact hbad rfl
end Go.Proofs.Ytinhednmfldmbaa.Dk

namespace Go.Proofs.Ytinhednmfldmbaa.Dk
open Go Go.RowKit Hp Rd

/-- A byte is 0 or the record's; a byte ahead of U is the record's. -/
def PZ (recs : List (List Int)) (n : Int) (k : Nat) (v : Int) : Prop := v = 0 ∨ v = (frs recs).getD (n.toNat * 32 + k) 0
def PS (recs : List (List Int)) (U : Nat) (n : Int) (k : Nat) (v : Int) : Prop := 0 ≤ n → n.toNat * 32 + k < U → v = (frs recs).getD (n.toNat * 32 + k) 0
/-- The journal's bytes. -/
def JB (recs : List (List Int)) (n : Nat) : List Int := frs recs ++ List.replicate (n - (frs recs).length) 0
theorem jb_length (recs : List (List Int)) (n : Nat) (h : (frs recs).length ≤ n) : (JB recs n).length = n := by simp [JB]; omega
theorem jb_get (recs : List (List Int)) (n j : Nat) : (JB recs n).getD j 0 = (frs recs).getD j 0 := by
  unfold JB
  rw [List.getD_eq_getElem?_getD, List.getD_eq_getElem?_getD]
  rcases Nat.lt_or_ge j (frs recs).length with hj | hj
  · rw [List.getElem?_append_left hj]
  · rw [List.getElem?_append_right hj, List.getElem?_eq_none hj, List.getElem?_replicate]
    split <;> rfl
theorem jb_nil (n : Nat) : JB [] n = List.replicate n 0 := by simp [JB, frs_nil]
theorem frs_snoc (recs : List (List Int)) (l : List Int) : frs (recs ++ [l]) = frs recs ++ Pl.frame l := by rw [frs_append, frs_cons, frs_nil, List.append_nil]
theorem lay_jb (recs : List (List Int)) (l : List Int) (n : Nat) (h : (frs recs).length + (7 + l.length) ≤ n) : lay (JB recs n) (frs recs).length (Pl.frame l) = JB (recs ++ [l]) n := by
  have hf := Pl.frame_length l
  unfold lay JB
  rw [frs_snoc, List.take_left, List.drop_append, List.drop_of_length_le (by omega), List.nil_append, List.drop_replicate, List.append_assoc, List.length_append]
  congr 3
  omega
theorem blk_get (bs : List Int) (k i : Nat) (hi : i < 32) : ((bs.drop (k * 32)).take 32).getD i 0 = bs.getD (k * 32 + i) 0 := by
  rw [List.getD_eq_getElem?_getD, List.getD_eq_getElem?_getD, List.getElem?_take_of_lt hi, List.getElem?_drop]
theorem frs_mono (recs : List (List Int)) (l : List Int) (j : Nat) : (frs recs).getD j 0 = 0 ∨ (frs (recs ++ [l])).getD j 0 = (frs recs).getD j 0 := by
  rw [frs_snoc]
  rcases Nat.lt_or_ge j (frs recs).length with hj | hj
  · right
    rw [List.getD_eq_getElem?_getD, List.getD_eq_getElem?_getD, List.getElem?_append_left hj]
  · left
    rw [List.getD_eq_getElem?_getD, List.getElem?_eq_none hj]
    rfl
theorem frs_same (recs : List (List Int)) (l : List Int) (j : Nat) (hj : j < (frs recs).length) : (frs (recs ++ [l])).getD j 0 = (frs recs).getD j 0 := by
  rw [frs_snoc, List.getD_eq_getElem?_getD, List.getD_eq_getElem?_getD, List.getElem?_append_left hj]
theorem pz_mono {recs : List (List Int)} {l : List Int} {n : Int} {k : Nat} {v : Int} (h : PZ recs n k v) : PZ (recs ++ [l]) n k v := by
  rcases h with h | h
  · exact .inl h
  · rcases frs_mono recs l (n.toNat * 32 + k) with h5 | h5
    · exact .inl (h.trans h5)
    · exact .inr (h.trans h5.symm)
theorem ps_mono {recs : List (List Int)} {l : List Int} {U : Nat} (hU : U ≤ (frs recs).length) {n : Int} {k : Nat} {v : Int} (h : PS recs U n k v) : PS (recs ++ [l]) U n k v := fun h0 h1 => by
  rw [h h0 h1, frs_same recs l _ (by omega)]
theorem OkW.imp {P Q : Int → Nat → Int → Prop} (h : ∀ n k v, P n k v → Q n k v) {c : Wr} (hc : OkW P c) : OkW Q c := fun h1 k hk => h _ _ _ (hc h1 k hk)
theorem OkS.imp {P Q : Int → Nat → Int → Prop} (h : ∀ n k v, P n k v → Q n k v) {s : BM × List Wr} (hs : OkS P s) : OkS Q s := ⟨fun n k hk => h _ _ _ (hs.1 n k hk), fun c hc => ⟨(hs.2 c hc).1, (hs.2 c hc).2.imp h⟩⟩
/-- What is written is the journal's blocks. -/
theorem wl_calls (first : Nat) (bs : List Int) : ∀ (m k : Nat) (D : St), ∃ W, (wl first bs k m D).calls = D.calls ++ W ∧ (wl first bs k m D).first = D.first ∧ (Inv D → Inv (wl first bs k m D)) ∧ ∀ c ∈ W, ∃ i : Nat, c = ((first : Int) + (i : Int), (bs.drop (i * 32)).take 32)
  | 0, _, D => ⟨[], by simp [wl], rfl, id, fun c hc => by cases hc⟩
  | m + 1, k, D => by
    obtain ⟨W, h1, h2, h3, h4⟩ := wl_calls first bs m (k + 1) (D.write ((first : Int) + (k : Int)) ((bs.drop (k * 32)).take 32))
    refine ⟨((first : Int) + (k : Int), (bs.drop (k * 32)).take 32) :: W, ?_, h2, fun hI => h3 (inv_write hI _ (by omega)), fun c hc => ?_⟩
    · show (wl first bs (k + 1) m _).calls = _
      rw [h1]
      simp [St.write]
    · rcases List.mem_cons.1 hc with rfl | hc
      · exact ⟨k, rfl⟩
      · exact h4 c hc
theorem zd_calls (first : Nat) (old new : List Int) : ∀ (k : Nat) (s : St × Bool), ∃ W, (zd first old new k s).1.calls = s.1.calls ++ W ∧ (zd first old new k s).1.first = s.1.first ∧ ∀ c ∈ W, ∃ i : Nat, c = ((first : Int) + (i : Int), (new.drop (i * 32)).take 32)
  | 0, s => ⟨[], by simp [zd], rfl, fun c hc => by cases hc⟩
  | k + 1, s => by
    unfold zd
    split
    · exact zd_calls first old new k s
    · obtain ⟨W, h1, h2, h4⟩ := zd_calls first old new k (s.1.write ((first : Int) + (k : Int)) ((new.drop (k * 32)).take 32), true)
      refine ⟨((first : Int) + (k : Int), (new.drop (k * 32)).take 32) :: W, ?_, h2, fun c hc => ?_⟩
      · rw [h1]
        simp [St.write]
      · rcases List.mem_cons.1 hc with rfl | hc
        · exact ⟨k, rfl⟩
        · exact h4 c hc
/-- The disk's calls so far. -/
structure Hist (D : St) (recs : List (List Int)) : Prop where
  inv : Inv D
  zf : ∀ c ∈ D.calls, OkW (PZ recs) c
  z0 : D.first = fun _ => none
/-- From call cnt on the bytes ahead of U outlive all. -/
def Sure (D : St) (recs : List (List Int)) (U cnt : Nat) : Prop := ∃ pre suf, D.calls = pre ++ suf ∧ pre.length ≤ cnt ∧ OkS (PS recs U) (drain pre D.first) ∧ ∀ c ∈ suf, OkW (PS recs U) c
theorem jb_write (recs : List (List Int)) (n i : Nat) : OkW (PZ recs) (((0 : Nat) : Int) + (i : Int), ((JB recs n).drop (i * 32)).take 32) ∧ ∀ U, OkW (PS recs U) (((0 : Nat) : Int) + (i : Int), ((JB recs n).drop (i * 32)).take 32) := by
  have e : ∀ k, k < 32 → (((JB recs n).drop (i * 32)).take 32).getD k 0 = (frs recs).getD ((((0 : Nat) : Int) + (i : Int)).toNat * 32 + k) 0 := fun k hk => by
    rw [blk_get _ _ _ hk, jb_get]
    congr 2
    omega
  exact ⟨fun _ k hk => .inr (e k hk), fun U _ k hk _ _ => e k hk⟩
theorem Hist.append {D : St} {recs : List (List Int)} (h : Hist D recs) (l : List Int) (n k m : Nat) : Hist (wl 0 (JB (recs ++ [l]) n) k m D) (recs ++ [l]) := by
  obtain ⟨W, h1, h2, h3, h4⟩ := wl_calls 0 (JB (recs ++ [l]) n) m k D
  refine ⟨h3 h.inv, fun c hc => ?_, h2.trans h.z0⟩
  rw [h1] at hc
  rcases List.mem_append.1 hc with hc | hc
  · exact (h.zf c hc).imp (fun _ _ _ => pz_mono)
  · obtain ⟨i, rfl⟩ := h4 c hc
    exact (jb_write (recs ++ [l]) n i).1
theorem Sure.append {D : St} {recs : List (List Int)} {U cnt : Nat} (h : Sure D recs U cnt) (hU : U ≤ (frs recs).length) (l : List Int) (n k m : Nat) : Sure (wl 0 (JB (recs ++ [l]) n) k m D) (recs ++ [l]) U cnt := by
  obtain ⟨pre, suf, e, hl, hp, hs⟩ := h
  obtain ⟨W, h1, h2, -, h4⟩ := wl_calls 0 (JB (recs ++ [l]) n) m k D
  refine ⟨pre, suf ++ W, by rw [h1, e, List.append_assoc], hl, by rw [h2]; exact hp.imp (fun _ _ _ => ps_mono hU), fun c hc => ?_⟩
  rcases List.mem_append.1 hc with hc | hc
  · exact (hs c hc).imp (fun _ _ _ => ps_mono hU)
  · obtain ⟨i, rfl⟩ := h4 c hc
    exact (jb_write (recs ++ [l]) n i).2 U
theorem inv_sync {D : St} (h : Inv D) : Inv D.sync := by
  unfold Inv
  rw [show D.sync.first = D.first from rfl, drain_sync h]
  rfl
theorem Hist.sync {D : St} {recs : List (List Int)} (h : Hist D recs) : Hist D.sync recs := by
  refine ⟨inv_sync h.inv, fun c hc => ?_, h.z0⟩
  rcases List.mem_append.1 hc with hc | hc
  · exact h.zf c hc
  · rw [List.mem_singleton.1 hc]
    exact fun h1 => absurd rfl h1
theorem Sure.sync {D : St} {recs : List (List Int)} {U cnt : Nat} (h : Sure D recs U cnt) : Sure D.sync recs U cnt := by
  obtain ⟨pre, suf, e, hl, hp, hs⟩ := h
  refine ⟨pre, suf ++ [(-1, zeros)], by show D.calls ++ _ = _; rw [e, List.append_assoc], hl, hp, fun c hc => ?_⟩
  rcases List.mem_append.1 hc with hc | hc
  · exact hs c hc
  · rw [List.mem_singleton.1 hc]
    exact fun h1 => absurd rfl h1
theorem Sure.none (D : St) (recs : List (List Int)) (cnt : Nat) : Sure D recs 0 cnt := ⟨[], D.calls, rfl, Nat.zero_le _, ⟨fun _ _ _ _ h => absurd h (Nat.not_lt_zero _), fun c hc => by cases hc⟩, fun c _ _ _ _ _ h => absurd h (Nat.not_lt_zero _)⟩
theorem Sure.later {D : St} {recs : List (List Int)} {U cnt cnt' : Nat} (h : Sure D recs U cnt) (hc : cnt ≤ cnt') : Sure D recs U cnt' := by
  obtain ⟨pre, suf, e, hl, hp, hs⟩ := h
  exact ⟨pre, suf, e, by omega, hp, hs⟩
/-- A sync makes all of it sure. -/
theorem Hist.sure {D : St} {recs : List (List Int)} {nb : Nat} (h : Hist D recs) (hm : Mir D 0 nb (JB recs (nb * 32))) (hl : (frs recs).length ≤ nb * 32) : Sure D.sync recs (frs recs).length D.sync.calls.length := by
  refine ⟨D.sync.calls, [], by simp, Nat.le_refl _, ?_, fun c hc => by cases hc⟩
  rw [show D.sync.first = D.first from rfl, drain_sync h.inv]
  refine ⟨fun n k hk h0 h1 => ?_, fun c hc => by cases hc⟩
  obtain ⟨i, rfl⟩ : ∃ i : Nat, n = (i : Int) := Int.eq_ofNat_of_zero_le h0
  rw [Int.toNat_natCast] at h1 ⊢
  have := hm.in_ i (by omega)
  show (D.at (i : Int)).getD k 0 = _
  rw [show (i : Int) = ((0 : Nat) : Int) + (i : Int) by omega, this, blk_get _ _ _ hk, jb_get]
/-- The bytes of a disk's first blocks. -/
theorem rdb_get (D : St) (h : D.Ok) : ∀ (k j : Nat), j < k * 32 → (rdb D 0 k).getD j 0 = (D.at ((j / 32 : Nat) : Int)).getD (j % 32) 0
  | 0, j, hj => by omega
  | k + 1, j, hj => by
    unfold rdb
    have hl := rdb_length D h 0 k
    rcases Nat.lt_or_ge j (k * 32) with h1 | h1
    · have ih := rdb_get D h k j h1
      rw [List.getD_eq_getElem?_getD, List.getElem?_append_left (by omega), ← List.getD_eq_getElem?_getD]
      exact ih
    · rw [List.getD_eq_getElem?_getD, List.getElem?_append_right (by omega), hl, ← List.getD_eq_getElem?_getD]
      have e1 : j / 32 = k := by omega
      have e2 : j - k * 32 = j % 32 := by omega
      rw [e1, e2]
      congr 2
      omega
theorem cut_get {D : St} (hD : D.Ok) (at_ torn : Int) (keep : List Bool) (k j : Nat) (hj : j < k * 32) : (rdb (D.cut at_ keep torn) 0 k).getD j 0 = byteM (D.cutM at_ keep torn) ((j / 32 : Nat) : Int) (j % 32) := rdb_get _ (St.cut_ok hD at_ keep torn) k j hj
/-- A first loss of power: each byte is 0 or the record's. -/
theorem Hist.cut {D : St} {recs : List (List Int)} (h : Hist D recs) (hD : D.Ok) (at_ torn : Int) (keep : List Bool) : OkM (PZ recs) (D.cutM at_ keep torn) := by
  refine okM_cut hD (pre := []) (List.nil_append _).symm ⟨fun n k hk => .inl ?_, fun c hc => by cases hc⟩ (fun c hc => h.zf c (List.mem_of_mem_take hc))
  show byteM D.first n k = 0
  rw [h.z0]
  show zeros.getD k 0 = 0
  rw [List.getD_eq_getElem?_getD, zeros, List.getElem?_replicate]
  split <;> rfl
theorem Sure.cut {D : St} {recs : List (List Int)} {U cnt : Nat} (h : Sure D recs U cnt) (hD : D.Ok) (at_ torn : Int) (keep : List Bool) (hc : cnt ≤ (pick at_ (D.calls.length + 1)).toNat) : OkM (PS recs U) (D.cutM at_ keep torn) := by
  obtain ⟨pre, suf, e, hl, hp, hs⟩ := h
  obtain ⟨p, hp_⟩ : ∃ p, (pick at_ (D.calls.length + 1)).toNat = p := ⟨_, rfl⟩
  rw [hp_] at hc
  exact okM_cut hD (pre := pre) (suf := suf.take (p - pre.length)) (by rw [hp_, e, List.take_append, List.take_of_length_le (by omega)]) hp (fun c hc => hs c (List.mem_of_mem_take hc))
/-- A byte ahead of u stays, one behind it stays or is 0. -/
def PY (X : List Int) (u : Nat) (n : Int) (k : Nat) (v : Int) : Prop := 0 ≤ n → n.toNat * 32 + k < X.length → v = X.getD (n.toNat * 32 + k) 0 ∨ (u ≤ n.toNat * 32 + k ∧ v = 0)
theorem again_cut {x D1 : St} {nb u : Nat} (hx : x.Ok) (hfn : x.first = x.now) (hD1 : D1.Ok) (hu : u ≤ nb * 32) {W : List Wr} (hf : D1.first = x.first) (hW : D1.calls = W) (hw : ∀ c ∈ W, c.1 = -1 ∨ ∃ i : Nat, c = (((0 : Nat) : Int) + (i : Int), ((lay (rdb x 0 nb) u (List.replicate ((rdb x 0 nb).length - u) 0)).drop (i * 32)).take 32)) (at_ torn : Int) (keep : List Bool) : OkM (PY (rdb x 0 nb) u) (D1.cutM at_ keep torn) := by
  have hl := rdb_length x hx 0 nb
  refine okM_cut hD1 (pre := []) (List.nil_append _).symm ⟨fun n k hk h0 h1 => .inl ?_, fun c hc => by cases hc⟩ (fun c hc => ?_)
  · show byteM D1.first n k = _
    obtain ⟨i, rfl⟩ : ∃ i : Nat, n = (i : Int) := Int.eq_ofNat_of_zero_le h0
    rw [Int.toNat_natCast] at h1 ⊢
    rw [rdb_get x hx nb _ (by omega), hf, hfn]
    unfold byteM St.at
    congr 3
    all_goals omega
  · rw [hW] at hc
    rcases hw c (List.mem_of_mem_take hc) with h1 | ⟨i, rfl⟩
    · exact fun h2 => absurd h1 h2
    · intro _ k hk h0 h1
      have e : (((0 : Nat) : Int) + (i : Int)).toNat = i := by omega
      show _ = _ ∨ _
      simp only [e] at h1 ⊢
      rw [blk_get _ _ _ hk, List.getD_eq_getElem?_getD, lay_get _ _ _ (by simp; omega)]
      by_cases hlt : i * 32 + k < u
      · left
        rw [if_pos hlt, List.getD_eq_getElem?_getD]
      · right
        rw [if_neg hlt, if_pos (by simp; omega), List.getElem?_replicate]
        refine ⟨by omega, ?_⟩
        split <;> rfl
end Go.Proofs.Ytinhednmfldmbaa.Dk

namespace Go.Proofs.Ytinhednmfldmbaa.Dk
open Go Go.RowKit Hp Rd Go.Proofs.YtinhednmfldmbaaW.PrintWords Go.Proofs.Ytinhednmfldmbaa.Print

theorem RecsAt.C {w : World} {base : Nat} {a : Option Addr} {c : Nat} {xs : List (List Int)} {rvs : List Value} (h : RecsAt w base (.slice a xs.length c) xs rvs) (hl : xs.length ≤ 9223372036854775807) (hx : ∀ x ∈ xs, x.length ≤ 9223372036854775807) : Kd.C (Kd.slice 5 (Kd.int .u8)) w a xs.length xs := by
  refine ⟨rfl, hl, fun h0 => ?_⟩
  obtain ⟨g, ar, cr, rfl, -, -⟩ := h.cell (j := 0) (List.getElem?_eq_getElem h0)
  refine ⟨_, rfl, fun j p hj => ?_⟩
  obtain ⟨g', ar', cr', e, hc, ho⟩ := h.cell hj
  obtain rfl : g = g' := by simpa using e
  refine ⟨[.slice ar' p.length cr'], rfl, ⟨ar', cr', rfl, own_le ho, (Bytes.own ho).C (hx p (List.mem_of_getElem? hj))⟩, fun i u hu => ?_⟩
  cases i with
  | zero =>
    simp at hu
    subst hu
    show w.cell? ((⟨g, 0, none⟩ : Addr).add (j * 1 + 0)) = _
    rw [Nat.mul_one, Nat.add_zero, Addr.add_mid, Nat.zero_add]
    exact hc
  | succ i => simp at hu
theorem row_rd (xs : List (List Int)) (i : Nat) (h : i < xs.length) : rd_L1 xs (i : Int) = xs[i] := by
  unfold rd_L1
  rw [Int.toNat_natCast, List.getD_eq_getElem?_getD, List.getElem?_eq_getElem h]
  rfl
/-- Not a beginning. -/
def Odd (l all : List (List Int)) : Prop := ∃ j, j < l.length ∧ all[j]? ≠ l[j]?
theorem strange_l0 (l all : List (List Int)) (hb : ∀ x ∈ l, Pl.bytes x) (hba : ∀ x ∈ all, Pl.bytes x) (hl : l.length ≤ 1000000000) : ∀ (d k i : Nat), l.length - i = d → i ≤ l.length → d < k → (∀ j, j < i → all[j]? = l[j]?) → ∃ r, headgatelaw05_strange.l0 k l all (i : Int) = some r ∧ (r = true ↔ Odd l all)
  | 0, 0, _, _, _, h, _ => absurd h (by omega)
  | 0, k + 1, i, hd, hi, _, hp => by
    unfold headgatelaw05_strange.l0
    rw [if_neg (by omega)]
    exact ⟨false, rfl, by simp; rintro ⟨j, hj, hne⟩; exact hne (hp j (by omega))⟩
  | d + 1, 0, _, _, _, h, _ => absurd h (by omega)
  | d + 1, k + 1, i, hd, hi, hk, hp => by
    unfold headgatelaw05_strange.l0
    have hil : i < l.length := by omega
    rw [if_pos (by omega)]
    by_cases hge : (i : Int) ≥ (all.length : Int)
    · rw [if_pos hge]
      exact ⟨true, rfl, by simp; exact ⟨i, hil, by rw [List.getElem?_eq_none (by omega), List.getElem?_eq_getElem hil]; simp⟩⟩
    · have hia : i < all.length := by omega
      rw [if_neg hge, if_pos (by omega), if_pos (by omega), row_rd l i hil, row_rd all i hia]
      by_cases he : l[i] = all[i]
      · rw [if_pos ((Ev4.strOf_iff (hb _ (List.getElem_mem hil)) (hba _ (List.getElem_mem hia))).2 he)]
        have hw : wrap64 ((i : Int) + 1) = ((i + 1 : Nat) : Int) := by unfold wrap64; omega
        rw [hw]
        exact strange_l0 l all hb hba hl d k (i + 1) (by omega) (by omega) (by omega) (fun j hj => by
          rcases Nat.lt_or_ge j i with h5 | h5
          · exact hp j h5
          · obtain rfl : j = i := by omega
            rw [List.getElem?_eq_getElem hia, List.getElem?_eq_getElem hil, he])
      · rw [if_neg (fun e => he ((Ev4.strOf_iff (hb _ (List.getElem_mem hil)) (hba _ (List.getElem_mem hia))).1 e))]
        exact ⟨true, rfl, by simp; exact ⟨i, hil, by rw [List.getElem?_eq_getElem hia, List.getElem?_eq_getElem hil]; simpa using fun e => he e.symm⟩⟩
theorem strange_ok {w : World} {base base' : Nat} {a a' : Option Addr} {c c' : Nat} {l all : List (List Int)} {rvs rvs' : List Value} (h : RecsAt w base (.slice a l.length c) l rvs) (h' : RecsAt w base' (.slice a' all.length c') all rvs') (hb : ∀ x ∈ l, Pl.bytes x ∧ x.length ≤ 1000000000) (hba : ∀ x ∈ all, Pl.bytes x ∧ x.length ≤ 1000000000) (hl : l.length ≤ 1000000000) (hla : all.length ≤ 1000000000) :
    Calls Try.prog 32 #[.slice a l.length c, .slice a' all.length c'] w fun e w' => ∃ r, e = .returned (.bool r) ∧ (r = true ↔ Odd l all) ∧ Below w.heap.size w w' := by
  obtain ⟨r, hr, hiff⟩ := strange_l0 l all (fun x hx => (hb x hx).1) (fun x hx => (hba x hx).1) hl l.length (l.length + 1) 0 (by omega) (Nat.zero_le _) (by omega) (fun j hj => absurd hj (by omega))
  refine (headgatelaw05_strange.calls (l.length + 1) a c l a' c' all r w (h.C (by omega) (fun x hx => by have := (hb x hx).2; omega)) (own_le h.row) (h'.C (by omega) (fun x hx => by have := (hba x hx).2; omega)) (own_le h'.row) hr).mono ?_
  rintro e w' ⟨rfl, hd⟩
  exact ⟨r, rfl, hiff, hd.below⟩
theorem sameL_l0 (a : List (List Int)) (ha : a.length ≤ 9223372036854775807) (d : Nat) : ∀ (k i : Nat), i ≤ a.length → a.length - i = d → d < k → headgateref04_Same.l0 k a a (i : Int) = some true := by
  induction d with
  | zero =>
    intro k i hi hd hk
    obtain ⟨k, rfl⟩ : ∃ j, k = j + 1 := ⟨k - 1, by omega⟩
    unfold headgateref04_Same.l0
    rw [if_neg (by omega)]
  | succ d ih =>
    intro k i hi hd hk
    obtain ⟨k, rfl⟩ : ∃ j, k = j + 1 := ⟨k - 1, by omega⟩
    unfold headgateref04_Same.l0
    rw [if_pos (by omega), if_pos (by omega), if_pos (by omega), if_pos rfl, show wrap64 ((i : Int) + 1) = ((i + 1 : Nat) : Int) by unfold wrap64; omega]
    exact ih k (i + 1) (by omega) (by omega) (by omega)
theorem same_rows {w : World} {base base' : Nat} {a a' : Option Addr} {c c' : Nat} {l : List (List Int)} {rvs rvs' : List Value} (h : RecsAt w base (.slice a l.length c) l rvs) (h' : RecsAt w base' (.slice a' l.length c') l rvs') (hb : ∀ x ∈ l, x.length ≤ 1000000000) (hl : l.length ≤ 1000000000) :
    Calls Try.prog 33 #[.slice a l.length c, .slice a' l.length c'] w fun e w' => e = .returned (.bool true) ∧ Below w.heap.size w w' := by
  have hf : headgateref04_Same.f (l.length + 1) l l = some true := by
    unfold headgateref04_Same.f
    rw [if_pos rfl]
    exact sameL_l0 l (by omega) l.length (l.length + 1) 0 (Nat.zero_le _) (by omega) (by omega)
  refine (headgateref04_Same.calls (l.length + 1) a c l a' c' l true w (h.C (by omega) (fun x hx => by have := hb x hx; omega)) (own_le h.row) (h'.C (by omega) (fun x hx => by have := hb x hx; omega)) (own_le h'.row) hf).mono ?_
  rintro e w' ⟨rfl, hd⟩
  exact ⟨rfl, hd.below⟩
/-- Two operations that came in, as one array. -/
theorem cells_two : Try.prog.cellsOf 58 = 10 := by kernel_rfl
theorem arg_two {w : World} {v : Value} (h : Arg Try.prog w 58 v) : ∃ (o p : OpD) (ob ok pb pk : Value), v = .agg #[.int .i64 o.kind, .int .i64 o.n, ob, ok, .int .i64 o.torn, .int .i64 p.kind, .int .i64 p.n, pb, pk, .int .i64 p.torn] ∧ Row1 w Value.bool ok o.keep ∧ Row1 w Value.bool pk p.keep ∧ ((Lit.int .i64 o.n).wf = true ∧ (Lit.int .i64 o.torn).wf = true) ∧ (Lit.int .i64 p.n).wf = true ∧ (Lit.int .i64 p.torn).wf = true := by
  obtain ⟨cs, rfl, hl, hr⟩ := arg_array Try.underlying58 h
  rw [cells_two] at hl
  rw [cells_op] at hr
  obtain ⟨l⟩ := cs
  simp only at hl hr
  obtain ⟨o, ho⟩ := rd_op (hr 0 (by omega))
  obtain ⟨p, hp⟩ := rd_op (hr 1 (by omega))
  obtain ⟨ob, ok, e0, -, k0⟩ := ho.is
  obtain ⟨pb, pk, e1, -, k1⟩ := hp.is
  have hl' : l = l.take 5 ++ (l.drop 5).take 5 := by
    rw [List.take_of_length_le (l := l.drop 5) (by simp; omega), List.take_append_drop]
  have e0' : l.take 5 = [.int .i64 o.kind, .int .i64 o.n, ob, ok, .int .i64 o.torn] := by simpa using e0
  have e1' : (l.drop 5).take 5 = [.int .i64 p.kind, .int .i64 p.n, pb, pk, .int .i64 p.torn] := by simpa using e1
  rw [e0', e1'] at hl'
  subst hl'
  exact ⟨o, p, ob, ok, pb, pk, rfl, k0, k1, ⟨ho.wn, ho.wt⟩, hp.wn, hp.wt⟩
end Go.Proofs.Ytinhednmfldmbaa.Dk

namespace Go.Proofs.Ytinhednmfldmbaa.Dk
open Go Go.RowKit Hp Rd

def feet (jb gb b m1 m2 : Nat) (vr sv : Value) (rvs : List Value) (i : Nat) : Prop := jfoot jb gb vr rvs i ∨ foot b m1 m2 sv i
structure Kst (w w' : World) (jb b gb cb m1 m2 : Nat) (vr sv : Value) (rvs : List Value) (recs : List (List Int)) (D : St) : Prop where
  rst : Rst w w' 0 12 jb b gb cb m1 m2 vr sv rvs (JB recs (12 * 32)) (frs recs).length recs D
  hist : Hist D recs
  fits : ∀ x ∈ recs, Pl.fits x ∧ Pl.bytes x ∧ x.length ≤ 100
  ule : (frs recs).length ≤ 12 * 32
theorem Kst.lt {w w' : World} {jb b gb cb m1 m2 : Nat} {vr sv : Value} {rvs : List Value} {recs : List (List Int)} {D : St} (h : Kst w w' jb b gb cb m1 m2 vr sv rvs recs D) : ∀ i, feet jb gb b m1 m2 vr sv rvs i → i < w'.heap.size := fun i hi => hi.elim (h.rst.jrn.lt i) (h.rst.disk.lt i)
theorem Kst.ge {w w' : World} {jb b gb cb m1 m2 : Nat} {vr sv : Value} {rvs : List Value} {recs : List (List Int)} {D : St} (h : Kst w w' jb b gb cb m1 m2 vr sv rvs recs D) : ∀ i, feet jb gb b m1 m2 vr sv rvs i → w.heap.size ≤ i := fun i hi => hi.elim (h.rst.newJ i) (h.rst.newD i)
theorem Kst.kept {S : Nat → Prop} {w w' w'' : World} {jb b gb cb m1 m2 : Nat} {vr sv : Value} {rvs : List Value} {recs : List (List Int)} {D : St} (h : Kst w w' jb b gb cb m1 m2 vr sv rvs recs D) (K : Kept S w' w'') (hS : ∀ i, feet jb gb b m1 m2 vr sv rvs i ∨ i < w.heap.size → ¬ S i) : Kst w w'' jb b gb cb m1 m2 vr sv rvs recs D :=
  ⟨⟨h.rst.jrn.kept K (fun i hi => hS i (.inl (.inl hi))), h.rst.disk.kept K (fun i hi => hS i (.inl (.inr hi))), h.rst.apart, h.rst.below.trans (K.below h.rst.below.size (fun i hi => hS i (.inr hi))), h.rst.newJ, h.rst.newD, h.rst.mir, h.rst.fit, h.rst.big, h.rst.ule⟩, h.hist, h.fits, h.ule⟩
theorem frs_len_snoc (recs : List (List Int)) (l : List Int) : (frs (recs ++ [l])).length = (frs recs).length + (7 + l.length) := by rw [frs_snoc, List.length_append, Pl.frame_length]
theorem kst_append {w w' : World} {jb b gb cb m1 m2 : Nat} {vr sv : Value} {rvs : List Value} {recs : List (List Int)} {D : St} (h : Kst w w' jb b gb cb m1 m2 vr sv rvs recs D) (hn : D.calls.length ≤ 1000000000) (hrl : recs.length ≤ 1000000000)
    (A : Option Addr) (c : Nat) (l : List Int) (hb : Pl.bytes l) (hc : l.length ≤ c) (hr : Bytes w A l) (hA : ∀ ad, A = some ad → ad.block < w.heap.size) (hf : Pl.fits l) (hl100 : l.length ≤ 100) (hroom : (frs recs).length + (7 + l.length) ≤ 12 * 32) :
    Calls Try.prog 27 #[.pointer (some ⟨jb, 0, none⟩), .slice A l.length c] w' fun e w'' => e = .returned (.int .i64 0) ∧ ∃ sv' vr' rvs' D', Kst w w'' jb b gb cb m1 m2 vr' sv' rvs' (recs ++ [l]) D' ∧ D.calls.length ≤ D'.calls.length ∧ D'.calls.length ≤ D.calls.length + 12 ∧
      Kept (feet jb gb b m1 m2 vr sv rvs) w' w'' ∧ (∀ i, feet jb gb b m1 m2 vr' sv' rvs' i → feet jb gb b m1 m2 vr sv rvs i ∨ w'.heap.size ≤ i) ∧ ∀ U cnt, U ≤ (frs recs).length → Sure D recs U cnt → Sure D' (recs ++ [l]) U cnt := by
  have hR := h.rst
  have hlen := hR.mir.len
  have hjl := jb_length recs (12 * 32) h.ule
  refine (append_ok hR.jrn hR.disk hR.apart 12 hlen hR.fit hn hrl A c l hb hc (hr.below hR.below) (fun ad he => ⟨fun hj => by have := hR.newJ _ hj; have := hA ad he; omega, fun hj => by have := hR.newD _ hj; have := hA ad he; omega⟩) hf (by omega)).mono ?_
  rintro e w'' ⟨sv', vr', rv, rfl, k1, k2, k3, k4, k5, k6, k7⟩
  have hfl := Pl.frame_length l
  have hs := hR.below.size
  have ho : (frs recs).length + (Pl.frame l).length ≤ (JB recs (12 * 32)).length := by omega
  have hm := hR.mir.wl ho
  have hu := frs_len_snoc recs l
  rw [hfl] at hm
  rw [lay_jb recs l (12 * 32) hroom] at k1 k2 hm
  rw [← hu] at k1
  refine ⟨rfl, sv', vr', rvs ++ [rv], _, ⟨⟨k1, k2, k7, hR.below.trans (k3.below hs (fun i hi e => ?_)), fun i hi => ?_, fun i hi => ?_, hm, by rw [wl_size]; exact hR.fit, by rw [wl_size]; exact hR.big, by rw [jb_length _ _ (by omega)]; omega⟩, h.hist.append l _ _ _, fun x hx => ?_, by omega⟩, by rw [wl_len]; omega, by rw [wl_len]; omega, k3, fun i hi => ?_, fun U cnt hU hS => hS.append hU l _ _ _⟩
  · rcases e with e | e
    · have := hR.newJ i e; omega
    · have := hR.newD i e; omega
  · rcases hi with hi | hi | hi | ⟨u, hu, hi⟩
    · exact hR.newJ i (.inl hi)
    · exact hR.newJ i (.inr (.inl hi))
    · rcases k5 i hi with h5 | h5
      · exact hR.newJ i (.inr (.inr (.inl h5)))
      · omega
    · rcases List.mem_append.1 hu with hu | hu
      · exact hR.newJ i (.inr (.inr (.inr ⟨u, hu, hi⟩)))
      · rw [List.mem_singleton.1 hu] at hi
        have := k6 i hi
        omega
  · rcases hi with hi | hi | hi | hi
    · exact hR.newD i (.inl hi)
    · exact hR.newD i (.inr (.inl hi))
    · exact hR.newD i (.inr (.inr (.inl hi)))
    · rcases k4 i hi with h5 | h5
      · exact hR.newD i (.inr (.inr (.inr h5)))
      · omega
  · rcases List.mem_append.1 hx with hx | hx
    · exact h.fits x hx
    · rw [List.mem_singleton.1 hx]
      exact ⟨hf, hb, hl100⟩
  · rcases hi with hi | hi
    · rcases hi with hi | hi | hi | ⟨u, hu, hi⟩
      · exact .inl (.inl (.inl hi))
      · exact .inl (.inl (.inr (.inl hi)))
      · exact (k5 i hi).imp (fun h5 => .inl (.inr (.inr (.inl h5)))) id
      · rcases List.mem_append.1 hu with hu | hu
        · exact .inl (.inl (.inr (.inr (.inr ⟨u, hu, hi⟩))))
        · rw [List.mem_singleton.1 hu] at hi
          exact .inr (k6 i hi)
    · rcases hi with hi | hi | hi | hi
      · exact .inl (.inr (.inl hi))
      · exact .inl (.inr (.inr (.inl hi)))
      · exact .inl (.inr (.inr (.inr (.inl hi))))
      · exact (k4 i hi).imp (fun h5 => .inr (.inr (.inr (.inr h5)))) id
theorem kst_sync {w w' : World} {jb b gb cb m1 m2 : Nat} {vr sv : Value} {rvs : List Value} {recs : List (List Int)} {D : St} (h : Kst w w' jb b gb cb m1 m2 vr sv rvs recs D) (hn : D.calls.length ≤ 1000000000) :
    Calls Try.prog 30 #[.pointer (some ⟨jb, 0, none⟩)] w' fun e w'' => e = .returned (.int .i64 0) ∧ ∃ sv', Kst w w'' jb b gb cb m1 m2 vr sv' rvs recs D.sync ∧
      Kept (feet jb gb b m1 m2 vr sv rvs) w' w'' ∧ (∀ i, feet jb gb b m1 m2 vr sv' rvs i → feet jb gb b m1 m2 vr sv rvs i ∨ w'.heap.size ≤ i) := by
  have hR := h.rst
  refine (jsync_ok hR.jrn hR.disk (by omega)).mono ?_
  rintro e w'' ⟨sv', rfl, k1, k2, k3⟩
  have hs := hR.below.size
  have hfar : ∀ i, foot b m1 m2 sv' i → foot b m1 m2 sv i ∨ w'.heap.size ≤ i := fun i hi => by
    rcases hi with hi | hi | hi | hi
    · exact .inl (.inl hi)
    · exact .inl (.inr (.inl hi))
    · exact .inl (.inr (.inr (.inl hi)))
    · exact (k3 i hi).imp (fun h5 => .inr (.inr (.inr h5))) id
  refine ⟨rfl, sv', ⟨⟨hR.jrn.kept k2 (fun i hi hf => hR.apart i hi hf), k1, fun i hi hf => ?_, hR.below.trans (k2.below hs (fun i hi e => by have := hR.newD i e; omega)), hR.newJ, fun i hi => ?_, ⟨hR.mir.in_, hR.mir.out, hR.mir.len⟩, hR.fit, hR.big, hR.ule⟩, h.hist.sync, h.fits, h.ule⟩, k2.mono (fun i _ e => .inr e), fun i hi => ?_⟩
  · have hlt := hR.jrn.lt i hi
    rcases hfar i hf with h5 | h5
    · exact hR.apart i hi h5
    · omega
  · rcases hfar i hi with h5 | h5
    · exact hR.newD i h5
    · omega
  · rcases hi with hi | hi
    · exact .inl (.inl hi)
    · exact (hfar i hi).imp .inr id
/-- Two rows of numbers. -/
abbrev ivals (l : List Nat) : List Value := l.map fun (n : Nat) => Value.int .i64 (n : Int)
structure Ints (w w' : World) (v9 v10 : Value) (cl su : List Nat) (F : Nat → Prop) : Prop where
  r9 : w'.ownsRow w.heap.size 3 1 v9 cl.length (ivals cl)
  r10 : w'.ownsRow w.heap.size 3 1 v10 su.length (ivals su)
  f9 : ∀ k, v9.ownBlock = some k → ¬ F k
  f10 : ∀ k, v10.ownBlock = some k → ¬ F k
  ne : ∀ k, v9.ownBlock = some k → v10.ownBlock ≠ some k
theorem Ints.kept {S F F' : Nat → Prop} {w w' w'' : World} {v9 v10 : Value} {cl su : List Nat} (h : Ints w w' v9 v10 cl su F) (K : Kept S w' w'') (hS : ∀ i, S i → F i) (hF : ∀ i, F' i → F i ∨ w'.heap.size ≤ i) : Ints w w'' v9 v10 cl su F' :=
  ⟨own_kept h.r9 K (fun i hi e => h.f9 i hi (hS i e)), own_kept h.r10 K (fun i hi e => h.f10 i hi (hS i e)), fun k hk hf => by
    rcases hF k hf with h5 | h5
    · exact h.f9 k hk h5
    · have := (h.r9.lt k hk).2; omega, fun k hk hf => by
    rcases hF k hf with h5 | h5
    · exact h.f10 k hk h5
    · have := (h.r10.lt k hk).2; omega, h.ne⟩
theorem Ints.add9 {F : Nat → Prop} {w w1 w2 : World} {v9 v10 v' : Value} {cl su : List Nat} (h : Ints w w1 v9 v10 cl su F) (hlt : ∀ i, F i → i < w1.heap.size) (n : Nat) (K : Kept (fun i => v9.ownBlock = some i) w1 w2) (O : w2.ownsRow w.heap.size 3 1 v' (cl.length + 1) (ivals cl ++ [.int .i64 (n : Int)])) (O2 : ∀ i, v'.ownBlock = some i → v9.ownBlock = some i ∨ w1.heap.size ≤ i) : Ints w w2 v' v10 (cl ++ [n]) su F :=
  ⟨by rw [List.length_append]; simpa [ivals] using O, own_kept h.r10 K (fun i hi e => h.ne i e hi), fun k hk hf => by
    rcases O2 k hk with h5 | h5
    · exact h.f9 k h5 hf
    · have := hlt k hf; omega, h.f10, fun k hk e => by
    rcases O2 k hk with h5 | h5
    · exact h.ne k h5 e
    · have := (h.r10.lt k e).2; omega⟩
theorem Ints.add10 {F : Nat → Prop} {w w1 w2 : World} {v9 v10 v' : Value} {cl su : List Nat} (h : Ints w w1 v9 v10 cl su F) (hlt : ∀ i, F i → i < w1.heap.size) (n : Nat) (K : Kept (fun i => v10.ownBlock = some i) w1 w2) (O : w2.ownsRow w.heap.size 3 1 v' (su.length + 1) (ivals su ++ [.int .i64 (n : Int)])) (O2 : ∀ i, v'.ownBlock = some i → v10.ownBlock = some i ∨ w1.heap.size ≤ i) : Ints w w2 v9 v' cl (su ++ [n]) F :=
  ⟨own_kept h.r9 K (fun i hi e => h.ne i hi e), by rw [List.length_append]; simpa [ivals] using O, h.f9, fun k hk hf => by
    rcases O2 k hk with h5 | h5
    · exact h.f10 k h5 hf
    · have := hlt k hf; omega, fun k hk e => by
    rcases O2 k e with h5 | h5
    · exact h.ne k hk h5
    · have := (h.r9.lt k hk).2; omega⟩
theorem info_int : (Try.prog.info? 3).map (fun i => (i.zero, i.size, i.bytes)) = some (some (.int .i64 0), 1, 8) := by kernel_rfl
/-- The two lists of numbers: from which call on how many records are sure. -/
structure Sures (D : St) (recs : List (List Int)) (cl su : List Nat) (sy : Nat) : Prop where
  len : cl.length = su.length
  each : ∀ (i c s : Nat), cl[i]? = some c → su[i]? = some s → s ≤ recs.length ∧ Sure D recs (frs (recs.take s)).length c
  syl : sy ≤ recs.length
  now : Sure D recs (frs (recs.take sy)).length D.calls.length
theorem frs_take_le (recs : List (List Int)) (s : Nat) : (frs (recs.take s)).length ≤ (frs recs).length := by
  conv => rhs; rw [← List.take_append_drop s recs, frs_append, List.length_append]
  omega
theorem Sures.append {D D' : St} {recs : List (List Int)} {cl su : List Nat} {sy : Nat} (h : Sures D recs cl su sy) (l : List Int) (hc : D.calls.length ≤ D'.calls.length) (hS : ∀ U cnt, U ≤ (frs recs).length → Sure D recs U cnt → Sure D' (recs ++ [l]) U cnt) : Sures D' (recs ++ [l]) cl su sy := by
  have ht : ∀ s, s ≤ recs.length → (recs ++ [l]).take s = recs.take s := fun s hs => List.take_append_of_le_length hs
  refine ⟨h.len, fun i c s h1 h2 => ?_, by simp; have := h.syl; omega, ?_⟩
  · obtain ⟨h3, h4⟩ := h.each i c s h1 h2
    exact ⟨by simp; omega, by rw [ht s h3]; exact hS _ _ (frs_take_le recs s) h4⟩
  · rw [ht sy h.syl]
    exact (hS _ _ (frs_take_le recs sy) h.now).later hc
theorem Sures.sync {D : St} {recs : List (List Int)} {cl su : List Nat} {sy : Nat} (h : Sures D recs cl su sy) (hH : Hist D recs) (hm : Mir D 0 12 (JB recs (12 * 32))) (hl : (frs recs).length ≤ 12 * 32) : Sures D.sync recs cl su recs.length :=
  ⟨h.len, fun i c s h1 h2 => ⟨(h.each i c s h1 h2).1, (h.each i c s h1 h2).2.sync⟩, Nat.le_refl _, by rw [List.take_length]; exact hH.sure hm hl⟩
theorem Sures.note {D : St} {recs : List (List Int)} {cl su : List Nat} {sy : Nat} (h : Sures D recs cl su sy) : Sures D recs (cl ++ [D.calls.length]) (su ++ [sy]) sy := by
  refine ⟨by simp [h.len], fun i c s h1 h2 => ?_, h.syl, h.now⟩
  rcases Nat.lt_or_ge i cl.length with hi | hi
  · rw [List.getElem?_append_left hi] at h1
    rw [List.getElem?_append_left (by rw [← h.len]; exact hi)] at h2
    exact h.each i c s h1 h2
  · rw [List.getElem?_append_right hi] at h1
    rw [List.getElem?_append_right (by rw [← h.len]; exact hi), ← h.len] at h2
    have hi0 : i - cl.length = 0 := by
      have := (List.getElem?_eq_some_iff.1 h1).1
      simp at this
      omega
    rw [hi0] at h1 h2
    obtain rfl : D.calls.length = c := by simpa using h1
    obtain rfl : sy = s := by simpa using h2
    exact ⟨h.syl, h.now⟩
end Go.Proofs.Ytinhednmfldmbaa.Dk

namespace Go.Proofs.Ytinhednmfldmbaa.Dk
open Go Go.RowKit Hp Rd

theorem jpick_calls (c n : Int) (w : World) (hc : (Lit.int .i64 c).wf = true) (hn : 0 < n) (hn' : n ≤ 9223372036854775807) : Calls Try.prog 31 #[.int .i64 c, .int .i64 n] w fun e w' => e = .returned (.int .i64 (pick c n)) ∧ w = w' := by
  obtain ⟨hw1, hw2⟩ := lit_range hc
  clear hc
  unfold pick
  by_cases h : c < 0
  · have e1 : wrap64 (c + 1) = c + 1 := by unfold wrap64; omega
    have e2 : wrap64 (-(c + 1)) = -(c + 1) := by unfold wrap64; omega
    go_enter Try.func31, Try.ntmps31
    go_wp2
    go_ret
    refine ⟨?_, rfl⟩
    have e3 : -((c + 1).tmod n) = -(c + 1) % n := by rw [← Int.neg_tmod, Int.tmod_eq_emod_of_nonneg (by omega)]
    rw [← e3]
    rfl
  · have h' : 0 ≤ c := by omega
    go_enter Try.func31, Try.ntmps31
    go_wp2
    go_ret
    refine ⟨?_, rfl⟩
    rfl
theorem bytes_get {l : List Int} (h : Pl.bytes l) (j : Nat) : Pl.byte (l.getD j 0) := by
  rw [List.getD_eq_getElem?_getD]
  cases hj : l[j]? with
  | none => exact ⟨by decide, by decide⟩
  | some x => exact h x (List.mem_of_getElem? hj)
theorem frs_bytes : ∀ (recs : List (List Int)), (∀ x ∈ recs, Pl.fits x ∧ Pl.bytes x) → Pl.bytes (frs recs)
  | [], _ => fun x hx => by cases hx
  | y :: recs, h => by
    rw [frs_cons]
    obtain ⟨h1, h2⟩ := h y (List.mem_cons.2 (.inl rfl))
    exact Pl.bytes_app (Pl.bytes_frame h2 h1) (frs_bytes recs (fun x hx => h x (List.mem_cons.2 (.inr hx))))
theorem list_bytes {l : List Int} (h : ∀ k, k < l.length → Pl.byte (l.getD k 0)) : Pl.bytes l := fun x hx => by
  obtain ⟨j, hj⟩ := List.getElem?_of_mem hx
  have hl := (List.getElem?_eq_some_iff.1 hj).1
  have := h j hl
  rw [List.getD_eq_getElem?_getD, hj] at this
  exact this
/-- A disk after a loss of power, all of whose bytes are bytes. -/
theorem cut_bytes {D : St} (hD : D.Ok) (at_ torn : Int) (keep : List Bool) (h : OkM (fun _ _ v => Pl.byte v) (D.cutM at_ keep torn)) (n : Int) : Pl.bytes ((D.cut at_ keep torn).at n) := by
  have hl := (D.cut at_ keep torn).at_length (St.cut_ok hD at_ keep torn) n
  exact list_bytes (fun k hk => h n k (by omega))
theorem first_cut {D : St} {recs : List (List Int)} (h : Hist D recs) (hD : D.Ok) (hf : ∀ x ∈ recs, Pl.fits x ∧ Pl.bytes x) (at_ torn : Int) (keep : List Bool) : (∀ n : Int, Pl.bytes ((D.cut at_ keep torn).at n)) ∧ ∀ j, j < 12 * 32 → (rdb (D.cut at_ keep torn) 0 12).getD j 0 = 0 ∨ (rdb (D.cut at_ keep torn) 0 12).getD j 0 = (frs recs).getD j 0 := by
  have hz := h.cut hD at_ torn keep
  refine ⟨cut_bytes hD at_ torn keep (fun n k hk => ?_), fun j hj => ?_⟩
  · rcases hz n k hk with h5 | h5
    · rw [h5]; exact ⟨by decide, by decide⟩
    · rw [h5]; exact bytes_get (frs_bytes recs hf) _
  · rw [cut_get hD at_ torn keep 12 j hj]
    have := hz ((j / 32 : Nat) : Int) (j % 32) (Nat.mod_lt _ (by decide))
    unfold PZ at this
    rw [Int.toNat_natCast, show j / 32 * 32 + j % 32 = j by omega] at this
    exact this
theorem frs_take_get (recs : List (List Int)) (s j : Nat) (hj : j < (frs (recs.take s)).length) : (frs recs).getD j 0 = (frs (recs.take s)).getD j 0 := by
  conv => lhs; rw [← List.take_append_drop s recs, frs_append]
  rw [List.getD_eq_getElem?_getD, List.getD_eq_getElem?_getD, List.getElem?_append_left hj]
theorem least_ok {D : St} {recs : List (List Int)} {s c : Nat} (h : Sure D recs (frs (recs.take s)).length c) (hD : D.Ok) (at_ torn : Int) (keep : List Bool) (hc : c ≤ (pick at_ (D.calls.length + 1)).toNat) (hs : s ≤ recs.length) (hl : (frs recs).length ≤ 12 * 32) (hf : ∀ x ∈ recs, Pl.fits x) {xs : List (List Int)} {r : List Int} (hsc : Pl.Scans (rdb (D.cut at_ keep torn) 0 12) xs r) : s ≤ xs.length := by
  have hz := h.cut hD at_ torn keep hc
  have hle := frs_take_le recs s
  refine scan_least hf hs (by rw [rdb_length _ (St.cut_ok hD at_ keep torn)]; omega) (fun j hj => ?_) hsc
  rw [cut_get hD at_ torn keep 12 j (by omega)]
  have := hz ((j / 32 : Nat) : Int) (j % 32) (Nat.mod_lt _ (by decide))
  unfold PS at this
  rw [Int.toNat_natCast, show j / 32 * 32 + j % 32 = j by omega] at this
  rw [this (by omega) hj, frs_take_get recs s j hj]
/-- What Open leaves of a disk. -/
def opened (x : St) (u : Nat) : St := if (zd 0 (rdb x 0 12) (lay (rdb x 0 12) u (List.replicate ((rdb x 0 12).length - u) 0)) 12 (x, false)).2 = true then (zd 0 (rdb x 0 12) (lay (rdb x 0 12) u (List.replicate ((rdb x 0 12).length - u) 0)) 12 (x, false)).1.sync else (zd 0 (rdb x 0 12) (lay (rdb x 0 12) u (List.replicate ((rdb x 0 12).length - u) 0)) 12 (x, false)).1
theorem opened_calls (x : St) (u : Nat) (hc : x.calls = []) : (opened x u).first = x.first ∧ (opened x u).size = x.size ∧ (opened x u).calls.length ≤ 13 ∧ ∀ c ∈ (opened x u).calls, c.1 = -1 ∨ ∃ i : Nat, c = (((0 : Nat) : Int) + (i : Int), ((lay (rdb x 0 12) u (List.replicate ((rdb x 0 12).length - u) 0)).drop (i * 32)).take 32) := by
  obtain ⟨W, h1, h2, h4⟩ := zd_calls 0 (rdb x 0 12) (lay (rdb x 0 12) u (List.replicate ((rdb x 0 12).length - u) 0)) 12 (x, false)
  have hs := zd_size 0 (rdb x 0 12) (lay (rdb x 0 12) u (List.replicate ((rdb x 0 12).length - u) 0)) 12 (x, false)
  have hl := zd_len 0 (rdb x 0 12) (lay (rdb x 0 12) u (List.replicate ((rdb x 0 12).length - u) 0)) 12 (x, false)
  unfold opened
  generalize zd 0 (rdb x 0 12) (lay (rdb x 0 12) u (List.replicate ((rdb x 0 12).length - u) 0)) 12 (x, false) = Z at *
  simp only [hc, List.nil_append, List.length_nil] at h1 h2 hs hl
  split
  · refine ⟨h2, hs, ?_, fun c hcc => ?_⟩
    · simp [St.sync]
      omega
    · rcases List.mem_append.1 hcc with hcc | hcc
      · rw [h1] at hcc
        exact .inr (h4 c hcc)
      · rw [List.mem_singleton.1 hcc]
        exact .inl rfl
  · refine ⟨h2, hs, by omega, fun c hcc => ?_⟩
    rw [h1] at hcc
    exact .inr (h4 c hcc)
theorem second_cut {x : St} {u : Nat} (hx : x.Ok) (hc : x.calls = []) (hfn : x.first = x.now) (hby : ∀ n : Int, Pl.bytes (x.at n)) (hu : u ≤ 12 * 32) (hD1 : (opened x u).Ok) (at_ torn : Int) (keep : List Bool) :
    (∀ n : Int, Pl.bytes (((opened x u).cut at_ keep torn).at n)) ∧ ∀ j, j < 12 * 32 → (rdb ((opened x u).cut at_ keep torn) 0 12).getD j 0 = (rdb x 0 12).getD j 0 ∨ (u ≤ j ∧ (rdb ((opened x u).cut at_ keep torn) 0 12).getD j 0 = 0) := by
  obtain ⟨h1, -, -, h4⟩ := opened_calls x u hc
  have hl := rdb_length x hx 0 12
  refine ⟨cut_bytes hD1 at_ torn keep ?_, fun j hj => ?_⟩
  · refine okM_cut hD1 (pre := []) (List.nil_append _).symm ⟨fun n k hk => ?_, fun c hc => by cases hc⟩ (fun c hcc => ?_)
    · show Pl.byte (byteM (opened x u).first n k)
      rw [h1, hfn]
      exact bytes_get (hby n) k
    · rcases h4 c (List.mem_of_mem_take hcc) with h5 | ⟨i, rfl⟩
      · exact fun h6 => absurd h5 h6
      · intro _ k hk
        exact bytes_get (Pl.bytes_take (Pl.bytes_drop (lay_bytes u (rdb_bytes x hby 0 12) (zeros_bytes _)) _) _) k
  · rw [cut_get hD1 at_ torn keep 12 j hj]
    have := again_cut hx hfn hD1 hu h1 rfl h4 at_ torn keep ((j / 32 : Nat) : Int) (j % 32) (Nat.mod_lt _ (by decide)) (by omega) (by rw [Int.toNat_natCast, hl]; omega)
    rw [Int.toNat_natCast, show j / 32 * 32 + j % 32 = j by omega] at this
    exact this
theorem frs_small : ∀ (xs : List (List Int)), xs.length ≤ (frs xs).length ∧ ∀ x ∈ xs, x.length ≤ (frs xs).length
  | [] => ⟨Nat.le_refl _, fun x hx => by cases hx⟩
  | y :: xs => by
    obtain ⟨h1, h2⟩ := frs_small xs
    have hf := Pl.frame_length y
    rw [frs_cons, List.length_append]
    refine ⟨by simp; omega, fun x hx => ?_⟩
    rcases List.mem_cons.1 hx with rfl | hx
    · omega
    · have := h2 x hx
      omega
/-- What a scan gives. -/
theorem scan_facts {X : List Int} (hb : Pl.bytes X) (hl : X.length = 12 * 32) : ∃ xs r, Pl.Scans X xs r ∧ (∀ x ∈ xs, Pl.fits x ∧ Pl.bytes x ∧ x.length ≤ 12 * 32) ∧ xs.length ≤ 12 * 32 ∧ r.length ≤ 12 * 32 := by
  obtain ⟨xs, r, h⟩ := Pl.scans_all X hb
  obtain ⟨e, hf, -⟩ := Pl.scans_back hb h
  have e' : X = frs xs ++ r := e
  have hlx : X.length = (frs xs).length + r.length := by rw [e', List.length_append]
  obtain ⟨h1, h2⟩ := frs_small xs
  exact ⟨xs, r, h, fun x hx => ⟨(hf x hx).1, (hf x hx).2, by have := h2 x hx; omega⟩, by omega, by omega⟩
end Go.Proofs.Ytinhednmfldmbaa.Dk

namespace Go.Proofs.Ytinhednmfldmbaa.Dk
open Go Go.RowKit Hp Rd

theorem own_one {w : World} {base x : Nat} {e : TypeId} {u : Value} (h : w.heap[x]? = some (.cells #[u] e (0, 0))) (hb : base ≤ x) : w.ownsRow base e 1 (.slice (some ⟨x, 0, none⟩) 1 1) 1 [u] :=
  ⟨rfl, .inr ⟨x, 1, #[u], rfl, hb, h, Nat.le_refl _, by unfold maxLen; omega, rfl, rfl⟩⟩
theorem kst_calls {w w' : World} {jb b gb cb m1 m2 : Nat} {vr sv : Value} {rvs : List Value} {recs : List (List Int)} {D : St} (h : Kst w w' jb b gb cb m1 m2 vr sv rvs recs D) : Calls Try.prog 21 #[.pointer (some ⟨b, 0, none⟩)] w' fun e w'' => e = .returned (.int .i64 (D.calls.length : Nat)) ∧ w' = w'' := by
  obtain ⟨-, -, -, d3⟩ := h.rst.disk.cells
  obtain ⟨a, c, rfl⟩ := own_len h.rst.disk.row
  exact calls_calls b a D.calls.length c w' d3
theorem not_odd {l all : List (List Int)} (h : ¬ Odd l all) : ∀ (i : Nat) (x : List Int), l[i]? = some x → all[i]? = some x := fun i x hi => by
  have hl := (List.getElem?_eq_some_iff.1 hi).1
  rcases Decidable.em (all[i]? = l[i]?) with h5 | h5
  · rw [h5, hi]
  · exact absurd ⟨i, hl, h5⟩ h
set_option maxHeartbeats 4000000 in
set_option maxRecDepth 100000 in
theorem journalKeeps_calls (v0 v1 : Value) (w : World) (h0 : Arg Try.prog w 22 v0) (h1 : Arg Try.prog w 58 v1) : Calls Try.prog 9 #[v0, v1] w fun e w' => e = .returned (.bool true) ∧ Below w.heap.size w w' := by
  have mixed : Try.prog.follows Departure.mixedOrders = true := by kernel_rfl
  obtain ⟨ops, hlen, a0, c0, rfl, hops⟩ := arg_opsF h0
  obtain ⟨o, p, ob, ok, pb, pk, rfl, hok, hpk, ⟨hon, hot⟩, hpn, hpt⟩ := arg_two h1
  clear h0 h1
  go_enter Try.func9, Try.ntmps9
  go_upto_region 1 with (fail)
  obtain ⟨w1, hw1⟩ : ∃ w1, w.alloc (.cells #[.int .i64 o.kind, .int .i64 o.n, ob, ok, .int .i64 o.torn, .int .i64 p.kind, .int .i64 p.n, pb, pk, .int .i64 p.torn] 58) = w1 := ⟨_, rfl⟩
  obtain ⟨q, hq⟩ : ∃ q, w.heap.size = q := ⟨_, rfl⟩
  have hb1 : Below w.heap.size w w1 := by rw [← hw1]; exact (Below.refl _ _).alloc (Nat.le_refl _) _
  have hh1 : w1.heap[q]? = some (.cells #[.int .i64 o.kind, .int .i64 o.n, ob, ok, .int .i64 o.torn, .int .i64 p.kind, .int .i64 p.n, pb, pk, .int .i64 p.torn] 58 (0, 0)) := by rw [← hw1, ← hq]; exact heap_alloc_new _ _
  have y1 : w1.cell? ⟨q, 1, none⟩ = some (.int .i64 o.n) := by simp [World.cell?, hh1]
  have y3 : w1.cell? ⟨q, 3, none⟩ = some ok := by simp [World.cell?, hh1]
  have y4 : w1.cell? ⟨q, 4, none⟩ = some (.int .i64 o.torn) := by simp [World.cell?, hh1]
  have y6 : w1.cell? ⟨q, 6, none⟩ = some (.int .i64 p.n) := by simp [World.cell?, hh1]
  have y8 : w1.cell? ⟨q, 8, none⟩ = some pk := by simp [World.cell?, hh1]
  have y9 : w1.cell? ⟨q, 9, none⟩ = some (.int .i64 p.torn) := by simp [World.cell?, hh1]
  (try rw [hw1])
  (try rw [hq])
  clear hw1 hq hh1
  have hok1 := row1_below hok hb1
  have hpk1 := row1_below hpk hb1
  go_wp2_with fail
  refine (new_calls 12 w1 (by omega) (by omega)).mono ?_
  rintro e w2 ⟨b, m1, m2, rfl, hb2, hft, hD⟩
  go_wp2_with fail
  refine (alive05 _).mono ?_
  rintro e w3 ⟨rfl, hb3⟩
  have hD3 := hD.below hb3
  have hop := open_zero hD3 (fun n => rfl) (by simp) 0 12 (by omega) (by show (0 : Int) + (12 : Int) ≤ 12; omega)
  have hs2 := hb2.size
  have hs3 := hb3.size
  go_wp2_with fail
  refine hop.mono ?_
  rintro e w4 ⟨jb, gb, cb, vr, rvs, sv, rfl, hJ, hD4, hK4, hsv, hge, hap⟩
  have HK : Kst w1 w4 jb b gb cb m1 m2 vr sv rvs [] ⟨12, fun _ => none, fun _ => none, []⟩ := by
    refine ⟨⟨by rw [jb_nil]; exact hJ, hD4, hap, (hb2.trans (hb3.mono hs2)).trans (hK4.below (by omega) (fun i hi hf => by have := hft i hf; omega)), fun i hi => by have := hge i hi; omega, fun i hi => ?_, by rw [jb_nil]; exact Mir.start _ 0 12 (fun _ => rfl), by show (0 : Int) + (12 : Int) ≤ 12; omega, by show (12 : Int) ≤ 12; omega, Nat.zero_le _⟩, ⟨rfl, fun c hc => (by cases hc), rfl⟩, fun x hx => (by cases hx), by show 0 ≤ _; omega⟩
    rcases hi with hi | hi | hi | hi
    · exact hft i (.inl hi)
    · exact hft i (.inr (.inl hi))
    · exact hft i (.inr (.inr (.inl hi)))
    · rcases hsv i hi with h5 | h5
      · cases h5
      · omega
  clear hop hJ hD4 hK4 hsv hge hap hD hD3 hft hb2 hb3 hs2 hs3
  go_wp2_with fail
  refine (kst_calls HK).mono ?_
  rintro e w5 ⟨rfl, rfl⟩
  go_upto_block 0 with (fail)
  obtain ⟨w5, hw5⟩ : ∃ w5, (w4.alloc (.cells #[.int .i64 0] 3)).alloc (.cells #[.int .i64 0] 3) = w5 := ⟨_, rfl⟩
  obtain ⟨x9, hx9⟩ : ∃ x9, w4.heap.size = x9 := ⟨_, rfl⟩
  have hb5 : Below w4.heap.size w4 w5 := by rw [← hw5]; exact ((Below.refl _ _).alloc (Nat.le_refl _) _).alloc (by simp) _
  have hs5 : w4.heap.size + 1 < w5.heap.size := by rw [← hw5]; simp
  have hn9 : w5.heap[x9]? = some (.cells #[.int .i64 0] 3 (0, 0)) := by
    rw [← hw5, ← hx9]
    exact (((Below.refl (w4.alloc (.cells #[.int .i64 0] 3)).heap.size (w4.alloc (.cells #[.int .i64 0] 3))).alloc (Nat.le_refl _) (.cells #[.int .i64 0] 3)).block w4.heap.size (by simp)).trans (heap_alloc_new _ _)
  have hn10 : w5.heap[x9 + 1]? = some (.cells #[.int .i64 0] 3 (0, 0)) := by
    rw [← hw5, ← hx9]
    have := heap_alloc_new (w4.alloc (.cells #[.int .i64 0] 3)) (.cells #[.int .i64 0] 3)
    simpa using this
  have hlt4 := HK.lt
  have hs14 := HK.rst.below.size
  have HK5 := HK.kept (S := fun _ => False) (Kept.of_below hb5) (fun _ _ e => e)
  have HI : Ints w1 w5 (.slice (some ⟨x9, 0, none⟩) 1 1) (.slice (some ⟨x9 + 1, 0, none⟩) 1 1) [0] [0] (feet jb gb b m1 m2 vr sv rvs) := ⟨own_one hn9 (by omega), own_one hn10 (by omega), fun k hk hf => by
    obtain rfl : x9 = k := by simpa [Value.ownBlock] using hk
    have := hlt4 _ hf; omega, fun k hk hf => by
    obtain rfl : x9 + 1 = k := by simpa [Value.ownBlock] using hk
    have := hlt4 _ hf; omega, fun k hk e => by
    obtain rfl : x9 = k := by simpa [Value.ownBlock] using hk
    simp [Value.ownBlock] at e⟩
  have HS : Sures ⟨12, fun _ => none, fun _ => none, []⟩ [] [0] [0] 0 := ⟨rfl, fun i c s h1 h2 => by
    cases i with
    | zero =>
      obtain rfl : 0 = c := by simpa using h1
      obtain rfl : 0 = s := by simpa using h2
      exact ⟨Nat.le_refl _, Sure.none _ _ _⟩
    | succ i => simp at h1, Nat.le_refl _, Sure.none _ _ _⟩
  rw [hw5, hx9]
  clear hw5 hx9 hn9 hn10 hs5 hlt4 hs14 HK hb5
  go_cut [9, 10] (fun v9 v10 wx => ∃ (vr sv : Value) (rvs : List Value) (recs : List (List Int)) (D : St) (cl su : List Nat) (sy : Nat) (a9 a10 : Option Addr) (c9 c10 : Nat), v9 = .slice a9 cl.length c9 ∧ v10 = .slice a10 su.length c10 ∧ cl.length ≤ 100 ∧ recs.length ≤ 100 ∧ D.calls.length ≤ 1000 ∧ Sh (Kst w1 wx jb b gb cb m1 m2 vr sv rvs recs D ∧ Ints w1 wx v9 v10 cl su (feet jb gb b m1 m2 vr sv rvs) ∧ Sures D recs cl su sy))
  case first =>
    go_wp2_with fail
    go_loopg [9, 10, 11, 12] (min ops.length 30) (fun kq v9 v10 v11 v12 w' => ∃ (i : Nat) (vr sv : Value) (rvs : List Value) (recs : List (List Int)) (D : St) (cl su : List Nat) (sy : Nat), v11 = .int .i64 (sy : Int) ∧ v12 = .int .i64 (i : Int) ∧ i + kq = min ops.length 30 ∧ cl.length ≤ i + 1 ∧ recs.length ≤ i ∧ D.calls.length ≤ 13 * i ∧ Sh (Kst w1 w' jb b gb cb m1 m2 vr sv rvs recs D ∧ Ints w1 w' v9 v10 cl su (feet jb gb b m1 m2 vr sv rvs) ∧ Sures D recs cl su sy))
    case atStart => exact ⟨0, vr, sv, rvs, [], _, [0], [0], 0, rfl, rfl, by omega, Nat.le_refl _, Nat.le_refl _, Nat.le_refl _, ⟨HK5, HI, HS⟩⟩
    case round =>
      clear HK5 HI HS
      obtain ⟨i, vr, sv, rvs, recs, D, cl, su, sy, rfl, rfl, hi, hcl, hrl, hDl, ⟨hK, hI, hS⟩⟩ := hrel
      obtain ⟨a9, c9, rfl⟩ := own_len hI.r9
      obtain ⟨a10, c10, rfl⟩ := own_len hI.r10
      cases gk with
      | zero =>
        by_cases hq : (i : Int) < (ops.length : Int)
        · have hq2 : ¬ ((i : Int) < 30) := by omega
          go_wp2_with fail
          go_meet
          case rel => exact ⟨vr, sv, rvs, recs, D, cl, su, sy, a9, a10, c9, c10, rfl, rfl, by omega, by omega, by omega, ⟨hK, hI, hS⟩⟩
        · go_wp2_with fail
          go_meet
          case rel => exact ⟨vr, sv, rvs, recs, D, cl, su, sy, a9, a10, c9, c10, rfl, rfl, by omega, by omega, by omega, ⟨hK, hI, hS⟩⟩
      | succ g1_ =>
        have hq : (i : Int) < (ops.length : Int) := by omega
        have hq2 : (i : Int) < 30 := by omega
        have q0 : (0 : Int) ≤ (i : Int) := by omega
        obtain ⟨oi, hoi⟩ : ∃ oi, ops[i]? = some oi := ⟨_, List.getElem?_eq_getElem (by omega)⟩
        obtain ⟨g, off, vb, vk, rfl, hop⟩ := hops i oi hoi
        have x0 := bcell' hK.rst.below (bcell' hb1 hop.c0)
        have x2 := bcell' hK.rst.below (bcell' hb1 hop.c2)
        obtain ⟨ab, cb_, rfl, hbc, hbB, hblt⟩ := Row1.bytes hop.rb
        by_cases hbig : 100 < oi.b.length
        · have hbig' : (100 : Int) < (oi.b.length : Int) := by omega
          go_wp2_with fail
          go_roundg g1_
          case measure => omega
          case rel => exact ⟨i + 1, vr, sv, rvs, recs, D, cl, su, sy, rfl, by go_num, by omega, by omega, by omega, by omega, ⟨hK, hI, hS⟩⟩
        · have hbig' : ¬ ((100 : Int) < (oi.b.length : Int)) := by omega
          go_upto_if 77 with (fail)
          go_cut [11, 76, 77] (fun v11 _ _ wx => ∃ (vr sv : Value) (rvs : List Value) (recs : List (List Int)) (D : St) (sy : Nat), v11 = .int .i64 (sy : Int) ∧ recs.length ≤ i + 1 ∧ D.calls.length ≤ 13 * i + 13 ∧ Sh (Kst w1 wx jb b gb cb m1 m2 vr sv rvs recs D ∧ Ints w1 wx (.slice a9 cl.length c9) (.slice a10 su.length c10) cl su (feet jb gb b m1 m2 vr sv rvs) ∧ Sures D recs cl su sy))
          case first =>
            have hbyt : Pl.bytes oi.b := fun y hy => ⟨(hop.byt y hy).1, by have := (hop.byt y hy).2; omega⟩
            have hs1 := hb1.size
            by_cases hk2 : oi.kind = 2
            · have hsy := kst_sync hK (by omega)
              go_wp2_with fail
              refine hsy.mono ?_
              rintro e w6 ⟨rfl, sv6, hK6, hKe, hfe⟩
              have hI6 := hI.kept hKe (fun i hi => hi) hfe
              have hS6 := hS.sync hK.hist hK.rst.mir hK.ule
              have hrc := records_ok hK6.rst.jrn (by omega) (fun x hx => by have := (hK6.fits x hx).2.2; omega)
              go_wp2_with fail
              refine hrc.mono ?_
              rintro e w7 ⟨v7, rvs7, rfl, hR7, hb7⟩
              obtain ⟨a7, c7, rfl⟩ := own_len hR7.row
              have hK7 := hK6.kept (S := fun _ => False) (Kept.of_below hb7) (fun _ _ e => e)
              have hI7 := hI6.kept (Kept.of_below (S := fun _ => False) hb7) (fun i e => e.elim) (fun i hi => .inl hi)
              go_wp2_with fail
              go_meet
              case rel => exact ⟨vr, sv6, rvs, recs, D.sync, recs.length, rfl, by omega, by simp [St.sync]; omega, ⟨hK7, hI7, hS6⟩⟩
            · by_cases hf : Pl.fits oi.b
              · have hf2 := hf
                unfold Pl.fits at hf2
                by_cases hroom : (frs recs).length + (7 + oi.b.length) ≤ 12 * 32
                · have hap := kst_append hK (by omega) (by omega) ab cb_ oi.b hbyt hbc (hbB.below hb1) (fun ad he => by have := hblt (by omega) ad he; omega) hf (by omega) hroom
                  go_wp2_with fail
                  refine hap.mono ?_
                  rintro e w6 ⟨rfl, sv6, vr6, rvs6, D6, hK6, hD6, hD6', hKe, hfe, hSe⟩
                  have hI6 := hI.kept hKe (fun i hi => hi) hfe
                  have hS6 := hS.append oi.b hD6 hSe
                  clear hSe
                  go_wp2_with fail
                  go_meet
                  case rel => exact ⟨vr6, sv6, rvs6, recs ++ [oi.b], D6, sy, rfl, by simp; omega, by omega, ⟨hK6, hI6, hS6⟩⟩
                · have hml := hK.rst.mir.len
                  have hap := append_full hK.rst.jrn (by omega) hK.rst.ule ab cb_ oi.b hbyt hbc ((hbB.below hb1).below hK.rst.below) hf (by omega)
                  clear hml
                  go_wp2_with fail
                  refine hap.mono ?_
                  rintro e w6 ⟨rfl, hb6⟩
                  have hK6 := hK.kept (S := fun _ => False) (Kept.of_below hb6) (fun _ _ e => e)
                  have hI6 := hI.kept (Kept.of_below (S := fun _ => False) hb6) (fun i e => e.elim) (fun i hi => .inl hi)
                  go_wp2_with fail
                  go_meet
                  case rel => exact ⟨vr, sv, rvs, recs, D, sy, rfl, by omega, by omega, ⟨hK6, hI6, hS⟩⟩
              · have hap := append_bad jb ab cb_ oi.b wr hbyt (by omega) hbc ((hbB.below hb1).below hK.rst.below) hf
                go_wp2_with fail
                refine hap.mono ?_
                rintro e w6 ⟨rfl, hb6⟩
                have hK6 := hK.kept (S := fun _ => False) (Kept.of_below hb6) (fun _ _ e => e)
                have hI6 := hI.kept (Kept.of_below (S := fun _ => False) hb6) (fun i e => e.elim) (fun i hi => .inl hi)
                go_wp2_with fail
                go_meet
                case rel => exact ⟨vr, sv, rvs, recs, D, sy, rfl, by omega, by omega, ⟨hK6, hI6, hS⟩⟩
          case rest =>
            clear hK hI hS hrl hDl
            obtain ⟨vr, sv, rvs, recs, D, sy, rfl, hrl, hDl, ⟨hK, hI, hS⟩⟩ := hcut
            obtain ⟨w6, hw6⟩ : ∃ w6, w6 = wc := ⟨_, rfl⟩
            subst hw6
            obtain ⟨i0, hi0, hz⟩ := Option.map_eq_some_iff.1 info_int
            simp only [Prod.mk.injEq] at hz
            obtain ⟨hz0, hz1, hz2⟩ := hz
            have hs16 := hK.rst.below.size
            have hrow9 := hI.r9.alloc (.cells #[.int .i64 (D.calls.length : Nat)] 3)
            go_wp2_with fail
            refine (kst_calls hK).mono ?_
            rintro e w7 ⟨rfl, rfl⟩
            go_wp2_with (at_builtin; refine Ow.wpList_append _ rfl _ _ 59 rfl w1.heap.size 3 i0 _ 1 8 Try.underlying59 hi0 hz0 hz1 hz2 rfl (by decide) _ cl.length (ivals cl) rfl hrow9 ⟨w6.heap.size, 0, none⟩ 1 1 [.int .i64 (D.calls.length : Nat)] rfl rfl (cells_at (heap_alloc_new _ _)) (fun u hu => by rw [List.mem_singleton.1 hu]; rfl) (by unfold maxLen; omega) (by omega) (by simp; omega) ?_)
            intro v9' w7 O1 hgr _ O2
            have KA : Kept (fun k => (Value.slice a9 cl.length c9).ownBlock = some k) w6 w7 := ((Kept.refl _ w6).alloc _).grown hgr (fun k hk => Or.inr hk)
            have hI7 := hI.add9 hK.lt D.calls.length KA O1 (fun j hj => by
              rcases O2 j hj with h5 | h5
              · exact .inl h5
              · (try simp at h5)
                exact .inr (by omega))
            have hK7 := hK.kept KA (fun j hj e => by
              rcases hj with hj | hj
              · exact hI.f9 j e hj
              · have := (hI.r9.lt j e).1; omega)
            obtain ⟨a9', c9', rfl⟩ := own_len O1
            have hs17 := hK7.rst.below.size
            have hrow10 := hI7.r10.alloc (.cells #[.int .i64 (sy : Int)] 3)
            clear hrow9 O1 O2 hgr KA hI hK
            go_wp2_with (at_builtin; refine Ow.wpList_append _ rfl _ _ 59 rfl w1.heap.size 3 i0 _ 1 8 Try.underlying59 hi0 hz0 hz1 hz2 rfl (by decide) _ su.length (ivals su) rfl hrow10 ⟨w7.heap.size, 0, none⟩ 1 1 [.int .i64 (sy : Int)] rfl rfl (cells_at (heap_alloc_new _ _)) (fun u hu => by rw [List.mem_singleton.1 hu]; rfl) (by have := hS.len; unfold maxLen; omega) (by have := hS.len; omega) (by simp; omega) ?_)
            intro v10' w8 O1 hgr _ O2
            have KA : Kept (fun k => (Value.slice a10 su.length c10).ownBlock = some k) w7 w8 := ((Kept.refl _ w7).alloc _).grown hgr (fun k hk => Or.inr hk)
            have hI8 := hI7.add10 hK7.lt sy KA O1 (fun j hj => by
              rcases O2 j hj with h5 | h5
              · exact .inl h5
              · (try simp at h5)
                exact .inr (by omega))
            have hK8 := hK7.kept KA (fun j hj e => by
              rcases hj with hj | hj
              · exact hI7.f10 j e hj
              · have := (hI7.r10.lt j e).1; omega)
            obtain ⟨a10', c10', rfl⟩ := own_len O1
            clear hrow10 O1 O2 hgr KA hI7 hK7
            go_wp2_with fail
            go_roundg g1_
            case measure => omega
            case rel => exact ⟨i + 1, vr, sv, rvs, recs, D, cl ++ [D.calls.length], su ++ [sy], sy, rfl, by go_num, by omega, by simp; omega, hrl, by omega, ⟨hK8, hI8, hS.note⟩⟩
  case rest =>
    clear HK5 HI HS
    obtain ⟨vr, sv, rvs, recs, D, cl, su, sy, a9, a10, c9, c10, rfl, rfl, hcl, hrl, hDl, ⟨hK, hI, hS⟩⟩ := hcut
    have hrc := records_ok hK.rst.jrn (by omega) (fun x hx => by have := (hK.fits x hx).2.2; omega)
    go_wp2_with fail
    refine hrc.mono ?_
    rintro e w5 ⟨v13, rvs13, rfl, hR13, hb5⟩
    obtain ⟨a13, c13, rfl⟩ := own_len hR13.row
    have hK5 := hK.kept (S := fun _ => False) (Kept.of_below hb5) (fun _ _ e => e)
    have hI5 := hI.kept (Kept.of_below (S := fun _ => False) hb5) (fun i e => e.elim) (fun i hi => .inl hi)
    have hB5 := hK5.rst.below
    replace y1 := bcell' hB5 y1
    replace y3 := bcell' hB5 y3
    replace y4 := bcell' hB5 y4
    replace y6 := bcell' hB5 y6
    replace y8 := bcell' hB5 y8
    replace y9 := bcell' hB5 y9
    have hok5 := row1_below hok1 hB5
    have hpk5 := row1_below hpk1 hB5
    obtain ⟨hp0, hp1⟩ := pick_lt o.n (D.calls.length + 1) (by omega)
    obtain ⟨pt, hpke⟩ : ∃ pt : Nat, pick o.n (D.calls.length + 1) = (pt : Int) := Int.eq_ofNat_of_zero_le hp0
    have hptl : pt ≤ D.calls.length := by omega
    have hwp : IntKind.i64.wrap ((D.calls.length : Int) + 1) = (D.calls.length : Int) + 1 := IntWalk.i64_in _ (by omega)
    clear hrc hK hI
    go_upto_region 21 with (fail)
    obtain ⟨w6, hw6⟩ : ∃ w6, w5.drew = w6 := ⟨_, rfl⟩
    have hb6 : Below w5.heap.size w5 w6 := by rw [← hw6]; exact (Below.refl _ _).drew
    have hK6 := hK5.kept (S := fun _ => False) (Kept.of_below hb6) (fun _ _ e => e)
    have hI6 := hI5.kept (Kept.of_below (S := fun _ => False) hb6) (fun i e => e.elim) (fun i hi => .inl hi)
    refine Mo.region 6 [0, 1, 3, 0, 8, 24, 63] (fun w' => w' = w6) (fun _ => Eq) (fun _ _ => True) (fun k _ v _ => k = 4 → v = .int .i64 (D.calls.length : Nat)) hw6 (fun _ => trivial) (fun _ _ _ h k => k ▸ h) (fun _ _ _ _ _ _ _ _ _ h => h) (fun _ _ _ _ _ _ _ _ _ => trivial) mixed (by kernel_rfl) ?_
    simp only [List.take_succ_cons, List.take_zero, List.drop_succ_cons, List.drop_zero]
    replace y1 := bcell' hb6 y1
    replace y3 := bcell' hb6 y3
    replace y4 := bcell' hb6 y4
    replace y6 := bcell' hb6 y6
    replace y8 := bcell' hb6 y8
    replace y9 := bcell' hb6 y9
    have hok6 := row1_below hok5 hb6
    have hpk6 := row1_below hpk5 hb6
    refine Mo.val (v := ?_) (fun _ => rfl) (by rfl) (fun _ _ _ hk_ => (by cases hk_)) ?_ ?_
    rotate_left
    · (intro w' hT hP hF; cases hT; go_simp; with_reducible rfl)
    simp only [Act.put, List.setIfInBounds_toArray, List.set_cons_zero, List.set_cons_succ]
    refine Mo.val (v := ?_) (fun _ => rfl) (by rfl) (fun _ _ _ hk_ => (by cases hk_)) ?_ ?_
    rotate_left
    · (intro w' hT hP hF; cases hT; go_simp; with_reducible rfl)
    simp only [Act.put, List.setIfInBounds_toArray, List.set_cons_zero, List.set_cons_succ]
    refine Mo.val (v := ?_) (fun _ => rfl) (by rfl) (fun _ _ _ hk_ => (by cases hk_)) ?_ ?_
    rotate_left
    · (intro w' hT hP hF; cases hT; go_simp; with_reducible rfl)
    simp only [Act.put, List.setIfInBounds_toArray, List.set_cons_zero, List.set_cons_succ]
    refine Mo.val (v := ?_) (fun _ => rfl) (by rfl) (fun _ _ _ hk_ => (by cases hk_)) ?_ ?_
    rotate_left
    · (intro w' hT hP hF; cases hT; go_simp; with_reducible rfl)
    simp only [Act.put, List.setIfInBounds_toArray, List.set_cons_zero, List.set_cons_succ]
    refine Mo.any (by rfl) ?_ ?_
    · intro w' hT hP hF
      cases hT
      go_simp
      show Calls _ _ _ _ _
      refine (kst_calls hK6).mono ?_
      rintro e w7 ⟨rfl, rfl⟩
      exact ⟨_, rfl, rfl, rfl⟩
    simp only [Act.put, List.setIfInBounds_toArray, List.set_cons_zero, List.set_cons_succ]
    rintro v4_ ⟨_, _, hv4⟩
    obtain rfl := hv4 trivial
    refine Mo.val (v := ?_) (fun _ => rfl) (by rfl) (fun _ _ _ hk_ => (by cases hk_)) ?_ ?_
    rotate_left
    · (intro w' hT hP hF; cases hT; go_simp; with_reducible rfl)
    simp only [Act.put, List.setIfInBounds_toArray, List.set_cons_zero, List.set_cons_succ]
    refine Mo.done ?_
    rintro w' rfl - -
    clear hw6
    go_wp2_with fail
    refine (jpick_calls o.n (D.calls.length + 1) _ hon (by omega) (by omega)).mono ?_
    rintro e w7 ⟨rfl, rfl⟩
    rw [hpke]
    obtain ⟨w6, hw6⟩ : ∃ w6, w6 = w' := ⟨_, rfl⟩
    subst hw6
    have hB6 := hK6.rst.below
    have hs56 := hb6.size
    clear hK5 hI5 hwp hok5 hpk5 hpke hp0 hp1
    go_upto_block 2 with (fail)
    go_cut [15] (fun v15 wx => wx = w6 ∧ ∃ s c : Nat, v15 = .int .i64 (s : Int) ∧ s ≤ recs.length ∧ c ≤ pt ∧ Sh (Sure D recs (frs (recs.take s)).length c))
    case first =>
      go_wp2_with fail
      go_loopg [15, 16] cl.length (fun kq v15 v16 w' => ∃ i s c : Nat, v15 = .int .i64 (s : Int) ∧ v16 = .int .i64 (i : Int) ∧ i + kq = cl.length ∧ w' = w6 ∧ s ≤ recs.length ∧ c ≤ pt ∧ Sh (Sure D recs (frs (recs.take s)).length c))
      case atStart => exact ⟨0, 0, 0, rfl, rfl, by omega, rfl, Nat.zero_le _, Nat.zero_le _, ⟨Sure.none D recs 0⟩⟩
      case round =>
        obtain ⟨i, s, c, rfl, rfl, hi, hwr, hs, hc, ⟨hSu⟩⟩ := hrel
        subst hwr
        cases gk with
        | zero =>
          have q1 : ¬ ((i : Int) < (cl.length : Int)) := by omega
          go_wp2_with fail
          go_meet
          case rel => exact ⟨rfl, s, c, rfl, hs, hc, ⟨hSu⟩⟩
        | succ g1_ =>
          have q1 : (i : Int) < (cl.length : Int) := by omega
          have q0 : (0 : Int) ≤ (i : Int) := by omega
          have hsl := hS.len
          have q2 : (i : Int) < (su.length : Int) := by omega
          obtain ⟨ci, hci⟩ : ∃ ci, cl[i]? = some ci := ⟨_, List.getElem?_eq_getElem (by omega)⟩
          obtain ⟨si, hsi⟩ : ∃ si, su[i]? = some si := ⟨_, List.getElem?_eq_getElem (by omega)⟩
          obtain ⟨hsr, hSi⟩ := hS.each i ci si hci hsi
          obtain ⟨g9, rfl, -, -⟩ := own_cap hI6.r9 (by omega)
          obtain ⟨g10, rfl, -, -⟩ := own_cap hI6.r10 (by omega)
          have e9 := hI6.r9.cells (g := g9) rfl i (.int .i64 (ci : Int)) (by simp [ivals, hci])
          have e10 := hI6.r10.cells (g := g10) rfl i (.int .i64 (si : Int)) (by simp [ivals, hsi])
          rw [Addr.add_mid, Nat.zero_add] at e9 e10
          clear hsl
          by_cases hcp : ci ≤ pt
          · have hcp' : (ci : Int) ≤ (pt : Int) := by omega
            go_wp2_with fail
            go_roundg g1_
            case measure => omega
            case rel => exact ⟨i + 1, si, ci, rfl, by go_num, by omega, rfl, hsr, hcp, ⟨hSi⟩⟩
          · have hcp' : ¬ ((ci : Int) ≤ (pt : Int)) := by omega
            go_wp2_with fail
            go_roundg g1_
            case measure => omega
            case rel => exact ⟨i + 1, s, c, rfl, by go_num, by omega, rfl, hs, hc, ⟨hSu⟩⟩
    case rest =>
      obtain ⟨hwc, s, c, rfl, hs, hc, ⟨hSu⟩⟩ := hcut
      subst hwc
      obtain ⟨W, hW⟩ : ∃ W, W = wc := ⟨_, rfl⟩
      subst hW
      have hpe : pick (pt : Int) (D.calls.length + 1) = (pt : Int) := by
        unfold pick
        rw [if_neg (by omega)]
        exact Int.emod_eq_of_lt (by omega) (by omega)
      have hctx := cut_ok b m1 m2 sv D (pt : Int) o.torn o.keep ok W hK6.rst.disk (lit_small' (by omega) (by omega)) hot hok6 (by omega)
      have hff : ∀ y ∈ recs, Pl.fits y ∧ Pl.bytes y := fun y hy => ⟨(hK6.fits y hy).1, (hK6.fits y hy).2.1⟩
      have hfirst := first_cut hK6.hist hK6.rst.disk.ok hff (pt : Int) o.torn o.keep
      have hleast := fun (xs : List (List Int)) (r : List Int) (hsc : Pl.Scans (rdb (D.cut (pt : Int) o.keep o.torn) 0 12) xs r) => least_ok hSu hK6.rst.disk.ok (pt : Int) o.torn o.keep (by rw [hpe]; omega) hs hK6.ule (fun y hy => (hff y hy).1) hsc
      have hxc : (D.cut (pt : Int) o.keep o.torn).calls = [] := rfl
      have hxf : (D.cut (pt : Int) o.keep o.torn).first = (D.cut (pt : Int) o.keep o.torn).now := rfl
      have hxs : (D.cut (pt : Int) o.keep o.torn).size = D.size := rfl
      have hbig := hK6.rst.big
      have hsW := hB6.size
      go_wp2_with fail
      refine hctx.mono ?_
      rintro e w7 ⟨b', m1', m2', rfl, hDx, hb7, hftx⟩
      obtain ⟨x, hx⟩ : ∃ x, D.cut (pt : Int) o.keep o.torn = x := ⟨_, rfl⟩
      rw [hx] at hDx hfirst hleast hxc hxf hxs
      obtain ⟨hxby, hxz⟩ := hfirst
      have hxl := rdb_length x hDx.ok 0 12
      obtain ⟨xs, r, hsc, hxg, hxsl, hrl12⟩ := scan_facts (rdb_bytes x hxby 0 12) hxl
      have hsx := hleast xs r hsc
      have hop := open_ok hDx hxby (by rw [hxc]; simp) 0 12 (by omega) (by rw [hxs]; show (0 : Int) + (12 : Int) ≤ D.size; omega) xs r hsc (fun y hy => (hxg y hy).2.1) (by omega) (12 * 32 - r.length) (by rw [hxl]; omega)
      clear hx hctx hleast hff hpe
      go_wp2_with fail
      refine hop.mono ?_
      rintro e w8 ⟨jb2, gb2, cb2, vr2, rvs2, sv2, rfl, hJ2, hD2, hK2, hsv2, hge2, hap2⟩
      clear hop
      have hD2' : DiskIs w8 b' m1' m2' sv2 (opened x (12 * 32 - r.length)) := hD2
      have hs7 := hb7.size
      have hBW8 : Below W.heap.size W w8 := hb7.trans (hK2.below hs7 (fun i hi hf => by have := hftx i hf; omega))
      have hrc2 := records_ok hJ2 (by omega) (fun y hy => by have := (hxg y hy).2.2; omega)
      go_wp2_with fail
      refine hrc2.mono ?_
      rintro e w9 ⟨v20, rvs20, rfl, hR20, hb9⟩
      obtain ⟨a20, c20, rfl⟩ := own_len hR20.row
      have hD9 := hD2'.below hb9
      have hs8 := hBW8.size
      have hBW9 : Below W.heap.size W w9 := hBW8.trans (hb9.mono hs8)
      have z6 := bcell' hBW9 y6
      have z8 := bcell' hBW9 y8
      have z9 := bcell' hBW9 y9
      have hpk9 := row1_below hpk6 hBW9
      obtain ⟨-, -, hoc, -⟩ := opened_calls x (12 * 32 - r.length) hxc
      have hosz := (opened_calls x (12 * 32 - r.length) hxc).2.1
      have hctx2 := cut_ok b' m1' m2' sv2 (opened x (12 * 32 - r.length)) p.n p.torn p.keep pk w9 hD9 hpn hpt hpk9 (by omega)
      have hsec := second_cut hDx.ok hxc hxf hxby (show 12 * 32 - r.length ≤ 12 * 32 by omega) hD9.ok p.n p.torn p.keep
      have hyc : ((opened x (12 * 32 - r.length)).cut p.n p.keep p.torn).calls = [] := rfl
      have hys : ((opened x (12 * 32 - r.length)).cut p.n p.keep p.torn).size = (opened x (12 * 32 - r.length)).size := rfl
      clear hrc2
      go_wp2_with fail
      refine hctx2.mono ?_
      rintro e w10 ⟨b3, m13, m23, rfl, hDy, hb10, hfty⟩
      obtain ⟨y, hy⟩ : ∃ y, (opened x (12 * 32 - r.length)).cut p.n p.keep p.torn = y := ⟨_, rfl⟩
      rw [hy] at hDy hsec hyc hys
      obtain ⟨hyby, hyz⟩ := hsec
      have hyl := rdb_length y hDy.ok 0 12
      obtain ⟨ys, r2, hsc2, hyg, hysl, hrl22⟩ := scan_facts (rdb_bytes y hyby 0 12) hyl
      have hop2 := open_ok hDy hyby (by rw [hyc]; simp) 0 12 (by omega) (by rw [hys, hosz, hxs]; show (0 : Int) + (12 : Int) ≤ D.size; omega) ys r2 hsc2 (fun z hz => (hyg z hz).2.1) (by omega) (12 * 32 - r2.length) (by rw [hyl]; omega)
      clear hy hctx2
      go_wp2_with fail
      refine hop2.mono ?_
      rintro e w11 ⟨jb3, gb3, cb3, vr3, rvs3, sv3, rfl, hJ3, hD3_, hK3_, hsv3, hge3, hap3⟩
      clear hop2
      have hrc3 := records_ok hJ3 (by omega) (fun z hz => by have := (hyg z hz).2.2; omega)
      have hs9 := hb9.size
      have hs10 := hb10.size
      have hs11 := hK3_.size
      have hB911 : Below w9.heap.size w9 w11 := hb10.trans (hK3_.below hs10 (fun i hi hf => by have := hfty i hf; omega))
      go_wp2_with fail
      refine hrc3.mono ?_
      rintro e w12 ⟨v24, rvs24, rfl, hR24, hb12⟩
      obtain ⟨a24, c24, rfl⟩ := own_len hR24.row
      have hB912 : Below w9.heap.size w9 w12 := hB911.trans (hb12.mono (by omega))
      have hs9W := hBW9.size
      have hBW12 : Below W.heap.size W w12 := hBW9.trans (hB912.mono hs9W)
      have hB512 : Below w5.heap.size w5 w12 := hb6.trans (hBW12.mono hs56)
      have hA := hR13.kept (Kept.of_below (S := fun _ => False) hB512) (fun _ _ e => e) (fun _ _ _ _ e => e)
      have hWas := hR20.kept (Kept.of_below (S := fun _ => False) hB912) (fun _ _ e => e) (fun _ _ _ _ e => e)
      have hs12 := hBW12.size
      have hB12 : Below w.heap.size w w12 := hb1.trans ((hB6.trans (hBW12.mono hsW)).mono hb1.size)
      have hgA : ∀ z ∈ recs, Pl.bytes z ∧ z.length ≤ 1000000000 := fun z hz => ⟨(hK6.fits z hz).2.1, by have := (hK6.fits z hz).2.2; omega⟩
      have hgX : ∀ z ∈ xs, Pl.bytes z ∧ z.length ≤ 1000000000 := fun z hz => ⟨(hxg z hz).2.1, by have := (hxg z hz).2.2; omega⟩
      have hgY : ∀ z ∈ ys, Pl.bytes z ∧ z.length ≤ 1000000000 := fun z hz => ⟨(hyg z hz).2.1, by have := (hyg z hz).2.2; omega⟩
      clear hrc3 hR13 hR20 hJ2 hJ3
      go_wp2_with fail
      refine (strange_ok hWas hA hgX hgA (by omega) (by omega)).mono ?_
      rintro e w13 ⟨r1, rfl, hr1, hb13⟩
      have hs13 := hb13.size
      cases r1 with
      | true =>
        go_wp2_with fail
        go_ret
        exact ⟨rfl, hB12.trans (hb13.mono hB12.size)⟩
      | false =>
        have hn1 : ¬ Odd xs recs := fun h => by have := hr1.2 h; cases this
        have hA13 := hA.kept (Kept.of_below (S := fun _ => False) hb13) (fun _ _ e => e) (fun _ _ _ _ e => e)
        have hW13 := hWas.kept (Kept.of_below (S := fun _ => False) hb13) (fun _ _ e => e) (fun _ _ _ _ e => e)
        have hN13 := hR24.kept (Kept.of_below (S := fun _ => False) hb13) (fun _ _ e => e) (fun _ _ _ _ e => e)
        have hB13 := hB12.trans (hb13.mono hB12.size)
        go_wp2_with fail
        refine (strange_ok hN13 hA13 hgY hgA (by omega) (by omega)).mono ?_
        rintro e w14 ⟨r3, rfl, hr3, hb14⟩
        have hB14 := hB13.trans (hb14.mono hB13.size)
        cases r3 with
        | true =>
          go_wp2_with fail
          go_ret
          exact ⟨rfl, hB14⟩
        | false =>
          have hn3 : ¬ Odd ys recs := fun h => by have := hr3.2 h; cases this
          have heq := scan_again (all := recs) (rdb_bytes x hxby 0 12) (rdb_bytes y hyby 0 12) hsc hsc2 (by rw [hyl, hxl]) (not_odd hn1) (not_odd hn3) (fun j hj => hxz j (by omega)) (fun j hj => by
            rw [hxl]
            exact hyz j (by omega))
          subst heq
          have hW14 := hW13.kept (Kept.of_below (S := fun _ => False) hb14) (fun _ _ e => e) (fun _ _ _ _ e => e)
          have hN14 := hN13.kept (Kept.of_below (S := fun _ => False) hb14) (fun _ _ e => e) (fun _ _ _ _ e => e)
          have hge : (s : Int) ≤ (ys.length : Int) := by omega
          go_wp2_with fail
          refine (same_rows hN14 hW14 (fun z hz => (hgY z hz).2) (by omega)).mono ?_
          rintro e w15 ⟨rfl, hb15⟩
          go_wp2_with fail
          go_ret
          exact ⟨rfl, hB14.trans (hb15.mono hB14.size)⟩
end Go.Proofs.Ytinhednmfldmbaa.Dk
