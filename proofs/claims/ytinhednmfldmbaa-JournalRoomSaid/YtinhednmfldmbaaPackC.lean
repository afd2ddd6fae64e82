/- The journal and the disk, alike. -/
import Derived.Test.YtinhednmfldmbaaPackB
namespace Go.Proofs.Ytinhednmfldmbaa.Dk
open Go Go.RowKit Hp Rd

theorem at_write (D : St) (n : Int) (l : List Int) (m : Int) : (D.write n l).at m = if m = n then l else D.at m := by
  unfold St.at St.write upd
  simp only
  split <;> rfl
theorem at_sync (D : St) (m : Int) : D.sync.at m = D.at m := rfl
theorem wl_at_out (first : Nat) (bs : List Int) : ∀ (m k : Nat) (D : St) (x : Int), (∀ i : Nat, k ≤ i → i < k + m → x ≠ (first : Int) + (i : Int)) → (wl first bs k m D).at x = D.at x
  | 0, _, _, _, _ => rfl
  | m + 1, k, D, x, h => by
    unfold wl
    rw [wl_at_out first bs m (k + 1) _ x (fun i h1 h2 => h i (by omega) (by omega)), at_write, if_neg (h k (Nat.le_refl _) (by omega))]
theorem wl_at_in (first : Nat) (bs : List Int) : ∀ (m k : Nat) (D : St) (i : Nat), k ≤ i → i < k + m → (wl first bs k m D).at ((first : Int) + (i : Int)) = (bs.drop (i * 32)).take 32
  | 0, _, _, _, h1, h2 => by omega
  | m + 1, k, D, i, h1, h2 => by
    unfold wl
    rcases Nat.eq_or_lt_of_le h1 with h3 | h3
    · subst h3
      rw [wl_at_out first bs m (k + 1) _ _ (fun j h4 h5 e => by omega), at_write, if_pos rfl]
    · exact wl_at_in first bs m (k + 1) _ i h3 (by omega)
theorem wl_size (first : Nat) (bs : List Int) : ∀ (m k : Nat) (D : St), (wl first bs k m D).size = D.size
  | 0, _, _ => rfl
  | m + 1, k, D => by
    unfold wl
    rw [wl_size first bs m (k + 1)]
    rfl
theorem wl_len (first : Nat) (bs : List Int) : ∀ (m k : Nat) (D : St), (wl first bs k m D).calls.length = D.calls.length + m
  | 0, _, _ => rfl
  | m + 1, k, D => by
    unfold wl
    rw [wl_len first bs m (k + 1)]
    simp [St.write]
    omega
theorem zd_size (first : Nat) (old new : List Int) : ∀ (k : Nat) (s : St × Bool), (zd first old new k s).1.size = s.1.size
  | 0, _ => rfl
  | k + 1, s => by
    unfold zd
    rw [zd_size first old new k]
    split <;> rfl
theorem zd_out (first : Nat) (old new : List Int) : ∀ (k : Nat) (s : St × Bool) (x : Int), (∀ i : Nat, i < k → x ≠ (first : Int) + (i : Int)) → (zd first old new k s).1.at x = s.1.at x
  | 0, _, _, _ => rfl
  | k + 1, s, x, h => by
    unfold zd
    rw [zd_out first old new k _ x (fun i hi => h i (by omega))]
    split
    · rfl
    · rw [at_write, if_neg (h k (by omega))]
theorem zd_in (first : Nat) (old new : List Int) : ∀ (k : Nat) (s : St × Bool), (∀ i : Nat, i < k → s.1.at ((first : Int) + (i : Int)) = (old.drop (i * 32)).take 32) → ∀ i : Nat, i < k → (zd first old new k s).1.at ((first : Int) + (i : Int)) = (new.drop (i * 32)).take 32
  | 0, _, _, _, h => by omega
  | k + 1, s, h, i, hi => by
    unfold zd
    rcases Nat.lt_or_ge i k with h3 | h3
    · refine zd_in first old new k _ (fun j hj => ?_) i h3
      split
      · exact h j (by omega)
      · rw [at_write, if_neg (by omega)]
        exact h j (by omega)
    · obtain rfl : i = k := by omega
      rw [zd_out first old new i _ _ (fun j hj e => by omega)]
      split
      · rename_i he
        rw [h i (by omega)]
        exact he.symm
      · rw [at_write, if_pos rfl]
theorem lay_get (bs : List Int) (o : Nat) (cs : List Int) (h : o + cs.length ≤ bs.length) (j : Nat) : (lay bs o cs)[j]? = if j < o then bs[j]? else if j < o + cs.length then cs[j - o]? else bs[j]? := by
  unfold lay
  by_cases h1 : j < o
  · rw [if_pos h1, List.getElem?_append_left (by simp; omega), List.getElem?_take_of_lt h1]
  · rw [if_neg h1, List.getElem?_append_right (by simp; omega), List.length_take, Nat.min_eq_left (by omega)]
    by_cases h2 : j < o + cs.length
    · rw [if_pos h2, List.getElem?_append_left (by omega)]
    · rw [if_neg h2, List.getElem?_append_right (by omega), List.getElem?_drop]
      congr 1
      omega
/-- A block that what was laid does not reach. -/
theorem lay_blk (bs : List Int) (o : Nat) (cs : List Int) (h : o + cs.length ≤ bs.length) (k : Nat) (hk : (k + 1) * 32 ≤ o ∨ o + cs.length ≤ k * 32) : ((lay bs o cs).drop (k * 32)).take 32 = (bs.drop (k * 32)).take 32 := by
  apply List.ext_getElem?
  intro j
  rw [List.getElem?_take, List.getElem?_take]
  split
  · rename_i hj
    rw [List.getElem?_drop, List.getElem?_drop, lay_get bs o cs h]
    rcases hk with hk | hk
    · rw [if_pos (by omega)]
    · rw [if_neg (by omega), if_neg (by omega)]
  · rfl
/-- The disk's blocks are the journal's bytes; all others are zero. -/
structure Mir (D : St) (first nb : Nat) (bs : List Int) : Prop where
  in_ : ∀ k : Nat, k < nb → D.at ((first : Int) + (k : Int)) = (bs.drop (k * 32)).take 32
  out : ∀ m : Int, (m < (first : Int) ∨ (first : Int) + (nb : Int) ≤ m) → D.at m = zeros
  len : bs.length = nb * 32
theorem Mir.wl {D : St} {first nb : Nat} {bs : List Int} (h : Mir D first nb bs) {o : Nat} {cs : List Int} (ho : o + cs.length ≤ bs.length) : Mir (Dk.wl first (lay bs o cs) (o / 32) ((o + cs.length + 31) / 32 - o / 32) D) first nb (lay bs o cs) := by
  have hl := h.len
  refine ⟨fun k hk => ?_, fun m hm => ?_, by rw [lay_length _ _ _ ho, hl]⟩
  · by_cases hin : o / 32 ≤ k ∧ k < o / 32 + ((o + cs.length + 31) / 32 - o / 32)
    · exact wl_at_in first _ _ _ D k hin.1 hin.2
    · rw [wl_at_out first _ _ _ D _ (fun i h1 h2 e => by omega), h.in_ k hk, lay_blk bs o cs ho k (by omega)]
  · rw [wl_at_out first _ _ _ D _ (fun i h1 h2 e => by omega), h.out m hm]
theorem Mir.zd {D : St} {first nb : Nat} {bs : List Int} (h : Mir D first nb bs) (new : List Int) (hl : new.length = nb * 32) (any : Bool) : Mir (Dk.zd first bs new nb (D, any)).1 first nb new :=
  ⟨fun k hk => zd_in first bs new nb (D, any) h.in_ k hk, fun m hm => by rw [zd_out first bs new nb (D, any) m (fun i hi e => by omega)]; exact h.out m hm, hl⟩
theorem Mir.zero {D : St} {first nb : Nat} (h : Mir D first nb (List.replicate (nb * 32) 0)) (m : Int) : D.at m = zeros := by
  by_cases hin : (first : Int) ≤ m ∧ m < (first : Int) + (nb : Int)
  · obtain ⟨k, hk⟩ : ∃ k : Nat, m - first = (k : Int) := Int.eq_ofNat_of_zero_le (by omega)
    have hm : m = (first : Int) + (k : Int) := by omega
    rw [hm, h.in_ k (by omega), List.drop_replicate, List.take_replicate, zeros]
    congr 1
    omega
  · exact h.out m (by omega)
theorem Mir.start (D : St) (first nb : Nat) (h : ∀ m : Int, D.at m = zeros) : Mir D first nb (List.replicate (nb * 32) 0) :=
  ⟨fun k hk => by
    rw [h, List.drop_replicate, List.take_replicate, zeros]
    congr 1
    omega, fun m _ => h m, by simp⟩
/-- Rows of bytes that came in. -/
def RowsAt (w : World) (v : Value) (l : List (List Int)) : Prop := l.length ≤ maxLen ∧ ∃ a cap, v = .slice a l.length cap ∧ ∀ (i : Nat) (x : List Int), l[i]? = some x → ∃ g off vb, a = some ⟨g, off, none⟩ ∧ w.cell? ⟨g, off + i, none⟩ = some vb ∧ Row1 w (Value.int .u8) vb x ∧ x.length ≤ 140737488355328 ∧ Pl.bytes x
theorem cells_row1 : Try.prog.cellsOf 31 = 1 := by kernel_rfl
theorem arg_rows {w : World} {v : Value} (h : Arg Try.prog w 42 v) : ∃ l, RowsAt w v l := by
  obtain ⟨a, len, cap, rfl, hh⟩ := arg_slice Try.underlying42 h
  rcases hh with ⟨rfl, rfl, rfl⟩ | ⟨ad, rfl, hlc, hcm, _, hel⟩
  · exact ⟨[], by unfold maxLen; simp, none, 0, rfl, fun i x hi => by simp at hi⟩
  · rw [cells_row1] at hel
    obtain ⟨l, hl, hp⟩ := list_of (p := fun i (x : List Int) => ∃ vb, w.cell? (ad.add i) = some vb ∧ Row1 w (Value.int .u8) vb x ∧ x.length ≤ 140737488355328 ∧ Pl.bytes x) len (fun i hi => by
      obtain ⟨es, h1, h2⟩ := hel i (by omega)
      rw [Nat.mul_one] at h1
      obtain ⟨vb, rfl, hc⟩ := cells_one h1
      obtain ⟨vb', he, x, hr, hx, hb⟩ := row_bytes h2
      obtain rfl : vb = vb' := by simpa using he
      exact ⟨x, vb, hc, hr, hx, fun y hy => ⟨(hb y hy).1, by have := (hb y hy).2; omega⟩⟩)
    refine ⟨l, by omega, some ad, cap, by rw [hl], fun i x hi => ?_⟩
    obtain ⟨vb, h1, h2, h3, h4⟩ := hp i x hi
    have hsp : ad.spot = none := by
      have hl0 : 0 < l.length := by have := (List.getElem?_eq_some_iff.1 hi).1; omega
      obtain ⟨vb0, k1, -⟩ := hp 0 l[0] (List.getElem?_eq_getElem hl0)
      have k2 : w.cell? ad = some vb0 := by simpa [Addr.add] using k1
      unfold World.cell? at k2
      split at k2
      · split at k2
        · cases k2
        · rename_i hs
          simpa using hs
      · cases k2
    obtain ⟨b, off, sp⟩ := ad
    simp only at hsp
    subst hsp
    rw [Addr.add_mid] at h1
    exact ⟨b, off, vb, rfl, h1, h2, h3, h4⟩
theorem arg_bytes {w : World} {v : Value} (h : Arg Try.prog w 31 v) : ∃ l, Row1 w (Value.int .u8) v l ∧ l.length ≤ 140737488351232 ∧ Pl.bytes l := by
  obtain ⟨a, len, cap, rfl, hh⟩ := arg_slice Try.underlying31 h
  obtain ⟨-, hr⟩ := h
  obtain ⟨v', he, l, hr, hl, hb⟩ := row_bytes hr
  simp [Value.cells] at he
  subst he
  refine ⟨l, hr, ?_, fun y hy => ⟨(hb y hy).1, by have := (hb y hy).2; omega⟩⟩
  obtain ⟨a', c', he, -, -⟩ := hr
  obtain ⟨rfl, rfl, rfl⟩ : a = a' ∧ len = l.length ∧ cap = c' := by simpa using he
  rcases hh with ⟨_, h0, _⟩ | ⟨ad, _, hlc, _, hby, _⟩
  · omega
  · rw [bytes_u8] at hby
    omega
theorem Row1.bytes {w : World} {v : Value} {l : List Int} (h : Row1 w (Value.int .u8) v l) : ∃ a c, v = .slice a l.length c ∧ l.length ≤ c ∧ Bytes w a l ∧ (0 < l.length → ∀ ad, a = some ad → ad.block < w.heap.size) := by
  obtain ⟨a, c, rfl, h0, h1⟩ := h
  cases a with
  | none =>
    obtain ⟨rfl, rfl⟩ := h0 rfl
    exact ⟨none, 0, rfl, Nat.le_refl _, fun h => absurd h (by simp), fun h => absurd h (by simp)⟩
  | some ad =>
    obtain ⟨h2, h3⟩ := h1 ad rfl
    refine ⟨some ad, c, rfl, h2, fun _ => ⟨ad, rfl, h3⟩, fun hl ad' he => ?_⟩
    cases he
    have := h3 0 _ (List.getElem?_eq_getElem hl)
    have hb := World.block_lt_of_cell? w _ this
    simpa [Addr.add] using hb
theorem Bytes.below {w w' : World} {A : Option Addr} {l : List Int} (h : Bytes w A l) (k : Below w.heap.size w w') : Bytes w' A l := fun h0 => by
  obtain ⟨ad, he, hc⟩ := h h0
  exact ⟨ad, he, fun j x hj => bcell' k (hc j x hj)⟩
end Go.Proofs.Ytinhednmfldmbaa.Dk

namespace Go.Proofs.Ytinhednmfldmbaa.Dk
open Go Go.RowKit Hp Rd

/-- The journal, its disk, and the world so far. -/
structure Rst (w w' : World) (first nb jb b gb cb m1 m2 : Nat) (vr sv : Value) (rvs : List Value) (bs : List Int) (used : Nat) (recs : List (List Int)) (D : St) : Prop where
  jrn : JIs w' jb b first gb cb bs used vr recs rvs
  disk : DiskIs w' b m1 m2 sv D
  apart : ∀ i, jfoot jb gb vr rvs i → ¬ foot b m1 m2 sv i
  below : Below w.heap.size w w'
  newJ : ∀ i, jfoot jb gb vr rvs i → w.heap.size ≤ i
  newD : ∀ i, foot b m1 m2 sv i → w.heap.size ≤ i
  mir : Mir D first nb bs
  fit : (first : Int) + (nb : Int) ≤ D.size
  big : (12 : Int) ≤ D.size
  ule : used ≤ bs.length
theorem Rst.kept {w w' w'' : World} {first nb jb b gb cb m1 m2 : Nat} {vr sv : Value} {rvs : List Value} {bs : List Int} {used : Nat} {recs : List (List Int)} {D : St} (h : Rst w w' first nb jb b gb cb m1 m2 vr sv rvs bs used recs D) (K : Below w'.heap.size w' w'') : Rst w w'' first nb jb b gb cb m1 m2 vr sv rvs bs used recs D :=
  ⟨h.jrn.kept (S := fun _ => False) (Kept.of_below K) (fun _ _ e => e), h.disk.kept (S := fun _ => False) (Kept.of_below K) (fun _ _ e => e), h.apart, h.below.trans (K.mono h.below.size), h.newJ, h.newD, h.mir, h.fit, h.big, h.ule⟩
/-- An append, as the walk has it. -/
theorem Rst.append {w w' : World} {first nb jb b gb cb m1 m2 : Nat} {vr sv : Value} {rvs : List Value} {bs : List Int} {used : Nat} {recs : List (List Int)} {D : St} (h : Rst w w' first nb jb b gb cb m1 m2 vr sv rvs bs used recs D) (hn : D.calls.length ≤ 1000000000) (hrl : recs.length ≤ 1000000000)
    (A : Option Addr) (c : Nat) (l : List Int) (hb : Pl.bytes l) (hc : l.length ≤ c) (hr : Bytes w A l) (hA : ∀ ad, A = some ad → ad.block < w.heap.size) (hf : Pl.fits l) (hroom : used + (7 + l.length) ≤ bs.length) :
    Calls Try.prog 27 #[.pointer (some ⟨jb, 0, none⟩), .slice A l.length c] w' fun e w'' => e = .returned (.int .i64 0) ∧ ∃ sv' vr' rvs' bs' D', bs'.length = bs.length ∧ D'.calls.length ≤ D.calls.length + nb ∧ Rst w w'' first nb jb b gb cb m1 m2 vr' sv' rvs' bs' (used + (7 + l.length)) (recs ++ [l]) D' := by
  have hlen := h.mir.len
  refine (append_ok h.jrn h.disk h.apart nb hlen h.fit hn hrl A c l hb hc (hr.below h.below) (fun ad he => ⟨fun hj => by have := h.newJ _ hj; have := hA ad he; omega, fun hj => by have := h.newD _ hj; have := hA ad he; omega⟩) hf hroom).mono ?_
  rintro e w'' ⟨sv', vr', rv, rfl, k1, k2, k3, k4, k5, k6, k7⟩
  have hfl := Pl.frame_length l
  have ho : used + (Pl.frame l).length ≤ bs.length := by omega
  have hs := h.below.size
  have hm := h.mir.wl ho
  rw [hfl] at hm
  refine ⟨rfl, sv', vr', rvs ++ [rv], _, _, lay_length _ _ _ ho, ?_, ⟨k1, k2, k7, h.below.trans (k3.below hs (fun i hi e => ?_)), fun i hi => ?_, fun i hi => ?_, hm, by rw [wl_size]; exact h.fit, by rw [wl_size]; exact h.big, by rw [lay_length _ _ _ ho]; omega⟩⟩
  · rw [wl_len]
    omega
  · rcases e with e | e
    · have := h.newJ i e; omega
    · have := h.newD i e; omega
  · rcases hi with hi | hi | hi | ⟨u, hu, hi⟩
    · exact h.newJ i (.inl hi)
    · exact h.newJ i (.inr (.inl hi))
    · rcases k5 i hi with h5 | h5
      · exact h.newJ i (.inr (.inr (.inl h5)))
      · omega
    · rcases List.mem_append.1 hu with hu | hu
      · exact h.newJ i (.inr (.inr (.inr ⟨u, hu, hi⟩)))
      · rw [List.mem_singleton.1 hu] at hi
        have := k6 i hi
        omega
  · rcases hi with hi | hi | hi | hi
    · exact h.newD i (.inl hi)
    · exact h.newD i (.inr (.inl hi))
    · exact h.newD i (.inr (.inr (.inl hi)))
    · rcases k4 i hi with h5 | h5
      · exact h.newD i (.inr (.inr (.inr h5)))
      · omega
theorem Rst.clear {w w' : World} {first nb jb b gb cb m1 m2 : Nat} {vr sv : Value} {rvs : List Value} {bs : List Int} {used : Nat} {recs : List (List Int)} {D : St} (h : Rst w w' first nb jb b gb cb m1 m2 vr sv rvs bs used recs D) (hn : D.calls.length ≤ 1000000000) (hnb : nb ≤ 100000) :
    Calls Try.prog 29 #[.pointer (some ⟨jb, 0, none⟩)] w' fun e w'' => e = .returned (.int .i64 0) ∧ ∃ sv' D', D'.calls.length ≤ D.calls.length + nb + 1 ∧ Rst w w'' first nb jb b gb cb m1 m2 (.slice none 0 0) sv' [] (List.replicate (nb * 32) 0) 0 [] D' := by
  have hlen := h.mir.len
  have hzl := zd_len first bs (List.replicate bs.length 0) nb (D, false)
  have hzs := zd_size first bs (List.replicate bs.length 0) nb (D, false)
  simp only at hzl hzs
  refine (clear_ok h.jrn h.disk h.apart nb hlen h.fit hn (by omega)).mono ?_
  rintro e w'' ⟨sv', rfl, k1, k2, k3, k4⟩
  have hs := h.below.size
  have hm := h.mir.zd (List.replicate bs.length 0) (by simp [hlen]) false
  rw [hlen] at hm k1 k2 hzl hzs
  refine ⟨rfl, sv', _, ?_, ⟨k1, k2, fun i hi hf => ?_, h.below.trans (k3.below hs (fun i hi e => ?_)), fun i hi => ?_, fun i hi => ?_, ⟨hm.in_, hm.out, hm.len⟩, ?_, ?_, Nat.zero_le _⟩⟩
  · simp [St.sync]
    omega
  · have hi' : jfoot jb gb vr rvs i := by
      rcases hi with hi | hi | hi | ⟨u, hu, hi⟩
      · exact .inl hi
      · exact .inr (.inl hi)
      · cases hi
      · cases hu
    have hlt := h.jrn.lt i hi'
    rcases hf with hf | hf | hf | hf
    · exact h.apart i hi' (.inl hf)
    · exact h.apart i hi' (.inr (.inl hf))
    · exact h.apart i hi' (.inr (.inr (.inl hf)))
    · rcases k4 i hf with h5 | h5
      · exact h.apart i hi' (.inr (.inr (.inr h5)))
      · omega
  · rcases e with e | e | e
    · have := h.newJ i (.inl e); omega
    · have := h.newJ i (.inr (.inl e)); omega
    · have := h.newD i e; omega
  · rcases hi with hi | hi | hi | ⟨u, hu, hi⟩
    · exact h.newJ i (.inl hi)
    · exact h.newJ i (.inr (.inl hi))
    · cases hi
    · cases hu
  · rcases hi with hi | hi | hi | hi
    · exact h.newD i (.inl hi)
    · exact h.newD i (.inr (.inl hi))
    · exact h.newD i (.inr (.inr (.inl hi)))
    · rcases k4 i hi with h5 | h5
      · exact h.newD i (.inr (.inr (.inr h5)))
      · omega
  · show (first : Int) + (nb : Int) ≤ (zd first bs (List.replicate (nb * 32) 0) nb (D, false)).1.size
    rw [hzs]
    exact h.fit
  · show (12 : Int) ≤ (zd first bs (List.replicate (nb * 32) 0) nb (D, false)).1.size
    rw [hzs]
    exact h.big
/-- What the last region of a read leaves: a fresh row of zeros. -/
def PsiZ (w1 : World) (k : Nat) (_ : Array Value) (v : Value) (w : World) : Prop := if k = 2 then ∃ x, v = .slice (some ⟨x, 0, none⟩) 32 32 ∧ w1.heap.size ≤ x ∧ Row32 w v zeros else True
def TrZ (k : Nat) (u u' : World) : Prop := if k = 2 then Below u.heap.size u u' else u = u'
theorem TrZ.below {k : Nat} {u u' : World} (h : TrZ k u u') : Below u.heap.size u u' := by
  unfold TrZ at h
  split at h
  · exact h
  · exact h ▸ Below.refl _ _
theorem psiZ_stays {w1 : World} {j k : Nat} {A : Array Value} {v : Value} {w w' : World} (ht : TrZ k w w') (h : PsiZ w1 j A v w) : PsiZ w1 j A v w' := by
  unfold PsiZ at *
  split at h
  · rename_i h0
    rw [if_pos h0]
    obtain ⟨x, rfl, hx, hr⟩ := h
    exact ⟨x, rfl, hx, hr.below ht.below⟩
  · rename_i h0
    rw [if_neg h0]
    trivial
theorem row32_new (w : World) : Row32 (w.alloc (.cells (zeros.map (Value.int .u8)).toArray 5)) (.slice (some ⟨w.heap.size, 0, none⟩) 32 32) zeros := ⟨rfl, _, _, _, rfl, fun j u hu => by
  simp only [World.cell?, heap_alloc_new, Nat.zero_add]
  simpa using hu⟩
end Go.Proofs.Ytinhednmfldmbaa.Dk

namespace Go.Proofs.Ytinhednmfldmbaa.Dk
open Go Go.RowKit Hp Rd

def TrM (k : Nat) (u u' : World) : Prop := if k = 6 ∨ k = 26 then Below u.heap.size u u' else u = u'
theorem TrM.below {k : Nat} {u u' : World} (h : TrM k u u') : Below u.heap.size u u' := by
  unfold TrM at h
  split at h
  · exact h
  · exact h ▸ Below.refl _ _
def PsiM (a : Value) (k : Nat) (_ : Array Value) (v : Value) (_ : World) : Prop := if k = 6 ∨ k = 26 then v = a else True
theorem rst_room {w W : World} {first nb jb b gb cb m1 m2 : Nat} {vr sv : Value} {rvs : List Value} {bs : List Int} {used : Nat} {recs : List (List Int)} {D : St} (h : Rst w W first nb jb b gb cb m1 m2 vr sv rvs bs used recs D) (hl : bs.length = 192) (r : Int) (hr : (192 : Int) - (used : Int) = r) :
    Calls Try.prog 26 #[.pointer (some ⟨jb, 0, none⟩)] W fun e w' => e = .returned (.int .i64 r) ∧ Below W.heap.size W w' := by
  refine (room_ok h.jrn (by omega) h.ule).mono ?_
  rw [hl]
  rintro e w' ⟨rfl, k⟩
  rw [← hr]
  exact ⟨rfl, k⟩
set_option maxHeartbeats 4000000 in
set_option maxRecDepth 100000 in
theorem journalRoom_calls (v0 v1 : Value) (w : World) (h0 : Arg Try.prog w 42 v0) (h1 : Arg Try.prog w 31 v1) : Calls Try.prog 7 #[v0, v1] w fun e w' => e = .returned (.bool true) ∧ Below w.heap.size w w' := by
  have mixed : Try.prog.follows Departure.mixedOrders = true := by kernel_rfl
  obtain ⟨rows, hlen, a0, c0, rfl, hrows⟩ := arg_rows h0
  obtain ⟨more, hm1, hm2, hm3⟩ := arg_bytes h1
  obtain ⟨am, cm, rfl, hmc, hmB, hmb⟩ := Row1.bytes hm1
  clear h0 h1 hm1
  go_enter Try.func7, Try.ntmps7
  go_wp2_with fail
  refine (new_calls 12 w (by omega) (by omega)).mono ?_
  rintro e w1 ⟨b, m1, m2, rfl, hb1, hft, hD⟩
  go_wp2_with fail
  refine (alive05 _).mono ?_
  rintro e w2 ⟨rfl, hb2⟩
  have hD2 := hD.below hb2
  have hop := open_zero hD2 (fun n => rfl) (by simp) 2 6 (by omega) (by show (2 : Int) + (6 : Int) ≤ 12; omega)
  have hs1 := hb1.size
  have hs2 := hb2.size
  go_wp2_with fail
  refine hop.mono ?_
  rintro e w3 ⟨jb, gb, cb, vr, rvs, sv, rfl, hJ, hD3, hK3, hsv, hge, hap⟩
  have HR : Rst w w3 2 6 jb b gb cb m1 m2 vr sv rvs (List.replicate (6 * 32) 0) 0 [] ⟨12, fun _ => none, fun _ => none, []⟩ := ⟨hJ, hD3, hap, (hb1.trans (hb2.mono hs1)).trans (hK3.below (by omega) (fun i hi hf => by have := hft i hf; omega)), fun i hi => by have := hge i hi; omega, fun i hi => by
    rcases hi with hi | hi | hi | hi
    · exact hft i (.inl hi)
    · exact hft i (.inr (.inl hi))
    · exact hft i (.inr (.inr (.inl hi)))
    · rcases hsv i hi with h5 | h5
      · cases h5
      · omega, Mir.start _ 2 6 (fun _ => rfl), by show (2 : Int) + (6 : Int) ≤ 12; omega, by show (12 : Int) ≤ 12; omega, Nat.zero_le _⟩
  obtain ⟨bs, hbs⟩ : ∃ bs, List.replicate (6 * 32) (0 : Int) = bs := ⟨_, rfl⟩
  have HBL : Sh (bs.length = 192) := ⟨by rw [← hbs]; simp⟩
  rw [hbs] at HR
  clear hop hJ hD3 hK3 hsv hge hap hD hD2 hft hb1 hb2 hbs
  go_wp2_with fail
  refine (rst_room HR HBL.out 192 (by omega)).mono ?_
  rintro e w4 ⟨rfl, hb4⟩
  have HR4 := HR.kept hb4
  clear HR hb4 hs1 hs2
  go_upto_block 0 with (fail)
  go_cut [9] (fun v9 wx => ∃ (n : Nat) (vr sv : Value) (rvs : List Value) (bs : List Int) (used : Nat) (recs : List (List Int)) (D : St), v9 = .int .i64 (n : Int) ∧ Sh (recs.length = n ∧ n ≤ 30 ∧ (∀ x ∈ recs, x.length ≤ 100) ∧ bs.length = 192 ∧ D.calls.length ≤ 1000 ∧ Rst w wx 2 6 jb b gb cb m1 m2 vr sv rvs bs used recs D))
  case first =>
    go_wp2_with fail
    go_loopg [9, 10] (min rows.length 30) (fun kq v9 v10 w' => ∃ (i n : Nat) (vr sv : Value) (rvs : List Value) (bs : List Int) (used : Nat) (recs : List (List Int)) (D : St), v9 = .int .i64 (n : Int) ∧ v10 = .int .i64 (i : Int) ∧ i + kq = min rows.length 30 ∧ n ≤ i ∧ used ≤ 192 ∧ Sh (recs.length = n ∧ (∀ x ∈ recs, x.length ≤ 100) ∧ bs.length = 192 ∧ D.calls.length ≤ 6 * i ∧ Rst w w' 2 6 jb b gb cb m1 m2 vr sv rvs bs used recs D))
    case atStart => exact ⟨0, 0, vr, sv, rvs, bs, 0, [], _, rfl, rfl, by omega, Nat.le_refl _, by omega, ⟨rfl, fun x hx => (by cases hx), HBL.out, Nat.le_refl _, HR4⟩⟩
    case round =>
      clear HR4 HBL
      obtain ⟨i, n, vr, sv, rvs, bs, used, recs, D, rfl, rfl, hi, hni, hu, ⟨hrn, hrx, hbl, hDl, hL⟩⟩ := hrel
      cases gk with
      | zero =>
        by_cases hq : (i : Int) < (rows.length : Int)
        · have hq2 : ¬ ((i : Int) < 30) := by omega
          go_wp2_with fail
          go_meet
          case rel => exact ⟨n, vr, sv, rvs, bs, used, recs, D, rfl, ⟨hrn, by omega, hrx, hbl, by omega, hL⟩⟩
        · go_wp2_with fail
          go_meet
          case rel => exact ⟨n, vr, sv, rvs, bs, used, recs, D, rfl, ⟨hrn, by omega, hrx, hbl, by omega, hL⟩⟩
      | succ g1_ =>
        have hq : (i : Int) < (rows.length : Int) := by omega
        have hq2 : (i : Int) < 30 := by omega
        have q0 : (0 : Int) ≤ (i : Int) := by omega
        obtain ⟨x, hx⟩ : ∃ x, rows[i]? = some x := ⟨_, List.getElem?_eq_getElem (by omega)⟩
        obtain ⟨g, off, vb, rfl, hcell, hr1, hxl, hxb⟩ := hrows i x hx
        obtain ⟨ax, cx, rfl, hxc, hxB, hxlt⟩ := Row1.bytes hr1
        have hcw := bcell' hL.below hcell
        have HRN := Sh.mk hrn
        have HBL := Sh.mk hbl
        have hni30 : n < 30 := by omega
        clear hrn hbl
        by_cases hz : x.length = 0
        · go_wp2_with fail
          go_roundg g1_
          case measure => omega
          case rel => exact ⟨i + 1, n, vr, sv, rvs, bs, used, recs, D, rfl, by go_num, by omega, by omega, hu, ⟨HRN.out, hrx, HBL.out, by omega, hL⟩⟩
        by_cases hbig : 100 < x.length
        · have hbig' : (100 : Int) < (x.length : Int) := by omega
          go_wp2_with fail
          go_roundg g1_
          case measure => omega
          case rel => exact ⟨i + 1, n, vr, sv, rvs, bs, used, recs, D, rfl, by go_num, by omega, by omega, hu, ⟨HRN.out, hrx, HBL.out, by omega, hL⟩⟩
        · have hbig' : ¬ ((100 : Int) < (x.length : Int)) := by omega
          have hf : Pl.fits x := ⟨by omega, by omega⟩
          have hrm := rst_room hL HBL.out ((192 : Int) - (used : Int)) rfl
          go_wp2_with fail
          refine hrm.mono ?_
          rintro e w5 ⟨rfl, hb5⟩
          have hL5 := hL.kept hb5
          have hcw5 := bcell' hb5 hcw
          clear hrm
          by_cases hfit : used + (7 + x.length) ≤ 192
          · have hap := hL5.append (by omega) (by rw [HRN.out]; omega) ax cx x hxb hxc hxB (hxlt (by omega)) hf (by rw [HBL.out]; exact hfit)
            have kf : (x.length : Int) + 7 ≤ (192 : Int) - (used : Int) := by omega
            go_wp2_with fail
            refine hap.mono ?_
            rintro e w6 ⟨rfl, sv', vr', rvs', bs', D', hbl', hDl', hL6⟩
            have hcw6 := bcell' hL6.below hcell
            have hrm6 : ∀ W, Rst w W 2 6 jb b gb cb m1 m2 vr' sv' rvs' bs' (used + (7 + x.length)) (recs ++ [x]) D' → Calls Try.prog 26 #[.pointer (some ⟨jb, 0, none⟩)] W fun e w' => e = .returned (.int .i64 ((192 : Int) - (used : Int) - 7 - (x.length : Int))) ∧ Below W.heap.size W w' := fun W h => rst_room h (hbl'.trans HBL.out) _ (by omega)
            have hw1 : IntKind.i64.wrap ((192 : Int) - (used : Int) - 7) = (192 : Int) - (used : Int) - 7 := IntWalk.i64_in _ (by omega)
            have hw2 : IntKind.i64.wrap ((192 : Int) - (used : Int) - 7 - (x.length : Int)) = (192 : Int) - (used : Int) - 7 - (x.length : Int) := IntWalk.i64_in _ (by omega)
            clear hap
            go_upto_region 15 with (fail)
            refine Mo.region 31 [0, 1, 3, 7, 15, 31, 63, 31, 159, 31, 31, 1567, 3615, 7711, 16287, 32767, 65535, 131071, 262143, 524287, 1048575, 2097151, 4194303, 8388607, 16777215, 33554431, 67108863, 33554431, 268435455, 536870911, 1073741823, 2147483647] (fun w' => Below w6.heap.size w6 w') TrM (fun _ _ => True) (PsiM (.int .i64 ((192 : Int) - (used : Int) - 7 - (x.length : Int)))) (Below.refl _ _).drew (fun _ => trivial) (fun k u u' hu ht => hu.trans (ht.below.mono hu.size)) (fun _ _ _ _ _ _ _ _ _ h => h) (fun _ _ _ _ _ _ _ _ _ => trivial) mixed (by kernel_rfl) ?_
            simp only [List.take_succ_cons, List.take_zero, List.drop_succ_cons, List.drop_zero]
            refine Mo.val (v := ?_) (fun _ => rfl) (by rfl) (fun _ _ _ => trivial) ?_ ?_
            rotate_left
            · (intro w' hT hP hF; skip; go_simp; with_reducible rfl)
            simp only [Act.put, List.setIfInBounds_toArray, List.set_cons_zero, List.set_cons_succ]
            refine Mo.val (v := ?_) (fun _ => rfl) (by rfl) (fun _ _ _ => trivial) ?_ ?_
            rotate_left
            · (intro w' hT hP hF; skip; go_simp; with_reducible rfl)
            simp only [Act.put, List.setIfInBounds_toArray, List.set_cons_zero, List.set_cons_succ]
            refine Mo.val (v := ?_) (fun _ => rfl) (by rfl) (fun _ _ _ => trivial) ?_ ?_
            rotate_left
            · (intro w' hT hP hF; skip; go_simp; with_reducible rfl)
            simp only [Act.put, List.setIfInBounds_toArray, List.set_cons_zero, List.set_cons_succ]
            refine Mo.val (v := ?_) (fun _ => rfl) (by rfl) (fun _ _ _ => trivial) ?_ ?_
            rotate_left
            · (intro w' hT hP hF; skip; go_simp; with_reducible rfl)
            simp only [Act.put, List.setIfInBounds_toArray, List.set_cons_zero, List.set_cons_succ]
            refine Mo.val (v := ?_) (fun _ => rfl) (by rfl) (fun _ _ _ => trivial) ?_ ?_
            rotate_left
            · (intro w' hT hP hF; skip; go_simp; with_reducible rfl)
            simp only [Act.put, List.setIfInBounds_toArray, List.set_cons_zero, List.set_cons_succ]
            refine Mo.val (v := ?_) (fun _ => rfl) (by rfl) (fun _ _ _ => trivial) ?_ ?_
            rotate_left
            · (intro w' hT hP hF; skip; go_simp; with_reducible rfl)
            simp only [Act.put, List.setIfInBounds_toArray, List.set_cons_zero, List.set_cons_succ]
            refine Mo.any (by rfl) ?_ ?_
            · intro w' hT hP hF
              go_simp
              show Calls _ _ _ _ _
              refine (hrm6 w' (hL6.kept hT)).mono ?_
              rintro e w7 ⟨rfl, hb7⟩
              refine ⟨_, rfl, ?_, ?_⟩
              · unfold TrM
                rw [if_pos (by decide)]
                exact hb7
              · unfold PsiM
                rw [if_pos (by decide)]
            simp only [Act.put, List.setIfInBounds_toArray, List.set_cons_zero, List.set_cons_succ]
            rintro v6_ ⟨wx, -, hx⟩
            unfold PsiM at hx
            rw [if_pos (by decide)] at hx
            subst hx
            refine Mo.val (v := ?_) (fun _ => rfl) (by rfl) (fun _ _ _ => trivial) ?_ ?_
            rotate_left
            · (intro w' hT hP hF; skip; go_simp; with_reducible rfl)
            simp only [Act.put, List.setIfInBounds_toArray, List.set_cons_zero, List.set_cons_succ]
            refine Mo.val (v := ?_) (fun _ => rfl) (by rfl) (fun _ _ _ => trivial) ?_ ?_
            rotate_left
            · (intro w' hT hP hF; skip; go_simp; with_reducible rfl)
            simp only [Act.put, List.setIfInBounds_toArray, List.set_cons_zero, List.set_cons_succ]
            refine Mo.val (v := ?_) (fun _ => rfl) (by rfl) (fun _ _ _ => trivial) ?_ ?_
            rotate_left
            · (intro w' hT hP hF; skip; go_simp; with_reducible rfl)
            simp only [Act.put, List.setIfInBounds_toArray, List.set_cons_zero, List.set_cons_succ]
            refine Mo.val (v := ?_) (fun _ => rfl) (by rfl) (fun _ _ _ => trivial) ?_ ?_
            rotate_left
            · (intro w' hT hP hF; skip; go_simp; with_reducible rfl)
            simp only [Act.put, List.setIfInBounds_toArray, List.set_cons_zero, List.set_cons_succ]
            refine Mo.val (v := ?_) (fun _ => rfl) (by rfl) (fun _ _ _ => trivial) ?_ ?_
            rotate_left
            · (intro w' hT hP hF; skip; go_simp; with_reducible rfl)
            simp only [Act.put, List.setIfInBounds_toArray, List.set_cons_zero, List.set_cons_succ]
            refine Mo.val (v := ?_) (fun _ => rfl) (by rfl) (fun _ _ _ => trivial) ?_ ?_
            rotate_left
            · (intro w' hT hP hF; have hc := bcell' hT hcw6; go_simp; with_reducible rfl)
            simp only [Act.put, List.setIfInBounds_toArray, List.set_cons_zero, List.set_cons_succ]
            refine Mo.val (v := ?_) (fun _ => rfl) (by rfl) (fun _ _ _ => trivial) ?_ ?_
            rotate_left
            · (intro w' hT hP hF; skip; go_simp; with_reducible rfl)
            simp only [Act.put, List.setIfInBounds_toArray, List.set_cons_zero, List.set_cons_succ]
            refine Mo.val (v := ?_) (fun _ => rfl) (by rfl) (fun _ _ _ => trivial) ?_ ?_
            rotate_left
            · (intro w' hT hP hF; skip; go_simp; with_reducible rfl)
            simp only [Act.put, List.setIfInBounds_toArray, List.set_cons_zero, List.set_cons_succ]
            refine Mo.val (v := ?_) (fun _ => rfl) (by rfl) (fun _ _ _ => trivial) ?_ ?_
            rotate_left
            · (intro w' hT hP hF; skip; go_simp; with_reducible rfl)
            simp only [Act.put, List.setIfInBounds_toArray, List.set_cons_zero, List.set_cons_succ]
            refine Mo.val (v := ?_) (fun _ => rfl) (by rfl) (fun _ _ _ => trivial) ?_ ?_
            rotate_left
            · (intro w' hT hP hF; skip; go_simp; with_reducible rfl)
            simp only [Act.put, List.setIfInBounds_toArray, List.set_cons_zero, List.set_cons_succ]
            refine Mo.val (v := ?_) (fun _ => rfl) (by rfl) (fun _ _ _ => trivial) ?_ ?_
            rotate_left
            · (intro w' hT hP hF; skip; go_simp; with_reducible rfl)
            simp only [Act.put, List.setIfInBounds_toArray, List.set_cons_zero, List.set_cons_succ]
            refine Mo.val (v := ?_) (fun _ => rfl) (by rfl) (fun _ _ _ => trivial) ?_ ?_
            rotate_left
            · (intro w' hT hP hF; skip; go_simp; with_reducible rfl)
            simp only [Act.put, List.setIfInBounds_toArray, List.set_cons_zero, List.set_cons_succ]
            refine Mo.val (v := ?_) (fun _ => rfl) (by rfl) (fun _ _ _ => trivial) ?_ ?_
            rotate_left
            · (intro w' hT hP hF; skip; go_simp; with_reducible rfl)
            simp only [Act.put, List.setIfInBounds_toArray, List.set_cons_zero, List.set_cons_succ]
            refine Mo.val (v := ?_) (fun _ => rfl) (by rfl) (fun _ _ _ => trivial) ?_ ?_
            rotate_left
            · (intro w' hT hP hF; skip; go_simp; with_reducible rfl)
            simp only [Act.put, List.setIfInBounds_toArray, List.set_cons_zero, List.set_cons_succ]
            refine Mo.val (v := ?_) (fun _ => rfl) (by rfl) (fun _ _ _ => trivial) ?_ ?_
            rotate_left
            · (intro w' hT hP hF; skip; go_simp; with_reducible rfl)
            simp only [Act.put, List.setIfInBounds_toArray, List.set_cons_zero, List.set_cons_succ]
            refine Mo.skip (by rfl) ?_
            simp only [Act.put, List.setIfInBounds_toArray, List.set_cons_zero, List.set_cons_succ]
            refine Mo.skip (by rfl) ?_
            simp only [Act.put, List.setIfInBounds_toArray, List.set_cons_zero, List.set_cons_succ]
            refine Mo.skip (by rfl) ?_
            simp only [Act.put, List.setIfInBounds_toArray, List.set_cons_zero, List.set_cons_succ]
            refine Mo.skip (by rfl) ?_
            simp only [Act.put, List.setIfInBounds_toArray, List.set_cons_zero, List.set_cons_succ]
            refine Mo.skip (by rfl) ?_
            simp only [Act.put, List.setIfInBounds_toArray, List.set_cons_zero, List.set_cons_succ]
            refine Mo.skip (by rfl) ?_
            simp only [Act.put, List.setIfInBounds_toArray, List.set_cons_zero, List.set_cons_succ]
            refine Mo.skip (by rfl) ?_
            simp only [Act.put, List.setIfInBounds_toArray, List.set_cons_zero, List.set_cons_succ]
            refine Mo.skip (by rfl) ?_
            simp only [Act.put, List.setIfInBounds_toArray, List.set_cons_zero, List.set_cons_succ]
            refine Mo.val (v := ?_) (fun _ => rfl) (by rfl) (fun _ _ _ => trivial) ?_ ?_
            rotate_left
            · (intro w' hT hP hF; skip; go_simp; with_reducible rfl)
            simp only [Act.put, List.setIfInBounds_toArray, List.set_cons_zero, List.set_cons_succ]
            refine Mo.done ?_
            intro w' hT hF _
            clear hF
            have hL7 := hL6.kept hT
            have hrx' : ∀ y ∈ recs ++ [x], y.length ≤ 100 := fun y hy => by
              rcases List.mem_append.1 hy with hy | hy
              · exact hrx y hy
              · rw [List.mem_singleton.1 hy]; omega
            go_wp2_with fail
            go_roundg g1_
            case measure => omega
            case rel => exact ⟨i + 1, n + 1, vr', sv', rvs', bs', used + (7 + x.length), recs ++ [x], D', by go_num, by go_num, by omega, by omega, hfit, ⟨by rw [List.length_append, HRN.out]; rfl, hrx', hbl'.trans HBL.out, by omega, hL7⟩⟩
          · have kf : ¬ ((x.length : Int) + 7 ≤ (192 : Int) - (used : Int)) := by omega
            have hap := append_full hL5.jrn (by rw [HBL.out]; omega) hL5.ule ax cx x hxb hxc (hxB.below hL5.below) hf (by rw [HBL.out]; omega)
            go_wp2_with fail
            refine hap.mono ?_
            rintro e w6 ⟨rfl, hb6⟩
            have hL6 := hL5.kept hb6
            have hcw6 := bcell' hL6.below hcell
            have hrm6 : ∀ W, Rst w W 2 6 jb b gb cb m1 m2 vr sv rvs bs used recs D → Calls Try.prog 26 #[.pointer (some ⟨jb, 0, none⟩)] W fun e w' => e = .returned (.int .i64 ((192 : Int) - (used : Int))) ∧ Below W.heap.size W w' := fun W h => rst_room h HBL.out _ rfl
            clear hap
            go_upto_region 15 with (fail)
            rw [show decide ((x.length : Int) + 7 ≤ (192 : Int) - (used : Int)) = false from decide_eq_false (by omega)]
            refine Mo.region 31 [0, 1, 3, 7, 15, 31, 63, 31, 159, 31, 31, 1567, 3615, 7711, 16287, 32767, 65535, 131071, 262143, 524287, 1048575, 2097151, 4194303, 8388607, 16777215, 33554431, 67108863, 33554431, 268435455, 536870911, 1073741823, 2147483647] (fun w' => Below w6.heap.size w6 w') TrM (fun _ _ => True) (PsiM (.int .i64 ((192 : Int) - (used : Int)))) (Below.refl _ _).drew (fun _ => trivial) (fun k u u' hu ht => hu.trans (ht.below.mono hu.size)) (fun _ _ _ _ _ _ _ _ _ h => h) (fun _ _ _ _ _ _ _ _ _ => trivial) mixed (by kernel_rfl) ?_
            simp only [List.take_succ_cons, List.take_zero, List.drop_succ_cons, List.drop_zero]
            refine Mo.val (v := ?_) (fun _ => rfl) (by rfl) (fun _ _ _ => trivial) ?_ ?_
            rotate_left
            · (intro w' hT hP hF; skip; go_simp; with_reducible rfl)
            simp only [Act.put, List.setIfInBounds_toArray, List.set_cons_zero, List.set_cons_succ]
            refine Mo.val (v := ?_) (fun _ => rfl) (by rfl) (fun _ _ _ => trivial) ?_ ?_
            rotate_left
            · (intro w' hT hP hF; skip; go_simp; with_reducible rfl)
            simp only [Act.put, List.setIfInBounds_toArray, List.set_cons_zero, List.set_cons_succ]
            refine Mo.skip (by rfl) ?_
            simp only [Act.put, List.setIfInBounds_toArray, List.set_cons_zero, List.set_cons_succ]
            refine Mo.skip (by rfl) ?_
            simp only [Act.put, List.setIfInBounds_toArray, List.set_cons_zero, List.set_cons_succ]
            refine Mo.skip (by rfl) ?_
            simp only [Act.put, List.setIfInBounds_toArray, List.set_cons_zero, List.set_cons_succ]
            refine Mo.skip (by rfl) ?_
            simp only [Act.put, List.setIfInBounds_toArray, List.set_cons_zero, List.set_cons_succ]
            refine Mo.skip (by rfl) ?_
            simp only [Act.put, List.setIfInBounds_toArray, List.set_cons_zero, List.set_cons_succ]
            refine Mo.skip (by rfl) ?_
            simp only [Act.put, List.setIfInBounds_toArray, List.set_cons_zero, List.set_cons_succ]
            refine Mo.skip (by rfl) ?_
            simp only [Act.put, List.setIfInBounds_toArray, List.set_cons_zero, List.set_cons_succ]
            refine Mo.skip (by rfl) ?_
            simp only [Act.put, List.setIfInBounds_toArray, List.set_cons_zero, List.set_cons_succ]
            refine Mo.skip (by rfl) ?_
            simp only [Act.put, List.setIfInBounds_toArray, List.set_cons_zero, List.set_cons_succ]
            refine Mo.skip (by rfl) ?_
            simp only [Act.put, List.setIfInBounds_toArray, List.set_cons_zero, List.set_cons_succ]
            refine Mo.skip (by rfl) ?_
            simp only [Act.put, List.setIfInBounds_toArray, List.set_cons_zero, List.set_cons_succ]
            refine Mo.skip (by rfl) ?_
            simp only [Act.put, List.setIfInBounds_toArray, List.set_cons_zero, List.set_cons_succ]
            refine Mo.skip (by rfl) ?_
            simp only [Act.put, List.setIfInBounds_toArray, List.set_cons_zero, List.set_cons_succ]
            refine Mo.skip (by rfl) ?_
            simp only [Act.put, List.setIfInBounds_toArray, List.set_cons_zero, List.set_cons_succ]
            refine Mo.skip (by rfl) ?_
            simp only [Act.put, List.setIfInBounds_toArray, List.set_cons_zero, List.set_cons_succ]
            refine Mo.val (v := ?_) (fun _ => rfl) (by rfl) (fun _ _ _ => trivial) ?_ ?_
            rotate_left
            · (intro w' hT hP hF; skip; go_simp; with_reducible rfl)
            simp only [Act.put, List.setIfInBounds_toArray, List.set_cons_zero, List.set_cons_succ]
            refine Mo.val (v := ?_) (fun _ => rfl) (by rfl) (fun _ _ _ => trivial) ?_ ?_
            rotate_left
            · (intro w' hT hP hF; skip; go_simp; with_reducible rfl)
            simp only [Act.put, List.setIfInBounds_toArray, List.set_cons_zero, List.set_cons_succ]
            refine Mo.val (v := ?_) (fun _ => rfl) (by rfl) (fun _ _ _ => trivial) ?_ ?_
            rotate_left
            · (intro w' hT hP hF; skip; go_simp; with_reducible rfl)
            simp only [Act.put, List.setIfInBounds_toArray, List.set_cons_zero, List.set_cons_succ]
            refine Mo.val (v := ?_) (fun _ => rfl) (by rfl) (fun _ _ _ => trivial) ?_ ?_
            rotate_left
            · (intro w' hT hP hF; skip; go_simp; with_reducible rfl)
            simp only [Act.put, List.setIfInBounds_toArray, List.set_cons_zero, List.set_cons_succ]
            refine Mo.val (v := ?_) (fun _ => rfl) (by rfl) (fun _ _ _ => trivial) ?_ ?_
            rotate_left
            · (intro w' hT hP hF; skip; go_simp; with_reducible rfl)
            simp only [Act.put, List.setIfInBounds_toArray, List.set_cons_zero, List.set_cons_succ]
            refine Mo.val (v := ?_) (fun _ => rfl) (by rfl) (fun _ _ _ => trivial) ?_ ?_
            rotate_left
            · (intro w' hT hP hF; skip; go_simp; with_reducible rfl)
            simp only [Act.put, List.setIfInBounds_toArray, List.set_cons_zero, List.set_cons_succ]
            refine Mo.val (v := ?_) (fun _ => rfl) (by rfl) (fun _ _ _ => trivial) ?_ ?_
            rotate_left
            · (intro w' hT hP hF; skip; go_simp; with_reducible rfl)
            simp only [Act.put, List.setIfInBounds_toArray, List.set_cons_zero, List.set_cons_succ]
            refine Mo.val (v := ?_) (fun _ => rfl) (by rfl) (fun _ _ _ => trivial) ?_ ?_
            rotate_left
            · (intro w' hT hP hF; skip; go_simp; with_reducible rfl)
            simp only [Act.put, List.setIfInBounds_toArray, List.set_cons_zero, List.set_cons_succ]
            refine Mo.val (v := ?_) (fun _ => rfl) (by rfl) (fun _ _ _ => trivial) ?_ ?_
            rotate_left
            · (intro w' hT hP hF; skip; go_simp; with_reducible rfl)
            simp only [Act.put, List.setIfInBounds_toArray, List.set_cons_zero, List.set_cons_succ]
            refine Mo.any (by rfl) ?_ ?_
            · intro w' hT hP hF
              go_simp
              show Calls _ _ _ _ _
              refine (hrm6 w' (hL6.kept hT)).mono ?_
              rintro e w7 ⟨rfl, hb7⟩
              refine ⟨_, rfl, ?_, ?_⟩
              · unfold TrM
                rw [if_pos (by decide)]
                exact hb7
              · unfold PsiM
                rw [if_pos (by decide)]
            simp only [Act.put, List.setIfInBounds_toArray, List.set_cons_zero, List.set_cons_succ]
            rintro v6_ ⟨wx, -, hx⟩
            unfold PsiM at hx
            rw [if_pos (by decide)] at hx
            subst hx
            refine Mo.val (v := ?_) (fun _ => rfl) (by rfl) (fun _ _ _ => trivial) ?_ ?_
            rotate_left
            · (intro w' hT hP hF; skip; go_simp; with_reducible rfl)
            simp only [Act.put, List.setIfInBounds_toArray, List.set_cons_zero, List.set_cons_succ]
            refine Mo.val (v := ?_) (fun _ => rfl) (by rfl) (fun _ _ _ => trivial) ?_ ?_
            rotate_left
            · (intro w' hT hP hF; skip; go_simp; with_reducible rfl)
            simp only [Act.put, List.setIfInBounds_toArray, List.set_cons_zero, List.set_cons_succ]
            refine Mo.val (v := ?_) (fun _ => rfl) (by rfl) (fun _ _ _ => trivial) ?_ ?_
            rotate_left
            · (intro w' hT hP hF; skip; go_simp; with_reducible rfl)
            simp only [Act.put, List.setIfInBounds_toArray, List.set_cons_zero, List.set_cons_succ]
            refine Mo.val (v := ?_) (fun _ => rfl) (by rfl) (fun _ _ _ => trivial) ?_ ?_
            rotate_left
            · (intro w' hT hP hF; skip; go_simp; with_reducible rfl)
            simp only [Act.put, List.setIfInBounds_toArray, List.set_cons_zero, List.set_cons_succ]
            refine Mo.done ?_
            intro w' hT hF _
            clear hF
            have hL7 := hL6.kept hT
            go_wp2_with fail
            go_roundg g1_
            case measure => omega
            case rel => exact ⟨i + 1, n, vr, sv, rvs, bs, used, recs, D, rfl, by go_num, by omega, by omega, hu, ⟨HRN.out, hrx, HBL.out, by omega, hL7⟩⟩
  case rest =>
    clear HR4 HBL
    obtain ⟨n, vr, sv, rvs, bs, used, recs, D, rfl, ⟨hrn, hn30, hrx, hbl, hDl, hL⟩⟩ := hcut
    have hrc := records_ok hL.jrn (by omega) (fun x hx => by have := hrx x hx; omega)
    go_wp2_with fail
    refine hrc.mono ?_
    rintro e w5 ⟨v5, rvs5, rfl, hR5, hb5⟩
    obtain ⟨a5, c5, rfl⟩ := own_len hR5.row
    have hL5 := hL.kept hb5
    go_wp2_with fail
    refine (hL5.clear (by omega) (by omega)).mono ?_
    rintro e w6 ⟨rfl, sv6, D6, hDl6, hL6⟩
    have hrc6 := records_ok hL6.jrn (by simp) (fun x hx => (by cases hx))
    go_wp2_with fail
    refine hrc6.mono ?_
    rintro e w7 ⟨v7, rvs7, rfl, hR7, hb7⟩
    obtain ⟨a7, c7, rfl⟩ := own_len hR7.row
    have hL7 := hL6.kept hb7
    go_wp2_with fail
    refine (rst_room hL7 (by simp) 192 (by simp)).mono ?_
    rintro e w8 ⟨rfl, hb8⟩
    have hL8 := hL7.kept hb8
    clear hrc hrc6 hR5 hR7 hL hL5 hL6 hL7
    go_upto_block 2 with (fail)
    go_cut [] (fun wx => Sh (Rst w wx 2 6 jb b gb cb m1 m2 (.slice none 0 0) sv6 [] (List.replicate (6 * 32) 0) 0 [] D6))
    case first =>
      go_wp2_with fail
      go_loopg [14] 12 (fun kq v14 w' => ∃ i : Nat, v14 = .int .i64 (i : Int) ∧ i + kq = 12 ∧ Sh (Rst w w' 2 6 jb b gb cb m1 m2 (.slice none 0 0) sv6 [] (List.replicate (6 * 32) 0) 0 [] D6))
      case atStart => exact ⟨0, rfl, rfl, ⟨hL8⟩⟩
      case round =>
        obtain ⟨i, rfl, hi, ⟨hLr⟩⟩ := hrel
        cases gk with
        | zero =>
          have q : ¬ ((i : Int) < 12) := by omega
          go_wp2_with fail
          go_meet
          case rel => exact ⟨hLr⟩
        | succ g1_ =>
          have q : (i : Int) < 12 := by omega
          have hbig := hLr.big
          have hrd := read_ok b m1 m2 sv6 D6 i wr hLr.disk (by omega) (by omega)
          rw [hLr.mir.zero] at hrd
          clear hbig
          go_wp2_with fail
          refine hrd.mono ?_
          rintro e w5 ⟨v, rfl, hb5, hO5⟩
          have hR5 := Row32.own hO5 rfl
          have hR5' := hR5
          have hL5 := hLr.kept hb5
          obtain ⟨-, g5, o5, c5, rfl, -⟩ := hR5'
          clear hrd hO5
          go_upto_region 25 with (fail)
          refine Mo.region 4 [0, 1, 0, 4, 15] (fun w' => Below w5.heap.size w5 w') TrZ (fun _ _ => True) (PsiZ w5) (Below.refl _ _).drew (fun _ => trivial) (fun k u u' hu ht => hu.trans (ht.below.mono hu.size)) (fun _ _ _ _ _ _ _ _ ht h => psiZ_stays ht h) (fun _ _ _ _ _ _ _ _ _ => trivial) mixed (by kernel_rfl) ?_
          simp only [List.take_succ_cons, List.take_zero, List.drop_succ_cons, List.drop_zero]
          refine Mo.val (v := ?_) (fun _ => rfl) (by rfl) (fun _ _ _ => trivial) ?_ ?_
          rotate_left
          · (intro w' hT hP hF; skip; go_simp; with_reducible rfl)
          simp only [Act.put, List.setIfInBounds_toArray, List.set_cons_zero, List.set_cons_succ]
          refine Mo.val (v := ?_) (fun _ => rfl) (by rfl) (fun _ _ _ => trivial) ?_ ?_
          rotate_left
          · (intro w' hT hP hF; have hc := (hR5.below hT).conv; go_simp; with_reducible rfl)
          simp only [Act.put, List.setIfInBounds_toArray, List.set_cons_zero, List.set_cons_succ]
          refine Mo.any (by rfl) ?_ ?_
          · intro w' hT hP hF
            have hmk : (Instr.makeSlice 31 (.int .i64 32) (.int .i64 32)).run Try.prog w' = .ok (.slice (some ⟨w'.heap.size, 0, none⟩) 32 32) (w'.alloc (.cells (zeros.map (Value.int .u8)).toArray 5)) := makeN 32 (by omega) w'
            have hsz := hT.size
            go_simp
            refine ⟨?_, ?_⟩
            · unfold TrZ
              rw [if_pos (by simp)]
              exact (Below.refl _ _).alloc (Nat.le_refl _) _
            · unfold PsiZ
              rw [if_pos rfl]
              exact ⟨_, rfl, hsz, row32_new w'⟩
          simp only [Act.put, List.setIfInBounds_toArray, List.set_cons_zero, List.set_cons_succ]
          rintro v2 ⟨wx, -, hx⟩
          unfold PsiZ at hx
          rw [if_pos rfl] at hx
          obtain ⟨x2, rfl, hx2, -⟩ := hx
          refine Mo.val (v := ?_) (fun _ => rfl) (by rfl) (fun _ _ _ => trivial) ?_ ?_
          rotate_left
          · (intro w' hT hP hF; have hF2 := hF 2 (by decide); rw [Mo.upd_same] at hF2; unfold PsiZ at hF2; rw [if_pos rfl] at hF2; obtain ⟨x', -, -, hr⟩ := hF2; have hc := hr.conv; go_simp; with_reducible rfl)
          simp only [Act.put, List.setIfInBounds_toArray, List.set_cons_zero, List.set_cons_succ]
          refine Mo.done ?_
          intro w' hT hF _
          clear hF
          have hL6 := hL5.kept hT
          go_wp2_with fail
          go_roundg g1_
          case measure => omega
          case rel => exact ⟨i + 1, by go_num, by omega, ⟨hL6⟩⟩
    case rest =>
      obtain ⟨hL9⟩ := hcut
      have HL9 := Sh.mk hL9
      by_cases hf : Pl.fits more
      · have hf2 := hf
        unfold Pl.fits at hf2
        have q1 : (1 : Int) ≤ (more.length : Int) := by omega
        by_cases hroom : 7 + more.length ≤ 192
        · have q2 : (more.length : Int) + 7 ≤ 192 := by omega
          have hap := hL9.append (by omega) (by simp) am cm more hm3 hmc hmB (hmb (by omega)) hf (by simp; omega)
          go_wp2_with fail
          refine hap.mono ?_
          rintro e w10 ⟨rfl, _, _, _, _, _, -, -, hL10⟩
          go_wp2_with fail
          go_ret
          exact ⟨rfl, hL10.below⟩
        · have q2 : ¬ ((more.length : Int) + 7 ≤ 192) := by omega
          have hap := append_full hL9.jrn (by simp) (Nat.zero_le _) am cm more hm3 hmc (hmB.below hL9.below) hf (by simp; omega)
          go_wp2_with fail
          refine hap.mono ?_
          rintro e w10 ⟨rfl, hb10⟩
          have hL10 := hL9.kept hb10
          go_wp2_with fail
          go_ret
          exact ⟨(by show Ending.returned (.bool (!decide ((more.length : Int) + 7 ≤ 192))) = _; rw [show decide ((more.length : Int) + 7 ≤ 192) = false from decide_eq_false (by omega)]; rfl), hL10.below⟩
      · have hap := append_bad jb am cm more _ hm3 hm2 hmc (hmB.below hL9.below) hf
        have hf2 := hf
        unfold Pl.fits at hf2
        by_cases h1 : 1 ≤ more.length
        · have q1 : (1 : Int) ≤ (more.length : Int) := by omega
          have q2 : ¬ ((more.length : Int) + 7 ≤ 192) := by omega
          go_wp2_with fail
          refine hap.mono ?_
          rintro e w10 ⟨rfl, hb10⟩
          have hL10 := hL9.kept hb10
          go_wp2_with fail
          go_ret
          exact ⟨(by show Ending.returned (.bool (!decide ((more.length : Int) + 7 ≤ 192))) = _; rw [show decide ((more.length : Int) + 7 ≤ 192) = false from decide_eq_false (by omega)]; rfl), hL10.below⟩
        · have q1 : ¬ ((1 : Int) ≤ (more.length : Int)) := by omega
          go_wp2_with fail
          refine hap.mono ?_
          rintro e w10 ⟨rfl, hb10⟩
          have hL10 := hL9.kept hb10
          go_wp2_with fail
          go_ret
          exact ⟨rfl, hL10.below⟩
end Go.Proofs.Ytinhednmfldmbaa.Dk
