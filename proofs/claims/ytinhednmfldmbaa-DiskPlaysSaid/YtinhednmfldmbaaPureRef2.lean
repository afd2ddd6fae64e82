/- The reference's disk after a loss of power reads as the disk's. -/
import Derived.Test.YtinhednmfldmbaaPureRef
namespace Go.Proofs.Ytinhednmfldmbaa.Dk
open Go Go.RowKit Hp Rd

theorem RSt.at_add (R : RSt) (m : Int) (b : List Int) (n : Int) : (R.add m b).at n = if m = n then b else R.at n := by
  unfold RSt.at RSt.add
  simp only [List.foldl_append, List.foldl_cons, List.foldl_nil]
theorem getD_upd (M : BM) (m : Int) (b : List Int) (n : Int) : (upd M m b n).getD zeros = if m = n then b else (M n).getD zeros := by
  unfold upd
  by_cases h : m = n
  · rw [if_pos h.symm, if_pos h]; rfl
  · rw [if_neg (fun e => h e.symm), if_neg h]
/-- The reference's disk x, j of the kept calls laid. -/
def xdisk (t : Nat) (torn : Int) (dn : List Wr) (R0 : RSt) : Nat → RSt
  | 0 => R0
  | j + 1 => match dn[j]? with
    | none => xdisk t torn dn R0 j
    | some c => (xdisk t torn dn R0 j).add c.1 (if (j : Int) = torn then c.2.take t ++ ((xdisk t torn dn R0 j).at c.1).drop t else c.2)
theorem xdisk_succ (t : Nat) (torn : Int) (dn : List Wr) (R0 : RSt) (j : Nat) (c : Wr) (h : dn[j]? = some c) : xdisk t torn dn R0 (j + 1) = (xdisk t torn dn R0 j).add c.1 (if (j : Int) = torn then c.2.take t ++ ((xdisk t torn dn R0 j).at c.1).drop t else c.2) := by
  conv => lhs; unfold xdisk
  rw [h]
theorem xdisk_pre (t : Nat) (torn : Int) (wp kept : List Wr) (R0 : RSt) (M : BM) (h0 : ∀ n, R0.at n = (M n).getD zeros) (ht : torn = -1 ∨ (wp.length : Int) ≤ torn) : ∀ j, j ≤ wp.length → ∀ n, (xdisk t torn (wp ++ kept) R0 j).at n = (apply M (wp.take j) n).getD zeros
  | 0, _, n => h0 n
  | j + 1, hj, n => by
    obtain ⟨c, hc⟩ : ∃ c, wp[j]? = some c := ⟨_, List.getElem?_eq_getElem (by omega)⟩
    rw [xdisk_succ t torn _ R0 j c (by rw [List.getElem?_append_left (by omega)]; exact hc), if_neg (by omega), RSt.at_add, apply_succ wp M j c hc, getD_upd, xdisk_pre t torn wp kept R0 M h0 ht j (by omega) n]
theorem xdisk_post (t : Nat) (wp kept : List Wr) (R0 : RSt) (M : BM) (h0 : ∀ n, R0.at n = (M n).getD zeros) (torn : Int) (ht : torn = if kept.isEmpty then -1 else ((wp.length + kept.length : Nat) : Int) - 1) : ∀ i, i ≤ kept.length → ∀ n, (xdisk t torn (wp ++ kept) R0 (wp.length + i)).at n = (layN t kept (apply M wp) i n).getD zeros
  | 0, _, n => by
    have := xdisk_pre t torn wp kept R0 M h0 (by
      subst ht
      cases kept with
      | nil => exact .inl rfl
      | cons c k => right; simp; omega) wp.length (Nat.le_refl _) n
    rw [List.take_length] at this
    exact this
  | i + 1, hi, n => by
    obtain ⟨c, hc⟩ : ∃ c, kept[i]? = some c := ⟨_, List.getElem?_eq_getElem (by omega)⟩
    have ih := xdisk_post t wp kept R0 M h0 torn ht i (by omega)
    have htn : ((wp.length + i : Nat) : Int) = torn ↔ i + 1 = kept.length := by
      subst ht
      cases kept with
      | nil => simp at hi
      | cons c k => simp; omega
    rw [← Nat.add_assoc, xdisk_succ t torn _ R0 (wp.length + i) c (by rw [List.getElem?_append_right (by omega), Nat.add_sub_cancel_left]; exact hc), RSt.at_add, lay_succ t kept (apply M wp) i c hc, getD_upd, ih n, ih c.1]
    unfold tornOf
    by_cases hl : i + 1 = kept.length
    · rw [if_pos (htn.2 hl), if_pos hl]
    · rw [if_neg (fun e => hl (htn.1 e)), if_neg hl]
/-- What the reference's loss of power leaves reads as what the disk's leaves. -/
theorem xdisk_cut {D : St} {at_ torn : Int} {keep : List Bool} {R0 : RSt} {pre post : List Wr} (hp : Parted (D.calls.take (pick at_ (D.calls.length + 1)).toNat) pre post) (h0 : ∀ n, R0.at n = (D.first n).getD zeros) (n : Int) :
    (xdisk (pick torn 33).toNat (if (keepOf keep post).isEmpty then -1 else (((writes pre).length + (keepOf keep post).length : Nat) : Int) - 1) (writes pre ++ keepOf keep post) R0 (writes pre ++ keepOf keep post).length).at n = (D.cutM at_ keep torn n).getD zeros := by
  rw [List.length_append, xdisk_post _ (writes pre) (keepOf keep post) R0 D.first h0 _ rfl _ (Nat.le_refl _) n]
  unfold St.cutM
  rw [hp.drn D.first]
/-- The two disks' states, alike. -/
structure Alike (D : St) (R : RSt) : Prop where
  size : D.size = R.size
  calls : R.calls = D.calls
  first : ∀ n, R.first n = (D.first n).getD zeros
  inv : Inv D
  ok : D.Ok
  good : ∀ c ∈ D.calls, c.1 < 0 → c.1 = -1
theorem fold_at (n : Int) (h0 : 0 ≤ n) : ∀ (cs : List Wr) (a : List Int) (M : BM), a = (M n).getD zeros → cs.foldl (fun a c => if c.1 = n then c.2 else a) a = (apply M (writes cs) n).getD zeros
  | [], a, M, h => h
  | c :: cs, a, M, h => by
    rw [List.foldl_cons]
    by_cases hc : 0 ≤ c.1
    · have : writes (c :: cs) = c :: writes cs := by simp [writes, hc]
      rw [this]
      refine fold_at n h0 cs _ (upd M c.1 c.2) ?_
      rw [getD_upd, h]
    · have : writes (c :: cs) = writes cs := by simp [writes, hc]
      rw [this, if_neg (by omega)]
      exact fold_at n h0 cs a M h
theorem Alike.at {D : St} {R : RSt} (h : Alike D R) (n : Int) (h0 : 0 ≤ n) : D.at n = R.at n := by
  obtain ⟨pre, post, hp⟩ := parted _ D.calls rfl h.good
  unfold RSt.at St.at
  rw [h.calls, fold_at n h0 D.calls _ D.first (h.first n), ← h.inv, hp.drn D.first, apply_append]
  conv => rhs; rw [hp.eq, writes_append, writes_all hp.good]
theorem Alike.new (n : Nat) (h1 : 1 ≤ n) (h2 : n ≤ 65536) : Alike ⟨n, fun _ => none, fun _ => none, []⟩ ⟨n, fun _ => zeros, []⟩ :=
  ⟨rfl, rfl, fun _ => rfl, rfl, ⟨by show (1 : Int) ≤ (n : Int); omega, by show (n : Int) ≤ 65536; omega, by simp, by simp, by simp⟩, by simp⟩
theorem Alike.write {D : St} {R : RSt} (h : Alike D R) {n : Int} {l : List Int} (h0 : 0 ≤ n) (hl : l.length = 32) : Alike (D.write n l) (R.add n l) :=
  ⟨h.size, by simp [RSt.add, St.write, h.calls], h.first, inv_write h.inv l h0, St.write_ok h.ok hl, fun c hc hn => by
    rcases List.mem_append.1 hc with hc | hc
    · exact h.good c hc hn
    · rw [List.mem_singleton.1 hc] at hn; simp at hn; omega⟩
theorem Alike.sync {D : St} {R : RSt} (h : Alike D R) : Alike D.sync (R.add (-1) zeros) :=
  ⟨h.size, by simp [RSt.add, St.sync, h.calls], h.first, by
    show apply (drain D.sync.calls D.first).1 (drain D.sync.calls D.first).2 = D.now
    rw [drain_sync h.inv]
    rfl, St.sync_ok h.ok, fun c hc hn => by
    rcases List.mem_append.1 hc with hc | hc
    · exact h.good c hc hn
    · rw [List.mem_singleton.1 hc]⟩
theorem Alike.cut {D : St} {R : RSt} (h : Alike D R) (at_ torn : Int) (keep : List Bool) (f : Int → List Int) (hf : ∀ n, f n = (D.cutM at_ keep torn n).getD zeros) : Alike (D.cut at_ keep torn) ⟨R.size, f, []⟩ :=
  ⟨h.size, rfl, hf, rfl, St.cut_ok h.ok at_ keep torn, by simp [St.cut]⟩
end Go.Proofs.Ytinhednmfldmbaa.Dk
