/- The disk in memory; what its small functions do. -/
import Derived.Test.YtinhednmfldmbaaProg
import Derived.Test.YtinhednmfldmbaaMap
import Derived.Test.YtinhednmfldmbaaMono
import Derived.WalkKit
import Derived.Laws.AppendOwn
import Derived.Deep.MidRow
import Derived.Carry
namespace Go.Proofs.Ytinhednmfldmbaa.Dk
open Go Go.RowKit Hp

/-- A block's value. -/
def blk (l : List Int) : Value := .agg (l.map (.int .u8)).toArray
def zeros : List Int := List.replicate 32 0
def bmap (M : Int → Option (List Int)) : Int → Option Value := fun n => (M n).map blk
def upd (M : Int → Option (List Int)) (n : Int) (l : List Int) : Int → Option (List Int) := fun k => if k = n then some l else M k
theorem put_bmap (M : Int → Option (List Int)) (n : Int) (l : List Int) : put (bmap M) n (blk l) = bmap (upd M n l) := by
  funext k
  unfold put bmap upd
  by_cases h : k = n <;> simp [h]
theorem bmap_none : bmap (fun _ => none) = fun _ => none := rfl
/-- The cells of writes. -/
def wcells (l : List (Int × List Int)) : List Value := l.flatMap fun p => .int .i64 p.1 :: p.2.map (.int .u8)
/-- A disk's state. -/
structure St where
  size : Int
  first : Int → Option (List Int)
  now : Int → Option (List Int)
  calls : List (Int × List Int)
structure St.Ok (D : St) : Prop where
  pos : 1 ≤ D.size
  le : D.size ≤ 65536
  first : ∀ n l, D.first n = some l → l.length = 32
  now : ∀ n l, D.now n = some l → l.length = 32
  calls : ∀ p ∈ D.calls, p.2.length = 32
/-- A disk: its blocks are block b, the maps m1 and m2, and the row of its calls. -/
structure DiskIs (w : World) (b m1 m2 : Nat) (sv : Value) (D : St) : Prop where
  head : w.heap[b]? = some (.cells #[.int .i64 D.size, .map (some m1), .map (some m2), sv] 76 (0, 0))
  first : MapIs w m1 (bmap D.first)
  now : MapIs w m2 (bmap D.now)
  apart : m1 ≠ m2
  row : w.ownsRow 0 81 33 sv D.calls.length (wcells D.calls)
  far : sv.ownBlock ≠ some b
  ok : D.Ok
/-- The blocks of a disk. -/
def foot (b m1 m2 : Nat) (sv : Value) (k : Nat) : Prop := k = b ∨ k = m1 ∨ k = m2 ∨ sv.ownBlock = some k
theorem DiskIs.cells {w : World} {b m1 m2 : Nat} {sv : Value} {D : St} (h : DiskIs w b m1 m2 sv D) :
    w.cell? ⟨b, 0, none⟩ = some (.int .i64 D.size) ∧ w.cell? ⟨b, 1, none⟩ = some (.map (some m1)) ∧ w.cell? ⟨b, 2, none⟩ = some (.map (some m2)) ∧ w.cell? ⟨b, 3, none⟩ = some sv := by
  have := h.head
  simp [World.cell?, this]
theorem own_kept {S : Nat → Prop} {w w' : World} {base : Nat} {e : TypeId} {size : Nat} {v : Value} {n : Nat} {xs : List Value} (h : w.ownsRow base e size v n xs) (k : Kept S w w') (hv : ∀ i, v.ownBlock = some i → ¬ S i) : w'.ownsRow base e size v n xs := by
  obtain ⟨h1, h2⟩ := h
  refine ⟨h1, ?_⟩
  rcases h2 with h2 | ⟨g, cap, cur, hv', hg, hh, r⟩
  · exact .inl h2
  · exact .inr ⟨g, cap, cur, hv', hg, k.heap hh (hv g (by rw [hv']; rfl)), r⟩
theorem DiskIs.kept {S : Nat → Prop} {w w' : World} {b m1 m2 : Nat} {sv : Value} {D : St} (h : DiskIs w b m1 m2 sv D) (k : Kept S w w') (hS : ∀ i, foot b m1 m2 sv i → ¬ S i) : DiskIs w' b m1 m2 sv D :=
  ⟨k.heap h.head (hS b (.inl rfl)), h.first.kept k (hS m1 (.inr (.inl rfl))), h.now.kept k (hS m2 (.inr (.inr (.inl rfl)))), h.apart, own_kept h.row k (fun i hi => hS i (.inr (.inr (.inr hi)))), h.far, h.ok⟩
theorem DiskIs.below {w w' : World} {b m1 m2 : Nat} {sv : Value} {D : St} (h : DiskIs w b m1 m2 sv D) (k : Below w.heap.size w w') : DiskIs w' b m1 m2 sv D :=
  h.kept (Kept.of_below (S := fun _ => False) k) (fun _ _ e => e)
theorem DiskIs.lt {w : World} {b m1 m2 : Nat} {sv : Value} {D : St} (h : DiskIs w b m1 m2 sv D) : ∀ i, foot b m1 m2 sv i → i < w.heap.size := by
  rintro i (rfl | rfl | rfl | hi)
  · exact lt_of_heap h.head
  · exact h.first.lt
  · exact h.now.lt
  · exact (h.row.lt i hi).2
theorem new_calls (n : Int) (w : World) (h1 : 1 ≤ n) (h2 : n ≤ 65536) :
    Calls Try.prog 12 #[.int .i64 n] w fun e w' => ∃ b m1 m2, e = .returned (.tuple #[.pointer (some ⟨b, 0, none⟩), .int .i64 0]) ∧ Below w.heap.size w w' ∧ (∀ i, foot b m1 m2 (.slice none 0 0) i → w.heap.size ≤ i) ∧
      DiskIs w' b m1 m2 (.slice none 0 0) ⟨n, fun _ => none, fun _ => none, []⟩ := by
  have hmm := @run_makeMap Try.prog
  go_enter Try.func12, Try.ntmps12
  go_wp2
  go_ret2
  have k1 : Below w.heap.size w (w.alloc (.map #[] 0)) := (Below.refl _ _).alloc (Nat.le_refl _) _
  have k2 : Below (w.alloc (.map #[] 0)).heap.size (w.alloc (.map #[] 0)) ((w.alloc (.map #[] 0)).alloc (.map #[] 0)) := (Below.refl _ _).alloc (Nat.le_refl _) _
  have k3 := fun o => (Below.refl ((w.alloc (.map #[] 0)).alloc (.map #[] 0)).heap.size ((w.alloc (.map #[] 0)).alloc (.map #[] 0))).alloc (Nat.le_refl _) o
  have M1 := (MapIs.new w).kept (Kept.of_below (S := fun _ => False) k2) (fun e => e)
  have M2 := MapIs.new (w.alloc (.map #[] 0))
  have hh := fun o => heap_alloc_new ((w.alloc (.map #[] 0)).alloc (.map #[] 0)) o
  have hs1 : (w.alloc (.map #[] 0)).heap.size = w.heap.size + 1 := by simp
  have hs2 : ((w.alloc (.map #[] 0)).alloc (.map #[] 0)).heap.size = w.heap.size + 1 + 1 := by simp
  rw [hs1] at M2
  rw [hs2] at hh
  refine ⟨_, w.heap.size, w.heap.size + 1, rfl, (k1.trans (k2.mono (by simp))).trans ((k3 _).mono (by simp; omega)), ?_, ⟨hh _, ?_, ?_, ?_, World.ownsRow_nil _ _ _ _, by simp [Value.ownBlock], ⟨h1, h2, by simp, by simp, by simp⟩⟩⟩
  · rintro i (rfl | rfl | rfl | hi)
    · omega
    · exact Nat.le_refl _
    · omega
    · simp [Value.ownBlock] at hi
  · exact M1.kept (Kept.of_below (S := fun _ => False) (k3 _)) (fun e => e)
  · exact M2.kept (Kept.of_below (S := fun _ => False) (k3 _)) (fun e => e)
  · omega
theorem new_bad (n : Int) (w : World) (h : n < 1 ∨ 65536 < n) :
    Calls Try.prog 12 #[.int .i64 n] w fun e w' => e = .returned (.tuple #[.pointer none, .int .i64 1]) ∧ w = w' := by
  by_cases h1 : n < 1
  · go_enter Try.func12, Try.ntmps12
    go_wp2
    go_ret2
    exact ⟨rfl, rfl⟩
  · have h2 : 65536 < n := by omega
    go_enter Try.func12, Try.ntmps12
    go_wp2
    go_ret2
    exact ⟨rfl, rfl⟩
theorem check_nil (n : Int) (w : World) : Calls Try.prog 40 #[.pointer none, .int .i64 n] w fun e w' => e = .returned (.int .i64 1) ∧ w = w' := by
  go_enter Try.func40, Try.ntmps40
  go_wp2
  go_ret
  exact ⟨rfl, rfl⟩
theorem check_ok (b : Nat) (s n : Int) (w : World) (hc : w.cell? ⟨b, 0, none⟩ = some (.int .i64 s)) (h0 : 0 ≤ n) (h1 : n < s) : Calls Try.prog 40 #[.pointer (some ⟨b, 0, none⟩), .int .i64 n] w fun e w' => e = .returned (.int .i64 0) ∧ w = w' := by
  go_enter Try.func40, Try.ntmps40
  go_wp2
  go_ret
  exact ⟨rfl, rfl⟩
theorem check_bad (b : Nat) (s n : Int) (w : World) (hc : w.cell? ⟨b, 0, none⟩ = some (.int .i64 s)) (h : n < 0 ∨ s ≤ n) : Calls Try.prog 40 #[.pointer (some ⟨b, 0, none⟩), .int .i64 n] w fun e w' => e = .returned (.int .i64 21) ∧ w = w' := by
  by_cases h0 : n < 0
  · go_enter Try.func40, Try.ntmps40
    go_wp2
    go_ret
    exact ⟨rfl, rfl⟩
  · have h1 : s ≤ n := by omega
    go_enter Try.func40, Try.ntmps40
    go_wp2
    go_ret
    exact ⟨rfl, rfl⟩
theorem blocks_nil (w : World) : Calls Try.prog 23 #[.pointer none] w fun e w' => e = .returned (.int .i64 0) ∧ w = w' := by
  go_enter Try.func23, Try.ntmps23
  go_wp2
  go_ret
  exact ⟨rfl, rfl⟩
theorem blocks_calls (b : Nat) (s : Int) (w : World) (hc : w.cell? ⟨b, 0, none⟩ = some (.int .i64 s)) : Calls Try.prog 23 #[.pointer (some ⟨b, 0, none⟩)] w fun e w' => e = .returned (.int .i64 s) ∧ w = w' := by
  go_enter Try.func23, Try.ntmps23
  go_wp2
  go_ret
  exact ⟨rfl, rfl⟩
theorem sync_nil (w : World) : Calls Try.prog 16 #[.pointer none] w fun e w' => e = .returned (.int .i64 1) ∧ w = w' := by
  go_enter Try.func16, Try.ntmps16
  go_wp2
  go_ret
  exact ⟨rfl, rfl⟩
theorem calls_nil (w : World) : Calls Try.prog 21 #[.pointer none] w fun e w' => e = .returned (.int .i64 0) ∧ w = w' := by
  go_enter Try.func21, Try.ntmps21
  go_wp2
  go_ret
  exact ⟨rfl, rfl⟩
theorem calls_calls (b : Nat) (a : Option Addr) (n c : Nat) (w : World) (hc : w.cell? ⟨b, 3, none⟩ = some (.slice a n c)) : Calls Try.prog 21 #[.pointer (some ⟨b, 0, none⟩)] w fun e w' => e = .returned (.int .i64 n) ∧ w = w' := by
  go_enter Try.func21, Try.ntmps21
  go_wp2
  go_ret
  exact ⟨rfl, rfl⟩
theorem write_nil (n : Int) (v : Value) (w : World) : Calls Try.prog 14 #[.pointer none, .int .i64 n, v] w fun e w' => e = .returned (.int .i64 1) ∧ w = w' := by
  go_enter Try.func14, Try.ntmps14
  go_wp2_with (go_at_call 40; refine (check_nil _ _).mono ?_; rintro e w1 ⟨rfl, rfl⟩)
  go_ret
  exact ⟨rfl, rfl⟩
theorem write_bad (b : Nat) (s n : Int) (v : Value) (w : World) (hc : w.cell? ⟨b, 0, none⟩ = some (.int .i64 s)) (h : n < 0 ∨ s ≤ n) : Calls Try.prog 14 #[.pointer (some ⟨b, 0, none⟩), .int .i64 n, v] w fun e w' => e = .returned (.int .i64 21) ∧ w = w' := by
  go_enter Try.func14, Try.ntmps14
  go_wp2_with (go_at_call 40; refine (check_bad _ _ _ _ hc h).mono ?_; rintro e w1 ⟨rfl, rfl⟩)
  go_ret
  exact ⟨rfl, rfl⟩
theorem write_short (b : Nat) (s n : Int) (a : Option Addr) (k c : Nat) (w : World) (hc : w.cell? ⟨b, 0, none⟩ = some (.int .i64 s)) (h0 : 0 ≤ n) (h1 : n < s) (hk : k ≠ 32) : Calls Try.prog 14 #[.pointer (some ⟨b, 0, none⟩), .int .i64 n, .slice a k c] w fun e w' => e = .returned (.int .i64 1) ∧ w = w' := by
  have hk' : ((k : Int) != 32) = true := by simp; omega
  go_enter Try.func14, Try.ntmps14
  go_wp2_with (go_at_call 40; refine (check_ok _ _ _ _ hc h0 h1).mono ?_; rintro e w1 ⟨rfl, rfl⟩)
  go_ret
  exact ⟨rfl, rfl⟩
theorem read_nil (n : Int) (w : World) : Calls Try.prog 22 #[.pointer none, .int .i64 n] w fun e w' => e = .returned (.tuple #[.slice none 0 0, .int .i64 1]) ∧ w = w' := by
  go_enter Try.func22, Try.ntmps22
  go_wp2_with (go_at_call 40; refine (check_nil _ _).mono ?_; rintro e w1 ⟨rfl, rfl⟩)
  go_ret2
  exact ⟨rfl, rfl⟩
theorem read_bad (b : Nat) (s n : Int) (w : World) (hc : w.cell? ⟨b, 0, none⟩ = some (.int .i64 s)) (h : n < 0 ∨ s ≤ n) : Calls Try.prog 22 #[.pointer (some ⟨b, 0, none⟩), .int .i64 n] w fun e w' => e = .returned (.tuple #[.slice none 0 0, .int .i64 21]) ∧ w = w' := by
  go_enter Try.func22, Try.ntmps22
  go_wp2_with (go_at_call 40; refine (check_bad _ _ _ _ hc h).mono ?_; rintro e w1 ⟨rfl, rfl⟩)
  go_ret2
  exact ⟨rfl, rfl⟩
set_option maxRecDepth 100000 in
theorem cut_nil (x : Int) (k : Value) (y : Int) (w : World) : Calls Try.prog 18 #[.pointer none, .int .i64 x, k, .int .i64 y] w fun e w' => e = .returned (.pointer none) ∧ w = w' := by
  go_enter Try.func18, Try.ntmps18
  go_wp2
  go_ret
  exact ⟨rfl, rfl⟩
end Go.Proofs.Ytinhednmfldmbaa.Dk
