/- slices.Chunk: the pieces of a row, told to a loop's body. -/
import Derived.RangeFuncBox
import Derived.RangeFuncLeaves
import Derived.Shelf.Abstract
import Derived.Sort.QuietTacIn
import Derived.WalkKit
import Derived.OwnWalkIn
import Derived.TacticsInMore
import Derived.LoopNIn
import Derived.LoopIn
import Derived.Test.YtnemnhfdjofckaaBy
namespace Go.Proofs.Ytnemnhfdjofckaa.Ck
open Go Go.RowKit Go.Shelf
attribute [local go_sem] Oper.semAt_some
/-- The k-th piece of a row of L bytes at an address. -/
def piece (ad : Addr) (L k : Nat) : Value := .slice (some (ad.add (4000 * k))) (min 4000 (L - 4000 * k)) (min 4000 (L - 4000 * k))
def count (L : Nat) : Nat := (L + 3999) / 4000
theorem pnums (k L c : Nat) (h : 4000 * k < L) (hL : L ≤ 1000000000) (hc : L ≤ c) : ∃ i m e : Int, ((4000 * k : Nat) : Int) = i ∧ min 4000 ((L : Int) - i) = m ∧ i + m = e ∧ wrap64 (i + m) = e ∧ IntKind.i64.wrap (i + m) = e ∧ wrap64 (i + 4000) = ((4000 * (k + 1) : Nat) : Int) ∧ 0 ≤ i ∧ i ≤ e ∧ e ≤ (c : Int) ∧ i < (L : Int) ∧ i ≤ (L : Int) ∧ i.toNat = 4000 * k ∧ (L - i.toNat : Nat) = L - 4000 * k ∧ e.toNat - i.toNat = min 4000 (L - 4000 * k) ∧ m = ((min 4000 (L - 4000 * k) : Nat) : Int) ∧ min (4000 : Int) (((L - 4000 * k : Nat)) : Int) = m ∧ ¬ e.toNat = i.toNat :=
  ⟨_, _, _, rfl, rfl, rfl, by unfold wrap64; omega, by rw [IntKind.wrap_i64]; omega, by unfold wrap64; omega, by omega, by omega, by omega, by omega, by omega, by omega, by omega, by omega, by omega, by omega, by omega⟩
/-- Two blocks lie as they lay. -/
def Two (B1 B2 : Nat) (A C : World) : Prop := C.heap[B1]? = A.heap[B1]? ∧ C.heap[B2]? = A.heap[B2]?
theorem Two.refl (B1 B2 : Nat) (A : World) : Two B1 B2 A A := ⟨rfl, rfl⟩
theorem Two.trans {B1 B2 : Nat} {A B C : World} (h : Two B1 B2 A B) (k : Two B1 B2 B C) : Two B1 B2 A C := ⟨k.1.trans h.1, k.2.trans h.2⟩
theorem Two.below {B1 B2 : Nat} {A C : World} (h : Below A.heap.size A C) (h1 : B1 < A.heap.size) (h2 : B2 < A.heap.size) : Two B1 B2 A C := ⟨h.block B1 h1, h.block B2 h2⟩
set_option maxRecDepth 100000 in
set_option maxHeartbeats 2000000 in
theorem chunk1_in (F : Fence) (n : Nat) (h7 : F.fn 36) (hro : F.round = none) (hn : 1 ≤ n) (l B1 B2 L cap : Nat) (ad : Addr) (hL : L ≤ 1000000000) (hc : L ≤ cap) (J Jx : List Nat → World → Prop)
    (hY : ∀ pre x W, J pre W → pre.length < count L → YieldAt F (n - 1) Try.prog l #[piece ad L x] W fun e W' =>
      (e = .returned (.bool true) ∧ J (pre ++ [x]) W' ∧ Two B1 B2 W W') ∨ (e = .returned (.bool false) ∧ Jx (pre ++ [x]) W'))
    (hJd : ∀ pre W m, J pre W → J pre (W.drewN m))
    (W : World) (hB1 : W.cell? ⟨B1, 0, none⟩ = some (.slice (some ad) L cap)) (hB2 : W.cell? ⟨B2, 0, none⟩ = some (.int .i64 4000)) (h0 : J [] W) :
    CallsIn F n Try.prog 36 #[.func (.yield l) #[] #[], .pointer (some ⟨B1, 0, none⟩), .pointer (some ⟨B2, 0, none⟩)] W fun e W' => (∃ v, e = .returned v) ∧
      ((∃ ys, ys = List.range (count L) ∧ J ys W') ∨ (∃ pre, (∃ k, k ≤ count L ∧ pre = List.range k) ∧ Jx pre W')) := by
  refine callsIn_of_wp Try.func36 rfl h7 ?_ hro
  simp only [Try.ntmps36, List.size_toArray, List.length_cons, List.length_nil, Nat.reduceAdd, Nat.reduceSub, Array.replicate_succ, Array.replicate_zero, List.push_toArray, List.append_toArray, List.nil_append, List.cons_append]
  gi_wp2
  gi_loopw [4] (fun i wr => ∃ k : Nat, k ≤ count L ∧ i = .int .i64 ((4000 * k : Nat) : Int) ∧ J (List.range k) wr ∧ Two B1 B2 W wr)
    (fun i _ => count L * 4000 - (intOf i).toNat)
  case atStart => exact ⟨0, Nat.zero_le _, rfl, h0, Two.refl _ _ _⟩
  case round =>
    obtain ⟨k, hk, rfl, hJs, hnx⟩ := hrel
    have c1_ : wr.cell? ⟨B1, 0, none⟩ = some (.slice (some ad) L cap) := (World.cell?_of_block hnx.1).trans hB1
    have c2_ : wr.cell? ⟨B2, 0, none⟩ = some (.int .i64 4000) := (World.cell?_of_block hnx.2).trans hB2
    by_cases hlt : 4000 * k < L
    · obtain ⟨i, m, e, e1, e2, e3, e4, e5, e6, e7, e8, e9, e10, e11, e12, e13, e14, e15, e16, e17⟩ := pnums k L cap hlt hL hc
      rw [e1]
      gi_wp2
      refine wpIn_region_quiet_lit hro (by kernel_rfl) (by kernel_rfl) ?_
      repeat (quiet_step_in (fail))
      refine wpQuietIn_nil ?_
      intro _ hw'
      obtain ⟨nq, hw''⟩ := hw'
      subst hw''
      have hmn : (if ((L - 4000 * k : Nat) : Int) < 4000 then ((L - 4000 * k : Nat) : Int) else 4000) = m := by clear e4 e5 e6; split <;> omega
      rw [hmn]
      obtain ⟨wd, hwd⟩ : ∃ wd, wr.drewN nq = wd := ⟨_, rfl⟩
      have d1_ : wd.cell? ⟨B1, 0, none⟩ = some (.slice (some ad) L cap) := by rw [← hwd]; exact c1_
      have d2_ : wd.cell? ⟨B2, 0, none⟩ = some (.int .i64 4000) := by rw [← hwd]; exact c2_
      have hJd' : J (List.range k) wd := by rw [← hwd]; exact hJd _ _ _ hJs
      have hnd : Two B1 B2 W wd := by rw [← hwd]; exact hnx
      rw [hwd]
      have hkc : k < count L := by unfold count; omega
      obtain ⟨fn, tmps, assign, body, hy, hR⟩ := hY (List.range k) k wd hJd' (by simpa using hkc)
      have hpc : piece ad L k = .slice (some (ad.add (4000 * k))) (min 4000 (L - 4000 * k)) (min 4000 (L - 4000 * k)) := rfl
      obtain ⟨pl, hpl⟩ : ∃ pl, min 4000 (L - 4000 * k) = pl := ⟨_, rfl⟩
      rw [hpc, hpl] at hy
      have e18 : e.toNat - 4000 * k = pl := by rw [← hpl, ← e14, e12]
      clear hmn hpc hpl e14 hwd c1_ c2_ hJs hnx hJd' e1 e2 e3 e15 e16
      gi_wp2
      all_goals
        refine hR.mono ?_
        rintro e W3 (⟨rfl, hJ3, hk3⟩ | ⟨rfl, hJx3⟩)
        · have d2x_ : W3.cell? ⟨B2, 0, none⟩ = some (.int .i64 4000) := (World.cell?_of_block hk3.2).trans d2_
          gi_wp2
          go_roundw
          case rel => exact ⟨k + 1, by omega, by simp; omega, by rw [List.range_succ]; exact hJ3, hnd.trans hk3⟩
          case measure => simp [intOf]; omega
        · gi_wp2
          refine bodyPost_ret (results_none rfl _ _ _) rfl ?_
          exact ⟨⟨_, rfl⟩, .inr ⟨_, ⟨k + 1, by omega, List.range_succ.symm⟩, hJx3⟩⟩
    · obtain rfl : k = count L := by unfold count at hk ⊢; omega
      have hge : ¬ (((4000 * count L : Nat)) : Int) < (L : Int) := by omega
      obtain ⟨i, hi⟩ : ∃ i : Int, ((4000 * count L : Nat) : Int) = i := ⟨_, rfl⟩
      rw [hi] at hge ⊢
      gi_wp2
      go_end0
      exact ⟨⟨_, rfl⟩, .inl hJs⟩
/-- A row of no bytes: no piece. -/
theorem chunk0_in (F : Fence) (n : Nat) (h7 : F.fn 36) (hro : F.round = none) (l B1 B2 : Nat) (A : Option Addr) (cap : Nat) (J : List Nat → World → Prop)
    (W : World) (hB1 : W.cell? ⟨B1, 0, none⟩ = some (.slice A 0 cap)) (h0 : J [] W) :
    CallsIn F n Try.prog 36 #[.func (.yield l) #[] #[], .pointer (some ⟨B1, 0, none⟩), .pointer (some ⟨B2, 0, none⟩)] W fun e W' => (∃ v, e = .returned v) ∧ J [] W' := by
  refine callsIn_of_wp Try.func36 rfl h7 ?_ hro
  simp only [Try.ntmps36, List.size_toArray, List.length_cons, List.length_nil, Nat.reduceAdd, Nat.reduceSub, Array.replicate_succ, Array.replicate_zero, List.push_toArray, List.append_toArray, List.nil_append, List.cons_append]
  gi_wp2
  gi_loopw [4] (fun i wr => i = .int .i64 0 ∧ wr = W) (fun _ _ => 0)
  case atStart => exact ⟨rfl, rfl⟩
  case round =>
    obtain ⟨rfl, rfl⟩ := hrel
    gi_wp2
    go_end0
    exact ⟨⟨_, rfl⟩, h0⟩
/-- slices.Chunk(b, 4000): what it hands back. -/
theorem chunk_in (F : Fence) (n : Nat) (h5 : F.fn 22) (hro : F.round = none) (A : Option Addr) (L cap : Nat) (w : World) :
    CallsIn F n Try.prog 22 #[.slice A L cap, .int .i64 4000] w fun e w' => e = .returned (.func (.func 36) #[] #[.pointer (some ⟨w.heap.size, 0, none⟩), .pointer (some ⟨w.heap.size + 1, 0, none⟩)]) ∧
      w' = (w.alloc (.cells #[.slice A L cap] 38)).alloc (.cells #[.int .i64 4000] 3) := by
  refine callsIn_of_wp Try.func22 rfl h5 ?_ hro
  simp only [Try.ntmps22, List.size_toArray, List.length_cons, List.length_nil, Nat.reduceAdd, Nat.reduceSub, Array.replicate_succ, Array.replicate_zero, List.push_toArray, List.append_toArray, List.nil_append, List.cons_append]
  gi_wp2
  go_ret
  exact ⟨rfl, rfl⟩
theorem grown_drewN (W : World) (m : Nat) : W.grownBy (W.drewN m) none := ⟨rfl, rfl, rfl, Nat.le_refl _, fun _ _ _ => rfl⟩
/-- slices.Chunk(b, 4000) hands back a value that tells the pieces, in order; or a beginning of them. -/
theorem chunk_stops (F : Fence) (n : Nat) (h7 : F.fn 36) (hro : F.round = none) (hn : 1 ≤ n) (B1 B2 L cap : Nat) (ad : Addr) (hL : L ≤ 1000000000) (hc : L ≤ cap) (w : World) (hb1 : B1 < w.heap.size) (hb2 : B2 < w.heap.size)
    (hB1 : w.cell? ⟨B1, 0, none⟩ = some (.slice (some ad) L cap)) (hB2 : w.cell? ⟨B2, 0, none⟩ = some (.int .i64 4000)) :
    SeqStopsK F n Try.prog 36 #[.pointer (some ⟨B1, 0, none⟩), .pointer (some ⟨B2, 0, none⟩)] (fun x : Nat => #[piece ad L x]) (Two B1 B2) (fun ys => ys = List.range (count L)) (fun pre => ∃ k, k ≤ count L ∧ pre = List.range k) (count L) w := fun l J Jx W hW hJ _ hY h0 =>
  chunk1_in F n h7 hro hn l B1 B2 L cap ad hL hc J Jx hY (fun pre W1 m hj => hJ pre W1 (W1.drewN m) none hj (grown_drewN W1 m) (fun r e => by cases e)) W ((hW.cell (p := ⟨B1, 0, none⟩) hb1).trans hB1) ((hW.cell (p := ⟨B2, 0, none⟩) hb2).trans hB2) h0
end Go.Proofs.Ytnemnhfdjofckaa.Ck
