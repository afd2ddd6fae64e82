/- The disk: a block read. -/
import Derived.Test.YtinhednmfldmbaaDisk1
import Derived.Deep.WholeRow
namespace Go.Proofs.Ytinhednmfldmbaa.Dk
open Go Go.RowKit Hp

theorem one_u8 (l : List Int) : ∀ u ∈ l.map (Value.int .u8), u.oneCell' = true := by
  intro u hu
  obtain ⟨x, _, rfl⟩ := List.mem_map.1 hu
  rfl
theorem info_u8 : (Try.prog.info? 5).map (fun i => (i.zero, i.size, i.bytes)) = some (some (.int .u8 0), 1, 1) := by kernel_rfl
theorem size_blk : (Try.prog.info? 79).map (·.size) = some 32 := by kernel_rfl
theorem zero_blk (w : World) : (zeroValue 79).run Try.prog w = .ok (blk zeros) w := by kernel_rfl
/-- What stands in block n. -/
def St.at (D : St) (n : Int) : List Int := (D.now n).getD zeros
theorem St.at_length (D : St) (h : D.Ok) (n : Int) : (D.at n).length = 32 := by
  unfold St.at
  cases hn : D.now n with
  | none => rfl
  | some l => exact h.now n l hn
theorem look_now {w : World} {b m1 m2 : Nat} {sv : Value} {D : St} (h : DiskIs w b m1 m2 sv D) (n : Int) : (Instr.lookup 73 (.map (some m2)) (.int .i64 n) false).run Try.prog w = .ok (blk (D.at n)) w := by
  rw [run_look h.now Try.underlying73 Try.underlying3 (zero_blk w) n]
  unfold bmap St.at
  cases D.now n <;> rfl
set_option maxHeartbeats 1000000 in
set_option maxRecDepth 100000 in
theorem read_ok (b m1 m2 : Nat) (sv : Value) (D : St) (n : Int) (w : World) (h : DiskIs w b m1 m2 sv D) (h0 : 0 ≤ n) (h1 : n < D.size) :
    Calls Try.prog 22 #[.pointer (some ⟨b, 0, none⟩), .int .i64 n] w fun e w' => ∃ v, e = .returned (.tuple #[v, .int .i64 0]) ∧ Below w.heap.size w w' ∧ w'.ownsRow w.heap.size 5 1 v 32 ((D.at n).map (.int .u8)) := by
  obtain ⟨c0, c1, c2, c3⟩ := h.cells
  have hlk := look_now h n
  have hlen := h.ok
  obtain ⟨l, hl⟩ : ∃ l, D.at n = l := ⟨_, rfl⟩
  have hl32 := D.at_length h.ok n
  rw [hl] at hlk hl32 ⊢
  unfold blk at hlk
  have hst := fun (W : World) (c : Array Value) (hc : c.size = 32) => run_storeCells_new (P := Try.prog) W 79 c (l.map (Value.int .u8)).toArray (by rw [size_blk]; simp [hl32]) (by simp [hl32, hc]) (all_oneCell_toArray (one_u8 l))
  obtain ⟨i0, hi, hz⟩ := Option.map_eq_some_iff.1 info_u8
  simp only [Prod.mk.injEq] at hz
  obtain ⟨hz0, hz1, hz2⟩ := hz
  go_enter Try.func22, Try.ntmps22
  go_wp2_with (first | (go_at_call 40; refine (check_ok _ _ _ _ c0 h0 h1).mono ?_; rintro e w1 ⟨rfl, rfl⟩) | (at_builtin; refine wpList_append_own _ rfl _ _ 31 rfl w.heap.size 5 i0 (.int .u8 0) 1 1 Try.underlying31 hi hz0 hz1 hz2 rfl (by decide) _ _ _ rfl (World.ownsRow_nil _ _ _ _) ⟨w.heap.size, 0, none⟩ 32 32 (l.map (Value.int .u8)) rfl ?c1 ?c2 ?c3 ?c4 ?c5 ?c6 ?_))
  case c1 => simp [hl32]
  case c2 =>
    intro j u hu
    rw [Addr.add_mid, Nat.zero_add]
    simp only [World.cell?, heap_alloc_new]
    simpa using hu
  case c3 => exact one_u8 l
  case c4 => unfold maxLen; omega
  case c5 => omega
  case c6 => simp
  intro v' w' hown hgr _
  go_wp2
  go_ret2
  exact ⟨_, rfl, ((Below.refl _ _).alloc (Nat.le_refl _) _).grown hgr (by simp) (by intro k hk; simp [Value.ownBlock] at hk), hown⟩
theorem own_len {w : World} {base : Nat} {e : TypeId} {size : Nat} {v : Value} {n : Nat} {xs : List Value} (h : w.ownsRow base e size v n xs) : ∃ a c, v = .slice a n c := by
  rcases h.2 with ⟨h1, h2⟩ | ⟨g, cap, cur, h1, _⟩
  · subst h2; exact ⟨_, _, h1⟩
  · exact ⟨_, _, h1⟩
set_option maxHeartbeats 1000000 in
set_option maxRecDepth 100000 in
theorem alive_calls (w : World) : Calls Try.prog 11 #[] w fun e w' => e = .returned (.bool true) ∧ Below w.heap.size w w' := by
  go_enter Try.func11, Try.ntmps11
  go_wp2_with (fail)
  refine (new_calls 2 _ (by decide) (by decide)).mono ?_
  rintro e w1 ⟨b, m1, m2, rfl, hb1, -, hD⟩
  go_wp2_with (fail)
  refine (read_ok b m1 m2 _ _ 1 w1 hD (by decide) (by decide)).mono ?_
  rintro e w2 ⟨v, rfl, hb2, hown⟩
  obtain ⟨a, c, rfl⟩ := own_len hown
  have hD2 := hD.below hb2
  obtain ⟨c0, -⟩ := hD2.cells
  have hs1 := hb1.size
  go_wp2_with (fail)
  refine (read_bad b 2 2 w2 c0 (Or.inr (by decide))).mono ?_
  rintro e w3 ⟨rfl, rfl⟩
  go_wp2_with (fail)
  refine (blocks_calls b 2 w2 c0).mono ?_
  rintro e w3 ⟨rfl, rfl⟩
  go_wp2
  go_ret
  exact ⟨rfl, hb1.trans (hb2.mono hs1)⟩
end Go.Proofs.Ytinhednmfldmbaa.Dk
