/- No journal. -/
import Derived.Test.YtinhednmfldmbaaPackB
namespace Go.Proofs.Ytinhednmfldmbaa.Dk
open Go Go.RowKit Hp Rd

theorem jroom_nil (w : World) : Calls Try.prog 26 #[.pointer none] w fun e w' => e = .returned (.int .i64 0) ∧ w = w' := by
  go_enter Try.func26, Try.ntmps26
  go_wp2
  go_ret
  exact ⟨rfl, rfl⟩
theorem jsync_nil (w : World) : Calls Try.prog 30 #[.pointer none] w fun e w' => e = .returned (.int .i64 1) ∧ w = w' := by
  go_enter Try.func30, Try.ntmps30
  go_wp2
  go_ret
  exact ⟨rfl, rfl⟩
theorem jclear_nil (w : World) : Calls Try.prog 29 #[.pointer none] w fun e w' => e = .returned (.int .i64 1) ∧ w = w' := by
  go_enter Try.func29, Try.ntmps29
  go_wp2
  go_ret
  exact ⟨rfl, rfl⟩
theorem jrecords_nil (w : World) : Calls Try.prog 28 #[.pointer none] w fun e w' => e = .returned (.slice none 0 0) ∧ w = w' := by
  go_enter Try.func28, Try.ntmps28
  go_wp2
  go_ret
  exact ⟨rfl, rfl⟩
theorem fields_region : ∃ fs, Try.prog.underlying 56 = some (.struct fs) ∧ (fs.toList.map fun f => (f.type, f.offset)) = [(3, 0), (3, 1)] := ⟨_, Try.underlying56, rfl⟩
theorem cells_region : Try.prog.cellsOf 56 = 2 := by kernel_rfl
theorem arg_region {w : World} {v : Value} (h : Arg Try.prog w 56 v) : ∃ x y : Int, v = .agg #[.int .i64 x, .int .i64 y] ∧ (Lit.int .i64 x).wf = true ∧ (Lit.int .i64 y).wf = true := by
  obtain ⟨fs, hu, hfs⟩ := fields_region
  obtain ⟨cs, rfl, hl, hf⟩ := arg_struct hu h
  rw [cells_region] at hl
  have k1 := cells_of3.1
  have at_ : ∀ (i : Nat) (t o : Nat), (fs.toList.map fun f => (f.type, f.offset))[i]? = some (t, o) → Rd Try.prog w t ((cs.toList.drop o).take (Try.prog.cellsOf t)) := fun i t o hi => by
    rw [List.getElem?_map] at hi
    obtain ⟨f, h1, h2⟩ := Option.map_eq_some_iff.1 hi
    cases h2
    exact hf i f h1
  rw [hfs] at at_
  have r0 := at_ 0 3 0 rfl
  have r1 := at_ 1 3 1 rfl
  rw [k1] at r0 r1
  obtain ⟨l⟩ := cs
  match l, hl with
  | [c0, c1], _ =>
    obtain ⟨x0, e0, w0⟩ := rd_int Try.underlying3 r0
    obtain ⟨x1, e1, w1⟩ := rd_int Try.underlying3 r1
    simp at e0 e1
    subst e0 e1
    exact ⟨x0, x1, rfl, w0, w1⟩
set_option maxHeartbeats 2000000 in
set_option maxRecDepth 100000 in
theorem journalNil_calls (v0 v1 : Value) (w : World) (_ : Arg Try.prog w 31 v0) (h1 : Arg Try.prog w 56 v1) : Calls Try.prog 8 #[v0, v1] w fun e w' => e = .returned (.bool true) ∧ Below w.heap.size w w' := by
  obtain ⟨x, y, rfl, -, -⟩ := arg_region h1
  clear h1
  go_enter Try.func8, Try.ntmps8
  go_wp2_with fail
  refine (open_nil x y _).mono ?_
  rintro e w1 ⟨rfl, rfl⟩
  go_wp2_with fail
  refine (alive05 _).mono ?_
  rintro e w2 ⟨rfl, hb⟩
  go_wp2_with fail
  refine (append_nil v0 _).mono ?_
  rintro e w3 ⟨rfl, rfl⟩
  go_wp2_with fail
  refine (jsync_nil _).mono ?_
  rintro e w3 ⟨rfl, rfl⟩
  go_wp2_with fail
  refine (jrecords_nil _).mono ?_
  rintro e w3 ⟨rfl, rfl⟩
  go_wp2_with fail
  refine (jroom_nil _).mono ?_
  rintro e w3 ⟨rfl, rfl⟩
  go_wp2_with fail
  refine (jclear_nil _).mono ?_
  rintro e w3 ⟨rfl, rfl⟩
  go_wp2_with fail
  go_ret
  exact ⟨rfl, ((Below.refl _ _).alloc (Nat.le_refl _) _).trans (hb.mono (by simp))⟩
end Go.Proofs.Ytinhednmfldmbaa.Dk
