/- DiskNil, walked. -/
import Derived.Test.YtinhednmfldmbaaOps
import Derived.Test.YtinhednmfldmbaaDisk2
namespace Go.Proofs.Ytinhednmfldmbaa.Dk
open Go Go.RowKit Hp Rd
set_option maxHeartbeats 1000000 in
set_option maxRecDepth 100000 in
theorem diskNil_calls (v0 : Value) (w : World) (h0 : Arg Try.prog w 34 v0) : Calls Try.prog 5 #[v0] w fun e w' => e = .returned (.bool true) ∧ Below w.heap.size w w' := by
  obtain ⟨o, cs, rfl, hr⟩ := arg_op h0
  obtain ⟨vb, vk, rfl, ⟨a2, c2, rfl, -⟩, ⟨a3, c3, rfl, -⟩⟩ := hr.is
  go_enter Try.func5, Try.ntmps5
  go_wp2_with (fail)
  refine (read_nil _ _).mono ?_
  rintro e w1 ⟨rfl, rfl⟩
  go_wp2_with (fail)
  refine (alive_calls _).mono ?_
  rintro e w1 ⟨rfl, hb⟩
  have hs := hb.size
  have hcell := hb.cell (p := ⟨w.heap.size, 1, none⟩) (by simp)
  have hcell2 := hb.cell (p := ⟨w.heap.size, 2, none⟩) (by simp)
  have hcell3 := hb.cell (p := ⟨w.heap.size, 3, none⟩) (by simp)
  have hcell4 := hb.cell (p := ⟨w.heap.size, 4, none⟩) (by simp)
  simp only [World.cell?_alloc_new, List.getElem?_toArray, List.getElem?_cons_succ, List.getElem?_cons_zero] at hcell hcell2 hcell3 hcell4
  go_wp2_with (fail)
  refine (write_nil _ _ _).mono ?_
  rintro e w2 ⟨rfl, rfl⟩
  go_wp2_with (fail)
  refine (sync_nil _).mono ?_
  rintro e w2 ⟨rfl, rfl⟩
  go_wp2_with (fail)
  refine (blocks_nil _).mono ?_
  rintro e w2 ⟨rfl, rfl⟩
  go_wp2_with (fail)
  refine (calls_nil _).mono ?_
  rintro e w2 ⟨rfl, rfl⟩
  go_wp2_with (fail)
  refine (cut_nil _ _ _ _).mono ?_
  rintro e w2 ⟨rfl, rfl⟩
  go_wp2
  go_ret
  exact ⟨rfl, ((Below.refl _ _).alloc (Nat.le_refl _) _).trans (hb.mono (by simp))⟩
end Go.Proofs.Ytinhednmfldmbaa.Dk
