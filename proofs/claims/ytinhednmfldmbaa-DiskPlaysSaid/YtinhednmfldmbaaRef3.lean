/- The reference disk: Write. -/
import Derived.Test.YtinhednmfldmbaaRef2
namespace Go.Proofs.Ytinhednmfldmbaa.Dk
open Go Go.RowKit Hp Rd

theorem clone32 (w : World) (x : Nat) (v : Value) (l : List Int) (h : Row32 w v l) : ∃ cap W', (Builtin.append_ #[31, 31] 31 #[.slice (some ⟨x, 0, none⟩) 0 0, v]).run Try.prog w = .ok (.slice (some ⟨w.heap.size, 0, none⟩) 32 cap) W' ∧ Below w.heap.size w W' ∧ Row32 W' (.slice (some ⟨w.heap.size, 0, none⟩) 32 cap) l ∧ w.heap.size < W'.heap.size ∧ 32 ≤ cap := by
  obtain ⟨i0, hi, hz⟩ := Option.map_eq_some_iff.1 info_u8
  simp only [Prod.mk.injEq] at hz
  obtain ⟨hz0, hz1, hz2⟩ := hz
  obtain ⟨hl, g, off, cp, rfl, hr⟩ := h
  have hrun := run_append_grow (P := Try.prog) w 31 31 5 i0 _ Try.underlying31 hi hz0 ⟨x, 0, none⟩ 0 0 [] (by simp) (fun j u hu => by simp at hu) ⟨g, off, none⟩ 32 cp (l.map (.int .u8)) (by rw [hz1]; simp [hl]) (fun j u hu => by rw [Addr.add_mid]; exact hr j u hu) (by omega) (by omega) (growslice_fits (by omega) (by rw [hz2]; omega))
  rw [Nat.zero_add] at hrun
  refine ⟨_, _, hrun, (Below.refl w.heap.size w).drew.alloc (Nat.le_refl _) _, ⟨hl, _, _, _, rfl, fun j u hu => ?_⟩, (by
    have h5 : ∀ o, (w.drew.alloc o).heap.size = w.drew.heap.size + 1 := fun o => by simp
    rw [h5]
    exact Nat.lt_succ_self _), grownCap_ge _ _ _ _⟩
  have hh : ∀ o, (w.drew.alloc o).heap[w.heap.size]? = some o := fun o => heap_alloc_new w.drew o
  simp only [World.cell?, hh, Nat.zero_add]
  have hjl : j < (l.map (Value.int .u8)).length := (List.getElem?_eq_some_iff.1 hu).1
  simp at hjl
  simp [Array.getElem?_append, hjl]
  rw [List.getElem?_map] at hu
  obtain ⟨a, ha, rfl⟩ := Option.map_eq_some_iff.1 hu
  rw [(List.getElem?_eq_some_iff.1 ha).2]
end Go.Proofs.Ytinhednmfldmbaa.Dk
