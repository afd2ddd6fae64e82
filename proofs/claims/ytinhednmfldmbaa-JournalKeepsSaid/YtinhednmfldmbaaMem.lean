/- Rows that are read: out of a block whose cells are known. -/
import Derived.Test.YtinhednmfldmbaaWMore
import Derived.Lib.SlBytesConst
import Derived.Lib.LazyBuf
namespace Go.Proofs.Ytinhednmfldmbaa.Mem
open Go.RowKit Go.Proofs.YtinhednmfldmbaaW.PrintWords

theorem cell_of_block {w : World} {g : Nat} {cs : Array Value} {t : TypeId} {fr : Nat × Nat} (hb : w.heap[g]? = some (.cells cs t fr)) (j : Nat) : w.cell? ⟨g, j, none⟩ = cs[j]? := by
  exact cell_of_row w g j cs t fr hb

theorem C_of_block {w : World} {g : Nat} {k : IntKind} {xs : List Int} {cs : Array Value} {t : TypeId} {fr : Nat × Nat} (off : Nat) (hb : w.heap[g]? = some (.cells cs t fr)) (hx : ∀ j, j < xs.length → cs[off + j]? = some (.int k (xs.getD j 0))) (hl : xs.length ≤ 9223372036854775807) :
    Kd.C (Kd.int k) w (some ⟨g, off, none⟩) xs.length xs := by
  refine ⟨rfl, hl, fun _ => ⟨_, rfl, fun j p hj => ⟨[.int k p], rfl, rfl, fun i u hu => ?_⟩⟩⟩
  have hi : i = 0 := by
    cases i with
    | zero => rfl
    | succ i => simp at hu
  subst hi
  have hu' : Value.int k p = u := by simpa using hu
  subst hu'
  have hjl : j < xs.length := (List.getElem?_eq_some_iff.1 hj).1
  have ha : (⟨g, off, none⟩ : Addr).add (j * (Kd.int k).sz + 0) = ⟨g, off + j, none⟩ := by
    show (⟨g, off, none⟩ : Addr).add (j * 1 + 0) = _
    rw [Nat.mul_one, Nat.add_zero]
    unfold Addr.add
    split <;> simp_all
  rw [ha, cell_of_block hb, hx j hjl]
  rw [List.getD_eq_getElem?_getD, hj]
  rfl
/-- A slice cut up to a place within its room, be that behind its length. -/
theorem cut_to_cap {P : Program} (t e : TypeId) (kh : IntKind) {i : TypeInfo} (ht : P.underlying t = some (.slice e)) (hi : P.info? e = some i) (A : Option Addr) (n c : Nat) (j : Int) (h0 : 0 ≤ j) (hc : j ≤ c) :
    ∀ W : World, (Instr.slice t (.slice A n c) none (some (.int kh j)) none).run P W = .ok (.slice A j.toNat c) W := by
  intro W
  have hel : P.elem t = e := by simp [Program.elem, ht]
  have hu : P.underlying t = some (.slice (P.elem t)) := by rw [hel]; exact ht
  have ha : (A.map fun x => x.add 0) = A := by cases A <;> simp [Addr.add]
  rw [run_slice_h W t A n c hu kh j h0 (by omega), hel]
  simp [sizeOf, typeInfo, hi, sliced, Result.andThen, ha]
end Go.Proofs.Ytinhednmfldmbaa.Mem
