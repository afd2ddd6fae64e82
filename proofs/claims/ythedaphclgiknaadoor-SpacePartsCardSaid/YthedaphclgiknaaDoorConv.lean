/- Bytes and strings: a literal of bytes as a string; what a byte is shown as. -/
import Derived.Test.YthedaphclgiknaaDoorProg
import Derived.Test.YthedaphclgiknaaDoorWMore
import Derived.Lib.Builder
import Derived.Laws.BytesArg
import Derived.WalkKit
namespace Go.Proofs.YthedaphclgiknaaDoor.Cu
open Go.RowKit Go.Proofs.YthedaphclgiknaaDoorW.PrintWords

theorem getD_at (s : ByteArray) (j : Nat) (h : j < s.data.size) : s.data.toList.getD j 0 = s.data[j] := by
  rw [List.getD_eq_getElem?_getD, Array.getElem?_toList, Array.getElem?_eq_getElem h]
  rfl
def b (c : Int) : List Int := if c = 92 then [92, 92] else if 7 ≤ c ∧ c ≤ 13 then [92, ([97, 98, 116, 110, 118, 102, 114] : List Int).getD (c - 7).toNat 0] else if c < 32 ∨ c > 126 then [92, 48 + c / 64, 48 + c / 8 % 8, 48 + c % 8] else [c]
/-- A literal of bytes as a string. -/
theorem conv_lit (W : World) (xs : List Int) : (convert 38 9 (.slice (some ⟨W.heap.size, 0, none⟩) xs.length xs.length)).run Tryd.prog (W.alloc (.cells (xs.map (Value.int .u8)).toArray 5)) = .ok (.string (strOfNums xs)) (W.alloc (.cells (xs.map (Value.int .u8)).toArray 5)) :=
  run_convert_bytes_arg (P := Tryd.prog) (W.alloc (.cells (xs.map (Value.int .u8)).toArray 5)) 38 5 Tryd.underlying38 Tryd.underlying5 W.heap.size 0 xs.length xs.length xs rfl (fun i hi => by
    rw [Nat.zero_add, Lib.cell_of_heap (Go.heap_alloc_new W _)]
    simp [List.getElem?_eq_getElem hi, List.getD_eq_getElem?_getD]) 9 Tryd.underlying9
theorem strOf_app (xs ys : List Int) : strOfNums xs ++ strOfNums ys = strOfNums (xs ++ ys) := by
  apply ByteArray.ext
  simp [strOfNums]
end Go.Proofs.YthedaphclgiknaaDoor.Cu
