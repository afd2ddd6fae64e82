/- space.Change: each byte of a text, changed. -/
import Derived.Test.YthedaphclgiknaaCut
import Derived.Test.YthedaphclgiknaaWNEv
import Derived.Lib.ConvBytes
import Derived.Laws.BytesArg
namespace Go.Proofs.Ythedaphclgiknaa.Cu
open Go.RowKit Go.Proofs.YthedaphclgiknaaW.PrintWords

def chg (from_ to_ : ByteArray) (c : UInt8) : UInt8 :=
  match idx from_ c with
  | some k => if k < to_.size then to_.data.toList.getD k 0 else c
  | none => c
def change (s from_ to_ : ByteArray) : ByteArray := ⟨(s.data.toList.map (chg from_ to_)).toArray⟩
/-- After j places. -/
def mid (s from_ to_ : ByteArray) (j i : Nat) : UInt8 := if i < j then chg from_ to_ (s.data.toList.getD i 0) else s.data.toList.getD i 0
theorem heap_put {w : World} {g i : Nat} {cs : Array Value} {t : TypeId} {fr : Nat × Nat} (h : w.heap[g]? = some (.cells cs t fr)) (v : Value) : (w.setCell ⟨g, i, none⟩ v).heap[g]? = some (.cells (cs.setIfInBounds i v) t fr) := by
  simp [World.setCell, Array.getElem?_modify, h]
/-- The text's own row of bytes, changed up to j. -/
def Row (g : Nat) (a0 a1 a2 : ByteArray) (j : Nat) (w : World) : Prop :=
  ∃ (cs : Array Value) (m : Nat), w.heap[g]? = some (.cells cs 5 (m, m + 1)) ∧ cs.size = m ∧ a0.size ≤ m ∧ ∀ i, i < a0.size → cs[i]? = some (.int .u8 (mid a0 a1 a2 j i).toNat)
theorem Row.cell {g : Nat} {a0 a1 a2 : ByteArray} {j : Nat} {w : World} (h : Row g a0 a1 a2 j w) (i : Nat) (hi : i < a0.size) : w.cell? ⟨g, i, none⟩ = some (.int .u8 (mid a0 a1 a2 j i).toNat) ∧ w.frozen? ⟨g, i, none⟩ = false := by
  obtain ⟨cs, m, hb, hm, hl, hc⟩ := h
  refine ⟨by rw [Lib.cell_of_heap hb]; exact hc i hi, ?_⟩
  simp [World.frozen?, hb]
  omega
theorem Row.same {g : Nat} {a0 a1 a2 : ByteArray} {j : Nat} {w : World} (h : Row g a0 a1 a2 j w) (he : chg a1 a2 (a0.data.toList.getD j 0) = a0.data.toList.getD j 0) : Row g a0 a1 a2 (j + 1) w := by
  obtain ⟨cs, m, hb, hm, hl, hc⟩ := h
  refine ⟨cs, m, hb, hm, hl, fun i hi => ?_⟩
  rw [hc i hi]
  congr 3
  unfold mid
  by_cases h1 : i < j
  · rw [if_pos h1, if_pos (by omega)]
  · rw [if_neg h1]
    by_cases h2 : i < j + 1
    · rw [if_pos h2, show i = j by omega, he]
    · rw [if_neg h2]
theorem Row.put {g : Nat} {a0 a1 a2 : ByteArray} {j : Nat} {w : World} (h : Row g a0 a1 a2 j w) (y : Int) (he : ((chg a1 a2 (a0.data.toList.getD j 0)).toNat : Int) = y) : Row g a0 a1 a2 (j + 1) (w.setCell ⟨g, j, none⟩ (.int .u8 y)) := by
  obtain ⟨cs, m, hb, hm, hl, hc⟩ := h
  refine ⟨cs.setIfInBounds j (.int .u8 y), m, heap_put hb _, by simpa using hm, hl, fun i hi => ?_⟩
  rw [Array.getElem?_setIfInBounds]
  by_cases h1 : j = i
  · rw [if_pos h1, if_pos (by omega), ← h1]
    unfold mid
    rw [if_pos (by omega), he]
  · rw [if_neg h1, hc i hi]
    congr 3
    unfold mid
    by_cases h2 : i < j
    · rw [if_pos h2, if_pos (by omega)]
    · rw [if_neg h2, if_neg (by omega)]
theorem getD_at (s : ByteArray) (j : Nat) (h : j < s.data.size) : s.data.toList.getD j 0 = s.data[j] := by
  rw [List.getD_eq_getElem?_getD, Array.getElem?_toList, Array.getElem?_eq_getElem h]
  rfl
theorem chg_hit (a1 a2 : ByteArray) (c : UInt8) (h0 : 0 ≤ Lib.indexByte a1.data.toList c) (h2 : (Lib.indexByte a1.data.toList c).toNat < a2.data.size) : chg a1 a2 c = a2.data[(Lib.indexByte a1.data.toList c).toNat] := by
  have hi := indexByte_idx a1.data.toList c
  unfold chg idx
  cases h : a1.data.toList.idxOf? c with
  | none => rw [h] at hi; rw [hi] at h0; exact absurd h0 (by decide)
  | some n =>
    rw [h] at hi
    simp only [hi, Int.toNat_natCast] at h2 ⊢
    rw [if_pos (show n < a2.size from h2), getD_at a2 n h2]
theorem chg_far (a1 a2 : ByteArray) (c : UInt8) (h1 : (a2.size : Int) ≤ Lib.indexByte a1.data.toList c) : chg a1 a2 c = c := by
  have hi := indexByte_idx a1.data.toList c
  unfold chg idx
  cases h : a1.data.toList.idxOf? c with
  | none => rfl
  | some n =>
    rw [h] at hi
    simp only [hi] at h1 ⊢
    rw [if_neg (by omega)]
theorem chg_none (a1 a2 : ByteArray) (c : UInt8) (h1 : Lib.indexByte a1.data.toList c < 0) : chg a1 a2 c = c := by
  have hi := indexByte_idx a1.data.toList c
  unfold chg idx
  cases h : a1.data.toList.idxOf? c with
  | none => rfl
  | some n =>
    rw [h] at hi
    simp only [hi] at h1
    omega
theorem change_back (a0 a1 a2 : ByteArray) : strOfNums ((change a0 a1 a2).data.toList.map fun b => (b.toNat : Int)) = change a0 a1 a2 := by
  unfold strOfNums
  rw [List.map_map]
  have : ((fun n : Int => UInt8.ofNat n.toNat) ∘ fun b : UInt8 => (b.toNat : Int)) = id := by
    funext b
    simp
  rw [this, List.map_id]
theorem change_at (a0 a1 a2 : ByteArray) (i : Nat) (hi : i < a0.size) : (((change a0 a1 a2).data.toList.map fun b => (b.toNat : Int)).getD i 0) = ((mid a0 a1 a2 a0.size i).toNat : Int) := by
  unfold mid change
  rw [if_pos hi]
  have h : i < a0.data.toList.length := by rw [Array.length_toList]; exact hi
  rw [List.getD_eq_getElem?_getD, List.getElem?_map, List.getElem?_map, List.getElem?_eq_getElem h, List.getD_eq_getElem?_getD, List.getElem?_eq_getElem h]
  rfl
theorem below_bytes (w : World) (e : TypeId) (s : ByteArray) : Below w.heap.size w (Lib.bytesWorld w e s) :=
  ⟨rfl, rfl, rfl, by rw [Lib.bytesWorld_size]; omega, fun j hj => Lib.bytesWorld_at_old w e s j hj⟩
set_option maxHeartbeats 4000000 in
set_option maxRecDepth 100000 in
theorem change_calls (a0 a1 a2 : ByteArray) (w : World) (hs : a0.size ≤ 1000000000) :
    Calls Try.prog 8 #[.string a0, .string a1, .string a2] w fun e w' => e = .returned (.string (change a0 a1 a2)) ∧ Below w.heap.size w w' := by
  have kc := fun (w : World) => Lib.run_convert_string_bytes (P := Try.prog) w 9 27 5 a0 Try.underlying9 Try.underlying27 Try.underlying5
  have hrow : Row w.heap.size a0 a1 a2 0 (Lib.bytesWorld w 5 a0) := by
    refine ⟨_, _, Lib.bytesWorld_at_new w 5 a0, rfl, by rw [Lib.bytesCells, Array.size_append, Array.size_map]; exact Nat.le_add_right _ _, fun i hi => ?_⟩
    have h := Lib.bytesWorld_cell w 5 a0 i hi
    rw [Lib.cell_of_heap (Lib.bytesWorld_at_new w 5 a0)] at h
    rw [h]
    unfold mid
    rw [if_neg (by omega)]
  have hbel := below_bytes w 5 a0
  go_enter Try.func8, Try.ntmps8
  go_wp2
  go_loopg [14] a0.size (fun kq v14 w' => ∃ j : Nat, v14 = .int .i64 (j : Int) ∧ j + kq = a0.size ∧ Aside0 (Row w.heap.size a0 a1 a2 j w') ∧ Aside0 (Below w.heap.size w w'))
  case atStart => exact ⟨0, rfl, by omega, ⟨hrow⟩, ⟨hbel⟩⟩
  case round =>
    obtain ⟨j, rfl, hj, HR, HB⟩ := hrel
    cases gk with
    | zero =>
      have hj' : j = a0.size := by omega
      subst hj'
      have hstr := fun (cap : Nat) => run_convert_bytes_arg (P := Try.prog) wr 27 5 Try.underlying27 Try.underlying5 w.heap.size 0 a0.size cap ((change a0 a1 a2).data.toList.map fun b => (b.toNat : Int)) (by rw [List.length_map, change, List.length_map]; exact Array.length_toList) (fun i hi => by
        rw [Nat.zero_add, (HR.out.cell i hi).1, change_at a0 a1 a2 i hi]) 9 Try.underlying9
      simp only [change_back] at hstr
      go_wp2
      go_ret
      exact ⟨rfl, HB.out⟩
    | succ k1 =>
      have hlt : j < a0.size := by omega
      have c1 : (j : Int) < (a0.size : Int) := by omega
      have c2 : (0 : Int) ≤ (j : Int) := by omega
      obtain ⟨h1, h2⟩ := HR.out.cell j hlt
      have hm : mid a0 a1 a2 j j = a0.data.toList.getD j 0 := by unfold mid; rw [if_neg (by omega)]
      rw [hm] at h1
      go_wp2_with (go_at_call 16; refine (Try.strings_IndexByte _ _ _).mono ?_; rintro e w1 ⟨rfl, rfl⟩)
      all_goals go_roundg k1
      case measure => omega
      case measure => omega
      case measure => omega
      case rel =>
        rename_i g0 g1
        refine ⟨j + 1, rfl, by omega, ⟨HR.out.put _ ?_⟩, ⟨HB.out.setCell (p := ⟨w.heap.size, j, none⟩) (Nat.le_refl _) _⟩⟩
        rw [getD_at a0 j hlt]
        rw [chg_hit a1 a2 _ g0 (by show _ < a2.size; omega)]
        rfl
      case rel =>
        rename_i g0 g1
        exact ⟨j + 1, rfl, by omega, ⟨HR.out.same (by rw [getD_at a0 j hlt]; exact chg_far a1 a2 _ g1)⟩, HB⟩
      case rel =>
        rename_i g0
        exact ⟨j + 1, rfl, by omega, ⟨HR.out.same (by rw [getD_at a0 j hlt]; exact chg_none a1 a2 _ g0)⟩, HB⟩
def b (c : Int) : List Int := if c = 92 then [92, 92] else if 7 ≤ c ∧ c ≤ 13 then [92, ([97, 98, 116, 110, 118, 102, 114] : List Int).getD (c - 7).toNat 0] else if c < 32 ∨ c > 126 then [92, 48 + c / 64, 48 + c / 8 % 8, 48 + c % 8] else [c]
/-- A literal of bytes as a string. -/
theorem conv_lit (W : World) (xs : List Int) : (convert 27 9 (.slice (some ⟨W.heap.size, 0, none⟩) xs.length xs.length)).run Try.prog (W.alloc (.cells (xs.map (Value.int .u8)).toArray 5)) = .ok (.string (strOfNums xs)) (W.alloc (.cells (xs.map (Value.int .u8)).toArray 5)) :=
  run_convert_bytes_arg (P := Try.prog) (W.alloc (.cells (xs.map (Value.int .u8)).toArray 5)) 27 5 Try.underlying27 Try.underlying5 W.heap.size 0 xs.length xs.length xs rfl (fun i hi => by
    rw [Nat.zero_add, Lib.cell_of_heap (Go.heap_alloc_new W _)]
    simp [List.getElem?_eq_getElem hi, List.getD_eq_getElem?_getD]) 9 Try.underlying9
theorem strOf_app (xs ys : List Int) : strOfNums xs ++ strOfNums ys = strOfNums (xs ++ ys) := by
  apply ByteArray.ext
  simp [strOfNums]
end Go.Proofs.Ythedaphclgiknaa.Cu
