-- written by hgprint.py (this work's own call of the kit's printer, with texts of its own for some functions)
import Derived.Test.YthedaphclgiknaaDoorPrint0
import Derived.Test.YthedaphclgiknaaDoorPrintF20
namespace Go.Proofs.YthedaphclgiknaaDoor.Print
open Go.RowKit Go.Proofs.YthedaphclgiknaaDoorW.PrintWords Go.Proofs.YthedaphclgiknaaDoorW.PrintLast Go.Proofs.YthedaphclgiknaaDoorW.PrintMore
attribute [local go_sem] Go.Proofs.YthedaphclgiknaaDoor.Goto.Jumps_ret Go.Proofs.YthedaphclgiknaaDoor.Goto.Jumps_normal Go.Proofs.YthedaphclgiknaaDoor.Goto.Jumps_exit Go.Proofs.YthedaphclgiknaaDoor.Goto.Jumps_panic Go.Proofs.YthedaphclgiknaaDoor.Goto.Jumps_outgrown max2_int min2_int max_two min_two max_three min_three max_four min_four   -- for this text's walks alone
open Go.Proofs.YthedaphclgiknaaDoorW.PrintWords Go.Proofs.YthedaphclgiknaaDoor
set_option linter.unusedVariables false
set_option linter.unusedSimpArgs false

/-! ### space_List: function 13 -/
def space_List.go : List UInt8 → Nat → List UInt8 → Option (List UInt8)
  | [], _, out => some (out ++ [36, 10])
  | c :: t, row, out => (space_shown.f (c.toNat : Int)).bind fun x => if x.size ≤ 8 then (if row + x.size > 69 then space_List.go t x.size ((out ++ [92, 10]) ++ x.data.toList) else space_List.go t (row + x.size) (out ++ x.data.toList)) else none
def space_List.f (a0 : ByteArray) : Option ByteArray := if a0.size ≤ 1000000000 then (space_List.go a0.data.toList 0 []).map (fun l => ⟨l.toArray⟩) else none
theorem space_List.strCells_byte (s : ByteArray) : Lib.strCells s = Lib.byteCells s.data.toList := by
  simp [Lib.strCells, Lib.byteCells]
theorem space_List.byte_app (a b : List UInt8) : Lib.byteCells a ++ Lib.byteCells b = Lib.byteCells (a ++ b) := by
  simp [Lib.byteCells]
set_option maxHeartbeats 8000000 in
set_option maxRecDepth 100000 in
theorem space_List.calls (a0 : ByteArray) (r : ByteArray) (w : World) (h : space_List.f a0 = some r) :
    Calls Tryd.prog 13 #[.string a0] w fun e w' => e = .returned (.string r) ∧ Below w.heap.size w w' := by
  unfold space_List.f at h
  split at h
  case isFalse => cases h
  rename_i hsz
  obtain ⟨l, hl, rfl⟩ := Option.map_eq_some_iff.1 h
  have HL := Aside0.mk hl
  clear h hl
  go_enter Tryd.func13, Tryd.ntmps13
  go_wp2
  apply Goto.wp_scope_goto
  go_wp2
  apply wp_label
  go_step
  go_step
  refine Goto.wp_label_loop 0 ?hf (fun n a w' => ∃ u0 u1 u2 u3 u4 u5 u6 u7 u8 u9 u10 u11 u12 u13 u14 u15 u16 u17 u18 u19 u20 u21 u22 u23 u24 u25 u26 u27 u28 u29 u30 : Value, ∃ (i row : Nat) (out : List UInt8), i ≤ a0.size ∧ n = a0.size - i ∧ row ≤ 100 ∧ out.length ≤ 16 * i ∧ Aside0 (space_List.go (a0.data.toList.drop i) row out = some l) ∧ u0 = .string a0 ∧ u3 = .pointer (some ⟨w.heap.size, 0, none⟩) ∧ u4 = .int .i64 row ∧ u5 = .int .i64 i ∧ Aside0 (Lib.IsBuilder 40 5 w.heap.size w.heap.size (Lib.byteCells out) w') ∧ Aside0 (Below w.heap.size w w') ∧ a = { tmps := #[u0, u1, u2, u3, u4, u5, u6, u7, u8, u9, u10, u11, u12, u13, u14, u15, u16, u17, u18, u19, u20, u21, u22, u23, u24, u25, u26, u27, u28, u29, u30], defers := [] }) a0.size ?start ?round; case hf => rfl
  case start => exact ⟨_, _, _, _, _, _, _, _, _, _, _, _, _, _, _, _, _, _, _, _, _, _, _, _, _, _, _, _, _, _, _, 0, 0, [], by omega, by omega, by omega, by simp, ⟨HL.out⟩, rfl, rfl, rfl, rfl, ⟨Lib.fresh_isBuilder _ _ w⟩, ⟨(Below.refl _ _).alloc (Nat.le_refl _) _⟩, rfl⟩
  case round =>
    rintro n a w' ⟨u0, u1, u2, u3, u4, u5, u6, u7, u8, u9, u10, u11, u12, u13, u14, u15, u16, u17, u18, u19, u20, u21, u22, u23, u24, u25, u26, u27, u28, u29, u30, i, row, out, hi, rfl, hrow, hout, HG, rfl, rfl, rfl, rfl, HI, HB, rfl⟩ J hJ hG hB
    clear hB hG
    by_cases hlt : i < a0.size
    · have hd : a0.data.toList.drop i = a0.data.toList.getD i 0 :: a0.data.toList.drop (i + 1) := by
        have h : i < a0.data.toList.length := by rw [Array.length_toList]; exact hlt
        rw [List.drop_eq_getElem_cons h, List.getD_eq_getElem?_getD, List.getElem?_eq_getElem h]
        rfl
      have hg := HG.out
      rw [hd, space_List.go] at hg
      obtain ⟨x, hx, hg⟩ := Option.bind_eq_some_iff.1 hg
      split at hg
      case isFalse => cases hg
      rename_i hx8
      have HX := Aside0.mk hx
      have c1 : (i : Int) < (a0.size : Int) := by omega
      have c2 : (0 : Int) ≤ (i : Int) := by omega
      have hne : ((i : Int) == (a0.size : Int)) = false := by simp; omega
      have hat : a0.data.toList.getD i 0 = a0[i] := by
        rw [List.getD_eq_getElem?_getD, Array.getElem?_toList, Array.getElem?_eq_getElem hlt]
        rfl
      rw [hat] at HX
      clear hx hd HG
      have hsz0 : w.heap.size ≤ w'.heap.size := HB.out.size
      split at hg
      · rename_i hover
        have HG := Aside0.mk hg
        have hov : ¬ ((row : Int) + (x.size : Int) ≤ 69) := by omega
        clear hg
        go_wp2_with (fail)
        refine (space_shown.calls _ x _ HX.out).mono ?_
        rintro e w1 ⟨rfl, hb1⟩
        have hs1 := hb1.size
        go_wp2_with (fail)
        refine (Bd.write w.heap.size w.heap.size (Lib.byteCells out) ⟨#[92, 10]⟩ w1 (Bd.isB_below HI.out hb1) (by rw [Lib.byteCells_length]; show _ + 2 ≤ _; omega) (by omega)).mono ?_
        rintro e w2 ⟨rfl, h2, hb2⟩
        have hs2 := hb2.size
        go_wp2_with (fail)
        refine (Bd.write w.heap.size w.heap.size (Lib.byteCells out ++ Lib.strCells ⟨#[92, 10]⟩) x w2 (.inr h2) (by rw [List.length_append, Lib.byteCells_length, Lib.strCells_length]; show _ + 2 + _ ≤ _; omega) (by omega)).mono ?_
        rintro e w3 ⟨rfl, h3, hb3⟩
        go_wp2
        apply wp_goto
        refine hJ (a0.size - (i + 1)) _ _ (by omega) ⟨_, _, _, _, _, _, _, _, _, _, _, _, _, _, _, _, _, _, _, _, _, _, _, _, _, _, _, _, _, _, _, i + 1, x.size, (out ++ [92, 10]) ++ x.data.toList, by omega, rfl, by omega, ?_, HG, rfl, rfl, rfl, rfl, ⟨?_⟩, ⟨?_⟩, rfl⟩
        · have hxl : x.data.toList.length = x.size := Array.length_toList
          rw [List.length_append, List.length_append]
          show out.length + 2 + x.data.toList.length ≤ _
          omega
        · rw [← space_List.byte_app, ← space_List.byte_app, ← space_List.strCells_byte]
          exact .inr h3
        · exact ((HB.out.trans (hb1.mono hsz0)).trans hb2).trans hb3
      · rename_i hover
        have HG := Aside0.mk hg
        have hov : ((row : Int) + (x.size : Int) ≤ 69) := by omega
        clear hg
        go_wp2_with (fail)
        refine (space_shown.calls _ x _ HX.out).mono ?_
        rintro e w1 ⟨rfl, hb1⟩
        have hs1 := hb1.size
        go_wp2_with (fail)
        refine (Bd.write w.heap.size w.heap.size (Lib.byteCells out) x w1 (Bd.isB_below HI.out hb1) (by rw [Lib.byteCells_length]; omega) (by omega)).mono ?_
        rintro e w3 ⟨rfl, h3, hb3⟩
        go_wp2
        apply wp_goto
        refine hJ (a0.size - (i + 1)) _ _ (by omega) ⟨_, _, _, _, _, _, _, _, _, _, _, _, _, _, _, _, _, _, _, _, _, _, _, _, _, _, _, _, _, _, _, i + 1, row + x.size, out ++ x.data.toList, by omega, rfl, by omega, ?_, HG, rfl, rfl, rfl, rfl, ⟨?_⟩, ⟨?_⟩, rfl⟩
        · have hxl : x.data.toList.length = x.size := Array.length_toList
          rw [List.length_append]
          omega
        · rw [← space_List.byte_app, ← space_List.strCells_byte]
          exact .inr h3
        · exact (HB.out.trans (hb1.mono hsz0)).trans hb3
    · have hi' : i = a0.size := by omega
      subst hi'
      have hg := HG.out
      rw [List.drop_of_length_le (by rw [Array.length_toList]; exact Nat.le_refl _), space_List.go] at hg
      obtain rfl := Option.some.inj hg
      have hsz0 : w.heap.size ≤ w'.heap.size := HB.out.size
      go_wp2_with (fail)
      refine (Bd.write w.heap.size w.heap.size (Lib.byteCells out) ⟨#[36, 10]⟩ w' HI.out (by rw [Lib.byteCells_length]; show _ + 2 ≤ _; omega) (by omega)).mono ?_
      rintro e w2 ⟨rfl, h2, hb2⟩
      have hs2 := hb2.size
      rw [space_List.strCells_byte, space_List.byte_app] at h2
      go_wp2_with (fail)
      refine (Tryd.Builder_String_any w.heap.size w.heap.size (out ++ [36, 10]) w2 (.inr h2) (by omega)).mono ?_
      rintro e w3 ⟨rfl, hb3⟩
      go_wp2
      try rw [Goto.Jumps_ret]
      go_ret
      exact ⟨rfl, (HB.out.trans hb2).trans hb3⟩

end Go.Proofs.YthedaphclgiknaaDoor.Print
