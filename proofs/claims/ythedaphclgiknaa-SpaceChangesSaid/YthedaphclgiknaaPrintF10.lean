-- written by hgprint.py (this work's own call of the kit's printer, with texts of its own for some functions)
import Derived.Test.YthedaphclgiknaaPrint0
import Derived.Test.YthedaphclgiknaaPrintF17
import Derived.Test.YthedaphclgiknaaPrintF18
namespace Go.Proofs.Ythedaphclgiknaa.Print
open Go.RowKit Go.Proofs.YthedaphclgiknaaW.PrintWords Go.Proofs.YthedaphclgiknaaW.PrintLast Go.Proofs.YthedaphclgiknaaW.PrintMore
attribute [local go_sem] Go.Proofs.Ythedaphclgiknaa.Goto.Jumps_ret Go.Proofs.Ythedaphclgiknaa.Goto.Jumps_normal Go.Proofs.Ythedaphclgiknaa.Goto.Jumps_exit Go.Proofs.Ythedaphclgiknaa.Goto.Jumps_panic Go.Proofs.Ythedaphclgiknaa.Goto.Jumps_outgrown max2_int min2_int max_two min_two max_three min_three max_four min_four   -- for this text's walks alone
open Go.Proofs.YthedaphclgiknaaW.PrintWords Go.Proofs.Ythedaphclgiknaa
set_option linter.unusedVariables false
set_option linter.unusedSimpArgs false

/-! ### headgateref16_List: function 10 -/
def headgateref16_List.go : List UInt8 → ByteArray → ByteArray → Option ByteArray
  | [], row, out => some (((out ++ row) ++ ⟨#[36]⟩) ++ ⟨#[10]⟩)
  | c :: t, row, out => (headgateref16_shown.f (c.toNat : Int)).bind fun x => if x.size ≤ 8 then (if row.size + x.size > 69 then headgateref16_List.go t (⟨#[]⟩ ++ x) ((out ++ row) ++ strOfNums [92, 10]) else headgateref16_List.go t (row ++ x) out) else none
def headgateref16_List.f (a0 : ByteArray) : Option ByteArray := if a0.size ≤ 1000000000 then headgateref16_List.go a0.data.toList ⟨#[]⟩ ⟨#[]⟩ else none
set_option maxHeartbeats 8000000 in
set_option maxRecDepth 100000 in
theorem headgateref16_List.calls (a0 : ByteArray) (r : ByteArray) (w : World) (h : headgateref16_List.f a0 = some r) :
    Calls Try.prog 10 #[.string a0] w fun e w' => e = .returned (.string r) ∧ Below w.heap.size w w' := by
  unfold headgateref16_List.f at h
  split at h
  case isFalse => cases h
  rename_i hsz
  have HL := Aside0.mk h
  clear h
  have k2 : ∀ (W : World), (convert 27 9 (.slice (some ⟨W.heap.size, 0, none⟩) 2 2)).run Try.prog (W.alloc (.cells #[.int .u8 92, .int .u8 10] 5)) = .ok (.string (strOfNums [92, 10])) (W.alloc (.cells #[.int .u8 92, .int .u8 10] 5)) := fun W => Cu.conv_lit W [92, 10]
  go_enter Try.func10, Try.ntmps10
  go_wp2
  go_loopg [3, 4, 5] a0.size (fun kq v3 v4 v5 w' => ∃ (out row : ByteArray) (i : Nat), v3 = .string out ∧ v4 = .string row ∧ v5 = .int .i64 (i : Int) ∧ i + kq = a0.size ∧ Aside0 (row.size ≤ 100) ∧ Aside0 (out.size ≤ 200 * i) ∧ Aside0 (headgateref16_List.go (a0.data.toList.drop i) row out = some r) ∧ Aside0 (Below w.heap.size w w'))
  case atStart => exact ⟨⟨#[]⟩, ⟨#[]⟩, 0, rfl, rfl, rfl, by omega, ⟨by decide⟩, ⟨by decide⟩, HL, ⟨Below.refl _ _⟩⟩
  case round =>
    obtain ⟨out, row, i, rfl, rfl, rfl, hi, HR, HO, HG, HB⟩ := hrel
    have hro := HR.out
    have hoo := HO.out
    cases gk with
    | zero =>
      have hi' : i = a0.size := by omega
      subst hi'
      have hg := HG.out
      rw [List.drop_of_length_le (by rw [Array.length_toList]; exact Nat.le_refl _), headgateref16_List.go] at hg
      obtain rfl := Option.some.inj hg
      have c1 : out.size + row.size ≤ 9223372036854775807 := by omega
      have c2 : (out ++ row).size + 1 ≤ 9223372036854775807 := by rw [ByteArray.size_append]; omega
      have c3 : (out ++ row ++ ⟨#[36]⟩).size + 1 ≤ 9223372036854775807 := by rw [ByteArray.size_append, ByteArray.size_append]; show _ + _ + 1 + 1 ≤ _; omega
      go_wp2_with (fail)
      refine (headgateref16_Feed.calls _ _ (by rfl)).mono ?_
      rintro e w1 ⟨rfl, hb1⟩
      have e10 : strOfNums [10] = (⟨#[10]⟩ : ByteArray) := rfl
      rw [e10]
      go_wp2
      go_ret
      exact ⟨rfl, HB.out.trans (hb1.mono HB.out.size)⟩
    | succ k1 =>
      have hlt : i < a0.size := by omega
      have hd : a0.data.toList.drop i = a0[i] :: a0.data.toList.drop (i + 1) := by
        have h : i < a0.data.toList.length := by rw [Array.length_toList]; exact hlt
        rw [List.drop_eq_getElem_cons h]
        rfl
      have hg := HG.out
      rw [hd, headgateref16_List.go] at hg
      obtain ⟨x, hx, hg⟩ := Option.bind_eq_some_iff.1 hg
      split at hg
      case isFalse => cases hg
      rename_i hx8
      have HX := Aside0.mk hx
      clear hx hd HG
      have d1 : (i : Int) < (a0.size : Int) := by omega
      have d2 : (0 : Int) ≤ (i : Int) := by omega
      have c1 : out.size + row.size ≤ 9223372036854775807 := by omega
      have c2 : (out ++ row).size + (strOfNums [92, 10]).size ≤ 9223372036854775807 := by rw [ByteArray.size_append]; show _ + 2 ≤ _; omega
      have c3 : row.size + x.size ≤ 9223372036854775807 := by omega
      have c4 : 0 + x.size ≤ 9223372036854775807 := by omega
      split at hg
      · rename_i hover
        have hov : ¬ ((row.size : Int) + (x.size : Int) ≤ 69) := by omega
        have HG := Aside0.mk hg
        clear hg
        go_wp2_with (fail)
        refine (headgateref16_shown.calls _ x _ HX.out).mono ?_
        rintro e w1 ⟨rfl, hb1⟩
        go_wp2_with (fail)
        go_roundg k1
        case measure => omega
        case rel =>
          refine ⟨_, _, i + 1, rfl, rfl, rfl, by omega, ⟨?_⟩, ⟨?_⟩, HG, ⟨?_⟩⟩
          · rw [ByteArray.size_append]; show 0 + _ ≤ _; omega
          · rw [ByteArray.size_append, ByteArray.size_append]; show _ + 2 ≤ _; omega
          · exact (HB.out.trans (hb1.mono HB.out.size)).alloc (Nat.le_trans HB.out.size hb1.size) _
      · rename_i hover
        have hov : ((row.size : Int) + (x.size : Int) ≤ 69) := by omega
        have HG := Aside0.mk hg
        clear hg
        go_wp2_with (fail)
        refine (headgateref16_shown.calls _ x _ HX.out).mono ?_
        rintro e w1 ⟨rfl, hb1⟩
        go_wp2_with (fail)
        go_roundg k1
        case measure => omega
        case rel =>
          refine ⟨_, _, i + 1, rfl, rfl, rfl, by omega, ⟨?_⟩, ⟨by omega⟩, HG, ⟨?_⟩⟩
          · rw [ByteArray.size_append]; omega
          · exact HB.out.trans (hb1.mono HB.out.size)

end Go.Proofs.Ythedaphclgiknaa.Print
