/- tree.Right. -/
import Derived.Test.YtnemnhfdjofckaaProg
import Derived.WalkKit
import Derived.Below
import Derived.RowKit
import Derived.Deep.LoopGhost
import Derived.Laws.IdiomStrings
namespace Go.Proofs.Ytnemnhfdjofckaa.Rt
open Go Go.RowKit
/-- May a path be? -/
def okb (b : UInt8) : Bool := decide (33 ≤ b.toNat) && decide (b.toNat ≤ 126)
def rgt (p : ByteArray) : Bool := p.data.toList.all okb && (decide (1 ≤ p.size) && decide (p.size ≤ 32))
theorem all_from (p : ByteArray) (i : Nat) (b : UInt8) (h : p.data[i]? = some b) : (p.data.toList.drop i).all okb = (okb b && (p.data.toList.drop (i + 1)).all okb) := by
  obtain ⟨hi, rfl⟩ := Array.getElem?_eq_some_iff.1 h
  rw [List.drop_eq_getElem_cons (by simpa using hi), List.all_cons]
  simp
set_option maxHeartbeats 4000000 in
set_option maxRecDepth 100000 in
theorem right_ok (p : ByteArray) (w : World) (hp : p.size ≤ 1000000000) :
    Calls Try.prog 34 #[.string p] w fun e w' => e = .returned (.bool (rgt p)) ∧ Below w.heap.size w w' := by
  have hcv := Go.run_bytes_of_string (P := Try.prog) w 9 38 5 p Try.underlying9 Try.underlying38 Try.underlying5
  have hcge : p.size ≤ grownCap w p.size 0 5 := grownCap_ge _ _ _ _
  generalize grownCap w p.size 0 5 = cg at hcv hcge
  obtain ⟨fr, hfr⟩ : ∃ fr : Nat × Nat, ((bytesRow p cg).size, (bytesRow p cg).size + 1) = fr := ⟨_, rfl⟩
  rw [hfr] at hcv
  obtain ⟨wc, hwc⟩ : ∃ wc, w.drew.alloc (.cells (bytesRow p cg) 5 fr) = wc := ⟨_, rfl⟩
  obtain ⟨bq, hbq⟩ : ∃ bq, w.heap.size = bq := ⟨_, rfl⟩
  have hB : Below w.heap.size w wc := by rw [← hwc]; exact ((Below.refl _ _).drew).alloc (Nat.le_refl _) _
  have hh : wc.heap[bq]? = some (.cells (bytesRow p cg) 5 fr) := by rw [← hwc, ← hbq]; exact heap_alloc_new w.drew _
  rw [hwc, hbq] at hcv
  clear hwc hbq hfr
  obtain ⟨r, hrr⟩ : ∃ r, rgt p = r := ⟨_, rfl⟩
  rw [hrr]
  go_enter Try.func34, Try.ntmps34
  go_wp2
  go_loopg [8] p.size (fun kq v8 w' => ∃ i : Nat, i + kq = p.size ∧ v8 = .int .i64 (i : Int) ∧ w' = wc ∧ (p.data.toList.all okb = (p.data.toList.drop i).all okb))
  case atStart => exact ⟨0, by omega, rfl, rfl, rfl⟩
  case round =>
    obtain ⟨i, hik, rfl, hw, hall⟩ := hrel
    subst hw
    cases gk with
    | zero =>
      obtain rfl : i = p.size := by omega
      have kk : ¬ (p.size : Int) < (p.size : Int) := by omega
      have hnil : p.data.toList.drop p.size = [] := List.drop_eq_nil_of_le (by rw [Array.length_toList]; exact Nat.le_refl _)
      rw [hnil] at hall
      have hr : rgt p = (decide (1 ≤ p.size) && decide (p.size ≤ 32)) := by unfold rgt; rw [hall]; rfl
      rw [hrr] at hr
      clear hall hnil hrr
      by_cases c1 : 1 ≤ p.size
      · have c1_ : (1 : Int) ≤ (p.size : Int) := by omega
        by_cases c2 : p.size ≤ 32
        · have c2_ : (p.size : Int) ≤ 32 := by omega
          obtain rfl : r = true := by rw [hr, decide_eq_true c1, decide_eq_true c2]; rfl
          clear c1 c2 hr
          go_wp2
          go_ret
          exact ⟨rfl, hB⟩
        · have c2_ : ¬ (p.size : Int) ≤ 32 := by omega
          obtain rfl : r = false := by rw [hr, decide_eq_true c1, decide_eq_false c2]; rfl
          clear c1 c2 hr
          go_wp2
          go_ret
          exact ⟨rfl, hB⟩
      · have c1_ : ¬ (1 : Int) ≤ (p.size : Int) := by omega
        obtain rfl : r = false := by rw [hr, decide_eq_false c1]; rfl
        clear c1 hr
        go_wp2
        go_ret
        exact ⟨rfl, hB⟩
    | succ g1_ =>
      have kk : (i : Int) < (p.size : Int) := by omega
      have hip : i < p.data.size := by show i < p.size; omega
      obtain ⟨b, hb⟩ : ∃ b, p.data[i]? = some b := ⟨_, Array.getElem?_eq_getElem hip⟩
      have c_ : wr.cell? ⟨bq, i, none⟩ = some (.int .u8 (b.toNat : Int)) := by
        unfold World.cell?
        rw [hh]
        have h2 := bytesRow_at p cg i hip
        show (bytesRow p cg)[i]? = _
        rw [h2]
        rw [Array.getElem?_eq_getElem hip] at hb
        cases hb
        rfl
      have hstep := all_from p i b hb
      have w8_ : wrap64 ((i : Int) + 1) = ((i + 1 : Nat) : Int) := by unfold wrap64; omega
      have hbn := b.toNat_lt
      clear hb hip
      by_cases c1 : (b.toNat : Int) < 33
      · have hr : rgt p = false := by
          unfold rgt
          rw [hall, hstep]
          unfold okb
          rw [decide_eq_false (show ¬ 33 ≤ b.toNat by omega)]
          rfl
        obtain rfl : r = false := by rw [← hrr, hr]
        clear hall hstep hr w8_ hrr
        go_wp2
        go_ret
        exact ⟨rfl, hB⟩
      by_cases c2 : (126 : Int) < (b.toNat : Int)
      · have hr : rgt p = false := by
          unfold rgt
          rw [hall, hstep]
          unfold okb
          rw [decide_eq_false (show ¬ b.toNat ≤ 126 by omega), Bool.and_false]
          rfl
        obtain rfl : r = false := by rw [← hrr, hr]
        clear hall hstep hr w8_ hrr
        go_wp2
        go_ret
        exact ⟨rfl, hB⟩
      have hok : okb b = true := by
        unfold okb
        rw [decide_eq_true (show 33 ≤ b.toNat by omega), decide_eq_true (show b.toNat ≤ 126 by omega)]
        rfl
      have hall2 : p.data.toList.all okb = (p.data.toList.drop (i + 1)).all okb := by rw [hall, hstep, hok, Bool.true_and]
      clear hall hstep hok
      go_wp2
      go_roundg g1_
      case measure => omega
      case rel => exact ⟨i + 1, by omega, (by first | rfl | (rw [w8_]) | simp), rfl, hall2⟩
end Go.Proofs.Ytnemnhfdjofckaa.Rt
