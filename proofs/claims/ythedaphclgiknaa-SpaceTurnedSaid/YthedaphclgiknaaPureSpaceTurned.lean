/- Bytes that are changed one for one, and back, are as they were. -/
import Derived.Test.YthedaphclgiknaaPrintF5
import Derived.Test.YthedaphclgiknaaEvalS
namespace Go.Proofs.Ythedaphclgiknaa.Pure
open Go.RowKit Go.Proofs.Ythedaphclgiknaa.Print Go.Proofs.YthedaphclgiknaaW.PrintWords Go.Proofs.YthedaphclgiknaaW.PrintLast Go.Proofs.Ythedaphclgiknaa

def X5 : List Int := (List.range 256).map fun k => ((k : Nat) : Int)
def X6 (b : Nat) : List Int := (List.range 256).map fun k => ((k ^^^ b : Nat) : Int)
theorem X5_len : X5.length = 256 := by simp [X5]
theorem X6_len (b : Nat) : (X6 b).length = 256 := by simp [X6]
theorem xor_lt {k b : Nat} (hk : k < 256) (hb : b < 256) : k ^^^ b < 256 := Nat.xor_lt_two_pow (n := 8) hk hb
theorem F_list : (strOfNums X5).data.toList = (List.range 256).map UInt8.ofNat := by
  show X5.map (fun n => UInt8.ofNat n.toNat) = _
  rw [X5, List.map_map]
  rfl
theorem G_list (b : Nat) : (strOfNums (X6 b)).data.toList = (List.range 256).map fun k => UInt8.ofNat (k ^^^ b) := by
  show (X6 b).map (fun n => UInt8.ofNat n.toNat) = _
  rw [X6, List.map_map]
  rfl
theorem F_size : (strOfNums X5).size = 256 := by
  rw [strOfNums_size, X5_len]
theorem G_size (b : Nat) : (strOfNums (X6 b)).size = 256 := by
  rw [strOfNums_size, X6_len]
theorem idx_of (s : ByteArray) (c : UInt8) (k : Nat) (hk : k < s.data.toList.length) (h1 : s.data.toList[k] = c) (h2 : ∀ j (hj : j < k), s.data.toList[j]'(by omega) ≠ c) : Cu.idx s c = some k :=
  List.findIdx?_eq_some_iff_getElem.2 ⟨hk, by rw [h1]; simp, fun j hj => by simpa using h2 j hj⟩
theorem F_idx (c : UInt8) : Cu.idx (strOfNums X5) c = some c.toNat := by
  have hc := c.toNat_lt
  have hl : (strOfNums X5).data.toList.length = 256 := by rw [F_list]; simp
  refine idx_of _ c c.toNat (by omega) ?_ (fun j hj => ?_)
  · simp [F_list]
  · simp only [F_list, List.getElem_map, List.getElem_range]
    intro h
    have := congrArg UInt8.toNat h
    rw [UInt8.toNat_ofNat', Nat.mod_eq_of_lt (by omega)] at this
    omega
theorem xx (a b : Nat) : (a ^^^ b) ^^^ b = a := by rw [Nat.xor_assoc, Nat.xor_self, Nat.xor_zero]
theorem G_idx (b : Nat) (hb : b < 256) (d : UInt8) : Cu.idx (strOfNums (X6 b)) d = some (d.toNat ^^^ b) := by
  have hd := d.toNat_lt
  have hl : (strOfNums (X6 b)).data.toList.length = 256 := by rw [G_list]; simp
  have hx := xor_lt (k := d.toNat) (by omega) hb
  refine idx_of _ d _ (by omega) ?_ (fun j hj => ?_)
  · simp only [G_list, List.getElem_map, List.getElem_range, xx]
    simp
  · simp only [G_list, List.getElem_map, List.getElem_range]
    intro h
    have := congrArg UInt8.toNat h
    rw [UInt8.toNat_ofNat', Nat.mod_eq_of_lt (xor_lt (by omega) hb)] at this
    rw [← this, xx] at hj
    omega
theorem chg_FG (b : Nat) (c : UInt8) : Cu.chg (strOfNums X5) (strOfNums (X6 b)) c = UInt8.ofNat (c.toNat ^^^ b) := by
  have hc := c.toNat_lt
  unfold Cu.chg
  rw [F_idx]
  simp only [G_size]
  rw [if_pos (by omega), G_list, List.getD_eq_getElem?_getD, List.getElem?_map, List.getElem?_range (by omega)]
  rfl
theorem chg_GF (b : Nat) (hb : b < 256) (d : UInt8) : Cu.chg (strOfNums (X6 b)) (strOfNums X5) d = UInt8.ofNat (d.toNat ^^^ b) := by
  have hx := xor_lt (k := d.toNat) d.toNat_lt hb
  unfold Cu.chg
  rw [G_idx b hb]
  simp only [F_size]
  rw [if_pos hx, F_list, List.getD_eq_getElem?_getD, List.getElem?_map, List.getElem?_range hx]
  rfl
theorem two (b : Nat) (hb : b < 256) (c : UInt8) : UInt8.ofNat ((UInt8.ofNat (c.toNat ^^^ b)).toNat ^^^ b) = c := by
  rw [UInt8.toNat_ofNat', Nat.mod_eq_of_lt (xor_lt c.toNat_lt hb), xx]
  simp
theorem back (s f g f' g' : ByteArray) (h : ∀ c, Cu.chg f' g' (Cu.chg f g c) = c) : Cu.change (Cu.change s f g) f' g' = s := by
  apply ByteArray.ext
  unfold Cu.change
  simp only [List.map_map]
  have : (Cu.chg f' g' ∘ Cu.chg f g) = id := funext h
  rw [this, List.map_id]
theorem none_ (s : ByteArray) : Cu.change s ⟨#[]⟩ ⟨#[]⟩ = s := by
  apply ByteArray.ext
  unfold Cu.change
  have : Cu.chg ⟨#[]⟩ ⟨#[]⟩ = id := funext fun c => rfl
  rw [this, List.map_id]
theorem turned_end (s : ByteArray) (hs : s.size ≤ 1100) (by_ : Int) (b : Nat) (hb : b < 256) (k : Nat) :
    headgatelaw16_SpaceTurned.l0 (k + 1) s by_ X5 (X6 b) 256 = some true := by
  have b1 := back s (strOfNums X5) (strOfNums (X6 b)) (strOfNums (X6 b)) (strOfNums X5) (fun c => by rw [chg_FG, chg_GF b hb, two b hb])
  have b2 := back s (strOfNums X5) (strOfNums (X6 b)) (strOfNums X5) (strOfNums (X6 b)) (fun c => by rw [chg_FG, chg_FG, two b hb])
  rw [headgatelaw16_SpaceTurned.l0, if_neg (by decide), EvS.change_f _ _ _ (by omega), Option.bind_some, EvS.change_f _ _ _ (by rw [EvS.change_size]; omega), Option.bind_some, EvS.alive_f, Option.bind_some, if_pos rfl, b1, if_pos rfl, EvS.change_f _ _ _ (by rw [EvS.change_size]; omega), Option.bind_some, b2, if_pos rfl, EvS.change_f _ _ _ (by omega), Option.bind_some, none_]
  simp
theorem turned_loop (s : ByteArray) (hs : s.size ≤ 1100) (by_ : Int) (hb0 : 0 ≤ by_) (hb1 : by_ < 256) (d : Nat) : ∀ (k i : Nat), i ≤ 256 → 256 - i = d → d < k →
    headgatelaw16_SpaceTurned.l0 k s by_ (X5.take i) ((X6 by_.toNat).take i) (i : Int) = some true := by
  induction d with
  | zero =>
    intro k i hi hd hk
    obtain ⟨k, rfl⟩ : ∃ m, k = m + 1 := ⟨k - 1, by omega⟩
    rw [List.take_of_length_le (by rw [X5_len]; omega), List.take_of_length_le (by rw [X6_len]; omega), show (i : Int) = 256 from by omega]
    exact turned_end s hs by_ by_.toNat (by omega) k
  | succ d ih =>
    intro k i hi hd hk
    obtain ⟨k, rfl⟩ : ∃ m, k = m + 1 := ⟨k - 1, by omega⟩
    have e5 : X5.take i ++ [(i : Int) % 256] = X5.take (i + 1) := by
      rw [List.take_succ_eq_append_getElem (by rw [X5_len]; omega)]
      simp [X5]
      omega
    have e6 : (X6 by_.toNat).take i ++ [Go.bits .xor .u8 ((i : Int) % 256) by_] = (X6 by_.toNat).take (i + 1) := by
      rw [List.take_succ_eq_append_getElem (by rw [X6_len]; omega), u8_xor _ _ (by omega) (by omega) hb0 hb1, show ((i : Int) % 256).toNat = i from by omega]
      simp [X6]
    have w1 : wrap64 ((i : Int) + 1) = ((i + 1 : Nat) : Int) := by unfold wrap64; omega
    rw [headgatelaw16_SpaceTurned.l0, if_pos (by omega), if_pos (by rw [List.length_take, X5_len]; omega), if_pos (by rw [List.length_take, X6_len]; omega), e5, e6, w1]
    exact ih k (i + 1) (by omega) (by omega) (by omega)
theorem SpaceTurned : headgatelaw16_SpaceTurned.Pure := by
  intro a0 a1 _ ha
  have hb : 0 ≤ a1 ∧ a1 < 256 := by
    simp only [Lit.wf, Bool.and_eq_true, decide_eq_true_eq] at ha
    have e1 : IntKind.u8.min = 0 := by decide
    have e2 : IntKind.u8.max = 255 := by decide
    omega
  refine ⟨300, ?_⟩
  unfold headgatelaw16_SpaceTurned.f
  by_cases h0 : (a0.size : Int) > 1100
  · rw [if_pos h0, EvS.alive_f, Option.bind_some]
  · rw [if_neg h0]
    exact turned_loop a0 (by omega) a1 hb.1 hb.2 256 300 0 (by omega) (by omega) (by omega)
end Go.Proofs.Ythedaphclgiknaa.Pure
