/- Lines, first lines and joined texts: what the printed functions of chapter 16 come to. -/
import Derived.Test.YthedaphclgiknaaDoorPrintF5
import Derived.Test.YthedaphclgiknaaDoorPrintF11
import Derived.Test.YthedaphclgiknaaDoorPrintF12
import Derived.Test.YthedaphclgiknaaDoorPrintF9
import Derived.Test.YthedaphclgiknaaDoorPrintF7
import Derived.Test.YthedaphclgiknaaDoorPrintF10
import Derived.Test.YthedaphclgiknaaDoorPrintF8
import Derived.Test.YthedaphclgiknaaDoorPrintF14
import Derived.Test.YthedaphclgiknaaDoorPrintF6
import Derived.Test.YthedaphclgiknaaDoorSplit
namespace Go.Proofs.YthedaphclgiknaaDoor.EvD
open Go.RowKit Go.Proofs.YthedaphclgiknaaDoor.Print Go.Proofs.YthedaphclgiknaaDoorW.PrintWords Go.Proofs.YthedaphclgiknaaDoorW.PrintLast Go.Proofs.YthedaphclgiknaaDoorW.PrintMore Go.Proofs.YthedaphclgiknaaDoor

theorem alive_f : headgatelaw16_alive.f = some true := by decide +kernel
theorem w64 (a : Int) (h : -9223372036854775808 ≤ a) (h1 : a ≤ 9223372036854775807) : wrap64 a = a := by unfold wrap64; omega
def mk (l : List UInt8) : ByteArray := ⟨l.toArray⟩
theorem mk_list (l : List UInt8) : (mk l).data.toList = l := rfl
theorem mk_of (s : ByteArray) : mk s.data.toList = s := rfl
theorem mk_extract (s : ByteArray) (a b : Nat) : s.extract a b = mk ((s.data.toList.take b).drop a) := by
  apply ByteArray.ext
  apply Array.ext'
  simp [mk, List.extract_eq_take_drop, List.drop_take]
theorem size_len (s : ByteArray) : s.data.toList.length = s.size := Array.length_toList
/-- Pieces between line feeds; lines. -/
def pcs : List UInt8 → List UInt8 → List (List UInt8)
  | [], cur => [cur]
  | c :: t, cur => if c = 10 then cur :: pcs t [] else pcs t (cur ++ [c])
def lns : List UInt8 → List UInt8 → List (List UInt8)
  | [], cur => if cur = [] then [] else [cur]
  | c :: t, cur => if c = 10 then cur :: lns t [] else lns t (cur ++ [c])
theorem lns_feed (l : List UInt8) : ∀ cur, lns (l ++ [10]) cur = pcs l cur := by
  induction l with
  | nil => intro cur; simp [lns, pcs]
  | cons c t ih =>
    intro cur
    rw [List.cons_append, lns, pcs, ih, ih]
theorem lns_pcs (l : List UInt8) : ∀ cur, (l = [] → cur ≠ []) → l.getLast? ≠ some 10 → lns l cur = pcs l cur := by
  induction l with
  | nil => intro cur h _; rw [lns, pcs, if_neg (h rfl)]
  | cons c t ih =>
    intro cur _ h2
    rw [lns, pcs]
    by_cases hc : c = 10
    · rw [if_pos hc, if_pos hc]
      have ht : t ≠ [] := fun h => h2 (by rw [h, hc]; rfl)
      rw [ih [] (fun h => absurd h ht) (by rwa [List.getLast?_cons_of_ne_nil ht] at h2)]
    · rw [if_neg hc, if_neg hc]
      by_cases ht : t = []
      · subst ht
        rw [lns, pcs, if_neg (by simp)]
      · exact ih _ (fun h => absurd h ht) (by rwa [List.getLast?_cons_of_ne_nil ht] at h2)
theorem pcs_miss (l : List UInt8) : ∀ cur, (∀ c ∈ l, c ≠ 10) → pcs l cur = [cur ++ l] := by
  induction l with
  | nil => intro cur _; simp [pcs]
  | cons c t ih =>
    intro cur h
    rw [pcs, if_neg (h c (by simp)), ih _ (fun d hd => h d (by simp [hd]))]
    simp
theorem pcs_hit (a b : List UInt8) : ∀ cur, (∀ c ∈ a, c ≠ 10) → pcs (a ++ 10 :: b) cur = (cur ++ a) :: pcs b [] := by
  induction a with
  | nil => intro cur _; simp [pcs]
  | cons c t ih =>
    intro cur h
    rw [List.cons_append, pcs, if_neg (h c (by simp)), ih _ (fun d hd => h d (by simp [hd]))]
    simp
theorem lns_hit (a b : List UInt8) : ∀ cur, (∀ c ∈ a, c ≠ 10) → lns (a ++ 10 :: b) cur = (cur ++ a) :: lns b [] := by
  induction a with
  | nil => intro cur _; simp [lns]
  | cons c t ih =>
    intro cur h
    rw [List.cons_append, lns, if_neg (h c (by simp)), ih _ (fun d hd => h d (by simp [hd]))]
    simp
/-- Where a byte stands first. -/
theorem idx_none {s : ByteArray} {c : UInt8} (h : Cu.idx s c = none) : ∀ x ∈ s.data.toList, x ≠ c := by
  have h' := List.findIdx?_eq_none_iff.1 h
  intro x hx e
  have := h' x hx
  rw [e] at this
  simp at this
theorem idx_some {s : ByteArray} {c : UInt8} {n : Nat} (h : Cu.idx s c = some n) : n < s.size ∧ s.data.toList = s.data.toList.take n ++ c :: s.data.toList.drop (n + 1) ∧ ∀ x ∈ s.data.toList.take n, x ≠ c := by
  obtain ⟨hk, h1, h2⟩ := List.findIdx?_eq_some_iff_getElem.1 h
  refine ⟨by rw [← size_len]; exact hk, ?_, fun x hx e => ?_⟩
  · have : s.data.toList[n] = c := by simpa using h1
    conv => lhs; rw [← List.take_append_drop n s.data.toList, List.drop_eq_getElem_cons hk, this]
  · obtain ⟨j, hj, rfl⟩ := List.mem_iff_getElem.1 hx
    rw [List.length_take] at hj
    rw [List.getElem_take] at e
    exact h2 j (by omega) (by rw [e]; simp)
theorem index_idx (s : ByteArray) (c : UInt8) : Lib.indexB s ⟨#[c]⟩ = match Cu.idx s c with | some n => (n : Int) | none => -1 := by
  show Lib.index s.data.toList [c] = _
  rw [Lib.index_one, Cu.indexByte_idx]
  rfl
theorem splitB_pcs (k : Nat) : ∀ (s : ByteArray), Lib.countB s ⟨#[10]⟩ = k → Lib.splitB ⟨#[10]⟩ 0 k s = (pcs s.data.toList []).map mk := by
  induction k with
  | zero =>
    intro s hk
    cases h : Cu.idx s 10 with
    | none =>
      rw [Lib.splitB_zero, pcs_miss _ _ (idx_none h)]
      rfl
    | some n =>
      have hix := index_idx s 10
      rw [h] at hix
      have := Lib.countB_hit s ⟨#[10]⟩ n (Nat.le_refl 1) hix
      omega
  | succ k ih =>
    intro s hk
    have hix := index_idx s 10
    cases h : Cu.idx s 10 with
    | none =>
      rw [h] at hix
      rw [Lib.countB_miss s ⟨#[10]⟩ hix] at hk
      omega
    | some n =>
      rw [h] at hix
      have hc := Lib.countB_hit s ⟨#[10]⟩ n (Nat.le_refl 1) hix
      obtain ⟨hlt, he, hno⟩ := idx_some h
      rw [Lib.splitB_hit ⟨#[10]⟩ 0 k s n hix]
      have e1 : (⟨#[10]⟩ : ByteArray).size = 1 := rfl
      rw [e1] at hc ⊢
      rw [ih _ (by omega), Nat.add_zero, mk_extract, mk_extract, mk_list]
      conv => rhs; rw [he, pcs_hit _ _ _ hno]
      rw [show s.data.toList.take s.size = s.data.toList from List.take_of_length_le (by rw [size_len]; exact Nat.le_refl _)]
      simp
theorem split_f (s : ByteArray) (h : s.size ≤ 1000000) : strings_Split.f s ⟨#[10]⟩ = some ((pcs s.data.toList []).map mk) := by
  unfold strings_Split.f
  rw [if_pos ⟨rfl, h⟩, splitB_pcs _ s rfl]
theorem drop_last (l : List UInt8) (h : l ≠ []) : l.drop (l.length - 1) = [l.getLast h] := by
  conv => lhs; arg 2; rw [← List.dropLast_concat_getLast h]
  exact List.drop_left' (by rw [List.length_dropLast])
theorem trim_f (s : ByteArray) (h : s.size ≤ 1000000) (hs : s.data.toList ≠ []) : strings_TrimSuffix.f s ⟨#[10]⟩ = some (if s.data.toList.getLast? = some 10 then mk s.data.toList.dropLast else s) := by
  have hl : 1 ≤ s.size := by
    rw [← size_len]
    cases h : s.data.toList with
    | nil => exact absurd h hs
    | cons => simp
  unfold strings_TrimSuffix.f stringslite_TrimSuffix.f stringslite_HasSuffix.f
  have e1 : ((⟨#[10]⟩ : ByteArray).size : Int) = 1 := rfl
  rw [e1, w64 _ (by omega) (by omega), if_pos (by omega), if_pos (by omega), if_pos (by omega), Option.bind_some]
  have et : ((s.size : Int) - 1).toNat = s.size - 1 := by omega
  have e2 : (s.extract (s.size - 1) s.size).toList = [s.data.toList.getLast hs] := by
    rw [Go.Lib.toList_data, mk_extract, mk_list, List.take_of_length_le (by rw [size_len]; exact Nat.le_refl _), ← size_len, drop_last _ hs]
  rw [et, e2]
  have e3 : (⟨#[10]⟩ : ByteArray).toList = [10] := by rw [Go.Lib.toList_data]
  rw [e3, List.getLast?_eq_some_getLast hs]
  by_cases hg : s.data.toList.getLast hs = 10
  · rw [hg, if_pos (by decide), if_pos (by omega), if_pos (by omega), Option.bind_some, if_pos rfl, mk_extract, List.drop_zero, List.dropLast_eq_take, size_len]
  · rw [if_neg (by simpa using hg), Option.bind_some, if_neg (by simpa using hg)]
theorem lines_f (s : ByteArray) (h : s.size ≤ 1000000) : space_Lines.f s = some ((lns s.data.toList []).map mk) := by
  unfold space_Lines.f
  rw [Go.Lib.toList_data]
  by_cases hs : s.data.toList = []
  · rw [if_pos hs, hs]
    rfl
  · rw [if_neg hs, trim_f s h hs, Option.bind_some]
    by_cases hg : s.data.toList.getLast? = some 10
    · rw [if_pos hg, split_f _ (by rw [← size_len, mk_list, List.length_dropLast, size_len]; omega), Option.bind_some, mk_list, ← lns_feed]
      congr 2
      rw [List.getLast?_eq_some_getLast hs] at hg
      have := List.dropLast_concat_getLast hs
      rw [Option.some.inj hg] at this
      rw [this]
    · rw [if_neg hg, split_f s h, Option.bind_some, lns_pcs _ _ (fun e => absurd e hs) hg]
theorem bt_nat (s : ByteArray) (n : Nat) (h : n < s.size) : bt s (n : Int) = ((s.data.toList[n]'(by rw [size_len]; exact h)).toNat : Int) := by
  unfold bt
  rw [dif_pos (by rw [Int.toNat_natCast]; exact h)]
  simp
  rfl
theorem bt_ten {s : ByteArray} {n : Nat} (h : n < s.size) : bt s (n : Int) = 10 ↔ s.data.toList[n]'(by rw [size_len]; exact h) = 10 := by
  rw [bt_nat s n h]
  constructor
  · intro e
    apply UInt8.toNat_inj.1
    show _ = 10
    omega
  · intro e
    rw [e]
    rfl
theorem first_f (s : ByteArray) (h : s.size ≤ 1000000) : space_First.f s = some (Cu.cut s 10) := by
  unfold space_First.f strings_Cut.f
  rw [if_pos ⟨rfl, by omega⟩, Option.bind_some]
  rfl
theorem cut_none {s : ByteArray} (h : Cu.idx s 10 = none) : Cu.cut s 10 = (s, ⟨#[]⟩, false) := by unfold Cu.cut; rw [h]
theorem cut_some {s : ByteArray} {n : Nat} (h : Cu.idx s 10 = some n) : Cu.cut s 10 = (s.extract 0 n, s.extract (n + 1) s.size, true) := by unfold Cu.cut; rw [h]
theorem reffirst_l0 (s : ByteArray) (hs : s.size ≤ 1000000) (d : Nat) : ∀ (k i : Nat), i ≤ s.size → s.size - i = d → d < k → (∀ j (_ : j < i) (hl : j < s.data.toList.length), s.data.toList[j] ≠ 10) →
    headgateref16_First.l0 k s (i : Int) = some (Cu.cut s 10) := by
  induction d with
  | zero =>
    intro k i hi hd hk hno
    obtain ⟨k, rfl⟩ : ∃ m, k = m + 1 := ⟨k - 1, by omega⟩
    have hn : Cu.idx s 10 = none := List.findIdx?_eq_none_iff.2 (fun x hx => by
      obtain ⟨j, hj, rfl⟩ := List.mem_iff_getElem.1 hx
      simpa using hno j (by rw [size_len] at hj; omega) hj)
    rw [headgateref16_First.l0, if_neg (by omega), cut_none hn]
  | succ d ih =>
    intro k i hi hd hk hno
    obtain ⟨k, rfl⟩ : ∃ m, k = m + 1 := ⟨k - 1, by omega⟩
    have hlt : i < s.size := by omega
    have hl : i < s.data.toList.length := by rw [size_len]; exact hlt
    rw [headgateref16_First.l0, if_pos (by omega), if_pos (by omega), w64 _ (by omega) (by omega)]
    by_cases h10 : s.data.toList[i] = 10
    · have hn : Cu.idx s 10 = some i := List.findIdx?_eq_some_iff_getElem.2 ⟨hl, by rw [h10]; rfl, fun j hj e => hno j hj (by omega) (beq_iff_eq.1 e)⟩
      rw [if_pos ((bt_ten hlt).2 h10), if_pos (by omega), if_pos (by omega), if_pos (by omega), cut_some hn, Int.toNat_natCast, show ((i : Int) + 1).toNat = i + 1 from by omega]
    · rw [if_neg (fun e => h10 ((bt_ten hlt).1 e)), show (i : Int) + 1 = ((i + 1 : Nat) : Int) from by omega]
      refine ih k (i + 1) (by omega) (by omega) (by omega) (fun j hj hjl => ?_)
      by_cases hji : j = i
      · subst hji; exact h10
      · exact hno j (by omega) hjl
theorem reffirst_f (s : ByteArray) (hs : s.size ≤ 1000000) (k : Nat) (hk : s.size < k) : headgateref16_First.f k s = some (Cu.cut s 10) := by
  unfold headgateref16_First.f
  exact reffirst_l0 s hs s.size k 0 (by omega) (by omega) hk (fun j hj => by omega)
theorem take_snoc (l : List UInt8) (f i : Nat) (hf : f ≤ i) (h : i < l.length) : (l.take i).drop f ++ [l[i]] = (l.take (i + 1)).drop f := by
  rw [List.take_succ_eq_append_getElem h, List.drop_append_of_le_length (by rw [List.length_take]; omega)]
theorem reflines_l0 (s : ByteArray) (hs : s.size ≤ 1000000) (d : Nat) : ∀ (k i f : Nat) (acc : List ByteArray), i ≤ s.size → f ≤ i → s.size - i = d → d < k → acc.length ≤ i →
    headgateref16_Lines.l0 k s acc (f : Int) (i : Int) = some (acc ++ (lns (s.data.toList.drop i) ((s.data.toList.take i).drop f)).map mk) := by
  induction d with
  | zero =>
    intro k i f acc hi hf hd hk ha
    obtain ⟨k, rfl⟩ : ∃ m, k = m + 1 := ⟨k - 1, by omega⟩
    have hi' : i = s.size := by omega
    have ed : s.data.toList.drop i = [] := List.drop_of_length_le (by rw [size_len]; omega)
    rw [headgateref16_Lines.l0, if_neg (by omega), ed, lns]
    by_cases hfs : (f : Int) < (s.size : Int)
    · have hne : ¬ (s.data.toList.take i).drop f = [] := fun e => by
        have := congrArg List.length e
        rw [List.length_drop, List.length_take, size_len, List.length_nil] at this
        omega
      rw [if_pos hfs, if_pos (by omega), if_pos (by omega), if_pos (by omega), if_neg hne, Int.toNat_natCast, mk_extract, hi']
      rfl
    · have he : (s.data.toList.take i).drop f = [] := List.drop_of_length_le (by rw [List.length_take, size_len]; omega)
      rw [if_neg hfs, if_pos he]
      simp
  | succ d ih =>
    intro k i f acc hi hf hd hk ha
    obtain ⟨k, rfl⟩ : ∃ m, k = m + 1 := ⟨k - 1, by omega⟩
    have hlt : i < s.size := by omega
    have hl : i < s.data.toList.length := by rw [size_len]; exact hlt
    have ed : s.data.toList.drop i = s.data.toList[i] :: s.data.toList.drop (i + 1) := List.drop_eq_getElem_cons hl
    rw [headgateref16_Lines.l0, if_pos (by omega), if_pos (by omega), w64 _ (by omega) (by omega), show (i : Int) + 1 = ((i + 1 : Nat) : Int) from by omega, ed, lns]
    by_cases h10 : s.data.toList[i] = 10
    · rw [if_pos ((bt_ten hlt).2 h10), if_pos (by omega), if_pos (by omega), if_pos (by omega), if_pos (by omega), if_pos h10, Int.toNat_natCast, Int.toNat_natCast, mk_extract]
      rw [ih k (i + 1) (i + 1) _ (by omega) (by omega) (by omega) (by omega) (by rw [List.length_append, List.length_singleton]; omega)]
      have e0 : (s.data.toList.take (i + 1)).drop (i + 1) = [] := List.drop_of_length_le (by rw [List.length_take]; omega)
      rw [e0]
      simp
    · rw [if_neg (fun e => h10 ((bt_ten hlt).1 e)), if_neg h10, take_snoc _ f i hf hl]
      exact ih k (i + 1) f acc (by omega) (by omega) (by omega) (by omega) (by omega)
theorem reflines_f (s : ByteArray) (hs : s.size ≤ 1000000) (k : Nat) (hk : s.size < k) : headgateref16_Lines.f k s = some ((lns s.data.toList []).map mk) := by
  unfold headgateref16_Lines.f
  have := reflines_l0 s hs s.size k 0 0 [] (by omega) (by omega) (by omega) hk (by simp)
  simpa using this
theorem same_l0 (a : List ByteArray) (ha : a.length ≤ 9000000) (d : Nat) : ∀ (k i : Nat), i ≤ a.length → a.length - i = d → d < k → headgateref16_Same.l0 k a a (i : Int) = some true := by
  induction d with
  | zero =>
    intro k i hi hd hk
    obtain ⟨k, rfl⟩ : ∃ m, k = m + 1 := ⟨k - 1, by omega⟩
    rw [headgateref16_Same.l0, if_neg (by omega)]
  | succ d ih =>
    intro k i hi hd hk
    obtain ⟨k, rfl⟩ : ∃ m, k = m + 1 := ⟨k - 1, by omega⟩
    rw [headgateref16_Same.l0, if_pos (by omega), if_pos (by omega), if_pos (by omega), if_pos rfl, w64 _ (by omega) (by omega), show (i : Int) + 1 = ((i + 1 : Nat) : Int) from by omega]
    exact ih k (i + 1) (by omega) (by omega) (by omega)
theorem same_f (a : List ByteArray) (ha : a.length ≤ 9000000) (k : Nat) (hk : a.length < k) : headgateref16_Same.f k a a = some true := by
  unfold headgateref16_Same.f
  rw [if_pos rfl]
  exact same_l0 a ha a.length k 0 (by omega) (by omega) hk
theorem lns_len (l : List UInt8) : ∀ cur, (lns l cur).length ≤ l.length + 1 := by
  induction l with
  | nil => intro cur; rw [lns]; split <;> simp
  | cons c t ih =>
    intro cur
    rw [lns]
    split
    · have := ih []; simp only [List.length_cons]; omega
    · have := ih (cur ++ [c]); simp only [List.length_cons]; omega
def joined (a b : ByteArray) : ByteArray × Int := if a.size + b.size < 1024 then ((a ++ ⟨#[10]⟩) ++ b, 0) else (⟨#[]⟩, 161)
theorem append_f (a b : ByteArray) : space_Append.f a b = some (joined a b) := by
  unfold space_Append.f joined
  split
  · rw [if_neg (by omega)]
  · split
    · rw [if_neg (by omega)]
    · rw [if_pos (by omega)]
theorem refappend_f (a b : ByteArray) (ha : a.size ≤ 1000000) (hb : b.size ≤ 1000000) : headgateref16_Append.f a b = some (joined a b) := by
  unfold headgateref16_Append.f joined
  rw [w64 ((a.size : Int) + 1) (by omega) (by omega), w64 _ (by omega) (by omega)]
  by_cases h1 : (a.size : Int) > 1024
  · rw [if_pos h1, if_neg (by omega)]
  · rw [if_neg h1]
    by_cases h2 : (b.size : Int) > 1024
    · rw [if_pos h2, if_neg (by omega)]
    · rw [if_neg h2]
      by_cases h3 : (a.size : Int) + 1 + (b.size : Int) > 1024
      · rw [if_pos h3, if_neg (by omega)]
      · have e : headgateref16_Feed.f = some (⟨#[10]⟩ : ByteArray) := rfl
        have e1 : (⟨#[10]⟩ : ByteArray).size = 1 := rfl
        rw [if_neg h3, if_pos (by omega), e, Option.bind_some, e1, if_pos (by omega), if_pos (by rw [ByteArray.size_append, e1]; omega)]
end Go.Proofs.YthedaphclgiknaaDoor.EvD
