/- What the printed functions of chapter 16 come to. -/
import Derived.Test.YthedaphclgiknaaPrintF6
import Derived.Test.YthedaphclgiknaaPrintF9
import Derived.Test.YthedaphclgiknaaPrintF8
import Derived.Test.YthedaphclgiknaaPrintF10
import Derived.Test.YthedaphclgiknaaPlainS
namespace Go.Proofs.Ythedaphclgiknaa.EvS
open Go.RowKit Go.Proofs.Ythedaphclgiknaa.Print Go.Proofs.YthedaphclgiknaaW.PrintWords Go.Proofs.YthedaphclgiknaaW.PrintLast Go.Proofs.YthedaphclgiknaaW.PrintMore Go.Proofs.Ythedaphclgiknaa

def nat (l : List UInt8) : List Nat := l.map UInt8.toNat
theorem nat_inj {l m : List UInt8} (h : nat l = nat m) : l = m := by
  induction l generalizing m with
  | nil => cases m with
    | nil => rfl
    | cons => simp [nat] at h
  | cons x t ih => cases m with
    | nil => simp [nat] at h
    | cons y u =>
      simp only [nat, List.map_cons, List.cons.injEq] at h
      rw [ih h.2, UInt8.toNat_inj.1 h.1]
theorem nat_lt (l : List UInt8) : ∀ x ∈ nat l, x < 256 := fun x hx => by
  obtain ⟨c, _, rfl⟩ := List.mem_map.1 hx
  exact c.toNat_lt
theorem nat_app (l m : List UInt8) : nat (l ++ m) = nat l ++ nat m := List.map_append
theorem b_sh : ∀ n : Fin 256, nat (strOfNums (Cu.b (n.val : Int))).data.toList = Pl.sh n.val := by decide +kernel
theorem shown_f (c : UInt8) : ∃ x, space_shown.f (c.toNat : Int) = some x ∧ nat x.data.toList = Pl.sh c.toNat := by
  have hc := c.toNat_lt
  refine ⟨_, ?_, b_sh ⟨c.toNat, hc⟩⟩
  unfold space_shown.f
  rw [if_pos (by omega)]
theorem len_nat (x : ByteArray) : (nat x.data.toList).length = x.size := by
  rw [nat, List.length_map, Array.length_toList]
  rfl
theorem go_f (l : List UInt8) : ∀ (row : Nat) (out : List UInt8), ∃ r, space_List.go l row out = some r ∧ nat r = nat out ++ Pl.ls (nat l) row := by
  induction l with
  | nil => exact fun row out => ⟨_, rfl, nat_app _ _⟩
  | cons c t ih =>
    intro row out
    obtain ⟨x, hx, hs⟩ := shown_f c
    have hl := Pl.sh_len c.toNat c.toNat_lt
    have hlen : x.size = (Pl.sh c.toNat).length := by rw [← hs, len_nat]
    rw [space_List.go, hx, Option.bind_some, if_pos (by omega)]
    show ∃ r, _ ∧ nat r = nat out ++ Pl.ls (c.toNat :: nat t) row
    rw [Pl.ls, ← hlen]
    split
    · obtain ⟨r, h1, h2⟩ := ih x.size ((out ++ [92, 10]) ++ x.data.toList)
      refine ⟨r, h1, ?_⟩
      rw [h2, nat_app, nat_app, hs]
      simp [nat]
    · obtain ⟨r, h1, h2⟩ := ih (row + x.size) (out ++ x.data.toList)
      refine ⟨r, h1, ?_⟩
      rw [h2, nat_app, hs, List.append_assoc]
theorem list_f (s : ByteArray) (h : s.size ≤ 1000000000) : ∃ r, space_List.f s = some r ∧ nat r.data.toList = Pl.ls (nat s.data.toList) 0 := by
  obtain ⟨r, h1, h2⟩ := go_f s.data.toList 0 []
  refine ⟨⟨r.toArray⟩, ?_, by simpa [nat] using h2⟩
  unfold space_List.f
  rw [if_pos h, h1]
  rfl
theorem alive_f : headgatelaw16_alive.f = some true := by decide +kernel
theorem refshown_f (c : UInt8) : ∃ x, headgateref16_shown.f (c.toNat : Int) = some x ∧ nat x.data.toList = Pl.sh c.toNat := by
  have hc := c.toNat_lt
  refine ⟨_, ?_, b_sh ⟨c.toNat, hc⟩⟩
  unfold headgateref16_shown.f
  rw [if_pos (by omega)]
theorem app_toList (a b : ByteArray) : (a ++ b).data.toList = a.data.toList ++ b.data.toList := by simp
theorem refgo_f (l : List UInt8) : ∀ (row out : ByteArray), ∃ r, headgateref16_List.go l row out = some r ∧ nat r.data.toList = nat out.data.toList ++ (nat row.data.toList ++ Pl.ls (nat l) row.size) := by
  induction l with
  | nil =>
    refine fun row out => ⟨_, rfl, ?_⟩
    rw [app_toList, app_toList, app_toList, nat_app, nat_app, nat_app, List.append_assoc, List.append_assoc]
    rfl
  | cons c t ih =>
    intro row out
    obtain ⟨x, hx, hs⟩ := refshown_f c
    have hl := Pl.sh_len c.toNat c.toNat_lt
    have hlen : x.size = (Pl.sh c.toNat).length := by rw [← hs, len_nat]
    have h0 : (⟨#[]⟩ ++ x : ByteArray).size = x.size := by rw [ByteArray.size_append]; exact Nat.zero_add _
    rw [headgateref16_List.go, hx, Option.bind_some, if_pos (by omega)]
    show ∃ r : ByteArray, _ ∧ nat r.data.toList = nat out.data.toList ++ (nat row.data.toList ++ Pl.ls (c.toNat :: nat t) row.size)
    rw [Pl.ls, ← hlen]
    split
    · obtain ⟨r, h1, h2⟩ := ih (⟨#[]⟩ ++ x) ((out ++ row) ++ strOfNums [92, 10])
      refine ⟨r, h1, ?_⟩
      rw [h2, h0, app_toList, app_toList, app_toList, nat_app, nat_app, nat_app, hs, List.append_assoc, List.append_assoc]
      rfl
    · obtain ⟨r, h1, h2⟩ := ih (row ++ x) out
      refine ⟨r, h1, ?_⟩
      rw [h2, app_toList, nat_app, hs, ByteArray.size_append, List.append_assoc]
theorem reflist_f (s : ByteArray) (h : s.size ≤ 1000000000) : ∃ r, headgateref16_List.f s = some r ∧ nat r.data.toList = Pl.ls (nat s.data.toList) 0 := by
  obtain ⟨r, h1, h2⟩ := refgo_f s.data.toList ⟨#[]⟩ ⟨#[]⟩
  refine ⟨r, ?_, h2⟩
  unfold headgateref16_List.f
  rw [if_pos h, h1]
theorem bt_nat (s : ByteArray) (n : Nat) (h : n < s.size) : bt s (n : Int) = ((s.data.toList.getD n 0).toNat : Int) := by
  unfold bt
  rw [dif_pos (by rw [Int.toNat_natCast]; exact h)]
  rw [Cu.getD_at s n h]
  rfl
theorem wrap64_small (a : Int) (h : -9223372036854775808 ≤ a) (h1 : a ≤ 9223372036854775807) : wrap64 a = a := by unfold wrap64; omega
/-- The inner loop, from n - 1 down. -/
def inn (s : Int) (a1 a2 : ByteArray) : Nat → Int → Int
  | 0, c => c
  | n + 1, c => inn s a1 a2 n (if bt a1 n = s then (if n < a2.size then bt a2 n else s) else c)
theorem inn_none (s : Int) (a1 a2 : ByteArray) (n : Nat) (h : ∀ j, j < n → bt a1 j ≠ s) : ∀ c, inn s a1 a2 n c = c := by
  induction n with
  | zero => exact fun c => rfl
  | succ n ih =>
    intro c
    rw [inn, if_neg (h n (by omega)), ih (fun j hj => h j (by omega))]
theorem inn_some (s : Int) (a1 a2 : ByteArray) (k : Nat) (hk : bt a1 k = s) (h : ∀ j, j < k → bt a1 j ≠ s) (n : Nat) (hn : k < n) : ∀ c, inn s a1 a2 n c = if k < a2.size then bt a2 k else s := by
  induction n with
  | zero => omega
  | succ n ih =>
    intro c
    rw [inn]
    by_cases h1 : k = n
    · rw [← h1, if_pos hk, inn_none s a1 a2 k h]
    · exact ih (by omega) _
theorem bt_ne {a1 : ByteArray} {j : Nat} {c : UInt8} (hj : j < a1.size) (h : ¬ (a1.data.toList.getD j 0 == c) = true) : bt a1 j ≠ (c.toNat : Int) := by
  rw [bt_nat a1 j hj]
  intro e
  apply h
  have e' : (a1.data.toList.getD j 0).toNat = c.toNat := by omega
  rw [UInt8.toNat_inj.1 e']
  simp
theorem inn_chg (a1 a2 : ByteArray) (c : UInt8) : inn (c.toNat : Int) a1 a2 a1.size (c.toNat : Int) = ((Cu.chg a1 a2 c).toNat : Int) := by
  have hlen : a1.data.toList.length = a1.size := Array.length_toList
  unfold Cu.chg Cu.idx
  cases h : a1.data.toList.idxOf? c with
  | none =>
    have h' := List.findIdx?_eq_none_iff.1 h
    exact inn_none _ a1 a2 _ (fun j hj => bt_ne hj (by
      have hm := h' (a1.data.toList.getD j 0) (by rw [List.getD_eq_getElem?_getD, List.getElem?_eq_getElem (by omega)]; exact List.getElem_mem _)
      rw [hm]; decide)) _
  | some k =>
    obtain ⟨hk, h1, h2⟩ := List.findIdx?_eq_some_iff_getElem.1 h
    have g : ∀ j (hj : j < a1.data.toList.length), a1.data.toList.getD j 0 = a1.data.toList[j] := fun j hj => by
      rw [List.getD_eq_getElem?_getD, List.getElem?_eq_getElem hj]; rfl
    have hbk : bt a1 k = (c.toNat : Int) := by rw [bt_nat a1 k (by omega), g k hk, beq_iff_eq.1 h1]
    rw [inn_some _ a1 a2 k hbk (fun j hj => bt_ne (by omega) (by rw [g j (by omega)]; exact h2 j hj)) _ (by omega)]
    simp only
    split
    · rename_i hlt
      rw [bt_nat a2 k hlt]
    · rfl
theorem change_l1 (a0 a1 a2 : ByteArray) (hs1 : a1.size ≤ 1000000) (x7 : List Int) (hx : x7.length < 1000000000) (i : Nat) (hi : i < a0.size) (hs0 : a0.size ≤ 1000000) (n : Nat) : ∀ (k : Nat) (c : Int), n ≤ a1.size → n < k →
    headgateref16_Change.l1 k a0 a1 a2 x7 (i : Int) c ((n : Int) - 1) = headgateref16_Change.l0 (k - n - 1) a0 a1 a2 (x7 ++ [inn (bt a0 i) a1 a2 n c]) ((i + 1 : Nat) : Int) := by
  induction n with
  | zero =>
    intro k c _ hk
    obtain ⟨k, rfl⟩ : ∃ m, k = m + 1 := ⟨k - 1, by omega⟩
    rw [headgateref16_Change.l1, if_neg (by omega), if_pos (by omega), wrap64_small _ (by omega) (by omega)]
    rfl
  | succ n ih =>
    intro k c hn hk
    obtain ⟨k, rfl⟩ : ∃ m, k = m + 1 := ⟨k - 1, by omega⟩
    have e1 : ((n + 1 : Nat) : Int) - 1 = (n : Int) := by omega
    have ek : k + 1 - (n + 1) - 1 = k - n - 1 := by omega
    rw [e1, ek, headgateref16_Change.l1, if_pos (by omega), if_pos (by omega), if_pos (by omega), if_pos (by omega), if_pos (by omega), wrap64_small _ (by omega) (by omega), inn]
    by_cases h1 : bt a1 (n : Int) = bt a0 (i : Int)
    · rw [if_pos h1, if_pos h1]
      by_cases h2 : n < a2.size
      · rw [if_pos (by omega), if_pos h2]
        exact ih k _ (by omega) (by omega)
      · rw [if_neg (by omega), if_neg h2]
        exact ih k _ (by omega) (by omega)
    · rw [if_neg h1, if_neg h1]
      exact ih k _ (by omega) (by omega)
def outs (a0 a1 a2 : ByteArray) : List Int := (Cu.change a0 a1 a2).data.toList.map fun b => (b.toNat : Int)
theorem outs_len (a0 a1 a2 : ByteArray) : (outs a0 a1 a2).length = a0.size := by
  rw [outs, List.length_map, Cu.change, List.length_map]
  exact Array.length_toList
theorem outs_at (a0 a1 a2 : ByteArray) (i : Nat) (hi : i < a0.size) : (outs a0 a1 a2)[i]'(by rw [outs_len]; exact hi) = ((Cu.chg a1 a2 (a0.data.toList.getD i 0)).toNat : Int) := by
  have h := Cu.change_at a0 a1 a2 i hi
  rw [show Cu.mid a0 a1 a2 a0.size i = Cu.chg a1 a2 (a0.data.toList.getD i 0) by unfold Cu.mid; rw [if_pos hi]] at h
  rw [← h]
  show _ = (outs a0 a1 a2).getD i 0
  rw [List.getD_eq_getElem?_getD, List.getElem?_eq_getElem (by rw [outs_len]; exact hi)]
  rfl
theorem change_l0 (a0 a1 a2 : ByteArray) (hs0 : a0.size ≤ 1000000) (hs1 : a1.size ≤ 1000000) (d : Nat) : ∀ (k i : Nat), i ≤ a0.size → a0.size - i = d → d * (a1.size + 2) + 1 ≤ k →
    headgateref16_Change.l0 k a0 a1 a2 ((outs a0 a1 a2).take i) (i : Int) = some (Cu.change a0 a1 a2) := by
  induction d with
  | zero =>
    intro k i hi hd hk
    obtain ⟨k, rfl⟩ : ∃ m, k = m + 1 := ⟨k - 1, by omega⟩
    rw [headgateref16_Change.l0, if_neg (by omega), List.take_of_length_le (by rw [outs_len]; omega)]
    exact congrArg some (Cu.change_back a0 a1 a2)
  | succ d ih =>
    intro k i hi hd hk
    obtain ⟨k, rfl⟩ : ∃ m, k = m + 1 := ⟨k - 1, by omega⟩
    have hlt : i < a0.size := by omega
    rw [Nat.add_mul] at hk
    rw [headgateref16_Change.l0, if_pos (by omega), if_pos (by omega), wrap64_small _ (by omega) (by omega)]
    rw [change_l1 a0 a1 a2 hs1 _ (by rw [List.length_take, outs_len]; omega) i hlt hs0 a1.size k _ (by omega) (by omega)]
    have e : (outs a0 a1 a2).take i ++ [inn (bt a0 i) a1 a2 a1.size (bt a0 i)] = (outs a0 a1 a2).take (i + 1) := by
      rw [List.take_succ_eq_append_getElem (by rw [outs_len]; exact hlt), outs_at a0 a1 a2 i hlt, bt_nat a0 i hlt, inn_chg]
    rw [e]
    exact ih _ (i + 1) (by omega) (by omega) (by omega)
theorem refchange_f (a0 a1 a2 : ByteArray) (hs0 : a0.size ≤ 1000000) (hs1 : a1.size ≤ 1000000) : ∃ k, ∀ k', k ≤ k' → headgateref16_Change.f k' a0 a1 a2 = some (Cu.change a0 a1 a2) := by
  refine ⟨a0.size * (a1.size + 2) + 1, fun k hk => ?_⟩
  unfold headgateref16_Change.f
  exact change_l0 a0 a1 a2 hs0 hs1 a0.size k 0 (by omega) (by omega) hk
theorem change_f (a0 a1 a2 : ByteArray) (hs0 : a0.size ≤ 1000000) : space_Change.f a0 a1 a2 = some (Cu.change a0 a1 a2) := by
  unfold space_Change.f
  rw [if_pos (by omega)]
theorem change_size (a0 a1 a2 : ByteArray) : (Cu.change a0 a1 a2).size = a0.size := by
  have h := outs_len a0 a1 a2
  rw [outs, List.length_map, Array.length_toList] at h
  exact h
end Go.Proofs.Ythedaphclgiknaa.EvS
