/- What is joined is parted again. -/
import Derived.Test.YthedaphclgiknaaDoorPrintF4
import Derived.Test.YthedaphclgiknaaDoorEvalD
namespace Go.Proofs.YthedaphclgiknaaDoor.Pure
open Go.RowKit Go.Proofs.YthedaphclgiknaaDoor.Print Go.Proofs.YthedaphclgiknaaDoorW.PrintWords Go.Proofs.YthedaphclgiknaaDoorW.PrintLast Go.Proofs.YthedaphclgiknaaDoor

theorem rd_cons (x : ByteArray) (l : List ByteArray) (i : Nat) : rdOf ByteArray.empty (x :: l) ((i + 1 : Nat) : Int) = rdOf ByteArray.empty l (i : Int) := by
  unfold rdOf
  rw [Int.toNat_natCast, Int.toNat_natCast]
  rfl
theorem parts_loop (x : ByteArray) (l : List ByteArray) (hl : l.length ≤ 1000000) (d : Nat) : ∀ (k i : Nat), i ≤ l.length → l.length - i = d → d < k → headgatelaw16_SpaceParts.l0 k (x :: l) l (i : Int) = some true := by
  induction d with
  | zero =>
    intro k i hi hd hk
    obtain ⟨k, rfl⟩ : ∃ m, k = m + 1 := ⟨k - 1, by omega⟩
    rw [headgatelaw16_SpaceParts.l0, if_neg (by omega), EvD.alive_f, Option.bind_some]
  | succ d ih =>
    intro k i hi hd hk
    obtain ⟨k, rfl⟩ : ∃ m, k = m + 1 := ⟨k - 1, by omega⟩
    rw [headgatelaw16_SpaceParts.l0, if_pos (by omega), EvD.w64 _ (by omega) (by omega), show (i : Int) + 1 = ((i + 1 : Nat) : Int) from by omega, if_pos (by omega), if_pos (by rw [List.length_cons]; omega), if_pos (by omega), rd_cons, if_pos rfl]
    exact ih k (i + 1) (by omega) (by omega) (by omega)
theorem SpaceParts : headgatelaw16_SpaceParts.Pure := by
  intro a0 a1 _ _
  have T : ∀ k, headgatelaw16_SpaceParts.j0 (k + 1) a0 a1 true = some true := fun k => by
    rw [headgatelaw16_SpaceParts.j0, if_pos rfl, EvD.alive_f, Option.bind_some]
  by_cases h0 : (a0.size : Int) > 1100
  · exact ⟨1, by unfold headgatelaw16_SpaceParts.f; rw [if_pos h0]; exact T 0⟩
  by_cases h1 : (a1.size : Int) > 1100
  · exact ⟨1, by unfold headgatelaw16_SpaceParts.f; rw [if_neg h0, decide_eq_true h1]; exact T 0⟩
  have hl := EvD.lns_len a1.data.toList []
  rw [EvD.size_len] at hl
  refine ⟨a1.size + 20, ?_⟩
  unfold headgatelaw16_SpaceParts.f
  rw [if_neg h0, decide_eq_false h1, headgatelaw16_SpaceParts.j0, if_neg (by decide), EvD.first_f _ (by omega), Option.bind_some, EvD.append_f, Option.bind_some]
  have U : headgatelaw16_SpaceParts.j1 (a1.size + 19) a0 a1 (EvD.joined a0 a1).1 (EvD.joined a0 a1).2 true = some true := by
    rw [headgatelaw16_SpaceParts.j1, if_pos rfl, EvD.alive_f, Option.bind_some, if_pos rfl, EvD.w64 _ (by omega) (by omega)]
    unfold EvD.joined
    by_cases h : a0.size + a1.size < 1024
    · rw [if_pos h, decide_eq_true (by omega)]
      rfl
    · rw [if_neg h, decide_eq_false (by omega)]
      rfl
  cases hc : Cu.idx a0 10 with
  | some n =>
    rw [EvD.cut_some hc, if_pos rfl]
    exact U
  | none =>
    rw [EvD.cut_none hc, if_neg (by simp)]
    by_cases h : a0.size + a1.size < 1024
    · have hj : EvD.joined a0 a1 = ((a0 ++ ⟨#[10]⟩) ++ a1, 0) := by unfold EvD.joined; rw [if_pos h]
      have hno := EvD.idx_none hc
      have hd : ((a0 ++ ⟨#[10]⟩) ++ a1 : ByteArray).data.toList = a0.data.toList ++ 10 :: a1.data.toList := by simp
      have hsz : ((a0 ++ ⟨#[10]⟩) ++ a1 : ByteArray).size = a0.size + 1 + a1.size := by rw [ByteArray.size_append, ByteArray.size_append]; rfl
      have hx : Cu.idx ((a0 ++ ⟨#[10]⟩) ++ a1) 10 = some a0.size := by
        refine List.findIdx?_eq_some_iff_getElem.2 ⟨by rw [EvD.size_len, hsz]; omega, ?_, fun j hj => ?_⟩
        · simp only [hd]
          rw [List.getElem_append_right (by rw [EvD.size_len]; exact Nat.le_refl _)]
          simp
        · simp only [hd]
          rw [List.getElem_append_left (by rw [EvD.size_len]; exact hj)]
          exact fun e => hno _ (List.getElem_mem _) (beq_iff_eq.1 e)
      have e1 : ((a0 ++ ⟨#[10]⟩) ++ a1 : ByteArray).extract 0 a0.size = a0 := by
        rw [EvD.mk_extract, hd, List.drop_zero, List.take_left' (EvD.size_len a0)]
        rfl
      have e2 : ((a0 ++ ⟨#[10]⟩) ++ a1 : ByteArray).extract (a0.size + 1) (a0.size + 1 + a1.size) = a1 := by
        rw [EvD.mk_extract, hd, List.take_of_length_le (by rw [List.length_append, List.length_cons, EvD.size_len, EvD.size_len]; omega), show a0.data.toList ++ 10 :: a1.data.toList = (a0.data.toList ++ [10]) ++ a1.data.toList from by simp, List.drop_left' (by rw [List.length_append, EvD.size_len]; rfl)]
        rfl
      rw [hj]
      show headgatelaw16_SpaceParts.j1 (a1.size + 19) a0 a1 ((a0 ++ ⟨#[10]⟩) ++ a1) 0 (0 != 0) = some true
      rw [headgatelaw16_SpaceParts.j1, if_neg (by decide), EvD.first_f _ (by omega), Option.bind_some, EvD.cut_some hx, EvD.lines_f _ (by omega), Option.bind_some, EvD.lines_f _ (by omega), Option.bind_some, hsz, e1, e2]
      rw [hd, EvD.lns_hit _ _ _ hno, List.nil_append, List.map_cons, EvD.mk_of]
      rw [if_pos rfl, if_pos rfl, if_pos rfl, if_pos (by rw [List.length_cons, EvD.w64 _ (by rw [List.length_map]; omega) (by rw [List.length_map]; omega)]; omega), if_pos (by rw [List.length_cons]; omega)]
      have e3 : rdOf ByteArray.empty (a0 :: (EvD.lns a1.data.toList []).map EvD.mk) 0 = a0 := rfl
      rw [e3, show (a0.toList != a0.toList) = false from by simp, headgatelaw16_SpaceParts.j2, if_neg (by decide)]
      exact parts_loop _ _ (by rw [List.length_map]; omega) _ _ 0 (by omega) rfl (by rw [List.length_map]; omega)
    · have hj : EvD.joined a0 a1 = (⟨#[]⟩, 161) := by unfold EvD.joined; rw [if_neg h]
      have e : ((EvD.joined a0 a1).2 != 0) = true := by rw [hj]; rfl
      rw [e]
      exact U
end Go.Proofs.YthedaphclgiknaaDoor.Pure
