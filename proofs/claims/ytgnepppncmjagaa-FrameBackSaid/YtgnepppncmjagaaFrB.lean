/- What the laws' walks share. -/
import Derived.Test.YtgnepppncmjagaaFr2
import Derived.Test.YtgnepppncmjagaaPureAsks
import Derived.Test.YtgnepppncmjagaaFrA
import Derived.Test.YtgnepppncmjagaaPureReq
import Derived.Test.YtgnepppncmjagaaAlive
import Derived.Test.YtgnepppncmjagaaPrintF20
import Derived.Test.YtgnepppncmjagaaPrintF36
namespace Go.Proofs.Ytgnepppncmjagaa.Fb
open Go Go.Proofs.Ytgnepppncmjagaa.Fr Go.RowKit Hp Rd Go.Proofs.YtgnepppncmjagaaW.PrintWords Go.Proofs.Ytgnepppncmjagaa.Print
theorem R_bytes {w : World} {base : Nat} {ok : Nat → Prop} {v : Value} {l : List Int} (h : Kd.R (Kd.int .u8) 5 w base ok v l) : ∃ A c, v = .slice A l.length c ∧ l.length ≤ c ∧ Bytes w A l := by
  obtain ⟨ho, -⟩ := R_row h
  rcases ho.2 with ⟨e, h0⟩ | ⟨g, cap, cur, e, _, _, hnc, _, _⟩
  · have : l = [] := List.eq_nil_of_length_eq_zero h0
    subst this
    exact ⟨none, 0, e, Nat.le_refl _, Bytes.nil _ _⟩
  · rw [e] at ho
    exact ⟨_, _, e, hnc, Bytes.own ho⟩
theorem rlc (k : Nat) (x : Int) (l : List Int) (fs : List (List Int)) : rl (k + 1) (x :: l) fs = if l.length < x.toNat then none else rl k (l.drop x.toNat) (fs ++ [l.take x.toNat]) := rfl
theorem rl_len : ∀ (k : Nat) (l : List Int) (fs r : List (List Int)), rl k l fs = some r → r.length ≤ fs.length + l.length
  | 0, l, fs, r, h => by
    unfold rl at h
    split at h
    · cases h
    · cases h; omega
  | _ + 1, [], _, _, h => by cases h
  | k + 1, x :: l, fs, r, h => by
    rw [rlc] at h
    split at h
    · cases h
    · have := rl_len k _ _ _ h
      simp at this ⊢
      omega
theorem refd_len {id kind : Int} {l : List Int} {a : List Int} {b : Int} {fs : List (List Int)} (h : refd id kind l = some (a, b, fs)) : fs.length ≤ l.length := by
  unfold refd at h
  split at h
  · rename_i b0 b1 b2 b3 r
    split at h
    · cases h
    · split at h
      · cases h
      · rename_i h2
        split at h
        · cases h
        · rename_i c s hd
          rw [Option.map_eq_some_iff] at h
          obtain ⟨fs', h3, h4⟩ := h
          cases h4
          have h5 := rl_len _ _ _ _ h3
          have h6 := congrArg List.length hd
          rw [List.length_drop] at h6
          simp at h5 h6 ⊢
          omega
  · cases h
/-- What a request is told as, in one form. -/
def reqv (id : Int) : Option (List Int × Int × List (List Int)) → Int × ByteArray × Bool × Bool × Bool × List ByteArray × Int
  | none => (0, ⟨#[]⟩, false, false, false, [], 231)
  | some (sc, b, fs) => (id, strOfNums sc, b % 2 == 1, b / 2 % 2 == 1, b / 4 == 1, fs.map strOfNums, 0)
theorem one {id : Int} {r : Option (List Int × Int × List (List Int))} {e : Ending} {w' : World} (h : ReqIs id r e w') (hl : ∀ a b fs, r = some (a, b, fs) → fs.length ≤ 1000000000) :
    ∃ i2 s2 q2 x2 y2 fs er, reqv id r = (i2, s2, q2, x2, y2, fs, er) ∧ ∃ A c, e = .returned (.tuple #[.agg #[.int .i64 i2, .string s2, .bool q2, .bool x2, .bool y2, .slice A fs.length c], .int .i64 er]) ∧ fs.length ≤ c ∧ Kd.C Kd.string w' A fs.length fs ∧ fs.length ≤ 1000000000 := by
  match r, h, hl with
  | none, h, _ => exact ⟨_, _, _, _, _, _, _, rfl, none, 0, h, Nat.le_refl _, strs_C (fun h => absurd h (by simp)) (by simp), by simp⟩
  | some (sc, b, fs), ⟨A, c, he, hc, hs⟩, hl =>
    have := hl _ _ _ rfl
    refine ⟨_, _, _, _, _, _, _, rfl, A, c, by rw [he]; simp, by simpa using hc, ?_, by simpa using this⟩
    have h2 := strs_C hs (by simp; omega)
    exact h2
theorem sames_l0 (l : List ByteArray) (hl : l.length ≤ 1000000000) : ∀ (m j : Nat), j + m = l.length → headgateref16_Same.l0 (m + 1) l l (j : Int) = some true := by
  intro m
  induction m with
  | zero =>
    intro j hj
    unfold headgateref16_Same.l0
    rw [if_neg (by omega)]
  | succ m ih =>
    intro j hj
    unfold headgateref16_Same.l0
    rw [if_pos (by omega), if_pos (by omega), if_pos (by omega), if_pos rfl, show wrap64 ((j : Int) + 1) = ((j + 1 : Nat) : Int) by unfold wrap64; omega]
    exact ih (j + 1) (by omega)
theorem same_self (id : Int) (s : ByteArray) (q x i : Bool) (l : List ByteArray) (hl : l.length ≤ 1000000000) : headgatelaw23_same.f (l.length + 1) id s q x i l id s q x i l = some true := by
  have h : headgateref16_Same.f (l.length + 1) l l = some true := by
    unfold headgateref16_Same.f
    rw [if_pos rfl]
    exact sames_l0 l hl l.length 0 (by omega)
  unfold headgatelaw23_same.f
  rw [h]
  simp
theorem rq_len (id : Int) : ∀ (ps : List ByteArray) (acc : List Int), (rq id acc ps).2.2.1.length ≤ 4096
  | [], acc => by
    unfold rq
    split
    · rename_i h; exact h.2.2
    · simp
  | p :: ps, acc => by
    unfold rq
    split
    · simp
    · exact rq_len id ps _
theorem reqd_len (id : Int) (s : ByteArray) (q x i : Bool) (files : List ByteArray) (_h : fewd s files) : (reqd id s q x i files).2.2.1.length ≤ 4096 := by
  unfold reqd
  split
  · simp
  · exact rq_len _ _ _
end Go.Proofs.Ytgnepppncmjagaa.Fb
