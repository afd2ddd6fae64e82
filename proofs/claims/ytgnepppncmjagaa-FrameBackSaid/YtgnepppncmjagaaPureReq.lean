/- A request's frame, plain. -/
import Derived.Test.YtgnepppncmjagaaPrintF16
import Derived.Test.YtgnepppncmjagaaPrintF17
import Derived.Test.YtgnepppncmjagaaPrintF15
namespace Go.Proofs.Ytgnepppncmjagaa.Fr
open Go Go.RowKit Go.Proofs.YtgnepppncmjagaaW.PrintWords Go.Proofs.Ytgnepppncmjagaa.Print

abbrev badr : Int × Int × List Int × Int := (0, 0, [], 231)
def rq (id : Int) : List Int → List ByteArray → Int × Int × List Int × Int
  | acc, [] => if 0 ≤ id ∧ id ≤ 65535 ∧ acc.length ≤ 4096 then (id, 1, acc, 0) else badr
  | acc, p :: ps => if p.size > 255 then badr else rq id (acc ++ [(p.size : Int) % 256] ++ bytesOf p) ps
theorem rq_long (id : Int) : ∀ (ps : List ByteArray) (acc : List Int), acc.length > 4096 → rq id acc ps = badr
  | [], acc, h => by unfold rq; rw [if_neg (by omega)]
  | p :: ps, acc, h => by
    unfold rq
    split
    · rfl
    · exact rq_long id ps _ (by simp; omega)
def bitsd (q x i : Bool) : Int := (if q then 1 else 0) + (if x then 2 else 0) + (if i then 4 else 0)
def reqb (s : ByteArray) (q x i : Bool) (files : List ByteArray) : List Int := [bitsd q x i] ++ [(s.size : Int) / 256 % 256, (s.size : Int) % 256] ++ bytesOf s ++ [(files.length : Int) % 256]
def reqd (id : Int) (s : ByteArray) (q x i : Bool) (files : List ByteArray) : Int × Int × List Int × Int :=
  if s.size > 4096 ∨ files.length > 255 then badr else rq id (reqb s q x i files) files
theorem right_some (id : Int) (acc : List Int) : frame_Frame_right.f id 1 acc = some (decide (0 ≤ id ∧ id ≤ 65535 ∧ acc.length ≤ 4096)) := by
  unfold frame_Frame_right.f
  by_cases h1 : id ≥ 0
  · rw [if_pos h1]
    by_cases h2 : id ≤ 65535
    · rw [if_pos h2, if_pos (by decide), if_pos (by decide)]
      congr 1
      rw [decide_eq_decide]
      omega
    · rw [if_neg h2, decide_eq_false (by omega)]
  · rw [if_neg h1, decide_eq_false (by omega)]
theorem right_ref (id : Int) (acc : List Int) : headgateref23_Right.f id 1 acc = some (decide (0 ≤ id ∧ id ≤ 65535 ∧ acc.length ≤ 4096)) := right_some id acc
theorem bytesOf_len (s : ByteArray) : (bytesOf s).length = s.size := by simp [bytesOf]
theorem rdOf_at (files : List ByteArray) (j : Nat) (h : j < files.length) : rdOf ByteArray.empty files (j : Int) = files[j] := by
  unfold rdOf
  rw [Int.toNat_natCast, List.getD_eq_getElem?_getD, List.getElem?_eq_getElem h]
  rfl
theorem up (j : Nat) (h : j ≤ 300) : wrap64 ((j : Int) + 1) = ((j + 1 : Nat) : Int) := by unfold wrap64; omega
theorem l1_eq (id : Int) (s : ByteArray) (q x i : Bool) (files : List ByteArray) (hf : ∀ p ∈ files, p.size ≤ 300) (hn : files.length ≤ 300) : ∀ (m j : Nat) (acc : List Int), j + m = files.length → acc.length ≤ 10000 + 301 * j →
    frame_Request.l1 (m + 1) acc files (files.length : Int) (j : Int) id s q x i files = some (rq id acc (files.drop j)) := by
  intro m
  induction m with
  | zero =>
    intro j acc hj ha
    unfold frame_Request.l1
    rw [if_neg (by omega), List.drop_eq_nil_of_le (by omega), right_some]
    show (if decide _ = true then _ else _) = _
    unfold rq
    by_cases h : 0 ≤ id ∧ id ≤ 65535 ∧ acc.length ≤ 4096
    · rw [if_pos h, if_pos (decide_eq_true h)]
    · rw [if_neg h, if_neg (by simpa using h)]
  | succ m ih =>
    intro j acc hj ha
    have hjl : j < files.length := by omega
    have hp := hf files[j] (List.getElem_mem hjl)
    unfold frame_Request.l1
    rw [if_pos (by omega), if_pos (by omega), if_pos (by omega), rdOf_at files j hjl, List.drop_eq_getElem_cons hjl]
    unfold rq
    by_cases h : files[j].size > 255
    · rw [if_pos h, if_pos (by omega)]
    · rw [if_neg h, if_neg (by omega)]
      simp only [Option.bind_some, List.length_append, List.length_cons, List.length_nil]
      rw [if_pos (by omega)]
      rw [if_pos (by omega), up j (by omega)]
      exact ih (j + 1) _ (by omega) (by simp [bytesOf_len]; omega)
theorem rl0_eq (id : Int) (s : ByteArray) (q x i : Bool) (files : List ByteArray) (hf : ∀ p ∈ files, p.size ≤ 300) (hn : files.length ≤ 300) : ∀ (m j : Nat) (acc : List Int), j + m = files.length → acc.length ≤ 10000 + 301 * j →
    headgateref23_Request.l0 (m + 1) acc (j : Int) id s q x i files = some (rq id acc (files.drop j)) := by
  intro m
  induction m with
  | zero =>
    intro j acc hj ha
    unfold headgateref23_Request.l0
    rw [if_neg (by omega), List.drop_eq_nil_of_le (by omega), right_ref]
    show (if decide _ = true then _ else _) = _
    unfold rq
    by_cases h : 0 ≤ id ∧ id ≤ 65535 ∧ acc.length ≤ 4096
    · rw [if_pos h, if_pos (decide_eq_true h)]
    · rw [if_neg h, if_neg (by simpa using h)]
  | succ m ih =>
    intro j acc hj ha
    have hjl : j < files.length := by omega
    have hp := hf files[j] (List.getElem_mem hjl)
    unfold headgateref23_Request.l0
    rw [if_pos (by omega), if_pos (by omega), rdOf_at files j hjl, List.drop_eq_getElem_cons hjl]
    unfold rq
    by_cases h : files[j].size > 255
    · rw [if_pos h, if_pos (by omega)]
    · rw [if_neg h, if_neg (by omega), if_pos (by omega)]
      simp only [Option.bind_some, List.length_append, List.length_cons, List.length_nil]
      rw [if_pos (by omega), up j (by omega)]
      exact ih (j + 1) _ (by omega) (by simp [bytesOf_len]; omega)
theorem few_l0 (id : Int) (s : ByteArray) (q x i : Bool) (files : List ByteArray) (hn : files.length ≤ 300) : ∀ (m j : Nat), j + m = files.length → headgatelaw23_few.l0 (m + 1) (j : Int) id s q x i files = some (decide (∀ p ∈ files.drop j, p.size ≤ 300)) := by
  intro m
  induction m with
  | zero =>
    intro j hj
    unfold headgatelaw23_few.l0
    rw [if_neg (by omega), List.drop_eq_nil_of_le (by omega)]
    simp
  | succ m ih =>
    intro j hj
    have hjl : j < files.length := by omega
    unfold headgatelaw23_few.l0
    rw [if_pos (by omega), if_pos (by omega), rdOf_at files j hjl, List.drop_eq_getElem_cons hjl]
    by_cases h : (files[j].size : Int) > 300
    · rw [if_pos h, decide_eq_false]
      intro e
      have := e files[j] (List.mem_cons_self ..)
      omega
    · rw [if_neg h, up j (by omega), ih (j + 1) (by omega)]
      congr 1
      rw [decide_eq_decide]
      constructor
      · intro e p hp
        rcases List.mem_cons.1 hp with rfl | hp
        · omega
        · exact e p hp
      · intro e p hp
        exact e p (List.mem_cons_of_mem _ hp)
def fewd (s : ByteArray) (files : List ByteArray) : Prop := s.size ≤ 5000 ∧ files.length ≤ 300 ∧ ∀ p ∈ files, p.size ≤ 300
instance (s : ByteArray) (files : List ByteArray) : Decidable (fewd s files) := by unfold fewd; exact inferInstance
theorem few_eq (id : Int) (s : ByteArray) (q x i : Bool) (files : List ByteArray) : headgatelaw23_few.f 400 id s q x i files = some (decide (fewd s files)) := by
  unfold headgatelaw23_few.f
  by_cases h1 : (s.size : Int) > 5000
  · rw [if_pos h1, decide_eq_false (fun e => by have := e.1; omega)]
    rfl
  · rw [if_neg h1]
    by_cases h2 : (files.length : Int) > 300
    · rw [decide_eq_true h2, decide_eq_false (fun e => by have := e.2.1; omega)]
      rfl
    · rw [decide_eq_false h2]
      have h3 : headgatelaw23_few.l0 399 0 id s q x i files = some (decide (∀ p ∈ files.drop 0, p.size ≤ 300)) := by
        have h4 := few_l0 id s q x i files (by omega) files.length 0 (by omega)
        have h5 := h4
        have mono : ∀ d r, headgatelaw23_few.l0 (files.length + 1) 0 id s q x i files = some r → headgatelaw23_few.l0 (files.length + 1 + d) 0 id s q x i files = some r := by
          intro d r hr
          induction d with
          | zero => exact hr
          | succ d ih => exact (headgatelaw23_few.mono_l (files.length + 1 + d)).2 _ _ _ _ _ _ _ r ih
        have h6 := mono (399 - (files.length + 1)) _ h4
        rw [show files.length + 1 + (399 - (files.length + 1)) = 399 by omega] at h6
        exact h6
      show headgatelaw23_few.l0 399 0 id s q x i files = _
      rw [h3]
      congr 1
      rw [decide_eq_decide, List.drop_zero]
      exact ⟨fun e => ⟨by omega, by omega, e⟩, fun e => e.2.2⟩
theorem mono_up {α : Type} (f : Nat → Option α) (hm : ∀ k r, f k = some r → f (k + 1) = some r) {k n : Nat} {r : α} (h : f k = some r) (hk : k ≤ n) : f n = some r := by
  obtain ⟨d, rfl⟩ := Nat.le.dest hk
  clear hk
  induction d with
  | zero => exact h
  | succ d ih => exact hm _ _ ih
theorem rd3 (q x i : Bool) : rdOf false [q, x, i] 0 = q ∧ rdOf false [q, x, i] 1 = x ∧ rdOf false [q, x, i] 2 = i := ⟨rfl, rfl, rfl⟩
theorem bits_eq (q x i : Bool) : bitsd q x i = (let b0 : Int := if q = true then Go.bits .or .u8 0 (shl .u8 1 0) else 0; let b1 : Int := if x = true then Go.bits .or .u8 b0 (shl .u8 1 1) else b0; if i = true then Go.bits .or .u8 b1 (shl .u8 1 2) else b1) := by
  cases q <;> cases x <;> cases i <;> decide +kernel
theorem l0_end (k : Nat) (b : Int) (id : Int) (s : ByteArray) (q x i : Bool) (files : List ByteArray) (hs : s.size ≤ 5000) (hf : ∀ p ∈ files, p.size ≤ 300) (hn : files.length ≤ 255) (hk : files.length + 1 ≤ k) :
    frame_Request.l0 (k + 1) b [q, x, i] 3 3 id s q x i files = some (rq id ([b] ++ [(s.size : Int) / 256 % 256, (s.size : Int) % 256] ++ bytesOf s ++ [(files.length : Int) % 256]) files) := by
  unfold frame_Request.l0
  rw [if_neg (by decide)]
  unfold frame_two.f
  simp only [Option.bind_some, List.length_cons, List.length_nil]
  rw [if_pos (by decide)]
  simp only [Option.bind_some, List.length_append, List.length_cons, List.length_nil]
  rw [if_pos (by omega), if_pos (by rw [bytesOf_len]; omega)]
  have h := l1_eq id s q x i files hf (by omega) files.length 0 ([b] ++ [(s.size : Int) / 256 % 256, (s.size : Int) % 256] ++ bytesOf s ++ [(files.length : Int) % 256]) (by omega) (by simp [bytesOf_len]; omega)
  exact mono_up (fun k => frame_Request.l1 k _ files (files.length : Int) 0 id s q x i files) (fun k r hr => (frame_Request.mono_l k).2.2 _ _ _ _ _ _ _ _ _ _ r hr) h hk
theorem fj0 (k : Nat) (id : Int) (s : ByteArray) (q x i : Bool) (files : List ByteArray) : frame_Request.j0 (k + 1) false id s q x i files = frame_Request.l0 k 0 [q, x, i] 3 0 id s q x i files := rfl
theorem frame_req (id : Int) (s : ByteArray) (q x i : Bool) (files : List ByteArray) (h : fewd s files) : frame_Request.f 400 id s q x i files = some (reqd id s q x i files) := by
  obtain ⟨h1, h2, h3⟩ := h
  unfold frame_Request.f
  rw [if_neg (by omega)]
  by_cases hn : files.length > 255
  · rw [decide_eq_true (by omega)]
    unfold reqd
    rw [if_pos (Or.inr hn)]
    rfl
  · rw [decide_eq_false (by omega)]
    rw [fj0 399]
    have e : frame_Request.l0 399 0 [q, x, i] 3 0 id s q x i files = some (rq id (reqb s q x i files) files) := by
      have w0 : wrap64 ((0 : Int) + 1) = 1 := by unfold wrap64; omega
      have w1 : wrap64 ((1 : Int) + 1) = 2 := by unfold wrap64; omega
      have w2 : wrap64 ((2 : Int) + 1) = 3 := by unfold wrap64; omega
      have h0 : ∀ b : Int, ∀ k, frame_Request.l0 (k + 1) b [q, x, i] 3 0 id s q x i files = frame_Request.l0 k (if q = true then Go.bits .or .u8 b (shl .u8 1 0) else b) [q, x, i] 3 1 id s q x i files := fun b k => by
        conv => lhs; unfold frame_Request.l0
        rw [if_pos (by decide), if_pos (by decide), if_pos (by simp), (rd3 q x i).1, w0]
        cases q <;> rfl
      have h1 : ∀ b : Int, ∀ k, frame_Request.l0 (k + 1) b [q, x, i] 3 1 id s q x i files = frame_Request.l0 k (if x = true then Go.bits .or .u8 b (shl .u8 1 1) else b) [q, x, i] 3 2 id s q x i files := fun b k => by
        conv => lhs; unfold frame_Request.l0
        rw [if_pos (by decide), if_pos (by decide), if_pos (by simp), (rd3 q x i).2.1, w1]
        cases x <;> rfl
      have h2 : ∀ b : Int, ∀ k, frame_Request.l0 (k + 1) b [q, x, i] 3 2 id s q x i files = frame_Request.l0 k (if i = true then Go.bits .or .u8 b (shl .u8 1 2) else b) [q, x, i] 3 3 id s q x i files := fun b k => by
        conv => lhs; unfold frame_Request.l0
        rw [if_pos (by decide), if_pos (by decide), if_pos (by simp), (rd3 q x i).2.2, w2]
        cases i <;> rfl
      rw [h0 0 398, h1 _ 397, h2 _ 396, l0_end 395 _ id s q x i files (by omega) h3 (by omega) (by omega)]
      unfold reqb
      rw [bits_eq]
    rw [e]
    unfold reqd
    by_cases hs : s.size > 4096
    · rw [if_pos (Or.inl hs), rq_long]
      unfold reqb
      simp [bytesOf_len]
      omega
    · rw [if_neg (fun e => e.elim hs hn)]
theorem rj0 (k : Nat) (b id : Int) (s : ByteArray) (q x i : Bool) (files : List ByteArray) : headgateref23_Request.j0 (k + 1) b id s q x i files = headgateref23_Request.j1 k (if x = true then wrap64 (b + 2) else b) id s q x i files := by cases x <;> rfl
theorem rj1 (k : Nat) (b id : Int) (s : ByteArray) (q x i : Bool) (files : List ByteArray) : headgateref23_Request.j1 (k + 1) b id s q x i files = headgateref23_Request.j2 k (if i = true then wrap64 (b + 4) else b) id s q x i files := by cases i <;> rfl
theorem rj2 (k : Nat) (b id : Int) (s : ByteArray) (q x i : Bool) (files : List ByteArray) : headgateref23_Request.j2 (k + 1) b id s q x i files = if (s.size : Int) > 4096 then (headgateref23_Request.j3 k b true id s q x i files) else (headgateref23_Request.j3 k b (decide ((files.length : Int) > 255)) id s q x i files) := rfl
theorem rj3t (k : Nat) (b id : Int) (s : ByteArray) (q x i : Bool) (files : List ByteArray) : headgateref23_Request.j3 (k + 1) b true id s q x i files = some badr := rfl
theorem rj3 (k : Nat) (b id : Int) (s : ByteArray) (q x i : Bool) (files : List ByteArray) (hb0 : 0 ≤ b) (hb7 : b ≤ 7) (hs : s.size ≤ 4096) (_hn : files.length ≤ 255) : headgateref23_Request.j3 (k + 1) b false id s q x i files = headgateref23_Request.l0 k ([b] ++ [(s.size : Int) / 256 % 256, (s.size : Int) % 256] ++ bytesOf s ++ [(files.length : Int) % 256]) 0 id s q x i files := by
  show (if false = true then some badr else (some ([b % 256] : List Int)).bind fun y218 => (headgateref23_two.f (s.size : Int)).bind fun t221 => if y218.length + t221.length < 140737488355328 then (some (y218 ++ t221)).bind fun y224 => if y224.length + s.size < 140737488355328 then (some (y224 ++ bytesOf s)).bind fun y227 => if y227.length < 140737488355328 then headgateref23_Request.l0 k (y227 ++ [(files.length : Int) % 256]) 0 id s q x i files else none else none else none) = _
  unfold headgateref23_two.f
  rw [if_neg (by simp)]
  simp only [Option.bind_some, List.length_append, List.length_cons, List.length_nil]
  rw [if_pos (by omega), if_pos (by omega), if_pos (by rw [bytesOf_len]; omega)]
  rw [show b % 256 = b by omega, Int.tdiv_eq_ediv_of_nonneg (by omega), show wrap64 ((s.size : Int) / 256) = (s.size : Int) / 256 by unfold wrap64; omega]
theorem ref_req (id : Int) (s : ByteArray) (q x i : Bool) (files : List ByteArray) (h : fewd s files) : headgateref23_Request.f 400 id s q x i files = some (reqd id s q x i files) := by
  obtain ⟨h1, h2, h3⟩ := h
  have hj : ∀ b : Int, 0 ≤ b → b ≤ 7 → b = bitsd q x i → headgateref23_Request.j2 398 b id s q x i files = some (reqd id s q x i files) := fun b hb0 hb7 hbe => by
    unfold reqd
    rw [rj2 397]
    by_cases hs : (s.size : Int) > 4096
    · rw [if_pos hs, if_pos (Or.inl (by omega)), rj3t 396]
    · rw [if_neg hs]
      by_cases hn : (files.length : Int) > 255
      · rw [decide_eq_true hn, if_pos (Or.inr (by omega)), rj3t 396]
      · rw [decide_eq_false hn, if_neg (by omega), rj3 396 b id s q x i files hb0 hb7 (by omega) (by omega)]
        have h := rl0_eq id s q x i files h3 h2 files.length 0 (reqb s q x i files) (by omega) (by unfold reqb; simp [bytesOf_len]; omega)
        have h' := mono_up (fun k => headgateref23_Request.l0 k (reqb s q x i files) 0 id s q x i files) (fun k r hr => (headgateref23_Request.mono_l k).2.2.2.2 _ _ _ _ _ _ _ _ r hr) h (show files.length + 1 ≤ 396 by omega)
        rw [List.drop_zero] at h'
        unfold reqb at h' ⊢
        rw [← hbe] at h' ⊢
        exact h'
  have e : headgateref23_Request.f 400 id s q x i files = headgateref23_Request.j0 400 (if q = true then 0 + 1 else 0) id s q x i files := by
    unfold headgateref23_Request.f
    cases q <;> rfl
  rw [e, rj0 399, rj1 398]
  have w2 : wrap64 (2 : Int) = 2 := by unfold wrap64; omega
  have w3 : wrap64 (3 : Int) = 3 := by unfold wrap64; omega
  have w4 : wrap64 (4 : Int) = 4 := by unfold wrap64; omega
  have w5 : wrap64 (5 : Int) = 5 := by unfold wrap64; omega
  have w6 : wrap64 (6 : Int) = 6 := by unfold wrap64; omega
  have w7 : wrap64 (7 : Int) = 7 := by unfold wrap64; omega
  apply hj <;> (cases q <;> cases x <;> cases i <;> simp [w2, w3, w4, w5, w6, w7, bitsd])
end Go.Proofs.Ytgnepppncmjagaa.Fr
