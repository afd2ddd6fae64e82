/- A request's frame, asked, is the request: plain. -/
import Derived.Test.YtgnepppncmjagaaPureReq
import Derived.Test.YtgnepppncmjagaaPureAsks
import Derived.Test.YtgnepppncmjagaaPrintF11
namespace Go.Proofs.Ytgnepppncmjagaa.Fr
set_option linter.unusedSimpArgs false
open Go Go.RowKit Go.Proofs.YtgnepppncmjagaaW.PrintWords Go.Proofs.Ytgnepppncmjagaa.Print
theorem rl_cons' (k : Nat) (x : Int) (l : List Int) (fs : List (List Int)) : rl (k + 1) (x :: l) fs = if l.length < x.toNat then none else rl k (l.drop x.toNat) (fs ++ [l.take x.toNat]) := rfl
def fbytes : List ByteArray → List Int
  | [] => []
  | p :: ps => ([(p.size : Int) % 256] ++ bytesOf p) ++ fbytes ps
theorem rq_ok (id : Int) : ∀ (ps : List ByteArray) (acc : List Int), rq id acc ps = badr ∨ ((∀ p ∈ ps, p.size ≤ 255) ∧ 0 ≤ id ∧ id ≤ 65535 ∧ rq id acc ps = (id, 1, acc ++ fbytes ps, 0) ∧ (acc ++ fbytes ps).length ≤ 4096)
  | [], acc => by
    unfold rq fbytes
    by_cases h : 0 ≤ id ∧ id ≤ 65535 ∧ acc.length ≤ 4096
    · rw [if_pos h]
      exact .inr ⟨by simp, h.1, h.2.1, by simp, by simpa using h.2.2⟩
    · rw [if_neg h]; exact .inl rfl
  | p :: ps, acc => by
    unfold rq fbytes
    by_cases h : p.size > 255
    · rw [if_pos h]; exact .inl rfl
    · rw [if_neg h]
      rcases rq_ok id ps (acc ++ [(p.size : Int) % 256] ++ bytesOf p) with h1 | ⟨h1, h2, h3, h4, h5⟩
      · exact .inl h1
      · refine .inr ⟨fun x hx => ?_, h2, h3, ?_, ?_⟩
        · rcases List.mem_cons.1 hx with rfl | hx
          · omega
          · exact h1 x hx
        · rw [h4]; simp
        · simpa using h5
theorem rl_fbytes : ∀ (ps : List ByteArray) (fs : List (List Int)), (∀ p ∈ ps, p.size ≤ 255) → rl ps.length (fbytes ps) fs = some (fs ++ ps.map bytesOf)
  | [], fs, _ => by simp [fbytes, rl]
  | p :: ps, fs, h => by
    have hp := h p (List.mem_cons_self ..)
    have e : ((p.size : Int) % 256).toNat = p.size := by omega
    show rl (ps.length + 1) ((p.size : Int) % 256 :: (bytesOf p ++ fbytes ps)) fs = _
    rw [rl_cons', e, if_neg (by simp [bytesOf_len]), show (bytesOf p ++ fbytes ps).drop p.size = fbytes ps by rw [← bytesOf_len p, List.drop_left], show (bytesOf p ++ fbytes ps).take p.size = bytesOf p by rw [← bytesOf_len p, List.take_left], rl_fbytes ps _ (fun x hx => h x (List.mem_cons_of_mem _ hx))]
    simp
theorem bytesOf_byte (s : ByteArray) : bytes (bytesOf s) := fun x hx => by
  unfold bytesOf at hx
  obtain ⟨b, _, rfl⟩ := List.mem_map.1 hx
  have := b.toNat_lt
  omega
theorem fbytes_byte : ∀ (ps : List ByteArray), bytes (fbytes ps)
  | [], x, hx => by simp [fbytes] at hx
  | p :: ps, x, hx => by
    unfold fbytes at hx
    rcases List.mem_append.1 hx with h | h
    · rcases List.mem_append.1 h with h | h
      · simp at h; omega
      · exact bytesOf_byte p x h
    · exact fbytes_byte ps x h
theorem bitsd_byte (q x i : Bool) : 0 ≤ bitsd q x i ∧ bitsd q x i ≤ 7 := by cases q <;> cases x <;> cases i <;> decide
theorem back_bits (q x i : Bool) : (bitsd q x i % 2 == 1) = q ∧ (bitsd q x i / 2 % 2 == 1) = x ∧ (bitsd q x i / 4 == 1) = i := by cases q <;> cases x <;> cases i <;> decide
theorem str_back (s : ByteArray) : strOfNums (bytesOf s) = s := by
  unfold strOfNums bytesOf
  rw [List.map_map]
  have : ((fun n : Int => UInt8.ofNat n.toNat) ∘ fun b : UInt8 => (b.toNat : Int)) = id := by
    funext b
    simp
  first | (rw [this]; simp) | simp [Function.comp_def]
def reqbody (s : ByteArray) (q x i : Bool) (files : List ByteArray) : List Int := reqb s q x i files ++ fbytes files
theorem reqd_two (id : Int) (s : ByteArray) (q x i : Bool) (files : List ByteArray) : reqd id s q x i files = badr ∨ (s.size ≤ 4096 ∧ files.length ≤ 255 ∧ (∀ p ∈ files, p.size ≤ 255) ∧ 0 ≤ id ∧ id ≤ 65535 ∧ reqd id s q x i files = (id, 1, reqbody s q x i files, 0) ∧ (reqbody s q x i files).length ≤ 4096) := by
  unfold reqd
  by_cases h : s.size > 4096 ∨ files.length > 255
  · rw [if_pos h]; exact .inl rfl
  · rw [if_neg h]
    rcases rq_ok id files (reqb s q x i files) with h1 | ⟨h1, h2, h3, h4, h5⟩
    · exact .inl h1
    · exact .inr ⟨by omega, by omega, h1, h2, h3, h4, h5⟩
theorem body_byte (s : ByteArray) (q x i : Bool) (files : List ByteArray) : bytes (reqbody s q x i files) := fun y hy => by
  unfold reqbody reqb at hy
  have hb := bitsd_byte q x i
  simp only [List.mem_append, List.mem_cons, List.not_mem_nil, or_false] at hy
  rcases hy with (((rfl | rfl | rfl) | h) | rfl) | h
  · omega
  · omega
  · omega
  · exact bytesOf_byte s y h
  · omega
  · exact fbytes_byte files y h
theorem refd_back (id : Int) (s : ByteArray) (q x i : Bool) (files : List ByteArray) (hs : s.size ≤ 4096) (hn : files.length ≤ 255) (hp : ∀ p ∈ files, p.size ≤ 255) (h0 : 0 ≤ id) (h1 : id ≤ 65535) (hl : (reqbody s q x i files).length ≤ 4096) :
    refd id 1 (reqbody s q x i files) = some (bytesOf s, bitsd q x i, files.map bytesOf) := by
  obtain ⟨b3, r, hr⟩ : ∃ b3 r, bytesOf s ++ ((files.length : Int) % 256 :: fbytes files) = b3 :: r := by
    cases h : bytesOf s ++ ((files.length : Int) % 256 :: fbytes files) with
    | nil => simp at h
    | cons b r => exact ⟨b, r, rfl⟩
  have hb : reqbody s q x i files = bitsd q x i :: (s.size : Int) / 256 % 256 :: (s.size : Int) % 256 :: b3 :: r := by
    rw [← hr]
    unfold reqbody reqb
    simp
  have hrl : r.length + 1 = s.size + (1 + (fbytes files).length) := by
    have := congrArg List.length hr
    simp [bytesOf_len] at this
    omega
  have hbt := bitsd_byte q x i
  rw [hb] at hl ⊢
  have e : 256 * ((s.size : Int) / 256 % 256) + (s.size : Int) % 256 = (s.size : Int) := by omega
  show (if (1 : Int) ≠ 1 ∨ bitsd q x i > 7 ∨ id < 0 ∨ id > 65535 ∨ r.length + 4 > 4096 then none else if r.length < (256 * ((s.size : Int) / 256 % 256) + (s.size : Int) % 256).toNat then none else match (b3 :: r).drop (256 * ((s.size : Int) / 256 % 256) + (s.size : Int) % 256).toNat with | [] => none | c :: t => (rl c.toNat t []).map fun fs => ((b3 :: r).take (256 * ((s.size : Int) / 256 % 256) + (s.size : Int) % 256).toNat, bitsd q x i, fs)) = _
  rw [e, Int.toNat_natCast, if_neg (by simp at hl; omega), if_neg (by omega), ← hr, show (bytesOf s ++ ((files.length : Int) % 256 :: fbytes files)).drop s.size = (files.length : Int) % 256 :: fbytes files by rw [← bytesOf_len s, List.drop_left], show (bytesOf s ++ ((files.length : Int) % 256 :: fbytes files)).take s.size = bytesOf s by rw [← bytesOf_len s, List.take_left]]
  have e2 : ((files.length : Int) % 256).toNat = files.length := by omega
  show (rl ((files.length : Int) % 256).toNat (fbytes files) []).map _ = _
  rw [e2, rl_fbytes files [] hp]
  rfl
def encd (id : Int) (body : List Int) : List Int := (body.length : Int) / 256 % 256 :: (body.length : Int) % 256 :: id / 256 % 256 :: id % 256 :: 1 :: body
theorem enc_eq (id : Int) (body : List Int) (h0 : 0 ≤ id) (h1 : id ≤ 65535) (hl : body.length ≤ 4096) : frame_Encode.f id 1 body = some (encd id body, 0) := by
  unfold frame_Encode.f
  rw [right_some, Option.bind_some, decide_eq_true ⟨h0, h1, hl⟩, if_pos rfl]
  unfold frame_two.f
  simp only [Option.bind_some, List.length_cons, List.length_nil, List.length_append, List.nil_append, List.cons_append]
  rw [if_pos (by decide)]
  simp only [Option.bind_some, List.length_cons, List.length_nil, List.length_append, List.nil_append, List.cons_append]
  rw [if_pos (by decide)]
  simp only [Option.bind_some, List.length_cons, List.length_nil, List.length_append, List.nil_append, List.cons_append]
  rw [if_pos (by decide), if_pos (by omega)]
  rfl
theorem encd_byte (id : Int) (body : List Int) (hb : bytes body) : bytes (encd id body) := fun y hy => by
  unfold encd at hy
  simp only [List.mem_cons] at hy
  rcases hy with rfl | rfl | rfl | rfl | rfl | h
  · omega
  · omega
  · omega
  · omega
  · omega
  · exact hb y h
end Go.Proofs.Ytgnepppncmjagaa.Fr
