/- What a reply's frames are. -/
import Derived.Test.YtgnepppncmjagaaFms
import Derived.Test.YtgnepppncmjagaaNum
namespace Go.Proofs.Ytgnepppncmjagaa.Gt
open Go Go.RowKit Hp Rd Go.Proofs.Ytgnepppncmjagaa.Fr
/-- The chunks' bytes, if they are a reply's. -/
def gl (id : Int) : List Fm → List Int → Option (List Int)
  | [], acc => some acc
  | f :: r, acc => if f.kind = 2 ∧ f.id = id ∧ 1 ≤ f.l.length ∧ f.l.length ≤ 1000 ∧ (f.l.length = 1000 ∨ r = []) then gl id r (acc ++ f.l) else none
abbrev Rp := Option (Int × Nat × Nat × Nat × List Int)
def ends (id : Int) (C : List Fm) : List Int → Rp
  | [b0, b1, b2, b3, b4, b5] => (gl id C []).map fun acc => (id, (256 * b0 + b1).toNat, (256 * b2 + b3).toNat, (256 * b4 + b5).toNat, acc)
  | _ => none
/-- The reply of chunks and an end. -/
def ge (C : List Fm) (e : Fm) : Rp := if e.kind = 3 ∧ 0 ≤ e.id ∧ e.id ≤ 65535 then ends e.id C e.l else none
def RV : Rp → Value
  | none => .agg #[.int .i64 0, .int .i64 0, .complex .f64 0 0, .string ⟨#[]⟩]
  | some (id, n, x, y, acc) => .agg #[.int .i64 id, .int .i64 (n : Int), .complex .f64 (fl x) (fl y), .string (strOfNums acc)]
def RE : Rp → Int
  | none => 231
  | some _ => 0
theorem ends_six {l : List Int} (h : l.length = 6) : ∃ b0 b1 b2 b3 b4 b5, l = [b0, b1, b2, b3, b4, b5] := by
  match l, h with
  | [b0, b1, b2, b3, b4, b5], _ => exact ⟨_, _, _, _, _, _, rfl⟩
theorem ge_kind {C : List Fm} {e : Fm} (h : e.kind ≠ 3) : ge C e = none := if_neg (fun k => h k.1)
theorem ge_low {C : List Fm} {e : Fm} (h : e.id < 0) : ge C e = none := if_neg (fun k => by omega)
theorem ge_high {C : List Fm} {e : Fm} (h : 65535 < e.id) : ge C e = none := if_neg (fun k => by omega)
theorem ge_len {C : List Fm} {e : Fm} (h : e.l.length ≠ 6) : ge C e = none := by
  unfold ge
  split
  · match e.l, h with
    | [b0, b1, b2, b3, b4, b5], h => exact absurd rfl h
    | [], _ => rfl
    | [_], _ => rfl
    | [_, _], _ => rfl
    | [_, _, _], _ => rfl
    | [_, _, _, _], _ => rfl
    | [_, _, _, _, _], _ => rfl
    | _ :: _ :: _ :: _ :: _ :: _ :: _ :: _, _ => rfl
  · rfl
theorem ge_bad {C : List Fm} {e : Fm} (h : gl e.id C [] = none) : ge C e = none := by
  unfold ge
  split
  · unfold ends
    split
    · rw [h]; rfl
    · rfl
  · rfl
theorem ge_good {C : List Fm} {e : Fm} {b0 b1 b2 b3 b4 b5 : Int} {acc : List Int} (hk : e.kind = 3) (h0 : 0 ≤ e.id) (h1 : e.id ≤ 65535) (hl : e.l = [b0, b1, b2, b3, b4, b5]) (h : gl e.id C [] = some acc) :
    ge C e = some (e.id, (256 * b0 + b1).toNat, (256 * b2 + b3).toNat, (256 * b4 + b5).toNat, acc) := by
  unfold ge
  rw [if_pos ⟨hk, h0, h1⟩, hl]
  show (gl e.id C []).map _ = _
  rw [h]
  rfl
/-- One chunk. -/
theorem gl_step {id : Int} {C : List Fm} {i : Nat} {f : Fm} (hf : C[i]? = some f) (acc : List Int) (hk : f.kind = 2) (hi : f.id = id) (h1 : 1 ≤ f.l.length) (h2 : f.l.length ≤ 1000) (h3 : f.l.length = 1000 ∨ i + 1 = C.length) :
    gl id (C.drop i) acc = gl id (C.drop (i + 1)) (acc ++ f.l) := by
  obtain ⟨hi2, rfl⟩ := List.getElem?_eq_some_iff.1 hf
  rw [List.drop_eq_getElem_cons hi2]
  show (if _ then _ else _) = _
  rw [if_pos ⟨hk, hi, h1, h2, h3.imp (fun e => e) (fun e => by rw [e, List.drop_length])⟩]
theorem gl_stop {id : Int} {C : List Fm} {i : Nat} {f : Fm} (hf : C[i]? = some f) (acc : List Int) (h : ¬ (f.kind = 2 ∧ f.id = id ∧ 1 ≤ f.l.length ∧ f.l.length ≤ 1000 ∧ (f.l.length = 1000 ∨ i + 1 = C.length))) :
    gl id (C.drop i) acc = none := by
  obtain ⟨hi2, rfl⟩ := List.getElem?_eq_some_iff.1 hf
  rw [List.drop_eq_getElem_cons hi2]
  show (if _ then _ else _) = _
  rw [if_neg (fun k => h ⟨k.1, k.2.1, k.2.2.1, k.2.2.2.1, k.2.2.2.2.imp (fun e => e) (fun e => by have := congrArg List.length e; rw [List.length_drop] at this; simp at this; omega)⟩)]
theorem gl_all {id : Int} {C : List Fm} (acc : List Int) : gl id (C.drop C.length) acc = some acc := by rw [List.drop_length]; rfl
end Go.Proofs.Ytgnepppncmjagaa.Gt
