/- Bytes that can be read. -/
import Derived.Test.YtnemnhfdjofckaaPrint0
import Derived.Test.YtnemnhfdjofckaaMap
import Derived.Test.YtnemnhfdjofckaaOwn
import Derived.Test.YtnemnhfdjofckaaRd
import Derived.WalkKit
namespace Go.Proofs.Ytnemnhfdjofckaa.Fr
open Go Go.RowKit Hp Rd Go.Proofs.YtnemnhfdjofckaaW.PrintWords Go.Proofs.Ytnemnhfdjofckaa.Print

/-- Bytes that can be read at an address. -/
def Bytes (w : World) (A : Option Addr) (l : List Int) : Prop := 0 < l.length → ∃ ad, A = some ad ∧ ∀ (j : Nat) (x : Int), l[j]? = some x → w.cell? (ad.add j) = some (.int .u8 x)
theorem Bytes.C {w : World} {A : Option Addr} {l : List Int} (h : Bytes w A l) (hl : l.length ≤ 9223372036854775807) : Kd.C (Kd.int .u8) w A l.length l :=
  ⟨rfl, hl, fun h0 => by
    obtain ⟨ad, e, hc⟩ := h h0
    refine ⟨ad, e, fun j p hj => ⟨[.int .u8 p], rfl, rfl, fun i u hu => ?_⟩⟩
    cases i with
    | zero =>
      simp at hu
      subst hu
      show w.cell? (ad.add (j * 1 + 0)) = _
      rw [Nat.mul_one, Nat.add_zero]
      exact hc j p hj
    | succ i => simp at hu⟩
theorem Bytes.own {w : World} {base : Nat} {a : Option Addr} {n c : Nat} {l : List Int} (h : w.ownsRow base 5 1 (.slice a n c) n (l.map (Value.int .u8))) : Bytes w a l := fun h0 => by
  have hl := h.1
  simp at hl
  rcases h.2 with ⟨_, h2⟩ | ⟨g, cap, cur, hv, _⟩
  · omega
  · obtain ⟨rfl, rfl⟩ : a = some ⟨g, 0, none⟩ ∧ c = cap := by simpa using hv
    exact ⟨_, rfl, fun j x hj => h.cells (g := g) rfl j _ (by rw [List.getElem?_map, hj]; rfl)⟩
theorem reps_ints {l : List Int} {cs : List Value} (h : Reps (fun x (c : List Value) => c = [Value.int .u8 x]) 1 l cs) : cs = l.map (Value.int .u8) := by
  obtain ⟨h1, h2⟩ := h
  apply List.ext_getElem?
  intro j
  rw [List.getElem?_map]
  rcases Nat.lt_or_ge j l.length with hj | hj
  · have := h2 j l[j] (List.getElem?_eq_getElem hj)
    rw [Nat.mul_one] at this
    have h3 : ((cs.drop j).take 1)[0]? = some (Value.int .u8 l[j]) := by rw [this]; rfl
    rw [List.getElem?_take_of_lt (by omega), List.getElem?_drop, Nat.add_zero] at h3
    rw [h3, List.getElem?_eq_getElem hj]
    rfl
  · rw [List.getElem?_eq_none (by omega), List.getElem?_eq_none hj]
    rfl
theorem R_row {w : World} {base : Nat} {ok : Nat → Prop} {v : Value} {l : List Int} (h : Kd.R (Kd.int .u8) 5 w base ok v l) : w.ownsRow base 5 1 v l.length (l.map (Value.int .u8)) ∧ ∀ k, v.ownBlock = some k → ok k := by
  obtain ⟨h0, inner, ho, hr⟩ := h
  have := reps_ints hr
  subst this
  exact ⟨ho, h0⟩
theorem Bytes.nil (w : World) (A : Option Addr) : Bytes w A [] := fun h => absurd h (by simp)
theorem Bytes.take {w : World} {A : Option Addr} {l : List Int} (h : Bytes w A l) (n : Nat) : Bytes w A (l.take n) := fun h0 => by
  have hl : 0 < l.length := by simp at h0; omega
  obtain ⟨ad, e, hc⟩ := h hl
  refine ⟨ad, e, fun j x hj => hc j x ?_⟩
  rw [List.getElem?_take] at hj
  split at hj
  · exact hj
  · cases hj
theorem add_add (a : Addr) (i j : Nat) : (a.add i).add j = a.add (i + j) := by
  unfold Addr.add
  by_cases h1 : i = 0
  · subst h1; simp
  · by_cases h2 : j = 0
    · subst h2; simp [h1]
    · simp [h1, h2, Nat.add_assoc]
theorem Bytes.drop {w : World} {A : Option Addr} {l : List Int} {c : Nat} (h : Bytes w A l) (n : Nat) (hc : l.length ≤ c) : Bytes w (if c = n then A else A.map (·.add (n * 1))) (l.drop n) := fun h0 => by
  simp at h0
  obtain ⟨ad, rfl, hx⟩ := h (by omega)
  rw [if_neg (by omega)]
  refine ⟨_, rfl, fun j x hj => ?_⟩
  rw [List.getElem?_drop] at hj
  rw [add_add, Nat.mul_one]
  exact hx _ _ hj
theorem Bytes.kept {S : Nat → Prop} {w w' : World} {A : Option Addr} {l : List Int} (h : Bytes w A l) (k : Kept S w w') (hS : 0 < l.length → ∀ ad, A = some ad → ¬ S ad.block) : Bytes w' A l := fun h0 => by
  obtain ⟨ad, e, hc⟩ := h h0
  refine ⟨ad, e, fun j x hj => ?_⟩
  have h1 := hc j x hj
  have hb : (ad.add j).block = ad.block := by unfold Addr.add; split <;> rfl
  have hn := hS h0 ad e
  unfold World.cell? at h1 ⊢
  cases ho : w.heap[(ad.add j).block]? with
  | none => rw [ho] at h1; cases h1
  | some o =>
    rw [k.heap ho (by rw [hb]; exact hn)]
    rw [ho] at h1
    exact h1
theorem Bytes.below {w w' : World} {A : Option Addr} {l : List Int} (h : Bytes w A l) (k : Below w.heap.size w w') : Bytes w' A l := h.kept (S := fun _ => False) (Kept.of_below k) (fun _ _ _ e => e)
theorem Bytes.at {w : World} {ad : Addr} {l : List Int} (h : Bytes w (some ad) l) (j : Nat) (hj : j < l.length) : w.cell? (ad.add j) = some (.int .u8 l[j]) := by
  obtain ⟨a, e, hc⟩ := h (by omega)
  cases e
  exact hc j _ (List.getElem?_eq_getElem hj)
/-- The text of bytes. -/
theorem Bytes.str {w : World} {A : Option Addr} {l : List Int} (h : Bytes w A l) (hl : l.length ≤ 9223372036854775807) (c : Nat) : Sem.run Try.prog (convert 38 9 (.slice A l.length c)) w = .ok (.string (strOfNums l)) w :=
  Kd.C_string (P := Try.prog) (A := A) (c := c) Try.underlying38 Try.underlying5 Try.underlying9 (h.C hl)
end Go.Proofs.Ytnemnhfdjofckaa.Fr
