/- Bytes that can be read; 'take', which takes the next bytes of a body. -/
import Derived.Test.YtgnepppncmjagaaPrint0
import Derived.Test.YtgnepppncmjagaaMap
import Derived.Test.YtgnepppncmjagaaOwn
import Derived.Test.YtgnepppncmjagaaRd
import Derived.WalkKit
namespace Go.Proofs.Ytgnepppncmjagaa.Fr
open Go Go.RowKit Hp Rd Go.Proofs.YtgnepppncmjagaaW.PrintWords Go.Proofs.Ytgnepppncmjagaa.Print

/-- Bytes that can be read at an address. -/
def Bytes (w : World) (A : Option Addr) (l : List Int) : Prop := 0 < l.length → ∃ ad, A = some ad ∧ ∀ (j : Nat) (x : Int), l[j]? = some x → w.cell? (ad.add j) = some (.int .u8 x)
theorem Bytes.C {w : World} {A : Option Addr} {l : List Int} (h : Bytes w A l) (hl : l.length ≤ 9223372036854775807) : Kd.C (Kd.int .u8) w A l.length l :=
  ⟨rfl, hl, fun h0 => by
    obtain ⟨ad, e, hc⟩ := h h0
    refine ⟨ad, e, fun j p hj => ⟨[.int .u8 p], rfl, rfl, fun i u hu => ?_⟩⟩
    cases i with
    | zero =>
      simp at hu
      subst hu
      show w.cell? (ad.add (j * 1 + 0)) = _
      rw [Nat.mul_one, Nat.add_zero]
      exact hc j p hj
    | succ i => simp at hu⟩
theorem Bytes.own {w : World} {base : Nat} {a : Option Addr} {n c : Nat} {l : List Int} (h : w.ownsRow base 5 1 (.slice a n c) n (l.map (Value.int .u8))) : Bytes w a l := fun h0 => by
  have hl := h.1
  simp at hl
  rcases h.2 with ⟨_, h2⟩ | ⟨g, cap, cur, hv, _⟩
  · omega
  · obtain ⟨rfl, rfl⟩ : a = some ⟨g, 0, none⟩ ∧ c = cap := by simpa using hv
    exact ⟨_, rfl, fun j x hj => h.cells (g := g) rfl j _ (by rw [List.getElem?_map, hj]; rfl)⟩
theorem reps_ints {l : List Int} {cs : List Value} (h : Reps (fun x (c : List Value) => c = [Value.int .u8 x]) 1 l cs) : cs = l.map (Value.int .u8) := by
  obtain ⟨h1, h2⟩ := h
  apply List.ext_getElem?
  intro j
  rw [List.getElem?_map]
  rcases Nat.lt_or_ge j l.length with hj | hj
  · have := h2 j l[j] (List.getElem?_eq_getElem hj)
    rw [Nat.mul_one] at this
    have h3 : ((cs.drop j).take 1)[0]? = some (Value.int .u8 l[j]) := by rw [this]; rfl
    rw [List.getElem?_take_of_lt (by omega), List.getElem?_drop, Nat.add_zero] at h3
    rw [h3, List.getElem?_eq_getElem hj]
    rfl
  · rw [List.getElem?_eq_none (by omega), List.getElem?_eq_none hj]
    rfl
theorem R_row {w : World} {base : Nat} {ok : Nat → Prop} {v : Value} {l : List Int} (h : Kd.R (Kd.int .u8) 5 w base ok v l) : w.ownsRow base 5 1 v l.length (l.map (Value.int .u8)) ∧ ∀ k, v.ownBlock = some k → ok k := by
  obtain ⟨h0, inner, ho, hr⟩ := h
  have := reps_ints hr
  subst this
  exact ⟨ho, h0⟩
theorem Bytes.nil (w : World) (A : Option Addr) : Bytes w A [] := fun h => absurd h (by simp)
theorem Bytes.take {w : World} {A : Option Addr} {l : List Int} (h : Bytes w A l) (n : Nat) : Bytes w A (l.take n) := fun h0 => by
  have hl : 0 < l.length := by simp at h0; omega
  obtain ⟨ad, e, hc⟩ := h hl
  refine ⟨ad, e, fun j x hj => hc j x ?_⟩
  rw [List.getElem?_take] at hj
  split at hj
  · exact hj
  · cases hj
theorem add_add (a : Addr) (i j : Nat) : (a.add i).add j = a.add (i + j) := by
  unfold Addr.add
  by_cases h1 : i = 0
  · subst h1; simp
  · by_cases h2 : j = 0
    · subst h2; simp [h1]
    · simp [h1, h2, Nat.add_assoc]
theorem Bytes.drop {w : World} {A : Option Addr} {l : List Int} {c : Nat} (h : Bytes w A l) (n : Nat) (hc : l.length ≤ c) : Bytes w (if c = n then A else A.map (·.add (n * 1))) (l.drop n) := fun h0 => by
  simp at h0
  obtain ⟨ad, rfl, hx⟩ := h (by omega)
  rw [if_neg (by omega)]
  refine ⟨_, rfl, fun j x hj => ?_⟩
  rw [List.getElem?_drop] at hj
  rw [add_add, Nat.mul_one]
  exact hx _ _ hj
theorem Bytes.kept {S : Nat → Prop} {w w' : World} {A : Option Addr} {l : List Int} (h : Bytes w A l) (k : Kept S w w') (hS : 0 < l.length → ∀ ad, A = some ad → ¬ S ad.block) : Bytes w' A l := fun h0 => by
  obtain ⟨ad, e, hc⟩ := h h0
  refine ⟨ad, e, fun j x hj => ?_⟩
  have h1 := hc j x hj
  have hb : (ad.add j).block = ad.block := by unfold Addr.add; split <;> rfl
  have hn := hS h0 ad e
  unfold World.cell? at h1 ⊢
  cases ho : w.heap[(ad.add j).block]? with
  | none => rw [ho] at h1; cases h1
  | some o =>
    rw [k.heap ho (by rw [hb]; exact hn)]
    rw [ho] at h1
    exact h1
theorem Bytes.below {w w' : World} {A : Option Addr} {l : List Int} (h : Bytes w A l) (k : Below w.heap.size w w') : Bytes w' A l := h.kept (S := fun _ => False) (Kept.of_below k) (fun _ _ _ e => e)
theorem Bytes.at {w : World} {ad : Addr} {l : List Int} (h : Bytes w (some ad) l) (j : Nat) (hj : j < l.length) : w.cell? (ad.add j) = some (.int .u8 l[j]) := by
  obtain ⟨a, e, hc⟩ := h (by omega)
  cases e
  exact hc j _ (List.getElem?_eq_getElem hj)
/-- The text of bytes. -/
theorem Bytes.str {w : World} {A : Option Addr} {l : List Int} (h : Bytes w A l) (hl : l.length ≤ 9223372036854775807) (c : Nat) : Sem.run Try.prog (convert 22 9 (.slice A l.length c)) w = .ok (.string (strOfNums l)) w :=
  Kd.C_string (P := Try.prog) (A := A) (c := c) Try.underlying22 Try.underlying5 Try.underlying9 (h.C hl)

/-- The next n bytes; where there are none, or none were ahead: two noughts. -/
def tkf (ok : Bool) (l : List Int) (n : Nat) : Bool × List Int × List Int := if ok = true ∧ n ≤ l.length then (true, l.take n, l.drop n) else (false, [0, 0], l)
structure Tk (w : World) (B p q : Nat) (ok : Bool) (l : List Int) : Prop where
  okc : w.cell? ⟨p, 0, none⟩ = some (.bool ok)
  okf : w.frozen? ⟨p, 0, none⟩ = false
  sl : ∃ A c, w.cell? ⟨q, 0, none⟩ = some (.slice A l.length c) ∧ l.length ≤ c ∧ Bytes w A l ∧ (0 < l.length → ∀ ad, A = some ad → ad.block < B)
  slf : w.frozen? ⟨q, 0, none⟩ = false
  lp : B ≤ p
  lq : B ≤ q
  ne : p ≠ q
theorem Tk.kept {S : Nat → Prop} {w w' : World} {B p q : Nat} {ok : Bool} {l : List Int} (h : Tk w B p q ok l) (k : Kept S w w') (hS : ∀ i, S i → B ≤ i ∧ i ≠ p ∧ i ≠ q) : Tk w' B p q ok l := by
  have hc : ∀ (b : Nat) (v : Value), ¬ S b → w.cell? ⟨b, 0, none⟩ = some v → w'.cell? ⟨b, 0, none⟩ = some v := fun b v hb h1 => by
    unfold World.cell? at h1 ⊢
    cases ho : w.heap[(⟨b, 0, none⟩ : Addr).block]? with
    | none => rw [ho] at h1; cases h1
    | some o => rw [k.heap ho hb]; rw [ho] at h1; exact h1
  have hlt : ∀ (b : Nat) (v : Value), w.cell? ⟨b, 0, none⟩ = some v → b < w.heap.size := fun b v h1 => by
    unfold World.cell? at h1
    cases ho : w.heap[(⟨b, 0, none⟩ : Addr).block]? with
    | none => rw [ho] at h1; cases h1
    | some o => exact lt_of_heap ho
  have hf : ∀ (b : Nat) (v : Value), ¬ S b → w.cell? ⟨b, 0, none⟩ = some v → w.frozen? ⟨b, 0, none⟩ = false → w'.frozen? ⟨b, 0, none⟩ = false := fun b v hb hc0 h1 => by
    unfold World.frozen? at h1 ⊢
    rw [show w'.heap[(⟨b, 0, none⟩ : Addr).block]? = w.heap[(⟨b, 0, none⟩ : Addr).block]? from k.block b (hlt b v hc0) hb]
    exact h1
  obtain ⟨A, c, h1, h2, h3, h4⟩ := h.sl
  have np : ¬ S p := fun e => (hS p e).2.1 rfl
  have nq : ¬ S q := fun e => (hS q e).2.2 rfl
  exact ⟨hc p _ np h.okc, hf p _ np h.okc h.okf, ⟨A, c, hc q _ nq h1, h2, h3.kept k (fun l0 ad e hs => by have := h4 l0 ad e; have := (hS _ hs).1; omega), h4⟩, hf q _ nq h1 h.slf, h.lp, h.lq, h.ne⟩
theorem cell_set (w : World) (b : Nat) (u v : Value) (h : w.cell? ⟨b, 0, none⟩ = some u) : (w.setCell ⟨b, 0, none⟩ v).cell? ⟨b, 0, none⟩ = some v := World.cell?_setCell_same' _ _ _ (by rw [h]; rfl)
theorem cell_other (w : World) {b b' : Nat} (v : Value) (h : b ≠ b') : (w.setCell ⟨b, 0, none⟩ v).cell? ⟨b', 0, none⟩ = w.cell? ⟨b', 0, none⟩ := by
  unfold World.cell?
  rw [show (w.setCell ⟨b, 0, none⟩ v).heap[(⟨b', 0, none⟩ : Addr).block]? = w.heap[(⟨b', 0, none⟩ : Addr).block]? from Below.heap_setCell w ⟨b, 0, none⟩ v b' (Ne.symm h)]
theorem Tk.set {w : World} {B p q : Nat} {ok : Bool} {l : List Int} (h : Tk w B p q ok l) (ok' : Bool) (l' : List Int) (A' : Option Addr) (n c' : Nat) (hn : n = l'.length) (hlen : l'.length ≤ c') (hb : Bytes w A' l') (hA : 0 < l'.length → ∀ ad, A' = some ad → ad.block < B) :
    Tk ((w.setCell ⟨p, 0, none⟩ (.bool ok')).setCell ⟨q, 0, none⟩ (.slice A' n c')) B p q ok' l' ∧ Kept (fun i => i = p ∨ i = q) w ((w.setCell ⟨p, 0, none⟩ (.bool ok')).setCell ⟨q, 0, none⟩ (.slice A' n c')) := by
  subst hn
  obtain ⟨A, c, h1, -, -, -⟩ := h.sl
  have hK : Kept (fun i => i = p ∨ i = q) w ((w.setCell ⟨p, 0, none⟩ (.bool ok')).setCell ⟨q, 0, none⟩ (.slice A' l'.length c')) := ((Kept.refl _ w).setCell (p := ⟨p, 0, none⟩) (.inr (.inl rfl)) _).setCell (p := ⟨q, 0, none⟩) (.inr (.inr rfl)) _
  refine ⟨⟨?_, ?_, ⟨A', c', ?_, hlen, hb.kept hK (fun l0 ad e hs => by have := hA l0 ad e; have := h.lp; have := h.lq; omega), hA⟩, ?_, h.lp, h.lq, h.ne⟩, hK⟩
  · rw [cell_other _ _ (Ne.symm h.ne)]
    exact cell_set _ _ _ _ h.okc
  · rw [World.frozen?_setCell, World.frozen?_setCell]; exact h.okf
  · exact cell_set _ _ _ _ (by rw [cell_other _ _ h.ne]; exact h1)
  · rw [World.frozen?_setCell, World.frozen?_setCell]; exact h.slf
theorem Tk.fail {w : World} {B p q : Nat} {ok : Bool} {l : List Int} (h : Tk w B p q ok l) (o : Obj) :
    Tk ((w.setCell ⟨p, 0, none⟩ (.bool false)).alloc o) B p q false l ∧ Kept (fun i => i = p ∨ i = q) w ((w.setCell ⟨p, 0, none⟩ (.bool false)).alloc o) := by
  obtain ⟨A, c, h1, h2, h3, h4⟩ := h.sl
  have hK1 : Kept (fun i => i = p ∨ i = q) w (w.setCell ⟨p, 0, none⟩ (.bool false)) := (Kept.refl _ w).setCell (p := ⟨p, 0, none⟩) (.inr (.inl rfl)) _
  have hT : Tk (w.setCell ⟨p, 0, none⟩ (.bool false)) B p q false l := ⟨cell_set _ _ _ _ h.okc, by rw [World.frozen?_setCell]; exact h.okf, ⟨A, c, by rw [cell_other _ _ h.ne]; exact h1, h2, h3.kept hK1 (fun l0 ad e hs => by have := h4 l0 ad e; have := h.lp; have := h.lq; omega), h4⟩, by rw [World.frozen?_setCell]; exact h.slf, h.lp, h.lq, h.ne⟩
  exact ⟨hT.kept (S := fun _ => False) (Kept.of_below ((Below.refl _ _).alloc (Nat.le_refl _) o)) (fun _ e => e.elim), hK1.alloc o⟩
theorem two_bytes (w : World) : Bytes (w.alloc (.cells #[.int .u8 0, .int .u8 0] 5)) (some ⟨w.heap.size, 0, none⟩) [0, 0] := fun _ => ⟨_, rfl, fun j x hj => by
  have hh : (w.alloc (.cells #[.int .u8 0, .int .u8 0] 5)).heap[w.heap.size]? = some (.cells #[.int .u8 0, .int .u8 0] 5 (0, 0)) := heap_alloc_new w _
  rw [Addr.add_mid, Nat.zero_add]
  unfold World.cell?
  simp only [hh]
  match j, hj with
  | 0, hj => cases hj; rfl
  | 1, hj => cases hj; rfl
  | j + 2, hj => simp at hj⟩
set_option maxHeartbeats 1000000 in
set_option maxRecDepth 100000 in
theorem take_ok {w : World} {B p q : Nat} {ok : Bool} {l : List Int} (h : Tk w B p q ok l) (n : Nat) (hl : l.length ≤ 1000000000) (hn : n ≤ 1000000000) :
    Calls Try.prog 34 #[.int .i64 (n : Int), .pointer (some ⟨p, 0, none⟩), .pointer (some ⟨q, 0, none⟩)] w fun e w' => ∃ A c, e = .returned (.slice A (tkf ok l n).2.1.length c) ∧ (tkf ok l n).2.1.length ≤ c ∧ Bytes w' A (tkf ok l n).2.1 ∧
      Tk w' B p q (tkf ok l n).1 (tkf ok l n).2.2 ∧ Kept (fun i => i = p ∨ i = q) w w' := by
  obtain ⟨A, c, h1, h2, h3, h4⟩ := h.sl
  have hok := h.okc
  have hof := h.okf
  have hsf := h.slf
  have hne := h.ne
  have h' := h
  have k0 : (0 : Int) ≤ (n : Int) := by omega
  cases ok with
  | false =>
    have e : tkf false l n = (false, [0, 0], l) := by unfold tkf; simp
    rw [e]
    go_enter Try.func34, Try.ntmps34
    go_wp2_with fail
    go_ret
    obtain ⟨hT, hK⟩ := h.fail (.cells #[.int .u8 0, .int .u8 0] 5)
    exact ⟨_, _, rfl, Nat.le_refl _, by have := two_bytes (w.setCell ⟨p, 0, none⟩ (.bool false)); simpa using this, hT, hK⟩
  | true =>
    by_cases hnl : n ≤ l.length
    · have e : tkf true l n = (true, l.take n, l.drop n) := by unfold tkf; simp [hnl]
      rw [e]
      have k1 : (n : Int) ≤ (l.length : Int) := by omega
      go_enter Try.func34, Try.ntmps34
      go_wp2_with fail
      · have hd : l.drop n = [] := List.drop_of_length_le (by omega)
        obtain ⟨hT, hK⟩ := h'.set true (l.drop n) A (l.length - n) 0 (by simp) (by simp; omega) (by rw [hd]; exact Bytes.nil _ _) (fun l0 => by rw [hd] at l0; simp at l0)
        go_ret
        exact ⟨_, _, rfl, Nat.le_refl _, (h3.take n).kept hK (fun l0 ad e hs => by have := h4 (by simp at l0; omega) ad e; have := h'.lp; have := h'.lq; omega), hT, hK⟩
      · have hb := h3.drop n h2
        rw [if_neg (by assumption), Nat.mul_one] at hb
        obtain ⟨hT, hK⟩ := h'.set true (l.drop n) (A.map (·.add n)) (l.length - n) (c - n) (by simp) (by simp; omega) hb (fun l0 ad e => by
          have l1 : 0 < l.length := by simp at l0; omega
          cases A with
          | none => cases e
          | some a => cases e; have : (a.add n).block = a.block := by unfold Addr.add; split <;> rfl
                      rw [this]; exact h4 l1 a rfl)
        go_ret
        exact ⟨_, _, rfl, Nat.le_refl _, (h3.take n).kept hK (fun l0 ad e hs => by have := h4 (by simp at l0; omega) ad e; have := h'.lp; have := h'.lq; omega), hT, hK⟩
    · have e : tkf true l n = (false, [0, 0], l) := by unfold tkf; simp [hnl]
      rw [e]
      have k1 : ¬ (n : Int) ≤ (l.length : Int) := by omega
      go_enter Try.func34, Try.ntmps34
      go_wp2_with fail
      go_ret
      obtain ⟨hT, hK⟩ := h.fail (.cells #[.int .u8 0, .int .u8 0] 5)
      exact ⟨_, _, rfl, Nat.le_refl _, by have := two_bytes (w.setCell ⟨p, 0, none⟩ (.bool false)); simpa using this, hT, hK⟩
end Go.Proofs.Ytgnepppncmjagaa.Fr
