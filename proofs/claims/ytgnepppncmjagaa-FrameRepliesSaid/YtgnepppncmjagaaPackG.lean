/- Frames in rows; numbers; told. -/
import Derived.Test.YtgnepppncmjagaaFr1
import Derived.Test.YtgnepppncmjagaaCells
import Derived.Test.YtgnepppncmjagaaFrA
import Derived.Test.YtgnepppncmjagaaDr
import Derived.Test.YtgnepppncmjagaaOwn
namespace Go.Proofs.Ytgnepppncmjagaa.Gt
open Go Go.RowKit Hp Rd Go.Proofs.Ytgnepppncmjagaa.Fr
/-- A frame, and where its body lies. -/
structure Fm where
  id : Int
  kind : Int
  A : Option Addr
  l : List Int
  c : Nat
def Fm.cells (f : Fm) : List Value := [.int .i64 f.id, .int .i64 f.kind, .slice f.A f.l.length f.c]
def fcells : List Fm → List Value
  | [] => []
  | f :: r => f.cells ++ fcells r
theorem fcells_snoc : ∀ (L : List Fm) (f : Fm), fcells (L ++ [f]) = fcells L ++ f.cells
  | [], _ => by simp [fcells]
  | g :: L, f => by
    show g.cells ++ fcells (L ++ [f]) = (g.cells ++ fcells L) ++ f.cells
    rw [fcells_snoc L f, List.append_assoc]
theorem fcells_at : ∀ (L : List Fm) (k : Nat) (f : Fm), L[k]? = some f → (fcells L)[k * 3]? = some (.int .i64 f.id) ∧ (fcells L)[k * 3 + 1]? = some (.int .i64 f.kind) ∧ (fcells L)[k * 3 + 2]? = some (.slice f.A f.l.length f.c)
  | g :: L, 0, f, h => by
    obtain rfl : g = f := by simpa using h
    exact ⟨rfl, rfl, rfl⟩
  | g :: L, k + 1, f, h => by
    have h1 := fcells_at L k f (by simpa using h)
    have h2 : fcells (g :: L) = .int .i64 g.id :: .int .i64 g.kind :: .slice g.A g.l.length g.c :: fcells L := rfl
    rw [h2, show (k + 1) * 3 = k * 3 + 3 by omega]
    exact h1
/-- The frame at a place. -/
structure FmAt (w : World) (f : Fm) (g off : Nat) : Prop where
  c0 : w.cell? ⟨g, off, none⟩ = some (.int .i64 f.id)
  c1 : w.cell? ⟨g, off + 1, none⟩ = some (.int .i64 f.kind)
  c2 : w.cell? ⟨g, off + 2, none⟩ = some (.slice f.A f.l.length f.c)
/-- Its body can be read; it lies below. -/
structure FmOk (w : World) (B : Nat) (f : Fm) : Prop where
  len : f.l.length ≤ f.c
  byt : Bytes w f.A f.l
  num : ∀ x ∈ f.l, 0 ≤ x ∧ x ≤ 255
  low : 0 < f.l.length → ∀ ad, f.A = some ad → ad.block < B
theorem FmAt.lt {w : World} {f : Fm} {g off : Nat} (h : FmAt w f g off) : g < w.heap.size := World.block_lt_of_cell? w ⟨g, off, none⟩ h.c0
theorem FmAt.kept {S : Nat → Prop} {w w' : World} {f : Fm} {g off : Nat} (h : FmAt w f g off) (k : Kept S w w') (hg : ¬ S g) : FmAt w' f g off := by
  have hb : w'.heap[g]? = w.heap[g]? := k.block g h.lt hg
  exact ⟨(World.cell?_of_block (a := ⟨g, off, none⟩) hb).trans h.c0, (World.cell?_of_block (a := ⟨g, off + 1, none⟩) hb).trans h.c1, (World.cell?_of_block (a := ⟨g, off + 2, none⟩) hb).trans h.c2⟩
theorem FmAt.below {w w' : World} {f : Fm} {g off : Nat} (h : FmAt w f g off) (k : Below w.heap.size w w') : FmAt w' f g off := h.kept (S := fun _ => False) (Kept.of_below k) (fun e => e)
theorem FmOk.kept {S : Nat → Prop} {w w' : World} {B : Nat} {f : Fm} (h : FmOk w B f) (k : Kept S w w') (hS : ∀ i, S i → B ≤ i) : FmOk w' B f :=
  ⟨h.len, h.byt.kept k (fun h0 ad e hs => by have := h.low h0 ad e; have := hS _ hs; omega), h.num, h.low⟩
theorem FmOk.below {w w' : World} {B : Nat} {f : Fm} (h : FmOk w B f) (k : Below w.heap.size w w') : FmOk w' B f := h.kept (S := fun _ => False) (Kept.of_below k) (fun _ e => e.elim)
theorem FmOk.mono {w : World} {B B' : Nat} {f : Fm} (h : FmOk w B f) (hB : B ≤ B') : FmOk w B' f := ⟨h.len, h.byt, h.num, fun h0 ad e => Nat.lt_of_lt_of_le (h.low h0 ad e) hB⟩
/-- A row of frames; all of it lies below B. -/
structure FmsAt (w : World) (B : Nat) (A : Option Addr) (L : List Fm) : Prop where
  at_ : ∀ (i : Nat) (f : Fm), L[i]? = some f → ∃ g off, A = some ⟨g, off, none⟩ ∧ g < B ∧ FmAt w f g (off + i * 3)
  ok : ∀ f ∈ L, FmOk w B f
theorem FmsAt.kept {S : Nat → Prop} {w w' : World} {B : Nat} {A : Option Addr} {L : List Fm} (h : FmsAt w B A L) (k : Kept S w w') (hS : ∀ i, S i → B ≤ i) : FmsAt w' B A L :=
  ⟨fun i f hi => by
    obtain ⟨g, off, e, hg, hf⟩ := h.at_ i f hi
    exact ⟨g, off, e, hg, hf.kept k (fun hs => by have := hS _ hs; omega)⟩, fun f hf => (h.ok f hf).kept k hS⟩
theorem FmsAt.below {w w' : World} {B : Nat} {A : Option Addr} {L : List Fm} (h : FmsAt w B A L) (k : Below w.heap.size w w') : FmsAt w' B A L := h.kept (S := fun _ => False) (Kept.of_below k) (fun _ e => e.elim)
theorem FmsAt.mono {w : World} {B B' : Nat} {A : Option Addr} {L : List Fm} (h : FmsAt w B A L) (hB : B ≤ B') : FmsAt w B' A L :=
  ⟨fun i f hi => by
    obtain ⟨g, off, e, hg, hf⟩ := h.at_ i f hi
    exact ⟨g, off, e, by omega, hf⟩, fun f hf => (h.ok f hf).mono hB⟩
theorem FmsAt.nil (w : World) (B : Nat) (A : Option Addr) : FmsAt w B A [] := ⟨fun i f hi => by simp at hi, fun f hf => by simp at hf⟩
/-- A row of one's own is one. -/
theorem fms_own {w : World} {base B n : Nat} {e : TypeId} {a : Option Addr} {c : Nat} {L : List Fm} (h : w.ownsRow base e 3 (.slice a n c) n (fcells L)) (hL : L.length = n) (hok : ∀ f ∈ L, FmOk w B f) (hB : w.heap.size ≤ B) : FmsAt w B a L := by
  refine ⟨fun i f hi => ?_, hok⟩
  have hin := (List.getElem?_eq_some_iff.1 hi).1
  rcases h.2 with ⟨_, h2⟩ | ⟨g, cap, cur, hv, _⟩
  · omega
  · obtain ⟨rfl, rfl⟩ : a = some ⟨g, 0, none⟩ ∧ c = cap := by simpa using hv
    obtain ⟨k0, k1, k2⟩ := fcells_at L i f hi
    have hc : ∀ j u, (fcells L)[j]? = some u → w.cell? ⟨g, j, none⟩ = some u := fun j u hj => by
      have := h.cells (g := g) rfl j u hj
      rwa [Addr.add_mid, Nat.zero_add] at this
    refine ⟨g, 0, rfl, ?_, ?_⟩
    · have := (h.lt g rfl).2
      omega
    · rw [Nat.zero_add]
      exact ⟨hc _ _ k0, hc _ _ k1, hc _ _ k2⟩
end Go.Proofs.Ytgnepppncmjagaa.Gt

namespace Go.Proofs.Ytgnepppncmjagaa.Gt
open Go Go.RowKit
/-- A whole number as a float. -/
def fl (n : Nat) : Nat := FloatKind.f64.nearest (n : Int)
theorem cut_none (way : Ieee.Toward) (neg : Bool) (n : Nat) : way.cut neg n 0 = n := by
  unfold Ieee.Toward.cut
  have h : (1 <<< min 0 (n.log2 + 2) : Nat) = 1 := by rw [Nat.zero_min]; rfl
  simp only [h, Nat.div_one, Nat.mod_one]
  cases way <;> simp
theorem cut_zero (neg : Bool) (n d : Nat) (h : d ≤ n.log2 + 2) : Ieee.Toward.zero.cut neg n d = n / 2 ^ d := by
  unfold Ieee.Toward.cut
  rw [Nat.min_eq_left h, Nat.one_shiftLeft]
  simp
theorem consts : ∃ q, 0 < q ∧ 2 ^ 52 = q ∧ Ieee.double.leastPlace = -1074 ∧ Ieee.double.binade = q ∧ Ieee.double.infRung = 2047 * q ∧ Ieee.double.signWeight = 2048 * q ∧ Ieee.double.fractionBits = 52 := ⟨_, by decide +kernel, rfl, by decide +kernel, by decide +kernel, by decide +kernel, by decide +kernel, by decide +kernel⟩
theorem fl_near (n : Nat) : fl n = Ieee.double.nearest (decide ((n : Int) < 0)) (n : Int).natAbs 0 := rfl
theorem rungs (q k N : Nat) (hq : 0 < q) (hk : k ≤ 52) (h1 : q ≤ N) (h2 : N < 2 * q) : (k + 1022) * q + N < 2047 * q ∧ ((k + 1022) * q + N) / (2048 * q) % 2 = 0 ∧ ((k + 1022) * q + N) % (2048 * q) = (k + 1022) * q + N ∧ ¬ (k + 1022) * q + N < q ∧ ((k + 1022) * q + N) % q = N - q ∧ ((k + 1022) * q + N) / q = k + 1023 := by
  have e : (k + 1022) * q ≤ 1074 * q := Nat.mul_le_mul_right _ (by omega)
  have e2 : (k + 1022) * q + N = q * (k + 1023) + (N - q) := by rw [Nat.mul_comm q, show k + 1023 = (k + 1022) + 1 by omega, Nat.add_mul (k + 1022) 1 q]; omega
  refine ⟨by omega, ?_, ?_, by omega, ?_, ?_⟩
  · rw [Nat.div_eq_of_lt (by omega)]
  · rw [Nat.mod_eq_of_lt (by omega)]
  · rw [e2, Nat.mul_add_mod, Nat.mod_eq_of_lt (by omega)]
  · rw [e2, Nat.mul_add_div hq, Nat.div_eq_of_lt (by omega)]
/-- A number's place. -/
theorem logs (n : Nat) (h0 : 0 < n) (h : n < 2 ^ 53) : n.log2 ≤ 52 ∧ 2 ^ 52 ≤ n * 2 ^ (52 - n.log2) ∧ n * 2 ^ (52 - n.log2) < 2 * 2 ^ 52 := by
  have h1 : 2 ^ n.log2 ≤ n := Nat.log2_self_le (by omega)
  have h2 : n < 2 ^ (n.log2 + 1) := Nat.lt_log2_self
  generalize n.log2 = k at *
  have hk52 : k ≤ 52 := by
    rcases Nat.lt_or_ge 52 k with h3 | h3
    · exact absurd (Nat.lt_of_le_of_lt (Nat.le_trans (Nat.pow_le_pow_right (n := 2) (by decide) (show 53 ≤ k from h3)) h1) h) (Nat.lt_irrefl _)
    · exact h3
  have e1 : 2 ^ k * 2 ^ (52 - k) = 2 ^ 52 := by rw [← Nat.pow_add, Nat.add_sub_cancel' hk52]
  refine ⟨hk52, ?_, ?_⟩
  · rw [← e1]; exact Nat.mul_le_mul_right _ h1
  · have h4 : n * 2 ^ (52 - k) < 2 ^ (k + 1) * 2 ^ (52 - k) := Nat.mul_lt_mul_of_pos_right h2 (Nat.two_pow_pos _)
    rw [Nat.pow_succ, Nat.mul_comm _ 2, Nat.mul_assoc, e1] at h4
    exact h4
/-- A number's word. -/
theorem fl_word (n k p q : Nat) (h0 : 0 < n) (hk52 : k ≤ 52) (hk : n.log2 = k) (hp : 2 ^ (52 - k) = p) (hq : 2 ^ 52 = q) (h1 : q ≤ n * p) (h2 : n * p < 2 * q) : fl n = (k + 1022) * q + n * p := by
  obtain ⟨q', hq0, hqq, c1, c2, c3, c4, c5⟩ := consts
  have hd : decide ((n : Int) < 0) = false := by simp
  rw [fl_near, hd, Int.natAbs_natCast]
  unfold Ieee.Format.nearest
  rw [if_neg (by omega), c1, c2, c3, c5, hk]
  have hl : max ((0 : Int) + (k : Int) - ((52 : Nat) : Int)) (-1074) = (k : Int) - 52 := by omega
  simp only [hl]
  rw [show ((k : Int) - 52 - 0).toNat = 0 by omega, cut_none]
  rw [show ((0 : Int) - ((k : Int) - 52)).toNat = 52 - k by omega]
  rw [show ((k : Int) - 52 - -1074).toNat = k + 1022 by omega, Nat.shiftLeft_eq, hp, ← hqq, hq]
  unfold Ieee.Format.word
  rw [if_neg (by simp)]
  have hq1 : 0 < q := by rw [← hq, hqq]; exact hq0
  exact Nat.min_eq_left (Nat.le_of_lt (rungs q k (n * p) hq1 hk52 h1 h2).1)
theorem fl_read (n : Nat) (h0 : 0 < n) (h : n < 2 ^ 53) : FloatKind.f64.decode (fl n) = .number false (n * 2 ^ (52 - n.log2)) ((n.log2 : Int) - 52) := by
  obtain ⟨hk52, h1, h2⟩ := logs n h0 h
  obtain ⟨q, hq0, hq, c1, c2, c3, c4, c5⟩ := consts
  obtain ⟨k, hk⟩ : ∃ k, n.log2 = k := ⟨_, rfl⟩
  rw [hq] at h1 h2
  rw [hk] at hk52 h1 h2 ⊢
  obtain ⟨p, hp⟩ : ∃ p, 2 ^ (52 - k) = p := ⟨_, rfl⟩
  rw [hp] at h1 h2 ⊢
  rw [fl_word n k p q h0 hk52 hk hp hq h1 h2]
  clear hp hk
  generalize n * p = N at *
  obtain ⟨r1, r2, r3, r4, r5, r6⟩ := rungs q k N hq0 hk52 h1 h2
  have hdec : ∀ x, FloatKind.f64.decode x = Ieee.double.read x := fun _ => rfl
  rw [hdec]
  generalize (k + 1022) * q + N = r at *
  have hrd : Ieee.double.read r = (if r % Ieee.double.signWeight < Ieee.double.binade then Ieee.Datum.number (r / Ieee.double.signWeight % 2 == 1) (r % Ieee.double.signWeight) Ieee.double.leastPlace else if r % Ieee.double.signWeight < Ieee.double.infRung then Ieee.Datum.number (r / Ieee.double.signWeight % 2 == 1) (Ieee.double.binade + r % Ieee.double.signWeight % Ieee.double.binade) (Ieee.double.leastPlace + (r % Ieee.double.signWeight / Ieee.double.binade - 1 : Nat)) else if r % Ieee.double.signWeight = Ieee.double.infRung then .infinity (r / Ieee.double.signWeight % 2 == 1) else .nan (r / Ieee.double.signWeight % 2 == 1) (r % Ieee.double.signWeight - Ieee.double.infRung)) := rfl
  rw [hrd, c1, c2, c3, c4, r2, r3, if_neg r4, if_pos r1, r5, r6]
  have e1 : q + (N - q) = N := by omega
  have e2 : (-1074 : Int) + ((k + 1023 - 1 : Nat) : Int) = (k : Int) - 52 := by omega
  rw [e1, e2]
  rfl
theorem log_shift (n d : Nat) (h0 : 0 < n) : (n * 2 ^ d).log2 = n.log2 + d := by
  rw [Nat.log2_eq_iff (by have := Nat.mul_pos h0 (Nat.two_pow_pos d); omega)]
  have h1 : 2 ^ n.log2 ≤ n := Nat.log2_self_le (by omega)
  have h2 : n < 2 ^ (n.log2 + 1) := Nat.lt_log2_self
  refine ⟨?_, ?_⟩
  · rw [Nat.pow_add]; exact Nat.mul_le_mul_right _ h1
  · rw [show n.log2 + d + 1 = (n.log2 + 1) + d by omega, Nat.pow_add]; exact Nat.mul_lt_mul_of_pos_right h2 (Nat.two_pow_pos _)
theorem fl_toInt (n : Nat) (h : n < 2 ^ 53) : (FloatKind.f64.decode (fl n)).toInt .zero = some (n : Int) := by
  rcases Nat.eq_zero_or_pos n with h0 | h0
  · subst h0; decide +kernel
  obtain ⟨hk52, -, -⟩ := logs n h0 h
  rw [fl_read n h0 h]
  have hl := log_shift n (52 - n.log2) h0
  generalize n.log2 = k at *
  unfold Ieee.Datum.toInt Ieee.Datum.integral
  simp only
  rw [show ((k : Int) - 52).toNat = 0 by omega, Nat.shiftLeft_zero, show (-((k : Int) - 52)).toNat = 52 - k by omega, cut_zero _ _ _ (by rw [hl]; omega), Nat.mul_div_cancel _ (Nat.two_pow_pos _)]
  unfold Ieee.signed
  rw [if_neg (by simp), Nat.shiftLeft_zero]
theorem fl_self (n : Nat) (h : n < 2 ^ 53) : FloatKind.f64.format.order (fl n) (fl n) = some Ordering.eq := by
  rcases Nat.eq_zero_or_pos n with h0 | h0
  · subst h0; decide +kernel
  have hdec : ∀ x, FloatKind.f64.format.order x x = (FloatKind.f64.decode x).order (FloatKind.f64.decode x) := fun _ => rfl
  rw [hdec, fl_read n h0 h]
  unfold Ieee.Datum.order
  simp
set_option maxRecDepth 100000 in
theorem toFl (w : World) (n : Nat) : Sem.run Try.prog (convert 3 67 (.int .i64 (n : Int))) w = .ok (.float .f64 (fl n)) w := by rfl
set_option maxRecDepth 100000 in
theorem toErr (w : World) (n : Nat) (h : n ≤ 65535) : Sem.run Try.prog (convert 67 24 (.float .f64 (fl n))) w = .ok (.int .i64 (n : Int)) w := by
  have h1 : Sem.run Try.prog (convert 67 24 (.float .f64 (fl n))) w = Sem.run Try.prog (Conv.floatToInt .f64 (fl n) .i64) w := by rfl
  rw [h1]
  unfold Conv.floatToInt
  rw [fl_toInt n (by omega)]
  have hm : IntKind.i64.min ≤ (n : Int) ∧ (n : Int) ≤ IntKind.i64.max := by
    have e1 : IntKind.i64.min = -9223372036854775808 := by rfl
    have e2 : IntKind.i64.max = 9223372036854775807 := by rfl
    exact ⟨by omega, by omega⟩
  simp only [if_pos hm]
  rfl
set_option maxRecDepth 100000 in
theorem toCx (w : World) (x y : Nat) : Sem.run Try.prog (Builtin.complex_ #[67, 67] 51 #[.float .f64 x, .float .f64 y]) w = .ok (.complex .f64 x y) w := by rfl
end Go.Proofs.Ytgnepppncmjagaa.Gt

namespace Go.Proofs.Ytgnepppncmjagaa.Gt
open Go Go.RowKit Hp Rd Go.Proofs.Ytgnepppncmjagaa.Fr
/-- The chunks' bytes, if they are a reply's. -/
def gl (id : Int) : List Fm → List Int → Option (List Int)
  | [], acc => some acc
  | f :: r, acc => if f.kind = 2 ∧ f.id = id ∧ 1 ≤ f.l.length ∧ f.l.length ≤ 1000 ∧ (f.l.length = 1000 ∨ r = []) then gl id r (acc ++ f.l) else none
abbrev Rp := Option (Int × Nat × Nat × Nat × List Int)
def ends (id : Int) (C : List Fm) : List Int → Rp
  | [b0, b1, b2, b3, b4, b5] => (gl id C []).map fun acc => (id, (256 * b0 + b1).toNat, (256 * b2 + b3).toNat, (256 * b4 + b5).toNat, acc)
  | _ => none
/-- The reply of chunks and an end. -/
def ge (C : List Fm) (e : Fm) : Rp := if e.kind = 3 ∧ 0 ≤ e.id ∧ e.id ≤ 65535 then ends e.id C e.l else none
def RV : Rp → Value
  | none => .agg #[.int .i64 0, .int .i64 0, .complex .f64 0 0, .string ⟨#[]⟩]
  | some (id, n, x, y, acc) => .agg #[.int .i64 id, .int .i64 (n : Int), .complex .f64 (fl x) (fl y), .string (strOfNums acc)]
def RE : Rp → Int
  | none => 231
  | some _ => 0
theorem ends_six {l : List Int} (h : l.length = 6) : ∃ b0 b1 b2 b3 b4 b5, l = [b0, b1, b2, b3, b4, b5] := by
  match l, h with
  | [b0, b1, b2, b3, b4, b5], _ => exact ⟨_, _, _, _, _, _, rfl⟩
theorem ge_kind {C : List Fm} {e : Fm} (h : e.kind ≠ 3) : ge C e = none := if_neg (fun k => h k.1)
theorem ge_low {C : List Fm} {e : Fm} (h : e.id < 0) : ge C e = none := if_neg (fun k => by omega)
theorem ge_high {C : List Fm} {e : Fm} (h : 65535 < e.id) : ge C e = none := if_neg (fun k => by omega)
theorem ge_len {C : List Fm} {e : Fm} (h : e.l.length ≠ 6) : ge C e = none := by
  unfold ge
  split
  · match e.l, h with
    | [b0, b1, b2, b3, b4, b5], h => exact absurd rfl h
    | [], _ => rfl
    | [_], _ => rfl
    | [_, _], _ => rfl
    | [_, _, _], _ => rfl
    | [_, _, _, _], _ => rfl
    | [_, _, _, _, _], _ => rfl
    | _ :: _ :: _ :: _ :: _ :: _ :: _ :: _, _ => rfl
  · rfl
theorem ge_bad {C : List Fm} {e : Fm} (h : gl e.id C [] = none) : ge C e = none := by
  unfold ge
  split
  · unfold ends
    split
    · rw [h]; rfl
    · rfl
  · rfl
theorem ge_good {C : List Fm} {e : Fm} {b0 b1 b2 b3 b4 b5 : Int} {acc : List Int} (hk : e.kind = 3) (h0 : 0 ≤ e.id) (h1 : e.id ≤ 65535) (hl : e.l = [b0, b1, b2, b3, b4, b5]) (h : gl e.id C [] = some acc) :
    ge C e = some (e.id, (256 * b0 + b1).toNat, (256 * b2 + b3).toNat, (256 * b4 + b5).toNat, acc) := by
  unfold ge
  rw [if_pos ⟨hk, h0, h1⟩, hl]
  show (gl e.id C []).map _ = _
  rw [h]
  rfl
/-- One chunk. -/
theorem gl_step {id : Int} {C : List Fm} {i : Nat} {f : Fm} (hf : C[i]? = some f) (acc : List Int) (hk : f.kind = 2) (hi : f.id = id) (h1 : 1 ≤ f.l.length) (h2 : f.l.length ≤ 1000) (h3 : f.l.length = 1000 ∨ i + 1 = C.length) :
    gl id (C.drop i) acc = gl id (C.drop (i + 1)) (acc ++ f.l) := by
  obtain ⟨hi2, rfl⟩ := List.getElem?_eq_some_iff.1 hf
  rw [List.drop_eq_getElem_cons hi2]
  show (if _ then _ else _) = _
  rw [if_pos ⟨hk, hi, h1, h2, h3.imp (fun e => e) (fun e => by rw [e, List.drop_length])⟩]
theorem gl_stop {id : Int} {C : List Fm} {i : Nat} {f : Fm} (hf : C[i]? = some f) (acc : List Int) (h : ¬ (f.kind = 2 ∧ f.id = id ∧ 1 ≤ f.l.length ∧ f.l.length ≤ 1000 ∧ (f.l.length = 1000 ∨ i + 1 = C.length))) :
    gl id (C.drop i) acc = none := by
  obtain ⟨hi2, rfl⟩ := List.getElem?_eq_some_iff.1 hf
  rw [List.drop_eq_getElem_cons hi2]
  show (if _ then _ else _) = _
  rw [if_neg (fun k => h ⟨k.1, k.2.1, k.2.2.1, k.2.2.2.1, k.2.2.2.2.imp (fun e => e) (fun e => by have := congrArg List.length e; rw [List.length_drop] at this; simp at this; omega)⟩)]
theorem gl_all {id : Int} {C : List Fm} (acc : List Int) : gl id (C.drop C.length) acc = some acc := by rw [List.drop_length]; rfl
end Go.Proofs.Ytgnepppncmjagaa.Gt

namespace Go.Proofs.Ytgnepppncmjagaa.Gt
open Go Go.RowKit Hp Rd Go.Proofs.Ytgnepppncmjagaa.Fr Go.Proofs.YtgnepppncmjagaaW.PrintWords Go.Proofs.YtgnepppncmjagaaW.PrintLast
theorem list_of {α : Type} {p : Nat → α → Prop} : ∀ (n : Nat), (∀ i, i < n → ∃ x, p i x) → ∃ l : List α, l.length = n ∧ ∀ i x, l[i]? = some x → p i x
  | 0, _ => ⟨[], rfl, by simp⟩
  | n + 1, h => by
    obtain ⟨l, hl, hp⟩ := list_of n (fun i hi => h i (by omega))
    obtain ⟨x, hx⟩ := h n (by omega)
    refine ⟨l ++ [x], by simp [hl], fun i y hy => ?_⟩
    rcases Nat.lt_trichotomy i n with h1 | h1 | h1
    · rw [List.getElem?_append_left (by omega)] at hy
      exact hp i y hy
    · subst h1
      rw [List.getElem?_append_right (by omega), hl, Nat.sub_self] at hy
      simp at hy
      subst hy
      exact hx
    · rw [List.getElem?_eq_none (by simp; omega)] at hy
      cases hy
theorem cells_fm : Try.prog.cellsOf 37 = 3 := by kernel_rfl
theorem rd_fm {w : World} {cs : List Value} (h : Rd Try.prog w 37 cs) : ∃ f : Fm, cs = f.cells ∧ FmOk w w.heap.size f := by
  obtain ⟨fs, hu, hm⟩ := fields_frame
  obtain ⟨-, z1, -, -, -, z5, z6⟩ := sz_req
  obtain ⟨hl, hr⟩ := rd_struct hu h
  rw [z5] at hl
  obtain ⟨v0, v1, v2, rfl⟩ : ∃ v0 v1 v2, cs = [v0, v1, v2] := by
    match cs, hl with
    | [v0, v1, v2], _ => exact ⟨_, _, _, rfl⟩
  have get : ∀ i o t, ([(0, 3), (1, 3), (2, 22)] : List (Nat × TypeId))[i]? = some (o, t) → Rd Try.prog w t (([v0, v1, v2].drop o).take (Try.prog.cellsOf t)) := fun i o t hi => by
    obtain ⟨f, hf, ho, ht⟩ := field_at hm hi
    have := hr i f hf
    rw [ho, ht] at this
    exact this
  have g0 := get 0 _ _ rfl
  have g1 := get 1 _ _ rfl
  have g2 := get 2 _ _ rfl
  rw [z1] at g0 g1
  rw [z6] at g2
  obtain ⟨id, h0, -⟩ := rd_int Try.underlying3 g0
  obtain ⟨k, h1, -⟩ := rd_int Try.underlying3 g1
  obtain ⟨A, l, c, h2, hc, hB, hb, hA, -⟩ := rd_bytes g2
  simp at h0 h1 h2
  subst h0 h1 h2
  exact ⟨⟨id, k, A, l, c⟩, rfl, hc, hB, hb, hA⟩
theorem cells_three {w : World} {a : Addr} {c0 c1 c2 : Value} (h : w.cells? 0 a 3 = some [c0, c1, c2]) : a.spot = none ∧ w.cell? a = some c0 ∧ w.cell? (a.add 1) = some c1 ∧ w.cell? (a.add 2) = some c2 := by
  unfold World.cells? at h
  split at h
  · have : List.range 3 = [0, 1, 2] := rfl
    rw [this] at h
    simp only [List.mapM_cons, List.mapM_nil, Option.bind_eq_bind, Option.bind_eq_some_iff, Option.pure_def, Option.some.injEq] at h
    obtain ⟨v0, h0, x1, ⟨v1, h1, x2, ⟨v2, h2, x3, rfl, rfl⟩, rfl⟩, e⟩ := h
    simp only [List.cons.injEq] at e
    obtain ⟨rfl, rfl, rfl, _⟩ := e
    have hs : a.spot = none := by
      obtain ⟨b, off, sp⟩ := a
      cases sp with
      | none => rfl
      | some x => simp [World.cell?, Addr.add] at h0; split at h0 <;> simp_all
    refine ⟨hs, ?_, h1, h2⟩
    obtain ⟨b, off, sp⟩ := a
    simp only at hs
    subst hs
    rw [Addr.add_mid, Nat.add_zero] at h0
    exact h0
  · cases h
theorem arg_fms {w : World} {v : Value} (h : Arg Try.prog w 58 v) : ∃ A L c, v = .slice A L.length c ∧ L.length ≤ maxLen ∧ FmsAt w w.heap.size A L := by
  obtain ⟨a, len, cap, rfl, hh⟩ := arg_slice Try.underlying58 h
  rcases hh with ⟨rfl, rfl, rfl⟩ | ⟨ad, rfl, hlc, hcm, _, hel⟩
  · exact ⟨none, [], 0, rfl, by unfold maxLen; simp, FmsAt.nil _ _ _⟩
  · rw [cells_fm] at hel
    obtain ⟨L, hl, hp⟩ := list_of (p := fun i (f : Fm) => w.cells? 0 (ad.add (i * 3)) 3 = some f.cells ∧ FmOk w w.heap.size f) len (fun i hi => by
      obtain ⟨es, h1, h2⟩ := hel i (by omega)
      obtain ⟨f, rfl, hf⟩ := rd_fm h2
      exact ⟨f, h1, hf⟩)
    refine ⟨some ad, L, cap, by rw [hl], by omega, fun i f hi => ?_, fun f hf => ?_⟩
    · have hsp : ad.spot = none := by
        have hl0 : 0 < L.length := by have := (List.getElem?_eq_some_iff.1 hi).1; omega
        have := (cells_three (hp 0 L[0] (List.getElem?_eq_getElem hl0)).1).1
        simpa [Addr.add] using this
      obtain ⟨s0, g0, g1, g2⟩ := cells_three (hp i f hi).1
      obtain ⟨b, off, sp⟩ := ad
      simp only at hsp
      subst hsp
      rw [Addr.add_mid] at g0 g1 g2
      rw [Addr.add_mid] at g1 g2
      exact ⟨b, off, rfl, World.block_lt_of_cell? w _ g0, g0, g1, g2⟩
    · obtain ⟨i, hi⟩ := List.mem_iff_getElem?.1 hf
      exact (hp i f hi).2
theorem infoRf : (Try.prog.info? 29).map (fun i => (i.zero, i.size, i.bytes)) = some (some (.agg #[.int .i64 0, .int .i64 0, .slice none 0 0]), 3, 40) := by kernel_rfl
theorem wrap_one (i n : Nat) (h : i < n) (hn : n ≤ 1000000000) : wrap64 ((i : Int) + 1) = ((i + 1 : Nat) : Int) := by unfold wrap64; omega
theorem below_new {w w' : World} (h : Below w.heap.size w w') (x : Obj) : Below w.heap.size w (w'.alloc x) := h.alloc h.size x
theorem own_slice {w : World} {base n : Nat} {e : TypeId} {size : Nat} {v : Value} {xs : List Value} (h : w.ownsRow base e size v n xs) : ∃ a c, v = .slice a n c := by
  rcases h.2 with ⟨rfl, rfl⟩ | ⟨g, cap, cur, rfl, _⟩
  · exact ⟨_, _, rfl⟩
  · exact ⟨_, _, rfl⟩
/-- A frame is put behind a row of one's own. -/
theorem push (t e : TypeId) (i0 : TypeInfo) (hu : Try.prog.underlying t = some (.slice e)) (hi : Try.prog.info? e = some i0) (hz0 : i0.zero = some (.agg #[.int .i64 0, .int .i64 0, .slice none 0 0])) (hz1 : i0.size = 3) (hz2 : i0.bytes = 40)
    {w : World} {B n : Nat} {v : Value} {xs : List Value} (hrow : w.ownsRow B e 3 v n xs) (hB : B ≤ w.heap.size) (hn : n ≤ 1000) (f : Fm) :
    ∃ v' w', (Builtin.append_ #[t, t] t #[v, .slice (some ⟨w.heap.size, 0, none⟩) 1 1]).run Try.prog (w.alloc (.cells #[.int .i64 f.id, .int .i64 f.kind, .slice f.A f.l.length f.c] e)) = .ok v' w' ∧ w'.ownsRow B e 3 v' (n + 1) (xs ++ f.cells) ∧
      Below B w w' := by
  have hN := heap_alloc_new w (.cells #[.int .i64 f.id, .int .i64 f.kind, .slice f.A f.l.length f.c] e)
  obtain ⟨v', w8, hra, hO8, hge, -, -⟩ := Go.Proofs.Ytgnepppncmjagaa.Ow.run_append (P := Try.prog) (w.alloc (.cells #[.int .i64 f.id, .int .i64 f.kind, .slice f.A f.l.length f.c] e)) B t t e i0 _ 3 40 hu hi hz0 hz1 hz2 rfl (by decide) v n xs (hrow.alloc _) ⟨w.heap.size, 0, none⟩ 1 1 [.int .i64 f.id, .int .i64 f.kind, .slice f.A f.l.length f.c] rfl (fun j u hj => by
    rw [Addr.add_mid, Nat.zero_add, blk_cell hN j]
    simpa using hj) (by simp [Value.oneCell']) (by unfold maxLen; omega) (by omega) (by simp; omega)
  refine ⟨v', w8, hra, hO8, ?_⟩
  have h1 : Below B w (w.alloc (.cells #[.int .i64 f.id, .int .i64 f.kind, .slice f.A f.l.length f.c] e)) := (Below.refl B w).alloc hB _
  exact h1.grown hge (Nat.le_trans hB (by simp)) (fun k hk => (hrow.lt k hk).1)
theorem cell_below {w w' : World} {B g o : Nat} {u : Value} (h : Below B w w') (hg : g < B) (hc : w.cell? ⟨g, o, none⟩ = some u) : w'.cell? ⟨g, o, none⟩ = some u := (World.cell?_of_block (a := ⟨g, o, none⟩) (h.block g hg)).trans hc
theorem exec_append {P : Program} {a : Act} {o : Oper} {w w' : World} {v u v' : Value} {s x : Operand} {t : TypeId} (ho : o.op = .call { callee := .builtin .append, args := #[s, x], argTypes := #[t, t] }) (hs : a.eval s = v) (hx : a.eval x = u)
    (hr : (Builtin.append_ #[t, t] o.type #[v, u]).run P w = .ok v' w') : (execOp a.eval o).run P w = .ok (.value v') w' := by
  unfold execOp
  simp only [ho, resolve, invoke, builtin, Sem.run_bind, Sem.run_pure, Result.andThen_ok, List.map_toArray, List.map_cons, List.map_nil, hs, hx, hr]
set_option maxHeartbeats 4000000 in
set_option maxRecDepth 100000 in
/-- told: the frames, each as the document's. -/
theorem told_ok (w : World) (A : Option Addr) (c : Nat) (L : List Fm) (hL : FmsAt w w.heap.size A L) (hn : L.length ≤ 100) :
    Calls Try.prog 26 #[.slice A L.length c] w fun e w' => ∃ a c', e = .returned (.slice a L.length c') ∧ w'.ownsRow w.heap.size 29 3 (.slice a L.length c') L.length (fcells L) ∧ Below w.heap.size w w' := by
  have mixed : Try.prog.follows Departure.mixedOrders = true := by kernel_rfl
  go_enter Try.func26, Try.ntmps26
  go_wp2
  go_loopg [3, 4] L.length (fun kq v3 v4 w' => ∃ i : Nat, i + kq = L.length ∧ v4 = .int .i64 (i : Int) ∧ Sh (w'.ownsRow w.heap.size 29 3 v3 i (fcells (L.take i)) ∧ Below w.heap.size w w'))
  case atStart => exact ⟨0, by omega, rfl, ⟨World.ownsRow_nil _ _ _ _, Below.refl _ _⟩⟩
  case round =>
    obtain ⟨i, hik, rfl, ⟨hrow, hB⟩⟩ := hrel
    cases gk with
    | zero =>
      obtain rfl : i = L.length := by omega
      have kk : ¬ ((L.length : Int) < (L.length : Int)) := by omega
      obtain ⟨a, c', rfl⟩ := own_slice hrow
      rw [List.take_of_length_le (Nat.le_refl _)] at hrow
      go_wp2_with fail
      go_ret
      exact ⟨a, c', rfl, hrow, hB⟩
    | succ g1_ =>
      have kk : (i : Int) < (L.length : Int) := by omega
      have hil : i < L.length := by omega
      obtain ⟨f, hf⟩ : ∃ f, L[i]? = some f := ⟨_, List.getElem?_eq_getElem hil⟩
      have hLr := hL.below hB
      obtain ⟨g, off, rfl, hg, hfa⟩ := (hL.below hB).at_ i f hf
      have HG := Sh.mk hg
      have HF := Sh.mk hf
      have HB := Sh.mk hB
      have HN := Sh.mk hn
      have HI := Sh.mk hik
      have htk : L.take (i + 1) = L.take i ++ [f] := by rw [List.take_add_one, hf]; rfl
      have hsn : fcells (L.take (i + 1)) = fcells (L.take i) ++ f.cells := by rw [htk, fcells_snoc]
      have HSN := Sh.mk hsn
      have w4_ := wrap_one i L.length hil (by omega)
      clear hg hf hB hn hLr hik htk hsn hil
      go_wp2_with fail
      refine start_ (n := 20) (S := fun w' => w'.cell? ⟨g, off + i * 3, none⟩ = some (.int .i64 f.id) ∧ w'.cell? ⟨g, off + i * 3 + 1, none⟩ = some (.int .i64 f.kind) ∧ w'.cell? ⟨g, off + i * 3 + 2, none⟩ = some (.slice f.A f.l.length f.c)) (ds := []) #[false, false, false, false, false, false, false, false, false, false, false, false, false, false, false, false, false, false, false, false] (by kernel_rfl) rfl rfl (⟨hfa.c0, hfa.c1, hfa.c2⟩) (fun hHeld => ?_)
      refine pure_ (i := 0) (N := some 11) (v := ?_) (a' := ?_) #[true, false, false, false, false, false, false, false, false, false, false, false, false, false, false, false, false, false, false, false] rfl rfl (by kernel_rfl) (fun _ _ _ h => h) (Or.inl ⟨by rfl, ?_⟩) ?_ ?_
      rotate_left
      · intro w'
        go_simp
        with_reducible rfl
      rotate_left
      · simp only [Act.put, List.setIfInBounds_toArray, List.set_cons_zero, List.set_cons_succ]
        rfl
      refine pure_ (i := 1) (N := some 12) (v := ?_) (a' := ?_) #[true, true, false, false, false, false, false, false, false, false, false, false, false, false, false, false, false, false, false, false] rfl rfl (by kernel_rfl) (fun _ _ _ h => h) (Or.inl ⟨by rfl, ?_⟩) ?_ ?_
      rotate_left
      · intro w'
        go_simp
        with_reducible rfl
      rotate_left
      · simp only [Act.put, List.setIfInBounds_toArray, List.set_cons_zero, List.set_cons_succ]
        rfl
      refine pure_ (i := 2) (N := some 13) (v := ?_) (a' := ?_) #[true, true, true, false, false, false, false, false, false, false, false, false, false, false, false, false, false, false, false, false] rfl rfl (by kernel_rfl) (fun _ _ _ h => h) (Or.inl ⟨by rfl, ?_⟩) ?_ ?_
      rotate_left
      · intro w'
        go_simp
        with_reducible rfl
      rotate_left
      · simp only [Act.put, List.setIfInBounds_toArray, List.set_cons_zero, List.set_cons_succ]
        rfl
      refine pure_ (i := 3) (N := some 14) (v := ?_) (a' := ?_) #[true, true, true, true, false, false, false, false, false, false, false, false, false, false, false, false, false, false, false, false] rfl rfl (by kernel_rfl) (fun _ _ _ h => h) (Or.inl ⟨by rfl, ?_⟩) ?_ ?_
      rotate_left
      · intro w'
        go_simp
        with_reducible rfl
      rotate_left
      · simp only [Act.put, List.setIfInBounds_toArray, List.set_cons_zero, List.set_cons_succ]
        rfl
      refine pure_ (i := 4) (N := some 15) (v := ?_) (a' := ?_) #[true, true, true, true, true, false, false, false, false, false, false, false, false, false, false, false, false, false, false, false] rfl rfl (by kernel_rfl) (fun _ _ _ h => h) (Or.inl ⟨by rfl, ?_⟩) ?_ ?_
      rotate_left
      · intro w'
        go_simp
        with_reducible rfl
      rotate_left
      · simp only [Act.put, List.setIfInBounds_toArray, List.set_cons_zero, List.set_cons_succ]
        rfl
      refine take_ (i := 5) (N := some 16) (v := ?_) (a' := ?_) #[true, true, true, true, true, true, false, false, false, false, false, false, false, false, false, false, false, false, false, false] rfl rfl (by kernel_rfl) (fun _ _ _ h => h) (Or.inl ⟨by rfl, ?_⟩) hHeld ?_ ?_
      rotate_left
      · rintro w' ⟨s0, s1, s2⟩
        go_simp
        with_reducible rfl
      rotate_left
      · simp only [Act.put, List.setIfInBounds_toArray, List.set_cons_zero, List.set_cons_succ]
        rfl
      refine pure_ (i := 6) (N := some 17) (v := ?_) (a' := ?_) #[true, true, true, true, true, true, true, false, false, false, false, false, false, false, false, false, false, false, false, false] rfl rfl (by kernel_rfl) (fun _ _ _ h => h) (Or.inl ⟨by rfl, ?_⟩) ?_ ?_
      rotate_left
      · intro w'
        go_simp
        with_reducible rfl
      rotate_left
      · simp only [Act.put, List.setIfInBounds_toArray, List.set_cons_zero, List.set_cons_succ]
        rfl
      refine pure_ (i := 7) (N := some 18) (v := ?_) (a' := ?_) #[true, true, true, true, true, true, true, true, false, false, false, false, false, false, false, false, false, false, false, false] rfl rfl (by kernel_rfl) (fun _ _ _ h => h) (Or.inl ⟨by rfl, ?_⟩) ?_ ?_
      rotate_left
      · intro w'
        go_simp
        with_reducible rfl
      rotate_left
      · simp only [Act.put, List.setIfInBounds_toArray, List.set_cons_zero, List.set_cons_succ]
        rfl
      refine pure_ (i := 8) (N := some 19) (v := ?_) (a' := ?_) #[true, true, true, true, true, true, true, true, true, false, false, false, false, false, false, false, false, false, false, false] rfl rfl (by kernel_rfl) (fun _ _ _ h => h) (Or.inl ⟨by rfl, ?_⟩) ?_ ?_
      rotate_left
      · intro w'
        go_simp
        with_reducible rfl
      rotate_left
      · simp only [Act.put, List.setIfInBounds_toArray, List.set_cons_zero, List.set_cons_succ]
        rfl
      refine pure_ (i := 9) (N := some 20) (v := ?_) (a' := ?_) #[true, true, true, true, true, true, true, true, true, true, false, false, false, false, false, false, false, false, false, false] rfl rfl (by kernel_rfl) (fun _ _ _ h => h) (Or.inl ⟨by rfl, ?_⟩) ?_ ?_
      rotate_left
      · intro w'
        go_simp
        with_reducible rfl
      rotate_left
      · simp only [Act.put, List.setIfInBounds_toArray, List.set_cons_zero, List.set_cons_succ]
        rfl
      refine take_ (i := 10) (N := some 21) (v := ?_) (a' := ?_) #[true, true, true, true, true, true, true, true, true, true, true, false, false, false, false, false, false, false, false, false] rfl rfl (by kernel_rfl) (fun _ _ _ h => h) (Or.inl ⟨by rfl, ?_⟩) hHeld ?_ ?_
      rotate_left
      · rintro w' ⟨s0, s1, s2⟩
        go_simp
        with_reducible rfl
      rotate_left
      · simp only [Act.put, List.setIfInBounds_toArray, List.set_cons_zero, List.set_cons_succ]
        rfl
      refine pure_ (i := 11) (N := some 22) (v := ?_) (a' := ?_) #[true, true, true, true, true, true, true, true, true, true, true, true, false, false, false, false, false, false, false, false] rfl rfl (by kernel_rfl) (fun _ _ _ h => h) (Or.inl ⟨by rfl, ?_⟩) ?_ ?_
      rotate_left
      · intro w'
        go_simp
        with_reducible rfl
      rotate_left
      · simp only [Act.put, List.setIfInBounds_toArray, List.set_cons_zero, List.set_cons_succ]
        rfl
      refine pure_ (i := 12) (N := some 23) (v := ?_) (a' := ?_) #[true, true, true, true, true, true, true, true, true, true, true, true, true, false, false, false, false, false, false, false] rfl rfl (by kernel_rfl) (fun _ _ _ h => h) (Or.inl ⟨by rfl, ?_⟩) ?_ ?_
      rotate_left
      · intro w'
        go_simp
        with_reducible rfl
      rotate_left
      · simp only [Act.put, List.setIfInBounds_toArray, List.set_cons_zero, List.set_cons_succ]
        rfl
      refine pure_ (i := 13) (N := some 24) (v := ?_) (a' := ?_) #[true, true, true, true, true, true, true, true, true, true, true, true, true, true, false, false, false, false, false, false] rfl rfl (by kernel_rfl) (fun _ _ _ h => h) (Or.inl ⟨by rfl, ?_⟩) ?_ ?_
      rotate_left
      · intro w'
        go_simp
        with_reducible rfl
      rotate_left
      · simp only [Act.put, List.setIfInBounds_toArray, List.set_cons_zero, List.set_cons_succ]
        rfl
      refine pure_ (i := 14) (N := some 25) (v := ?_) (a' := ?_) #[true, true, true, true, true, true, true, true, true, true, true, true, true, true, true, false, false, false, false, false] rfl rfl (by kernel_rfl) (fun _ _ _ h => h) (Or.inl ⟨by rfl, ?_⟩) ?_ ?_
      rotate_left
      · intro w'
        go_simp
        with_reducible rfl
      rotate_left
      · simp only [Act.put, List.setIfInBounds_toArray, List.set_cons_zero, List.set_cons_succ]
        rfl
      refine take_ (i := 15) (N := some 26) (v := ?_) (a' := ?_) #[true, true, true, true, true, true, true, true, true, true, true, true, true, true, true, true, false, false, false, false] rfl rfl (by kernel_rfl) (fun _ _ _ h => h) (Or.inl ⟨by rfl, ?_⟩) hHeld ?_ ?_
      rotate_left
      · rintro w' ⟨s0, s1, s2⟩
        go_simp
        with_reducible rfl
      rotate_left
      · simp only [Act.put, List.setIfInBounds_toArray, List.set_cons_zero, List.set_cons_succ]
        rfl
      refine pure_ (i := 16) (N := some 27) (v := ?_) (a' := ?_) #[true, true, true, true, true, true, true, true, true, true, true, true, true, true, true, true, true, false, false, false] rfl rfl (by kernel_rfl) (fun _ _ _ h => h) (Or.inl ⟨by rfl, ?_⟩) ?_ ?_
      rotate_left
      · intro w'
        go_simp
        with_reducible rfl
      rotate_left
      · simp only [Act.put, List.setIfInBounds_toArray, List.set_cons_zero, List.set_cons_succ]
        rfl
      obtain ⟨wd, hwd⟩ : ∃ wd, wr.drew = wd := ⟨_, rfl⟩
      have hrd : wd.ownsRow w.heap.size 29 3 u3 i (fcells (L.take i)) := by rw [← hwd]; exact hrow
      have hBd : Below w.heap.size w wd := by rw [← hwd]; exact HB.out.drew
      rw [hwd] at hHeld ⊢
      clear hwd hrow hfa
      obtain ⟨i0, hi0, hz0, hz1, hz2⟩ := info_parts infoRf
      obtain ⟨v', w8, hra, hO8, hb8⟩ := push 62 29 i0 Try.underlying62 hi0 hz0 hz1 hz2 hrd hBd.size (by have := HN.out; have := HI.out; omega) f
      have hal : Below w.heap.size wd (wd.alloc (.cells #[.int .i64 f.id, .int .i64 f.kind, .slice f.A f.l.length f.c] 29)) := (Below.refl _ _).alloc hBd.size _
      have hS7 := And.intro (cell_below hal HG.out hHeld.1) (And.intro (cell_below hal HG.out hHeld.2.1) (cell_below hal HG.out hHeld.2.2))
      have hS8 := And.intro (cell_below hb8 HG.out hHeld.1) (And.intro (cell_below hb8 HG.out hHeld.2.1) (cell_below hb8 HG.out hHeld.2.2))
      refine one_val (i := 17) (N := some 28) (v := .slice (some ⟨wd.heap.size, 0, none⟩) 1 1) (w' := wd.alloc (.cells #[.int .i64 f.id, .int .i64 f.kind, .slice f.A f.l.length f.c] 29)) (a' := ?_) #[true, true, true, true, true, true, true, true, true, true, true, true, true, true, true, true, true, true, false, false] rfl rfl (by kernel_rfl) (by decide) (by rfl) (by go_simp) (hS7) ?_ ?_
      rotate_left
      · simp only [Act.put, List.setIfInBounds_toArray, List.set_cons_zero, List.set_cons_succ]
        rfl
      refine one_val (i := 18) (N := some 29) (v := v') (w' := w8) (a' := ?_) #[true, true, true, true, true, true, true, true, true, true, true, true, true, true, true, true, true, true, true, false] rfl rfl (by kernel_rfl) (by decide) (by rfl) (exec_append rfl (by rfl) (by rfl) hra) (hS8) ?_ ?_
      rotate_left
      · simp only [Act.put, List.setIfInBounds_toArray, List.set_cons_zero, List.set_cons_succ]
        rfl
      refine pure_ (i := 19) (N := some 3) (v := ?_) (a' := ?_) #[true, true, true, true, true, true, true, true, true, true, true, true, true, true, true, true, true, true, true, true] rfl rfl (by kernel_rfl) (fun _ _ _ h => h) (Or.inl ⟨by rfl, ?_⟩) ?_ ?_
      rotate_left
      · intro w'
        go_simp
        with_reducible rfl
      rotate_left
      · simp only [Act.put, List.setIfInBounds_toArray, List.set_cons_zero, List.set_cons_succ]
        rfl
      refine done_ (by kernel_rfl) ?_
      have HO8 := Sh.mk hO8
      have HB8 := Sh.mk (hBd.trans hb8)
      clear hra hO8 hb8 hal hS7 hS8 hHeld hBd hrd hi0 hz0 hz1 hz2
      go_wp2_with fail
      go_roundg g1_
      case measure => have := HI.out; omega
      case rel => exact ⟨i + 1, by have := HI.out; omega, by rw [w4_], ⟨by rw [HSN.out]; exact HO8.out, HB8.out⟩⟩
end Go.Proofs.Ytgnepppncmjagaa.Gt
