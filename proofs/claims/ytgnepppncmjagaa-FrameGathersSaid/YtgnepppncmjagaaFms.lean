/- Rows of frames. -/
import Derived.Test.YtgnepppncmjagaaFr1
import Derived.Test.YtgnepppncmjagaaCells
import Derived.Test.YtgnepppncmjagaaFrA
namespace Go.Proofs.Ytgnepppncmjagaa.Gt
open Go Go.RowKit Hp Rd Go.Proofs.Ytgnepppncmjagaa.Fr
/-- A frame, and where its body lies. -/
structure Fm where
  id : Int
  kind : Int
  A : Option Addr
  l : List Int
  c : Nat
def Fm.cells (f : Fm) : List Value := [.int .i64 f.id, .int .i64 f.kind, .slice f.A f.l.length f.c]
def fcells : List Fm → List Value
  | [] => []
  | f :: r => f.cells ++ fcells r
theorem fcells_snoc : ∀ (L : List Fm) (f : Fm), fcells (L ++ [f]) = fcells L ++ f.cells
  | [], _ => by simp [fcells]
  | g :: L, f => by
    show g.cells ++ fcells (L ++ [f]) = (g.cells ++ fcells L) ++ f.cells
    rw [fcells_snoc L f, List.append_assoc]
theorem fcells_at : ∀ (L : List Fm) (k : Nat) (f : Fm), L[k]? = some f → (fcells L)[k * 3]? = some (.int .i64 f.id) ∧ (fcells L)[k * 3 + 1]? = some (.int .i64 f.kind) ∧ (fcells L)[k * 3 + 2]? = some (.slice f.A f.l.length f.c)
  | g :: L, 0, f, h => by
    obtain rfl : g = f := by simpa using h
    exact ⟨rfl, rfl, rfl⟩
  | g :: L, k + 1, f, h => by
    have h1 := fcells_at L k f (by simpa using h)
    have h2 : fcells (g :: L) = .int .i64 g.id :: .int .i64 g.kind :: .slice g.A g.l.length g.c :: fcells L := rfl
    rw [h2, show (k + 1) * 3 = k * 3 + 3 by omega]
    exact h1
/-- The frame at a place. -/
structure FmAt (w : World) (f : Fm) (g off : Nat) : Prop where
  c0 : w.cell? ⟨g, off, none⟩ = some (.int .i64 f.id)
  c1 : w.cell? ⟨g, off + 1, none⟩ = some (.int .i64 f.kind)
  c2 : w.cell? ⟨g, off + 2, none⟩ = some (.slice f.A f.l.length f.c)
/-- Its body can be read; it lies below. -/
structure FmOk (w : World) (B : Nat) (f : Fm) : Prop where
  len : f.l.length ≤ f.c
  byt : Bytes w f.A f.l
  num : ∀ x ∈ f.l, 0 ≤ x ∧ x ≤ 255
  low : 0 < f.l.length → ∀ ad, f.A = some ad → ad.block < B
theorem FmAt.lt {w : World} {f : Fm} {g off : Nat} (h : FmAt w f g off) : g < w.heap.size := World.block_lt_of_cell? w ⟨g, off, none⟩ h.c0
theorem FmAt.kept {S : Nat → Prop} {w w' : World} {f : Fm} {g off : Nat} (h : FmAt w f g off) (k : Kept S w w') (hg : ¬ S g) : FmAt w' f g off := by
  have hb : w'.heap[g]? = w.heap[g]? := k.block g h.lt hg
  exact ⟨(World.cell?_of_block (a := ⟨g, off, none⟩) hb).trans h.c0, (World.cell?_of_block (a := ⟨g, off + 1, none⟩) hb).trans h.c1, (World.cell?_of_block (a := ⟨g, off + 2, none⟩) hb).trans h.c2⟩
theorem FmAt.below {w w' : World} {f : Fm} {g off : Nat} (h : FmAt w f g off) (k : Below w.heap.size w w') : FmAt w' f g off := h.kept (S := fun _ => False) (Kept.of_below k) (fun e => e)
theorem FmOk.kept {S : Nat → Prop} {w w' : World} {B : Nat} {f : Fm} (h : FmOk w B f) (k : Kept S w w') (hS : ∀ i, S i → B ≤ i) : FmOk w' B f :=
  ⟨h.len, h.byt.kept k (fun h0 ad e hs => by have := h.low h0 ad e; have := hS _ hs; omega), h.num, h.low⟩
theorem FmOk.below {w w' : World} {B : Nat} {f : Fm} (h : FmOk w B f) (k : Below w.heap.size w w') : FmOk w' B f := h.kept (S := fun _ => False) (Kept.of_below k) (fun _ e => e.elim)
theorem FmOk.mono {w : World} {B B' : Nat} {f : Fm} (h : FmOk w B f) (hB : B ≤ B') : FmOk w B' f := ⟨h.len, h.byt, h.num, fun h0 ad e => Nat.lt_of_lt_of_le (h.low h0 ad e) hB⟩
/-- A row of frames; all of it lies below B. -/
structure FmsAt (w : World) (B : Nat) (A : Option Addr) (L : List Fm) : Prop where
  at_ : ∀ (i : Nat) (f : Fm), L[i]? = some f → ∃ g off, A = some ⟨g, off, none⟩ ∧ g < B ∧ FmAt w f g (off + i * 3)
  ok : ∀ f ∈ L, FmOk w B f
theorem FmsAt.kept {S : Nat → Prop} {w w' : World} {B : Nat} {A : Option Addr} {L : List Fm} (h : FmsAt w B A L) (k : Kept S w w') (hS : ∀ i, S i → B ≤ i) : FmsAt w' B A L :=
  ⟨fun i f hi => by
    obtain ⟨g, off, e, hg, hf⟩ := h.at_ i f hi
    exact ⟨g, off, e, hg, hf.kept k (fun hs => by have := hS _ hs; omega)⟩, fun f hf => (h.ok f hf).kept k hS⟩
theorem FmsAt.below {w w' : World} {B : Nat} {A : Option Addr} {L : List Fm} (h : FmsAt w B A L) (k : Below w.heap.size w w') : FmsAt w' B A L := h.kept (S := fun _ => False) (Kept.of_below k) (fun _ e => e.elim)
theorem FmsAt.mono {w : World} {B B' : Nat} {A : Option Addr} {L : List Fm} (h : FmsAt w B A L) (hB : B ≤ B') : FmsAt w B' A L :=
  ⟨fun i f hi => by
    obtain ⟨g, off, e, hg, hf⟩ := h.at_ i f hi
    exact ⟨g, off, e, by omega, hf⟩, fun f hf => (h.ok f hf).mono hB⟩
theorem FmsAt.nil (w : World) (B : Nat) (A : Option Addr) : FmsAt w B A [] := ⟨fun i f hi => by simp at hi, fun f hf => by simp at hf⟩
/-- A row of one's own is one. -/
theorem fms_own {w : World} {base B n : Nat} {e : TypeId} {a : Option Addr} {c : Nat} {L : List Fm} (h : w.ownsRow base e 3 (.slice a n c) n (fcells L)) (hL : L.length = n) (hok : ∀ f ∈ L, FmOk w B f) (hB : w.heap.size ≤ B) : FmsAt w B a L := by
  refine ⟨fun i f hi => ?_, hok⟩
  have hin := (List.getElem?_eq_some_iff.1 hi).1
  rcases h.2 with ⟨_, h2⟩ | ⟨g, cap, cur, hv, _⟩
  · omega
  · obtain ⟨rfl, rfl⟩ : a = some ⟨g, 0, none⟩ ∧ c = cap := by simpa using hv
    obtain ⟨k0, k1, k2⟩ := fcells_at L i f hi
    have hc : ∀ j u, (fcells L)[j]? = some u → w.cell? ⟨g, j, none⟩ = some u := fun j u hj => by
      have := h.cells (g := g) rfl j u hj
      rwa [Addr.add_mid, Nat.zero_add] at this
    refine ⟨g, 0, rfl, ?_, ?_⟩
    · have := (h.lt g rfl).2
      omega
    · rw [Nat.zero_add]
      exact ⟨hc _ _ k0, hc _ _ k1, hc _ _ k2⟩
end Go.Proofs.Ytgnepppncmjagaa.Gt
