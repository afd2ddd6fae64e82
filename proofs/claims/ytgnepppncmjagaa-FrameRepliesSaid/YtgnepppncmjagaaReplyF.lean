/- frame.Reply: the frames it hands back, as rows; the error. -/
import Derived.Test.YtgnepppncmjagaaReplyG
import Derived.Test.YtgnepppncmjagaaPureChunks
namespace Go.Proofs.Ytgnepppncmjagaa.Ck
open Go Go.RowKit Go.Shelf Hp Go.Proofs.Ytgnepppncmjagaa.Fr Go.Proofs.YtgnepppncmjagaaW.PrintWords Go.Proofs.Ytgnepppncmjagaa.Print Go.Proofs.Ytgnepppncmjagaa.Gt Go.Proofs.Ytgnepppncmjagaa.Ev Go.Proofs.Ytgnepppncmjagaa.Ch
def tr (f : Fm) : Int × Int × List Int := (f.id, f.kind, f.l)
def pb (s : ByteArray) (k : Nat) : List Int := ((Ch.nums s).drop (1000 * k)).take 1000
/-- A reply's frames. -/
def frs (id : Int) (s : ByteArray) (E : List Int) : List (Int × Int × List Int) := (List.range (count s.size)).map (fun k => (id, 2, pb s k)) ++ [(id, 3, E)]
def chunks (id : Int) (s : ByteArray) (ad : Addr) (ks : List Nat) : List Fm := ks.map fun k => ⟨id, 2, some (ad.add (1000 * k)), pb s k, min 1000 (s.size - 1000 * k)⟩
theorem chunks_cells (id : Int) (s : ByteArray) (ad : Addr) : ∀ ks, fcells (chunks id s ad ks) = pcells id ad s.size ks
  | [] => rfl
  | k :: ks => by
    show [_, _, .slice (some (ad.add (1000 * k))) (pb s k).length (min 1000 (s.size - 1000 * k))] ++ fcells (chunks id s ad ks) = [_, _, piece ad s.size k] ++ pcells id ad s.size ks
    rw [chunks_cells id s ad ks, show (pb s k).length = min 1000 (s.size - 1000 * k) from piece_len s k]
    rfl
theorem fcells_append : ∀ (a b : List Fm), fcells (a ++ b) = fcells a ++ fcells b
  | [], b => rfl
  | f :: a, b => by
    show f.cells ++ fcells (a ++ b) = (f.cells ++ fcells a) ++ fcells b
    rw [fcells_append a b, List.append_assoc]
theorem nums_byte (s : ByteArray) : ∀ x ∈ Ch.nums s, 0 ≤ x ∧ x ≤ 255 := fun x hx => by
  unfold Ch.nums at hx
  obtain ⟨b, _, rfl⟩ := List.mem_map.1 hx
  have := b.toNat_lt
  omega
theorem tb_byte (n : Int) : ∀ x ∈ tb n, 0 ≤ x ∧ x ≤ 255 := fun x hx => by
  unfold tb hi lo at hx
  simp at hx
  omega
theorem six_byte (er : Int) (n m : Nat) : ∀ x ∈ six er n m, 0 ≤ x ∧ x ≤ 255 := fun x hx => by
  unfold six at hx
  simp only [List.mem_append] at hx
  rcases hx with (h | h) | h <;> exact tb_byte _ x h
theorem bytes_lt {w : World} {a : Addr} {l : List Int} (h : Bytes w (some a) l) (h0 : 0 < l.length) : a.block < w.heap.size := by
  obtain ⟨ad, e, hc⟩ := h h0
  cases e
  have := World.block_lt_of_cell? w _ (hc 0 _ (List.getElem?_eq_getElem h0))
  rwa [show (a.add 0).block = a.block by unfold Addr.add; split <;> rfl] at this
theorem replyg_ok (w : World) (id er : Int) (x y : Nat) (s : ByteArray) (h0 : 0 ≤ id) (h1 : id ≤ 65535) (he0 : 0 ≤ er) (he1 : er ≤ 65535) (hx : wh x = true) (hy : wh y = true) (hs : s.size ≤ 20000) :
    Calls Try.prog 21 #[.agg #[.int .i64 id, .int .i64 er, .complex .f64 x y, .string s]] w fun e w' => ∃ (a : Option Addr) (c' : Nat) (L : List Fm), e = .returned (.tuple #[.slice a L.length c', .int .i64 0]) ∧ L.length ≤ c' ∧ FmsAt w' w'.heap.size a L ∧
      L.map tr = frs id s (six er (wi x) (wi y)) ∧ Below w.heap.size w w' := by
  refine (callsIn_wide.1 (replyg_in w id er x y s h0 h1 he0 he1 hx hy hs)).mono ?_
  rintro e w' ⟨ad, A6, c6, v, rfl, hrow, hby, ⟨hb6, hc6, hl6⟩, hB⟩
  obtain ⟨L, hLd⟩ : ∃ L, L = chunks id s ad (List.range (count s.size)) ++ [⟨id, 3, some A6, six er (wi x) (wi y), c6⟩] := ⟨_, rfl⟩
  have hlen : L.length = count s.size + 1 := by rw [hLd]; simp [chunks]
  have hcells : fcells L = pcells id ad s.size (List.range (count s.size)) ++ [.int .i64 id, .int .i64 3, .slice (some A6) 6 c6] := by
    rw [hLd, fcells_append, chunks_cells]
    rfl
  rw [← hlen, ← hcells] at hrow
  have hok : ∀ f ∈ L, FmOk w' w'.heap.size f := fun f hf => by
    rw [hLd] at hf
    rcases List.mem_append.1 hf with h | h
    · obtain ⟨k, hk, rfl⟩ := List.mem_map.1 h
      have hk2 := List.mem_range.1 hk
      have hks : 1000 * k < s.size := by unfold count at hk2; omega
      have hpb := piece_bytes (hby (by omega)) k hks
      refine ⟨Nat.le_of_eq (piece_len s k), hpb, fun z hz => nums_byte s z (List.mem_of_mem_drop (List.mem_of_mem_take hz)), fun h0 a e => ?_⟩
      cases e
      exact bytes_lt hpb h0
    · obtain rfl : f = _ := by simpa using h
      exact ⟨hc6, hb6, six_byte _ _ _, fun _ a e => by cases e; exact hl6⟩
  obtain ⟨a, c', rfl⟩ : ∃ a c', v = .slice a L.length c' := by
    rcases hrow.2 with ⟨rfl, h⟩ | ⟨g, cap, cur, rfl, _⟩
    · omega
    · exact ⟨_, _, rfl⟩
  refine ⟨a, c', L, rfl, ?_, fms_own hrow rfl hok (Nat.le_refl _), ?_, hB⟩
  · rcases hrow.2 with ⟨_, h⟩ | ⟨g, cap, cur, e, _, _, hn, _⟩
    · omega
    · cases e
      exact hn
  · rw [hLd, List.map_append]
    unfold frs chunks
    rw [List.map_map]
    rfl
set_option maxHeartbeats 4000000 in
set_option maxRecDepth 100000 in
theorem replyg_bad (w : World) (id er : Int) (x y : Nat) (s : ByteArray) (hbad : ¬ (0 ≤ id ∧ id ≤ 65535 ∧ 0 ≤ er ∧ er ≤ 65535 ∧ wh x = true ∧ wh y = true)) :
    Calls Try.prog 21 #[.agg #[.int .i64 id, .int .i64 er, .complex .f64 x y, .string s]] w fun e w' => e = .returned (.tuple #[.slice none 0 0, .int .i64 231]) ∧ Below w.heap.size w w' := by
  have hal : ∀ o, Below w.heap.size w (w.alloc o) := fun o => (Below.refl _ _).alloc (Nat.le_refl _) o
  have HAL := Sh.mk hal
  clear hal
  have rl0 := fun W => toRe W x y
  have im0 := fun W => toIm W x y
  go_enter Try.func21, Try.ntmps21
  by_cases k1 : id < 0
  · go_wp2_with fail
    go_ret2
    exact ⟨rfl, HAL.out _⟩
  by_cases k2 : (65535 : Int) < id
  · go_wp2_with fail
    go_ret2
    exact ⟨rfl, HAL.out _⟩
  by_cases k3 : er < 0
  · go_wp2_with fail
    go_ret2
    exact ⟨rfl, HAL.out _⟩
  by_cases k4 : (65535 : Int) < er
  · go_wp2_with fail
    go_ret2
    exact ⟨rfl, HAL.out _⟩
  by_cases k5 : wh x = true
  rotate_left
  · have k5' : wh x = false := by simpa using k5
    clear k5
    go_wp2_with (refine (whole_calls _ _).mono ?_; rintro e w' ⟨rfl, rfl⟩)
    go_ret2
    exact ⟨rfl, HAL.out _⟩
  by_cases k6 : wh y = true
  rotate_left
  · have k6' : wh y = false := by simpa using k6
    clear k6
    go_wp2_with (refine (whole_calls _ _).mono ?_; rintro e w' ⟨rfl, rfl⟩)
    go_ret2
    exact ⟨rfl, HAL.out _⟩
  exact absurd ⟨by omega, by omega, by omega, by omega, k5, k6⟩ hbad
end Go.Proofs.Ytgnepppncmjagaa.Ck
