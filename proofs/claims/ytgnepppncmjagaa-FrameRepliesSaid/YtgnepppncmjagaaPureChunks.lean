/- FrameChunks: the pieces joined; the frames' cells. -/
import Derived.Test.YtgnepppncmjagaaReply
import Derived.Test.YtgnepppncmjagaaRd
namespace Go.Proofs.Ytgnepppncmjagaa.Ch
open Go Go.RowKit Go.Proofs.Ytgnepppncmjagaa.Fr Go.Proofs.Ytgnepppncmjagaa.Ck
def nums (s : ByteArray) : List Int := s.data.toList.map fun b => (b.toNat : Int)
theorem nums_length (s : ByteArray) : (nums s).length = s.size := by
  unfold nums
  rw [List.length_map, Array.length_toList]
  rfl
def joined (s : ByteArray) (i : Nat) : ByteArray := strOfNums ((nums s).take (1000 * i))
theorem joined_zero (s : ByteArray) : joined s 0 = ⟨#[]⟩ := rfl
theorem str_add (a b : List Int) : strOfNums a ++ strOfNums b = strOfNums (a ++ b) := by
  apply ByteArray.ext
  apply Array.toList_inj.1
  simp [strOfNums]
theorem joined_succ (s : ByteArray) (i : Nat) : joined s i ++ strOfNums (((nums s).drop (1000 * i)).take 1000) = joined s (i + 1) := by
  unfold joined
  rw [str_add, show 1000 * (i + 1) = 1000 * i + 1000 by omega, List.take_add]
theorem str_back (s : ByteArray) : strOfNums (nums s) = s := by
  unfold strOfNums nums
  rw [List.map_map]
  have : ((fun n : Int => UInt8.ofNat n.toNat) ∘ fun b : UInt8 => (b.toNat : Int)) = id := by
    funext b
    simp
  first | (rw [this]; simp) | simp [Function.comp_def]
theorem joined_all {s : ByteArray} {i : Nat} (h : count s.size ≤ i) : joined s i = s := by
  unfold joined
  rw [List.take_of_length_le (by rw [nums_length]; unfold count at h; omega)]
  exact str_back s
theorem joined_size (s : ByteArray) (i : Nat) : (joined s i).size ≤ s.size := by
  unfold joined
  rw [strOfNums_size, List.length_take, nums_length]
  omega
theorem piece_bytes {w : World} {ad : Addr} {s : ByteArray} (h : Bytes w (some ad) (nums s)) (k : Nat) (hk : 1000 * k < s.size) : Bytes w (some (ad.add (1000 * k))) (((nums s).drop (1000 * k)).take 1000) := by
  have h1 := Bytes.take (Bytes.drop (c := s.size + 1) h (1000 * k) (by rw [nums_length]; omega)) 1000
  rw [if_neg (by omega), Nat.mul_one] at h1
  exact h1
theorem piece_len (s : ByteArray) (k : Nat) : (((nums s).drop (1000 * k)).take 1000).length = min 1000 (s.size - 1000 * k) := by
  rw [List.length_take, List.length_drop, nums_length]
theorem pcells_length (id : Int) (ad : Addr) (L : Nat) : ∀ ks, (pcells id ad L ks).length = 3 * ks.length
  | [] => rfl
  | k :: ks => by
    show (_ ++ pcells id ad L ks).length = _
    rw [List.length_append, pcells_length id ad L ks]
    simp only [List.length_cons, List.length_nil]
    omega
theorem pcells_at (id : Int) (ad : Addr) (L : Nat) : ∀ (ks : List Nat) (k x : Nat), ks[k]? = some x → (pcells id ad L ks)[3 * k]? = some (.int .i64 id) ∧ (pcells id ad L ks)[3 * k + 1]? = some (.int .i64 2) ∧ (pcells id ad L ks)[3 * k + 2]? = some (piece ad L x)
  | y :: ks, 0, x, h => by
    obtain rfl : y = x := by simpa using h
    exact ⟨rfl, rfl, rfl⟩
  | y :: ks, k + 1, x, h => by
    have h1 := pcells_at id ad L ks k x (by simpa using h)
    have h2 : pcells id ad L (y :: ks) = .int .i64 id :: .int .i64 2 :: piece ad L y :: pcells id ad L ks := rfl
    rw [h2, show 3 * (k + 1) = 3 * k + 3 by omega]
    exact h1
/-- The frames as they lie. -/
structure Frs (w : World) (g : Nat) (id : Int) (ad : Addr) (s : ByteArray) (A6 : Addr) (c6 : Nat) : Prop where
  at0 : ∀ k, k ≤ count s.size → w.cell? ⟨g, 3 * k, none⟩ = some (.int .i64 id)
  at1 : ∀ k, k < count s.size → w.cell? ⟨g, 3 * k + 1, none⟩ = some (.int .i64 2)
  at2 : ∀ k, k < count s.size → w.cell? ⟨g, 3 * k + 2, none⟩ = some (piece ad s.size k)
  end1 : w.cell? ⟨g, 3 * count s.size + 1, none⟩ = some (.int .i64 3)
  end2 : w.cell? ⟨g, 3 * count s.size + 2, none⟩ = some (.slice (some A6) 6 c6)
  bytes : 0 < s.size → Bytes w (some ad) (nums s)
theorem frs_of {w : World} {base : Nat} {e : TypeId} {v : Value} {id : Int} {ad : Addr} {s : ByteArray} {A6 : Addr} {c6 : Nat}
    (h : w.ownsRow base e 3 v (count s.size + 1) (pcells id ad s.size (List.range (count s.size)) ++ [.int .i64 id, .int .i64 3, .slice (some A6) 6 c6])) (hb : 0 < s.size → Bytes w (some ad) (nums s)) :
    ∃ g cap, v = .slice (some ⟨g, 0, none⟩) (count s.size + 1) cap ∧ base ≤ g ∧ Frs w g id ad s A6 c6 := by
  have h0 := h
  obtain ⟨g, cap, rfl⟩ := ownsRow_succ h
  obtain ⟨c, hc⟩ : ∃ c, count s.size = c := ⟨_, rfl⟩
  have hl := pcells_length id ad s.size (List.range (count s.size))
  rw [List.length_range] at hl
  have hcell : ∀ j u, (pcells id ad s.size (List.range (count s.size)) ++ [.int .i64 id, .int .i64 3, .slice (some A6) 6 c6])[j]? = some u → w.cell? ⟨g, j, none⟩ = some u := fun j u hj => by
    have := h0.cells (g := g) rfl j u hj
    rwa [Addr.add_mid, Nat.zero_add] at this
  have hin : ∀ k, k < count s.size → (List.range (count s.size))[k]? = some k := fun k hk => by rw [List.getElem?_range hk]
  have hend : ∀ j, j < 3 → (pcells id ad s.size (List.range (count s.size)) ++ [.int .i64 id, .int .i64 3, .slice (some A6) 6 c6])[3 * count s.size + j]? = [Value.int .i64 id, .int .i64 3, .slice (some A6) 6 c6][j]? := fun j hj => by
    rw [List.getElem?_append_right (by omega), hl, Nat.add_sub_cancel_left]
  refine ⟨g, cap, rfl, (h.lt g rfl).1, ⟨fun k hk => ?_, fun k hk => ?_, fun k hk => ?_, ?_, ?_, hb⟩⟩
  · rcases Nat.lt_or_ge k (count s.size) with h1 | h1
    · exact hcell _ _ (by rw [List.getElem?_append_left (by omega)]; exact (pcells_at id ad s.size _ k k (hin k h1)).1)
    · obtain rfl : k = count s.size := by omega
      exact hcell _ _ (hend 0 (by omega))
  · exact hcell _ _ (by rw [List.getElem?_append_left (by omega)]; exact (pcells_at id ad s.size _ k k (hin k hk)).2.1)
  · exact hcell _ _ (by rw [List.getElem?_append_left (by omega)]; exact (pcells_at id ad s.size _ k k (hin k hk)).2.2)
  · exact hcell _ _ (hend 1 (by omega))
  · exact hcell _ _ (hend 2 (by omega))
theorem Frs.below {w w' : World} {g : Nat} {id : Int} {ad : Addr} {s : ByteArray} {A6 : Addr} {c6 : Nat} (h : Frs w g id ad s A6 c6) (k : Below w.heap.size w w') : Frs w' g id ad s A6 c6 := by
  have hc : ∀ j u, w.cell? ⟨g, j, none⟩ = some u → w'.cell? ⟨g, j, none⟩ = some u := fun j u hj => by
    rw [World.cell?_of_block (a := ⟨g, j, none⟩) (k.block g ?_)]
    · exact hj
    · exact World.block_lt_of_cell? w ⟨g, j, none⟩ hj
  exact ⟨fun j hj => hc _ _ (h.at0 j hj), fun j hj => hc _ _ (h.at1 j hj), fun j hj => hc _ _ (h.at2 j hj), hc _ _ h.end1, hc _ _ h.end2, fun h0 => (h.bytes h0).below k⟩
end Go.Proofs.Ytgnepppncmjagaa.Ch
