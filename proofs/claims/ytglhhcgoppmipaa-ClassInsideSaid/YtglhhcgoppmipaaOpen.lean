/- An argument that is an array of whole numbers, opened; four words as a set. -/
import Derived.Test.YtglhhcgoppmipaaBracket
import Derived.WideKeyArr2
namespace Go.Proofs.Ytglhhcgoppmipaa.Cl
open Go.RowKit Go.ChangeShapes Go.WideShapes

section
variable {H : Type} {enc : TypeId × Value → H} {P : Program} {k e : TypeId} {n : Nat} {q : IntKind} {W : World} {base : Nat} {sp : Nat → Bool} {held : Bool}
theorem mapM_ints (he : P.underlying e = some (.int q)) {m : Nat} {cs : List Value} {c : Nat} : ∀ (L : List Nat) (xs : List (DataW H × List MemPlace)),
    L.mapM (fun i => DataW.trod enc P W base sp held m e ((cs.drop (i * c)).take c)) = some xs → ∀ i ∈ L, ∃ a, (cs.drop (i * c)).take c = [.int q a] ∧ (Lit.int q a).wf = true
  | [], _, _ => fun i hi => by cases hi
  | j :: L, xs, h => by
    rw [List.mapM_cons] at h
    simp only [bind, Option.bind_eq_some_iff, pure, Option.some.injEq] at h
    obtain ⟨y, hy, ys, hys, rfl⟩ := h
    obtain ⟨a, ea, _, wa⟩ := DataW.trod_int he hy
    intro i hi
    rcases List.mem_cons.1 hi with rfl | hi
    · exact ⟨a, ea, wa⟩
    · exact mapM_ints he L ys hys i hi
theorem arr_open (A : WideMaps.ArrKey P k e n) (he : P.underlying e = some (.int q)) {r : Reach} {b0 : Nat} {v : Value} {d : DataW H} {ps : List MemPlace} (hw : Value.okWide P W r b0 k v) (hd : DataW.Trod enc P W base sp held k v d ps) :
    ∃ xs : Array Value, v = .agg xs ∧ xs.size = n ∧ ∀ i, i < n → ∃ a, xs[i]? = some (.int q a) ∧ (Lit.int q a).wf = true := by
  obtain ⟨xs, rfl, hn⟩ := WideMaps.okWide_arr A hw
  refine ⟨xs, rfl, hn, ?_⟩
  obtain ⟨fuel, hf⟩ := hd
  cases fuel with
  | zero => simp [DataW.trod] at hf
  | succ m =>
    rw [DataW.trod_step] at hf
    unfold DataW.trodStep at hf
    simp only [A.hu, Value.cells] at hf
    rw [if_pos (by rw [A.size]; simpa using hn)] at hf
    simp only [Option.map_eq_some_iff] at hf
    obtain ⟨ys, hy, _⟩ := hf
    intro i hi
    obtain ⟨a, ha, hwf⟩ := mapM_ints he _ ys hy i (List.mem_range.2 hi)
    refine ⟨a, ?_, hwf⟩
    rw [A.one, Nat.mul_one] at ha
    have h1 : (xs.toList.drop i)[0]? = some (.int q a) := by
      cases hd : xs.toList.drop i with
      | nil => rw [hd] at ha; cases ha
      | cons b l => rw [hd] at ha; simpa using ha
    rw [List.getElem?_drop, Nat.add_zero, Array.getElem?_toList] at h1
    exact h1
end
/-- Four words are a set's. -/
def ofWords (a b c d : Nat) : Nat := a + 2 ^ 64 * b + 2 ^ 128 * c + 2 ^ 192 * d
theorem ofWords_lt (a b c d : Nat) (ha : a < 2 ^ 64) (hb : b < 2 ^ 64) (hc : c < 2 ^ 64) (hd : d < 2 ^ 64) : ofWords a b c d < 2 ^ 256 := by
  unfold ofWords
  simp only [Nat.reducePow] at *
  omega
theorem ofWords_wn (a b c d : Nat) (ha : a < 2 ^ 64) (hb : b < 2 ^ 64) (hc : c < 2 ^ 64) (hd : d < 2 ^ 64) : wn (ofWords a b c d) 0 = a ∧ wn (ofWords a b c d) 1 = b ∧ wn (ofWords a b c d) 2 = c ∧ wn (ofWords a b c d) 3 = d := by
  unfold wn ofWords
  simp only [Nat.shiftRight_eq_div_pow, Nat.reduceMul, Nat.reducePow] at *
  refine ⟨?_, ?_, ?_, ?_⟩ <;> omega
theorem wf_u64 (a : Int) (h : (Lit.int .u64 a).wf = true) : ∃ n : Nat, a = (n : Int) ∧ n < 2 ^ 64 := by
  simp [Lit.wf] at h
  have h1 : IntKind.u64.min = 0 := by decide
  have h2 : IntKind.u64.max = 18446744073709551615 := by decide
  refine ⟨a.toNat, ?_, ?_⟩
  · omega
  · simp only [Nat.reducePow]; omega
theorem wf_u8 (a : Int) (h : (Lit.int .u8 a).wf = true) : ∃ n : Nat, a = (n : Int) ∧ n < 256 := by
  simp [Lit.wf] at h
  have h1 : IntKind.u8.min = 0 := by decide
  have h2 : IntKind.u8.max = 255 := by decide
  exact ⟨a.toNat, by omega, by omega⟩
theorem agg4 (xs : Array Value) (hn : xs.size = 4) (h : ∀ i, i < 4 → ∃ a, xs[i]? = some (.int .u64 a) ∧ (Lit.int .u64 a).wf = true) : ∃ s, s < 2 ^ 256 ∧ Value.agg xs = St s := by
  obtain ⟨a0, e0, w0⟩ := h 0 (by decide)
  obtain ⟨a1, e1, w1⟩ := h 1 (by decide)
  obtain ⟨a2, e2, w2⟩ := h 2 (by decide)
  obtain ⟨a3, e3, w3⟩ := h 3 (by decide)
  obtain ⟨n0, rfl, l0⟩ := wf_u64 a0 w0
  obtain ⟨n1, rfl, l1⟩ := wf_u64 a1 w1
  obtain ⟨n2, rfl, l2⟩ := wf_u64 a2 w2
  obtain ⟨n3, rfl, l3⟩ := wf_u64 a3 w3
  obtain ⟨l⟩ := xs
  match l, hn with
  | [x0, x1, x2, x3], _ =>
    refine ⟨ofWords n0 n1 n2 n3, ofWords_lt _ _ _ _ l0 l1 l2 l3, ?_⟩
    obtain ⟨k0, k1, k2, k3⟩ := ofWords_wn n0 n1 n2 n3 l0 l1 l2 l3
    have f0 : x0 = .int .u64 (n0 : Int) := by simpa using e0
    have f1 : x1 = .int .u64 (n1 : Int) := by simpa using e1
    have f2 : x2 = .int .u64 (n2 : Int) := by simpa using e2
    have f3 : x3 = .int .u64 (n3 : Int) := by simpa using e3
    subst f0 f1 f2 f3
    unfold St cs wd
    rw [k0, k1, k2, k3]
theorem agg2 (xs : Array Value) (hn : xs.size = 2) (h : ∀ i, i < 2 → ∃ a, xs[i]? = some (.int .u8 a) ∧ (Lit.int .u8 a).wf = true) : ∃ a b : Nat, a < 256 ∧ b < 256 ∧ Value.agg xs = .agg #[.int .u8 (a : Int), .int .u8 (b : Int)] := by
  obtain ⟨a0, e0, w0⟩ := h 0 (by decide)
  obtain ⟨a1, e1, w1⟩ := h 1 (by decide)
  obtain ⟨n0, rfl, l0⟩ := wf_u8 a0 w0
  obtain ⟨n1, rfl, l1⟩ := wf_u8 a1 w1
  obtain ⟨l⟩ := xs
  match l, hn with
  | [x0, x1], _ =>
    have f0 : x0 = .int .u8 (n0 : Int) := by simpa using e0
    have f1 : x1 = .int .u8 (n1 : Int) := by simpa using e1
    subst f0 f1
    exact ⟨n0, n1, l0, l1, rfl⟩
theorem agg3 (xs : Array Value) (hn : xs.size = 3) (h : ∀ i, i < 3 → ∃ a, xs[i]? = some (.int .u8 a) ∧ (Lit.int .u8 a).wf = true) : ∃ a b c : Nat, a < 256 ∧ b < 256 ∧ c < 256 ∧ Value.agg xs = .agg #[.int .u8 (a : Int), .int .u8 (b : Int), .int .u8 (c : Int)] := by
  obtain ⟨a0, e0, w0⟩ := h 0 (by decide)
  obtain ⟨a1, e1, w1⟩ := h 1 (by decide)
  obtain ⟨a2, e2, w2⟩ := h 2 (by decide)
  obtain ⟨n0, rfl, l0⟩ := wf_u8 a0 w0
  obtain ⟨n1, rfl, l1⟩ := wf_u8 a1 w1
  obtain ⟨n2, rfl, l2⟩ := wf_u8 a2 w2
  obtain ⟨l⟩ := xs
  match l, hn with
  | [x0, x1, x2], _ =>
    have f0 : x0 = .int .u8 (n0 : Int) := by simpa using e0
    have f1 : x1 = .int .u8 (n1 : Int) := by simpa using e1
    have f2 : x2 = .int .u8 (n2 : Int) := by simpa using e2
    subst f0 f1 f2
    exact ⟨n0, n1, n2, l0, l1, l2, rfl⟩
end Go.Proofs.Ytglhhcgoppmipaa.Cl
