/- What came in, read type by type: what the reader's word says of the cells. -/
import GoSem.ClaimJoined
import Derived.WideShapes
import Derived.RowKit
import Derived.Below
import Derived.Deep.MidRow
import Derived.Laws.Cover2
namespace Go.Proofs.Ytnemnhfdjofckaa.Rd
open Go Go.WideShapes

/-- The cells read, at their type, and nothing in them is larger than the reach. -/
def Rd (P : Program) (w : World) (t : TypeId) (cs : List Value) : Prop :=
  ∃ (H : Type) (enc : TypeId × Value → H) (fuel : Nat) (d : DataW H) (ps : List MemPlace), DataW.trod enc P w 0 (fun _ => true) true fuel t cs = some (d, ps) ∧ ∀ n ∈ d.weights P t, n ≤ reachBytes
/-- An argument. -/
def Arg (P : Program) (w : World) (t : TypeId) (v : Value) : Prop := (∃ base, Value.okWide P w .any base t v) ∧ Rd P w t v.cells.toList
section
variable {P : Program} {w : World} {t : TypeId} {cs : List Value}
theorem rd_int {k : IntKind} (ht : P.underlying t = some (.int k)) (h : Rd P w t cs) : ∃ n, cs = [.int k n] ∧ (Lit.int k n).wf = true := by
  obtain ⟨H, enc, fuel, d, ps, h, _⟩ := h
  cases fuel with
  | zero => simp [DataW.trod] at h
  | succ fuel =>
    unfold DataW.trod at h
    rw [ht] at h
    match cs, h with
    | [.int k' n], h =>
      simp only at h
      split at h
      · rename_i hk
        obtain ⟨rfl, hw⟩ := hk
        exact ⟨n, rfl, hw⟩
      · cases h
theorem rd_bool (ht : P.underlying t = some .bool) (h : Rd P w t cs) : ∃ b, cs = [.bool b] := by
  obtain ⟨H, enc, fuel, d, ps, h, _⟩ := h
  cases fuel with
  | zero => simp [DataW.trod] at h
  | succ fuel =>
    unfold DataW.trod at h
    rw [ht] at h
    match cs, h with
    | [.bool b], h => exact ⟨b, rfl⟩
theorem rd_float {k : FloatKind} (ht : P.underlying t = some (.float k)) (h : Rd P w t cs) : ∃ b, cs = [.float k b] ∧ (Lit.float k b).wf = true := by
  obtain ⟨H, enc, fuel, d, ps, h, _⟩ := h
  cases fuel with
  | zero => simp [DataW.trod] at h
  | succ fuel =>
    unfold DataW.trod at h
    rw [ht] at h
    match cs, h with
    | [.float k' n], h =>
      simp only at h
      split at h
      · rename_i hk
        obtain ⟨rfl, hw⟩ := hk
        exact ⟨n, rfl, hw⟩
      · cases h
theorem rd_string (ht : P.underlying t = some .string) (h : Rd P w t cs) : ∃ s, cs = [.string s] ∧ s.size ≤ 140737488351232 := by
  obtain ⟨H, enc, fuel, d, ps, h, hs⟩ := h
  cases fuel with
  | zero => simp [DataW.trod] at h
  | succ fuel =>
    unfold DataW.trod at h
    rw [ht] at h
    match cs, h with
    | [.string s], h =>
      simp only at h
      split at h
      · obtain ⟨rfl, _⟩ := Prod.mk.inj (Option.some.inj h)
        refine ⟨s, rfl, ?_⟩
        have := hs s.data.toList.length (by simp [DataW.weights])
        simpa [reachBytes] using this
      · cases h
theorem mapM_some {α β : Type} {f : α → Option β} : ∀ {l : List α} {r : List β}, l.mapM f = some r → r.length = l.length ∧ ∀ (i : Nat) (x : α), l[i]? = some x → ∃ y, r[i]? = some y ∧ f x = some y
  | [], r, h => by
    simp at h
    subst h
    exact ⟨rfl, by simp⟩
  | a :: l, r, h => by
    simp only [List.mapM_cons, Option.bind_eq_bind, Option.bind_eq_some_iff] at h
    obtain ⟨y, hy, ys, hys, hr⟩ := h
    obtain rfl : y :: ys = r := by simpa using hr
    obtain ⟨h1, h2⟩ := mapM_some hys
    refine ⟨by simp [h1], fun i x hx => ?_⟩
    cases i with
    | zero =>
      simp at hx
      subst hx
      exact ⟨y, rfl, hy⟩
    | succ i => simpa using h2 i x (by simpa using hx)
theorem weightsAll_mem {H : Type} {e : TypeId} : ∀ {l : List (DataW H)} {d : DataW H} {n : Nat}, d ∈ l → n ∈ d.weights P e → n ∈ DataW.weightsAll P e l
  | x :: l, d, n, hd, hn => by
    simp only [DataW.weightsAll, List.mem_append]
    rcases List.mem_cons.1 hd with rfl | h
    · exact Or.inl hn
    · exact Or.inr (weightsAll_mem h hn)
theorem weightsEach_mem {H : Type} : ∀ {ts : List TypeId} {l : List (DataW H)} {i : Nat} {t : TypeId} {d : DataW H} {n : Nat}, ts[i]? = some t → l[i]? = some d → n ∈ d.weights P t → n ∈ DataW.weightsEach P ts l
  | t0 :: ts, d0 :: l, 0, t, d, n, ht, hd, hn => by
    simp at ht hd
    subst ht; subst hd
    simp only [DataW.weightsEach, List.mem_append]
    exact Or.inl hn
  | t0 :: ts, d0 :: l, i + 1, t, d, n, ht, hd, hn => by
    simp only [DataW.weightsEach, List.mem_append]
    exact Or.inr (weightsEach_mem (by simpa using ht) (by simpa using hd) hn)
  | [], _, _, _, _, _, ht, _, _ => by simp at ht
  | _ :: _, [], _, _, _, _, _, hd, _ => by simp at hd
/-- A slice: nil, or a row each of whose elements reads. -/
theorem rd_slice {e : TypeId} (ht : P.underlying t = some (.slice e)) (h : Rd P w t cs) : ∃ a len cap, cs = [.slice a len cap] ∧ ((a = none ∧ len = 0 ∧ cap = 0) ∨ ∃ ad, a = some ad ∧ len ≤ cap ∧ cap ≤ maxLen ∧ cap * P.bytesOf e ≤ 140737488351232 ∧
    ∀ i, i < cap → ∃ es, w.cells? 0 (ad.add (i * P.cellsOf e)) (P.cellsOf e) = some es ∧ Rd P w e es) := by
  obtain ⟨H, enc, fuel, d, ps, h, hs⟩ := h
  cases fuel with
  | zero => simp [DataW.trod] at h
  | succ fuel =>
    unfold DataW.trod at h
    rw [ht] at h
    match cs, h with
    | [.slice none 0 0], h => exact ⟨none, 0, 0, rfl, Or.inl ⟨rfl, rfl, rfl⟩⟩
    | [.slice (some ad) len cap], h =>
      refine ⟨some ad, len, cap, rfl, Or.inr ⟨ad, rfl, ?_⟩⟩
      simp only at h
      split at h
      case isFalse => cases h
      rename_i hc
      obtain ⟨_, hlc, hcm⟩ := hc
      simp only [if_true, Option.bind_eq_some_iff, Option.map_eq_some_iff] at h
      obtain ⟨es, hes, rs, hrs, heq⟩ := h
      obtain ⟨hd, _⟩ := Prod.mk.inj heq
      subst hd
      obtain ⟨l1, g1⟩ := mapM_some hes
      obtain ⟨l2, g2⟩ := mapM_some hrs
      simp only [List.length_range] at l1 l2
      have hw : ∀ n ∈ ((es.map (·.1)).length + (rs.map (·.1)).length) * P.bytesOf e :: (DataW.weightsAll P e (es.map (·.1)) ++ DataW.weightsAll P e (rs.map (·.1))), n ≤ reachBytes := by
        intro n hn
        exact hs n (by simp only [DataW.weights, ht]; exact hn)
      refine ⟨hlc, hcm, ?_, fun i hi => ?_⟩
      · have := hw _ (List.mem_cons.2 (Or.inl rfl))
        rw [List.length_map, List.length_map, l1, l2, show len + (cap - len) = cap by omega] at this
        simpa [reachBytes] using this
      · rcases Nat.lt_or_ge i len with h1 | h1
        · obtain ⟨y, hy, hf⟩ := g1 i i (by rw [List.getElem?_range h1])
          obtain ⟨cl, hcl, htr⟩ := Option.bind_eq_some_iff.1 hf
          exact ⟨cl, hcl, H, enc, fuel, y.1, y.2, htr, fun n hn => hw n (List.mem_cons.2 (Or.inr (List.mem_append.2 (Or.inl (weightsAll_mem (List.mem_map.2 ⟨y, List.mem_of_getElem? hy, rfl⟩) hn)))))⟩
        · obtain ⟨y, hy, hf⟩ := g2 (i - len) (i - len) (by rw [List.getElem?_range (by omega)])
          obtain ⟨cl, hcl, htr⟩ := Option.bind_eq_some_iff.1 hf
          rw [show len + (i - len) = i by omega] at hcl
          exact ⟨cl, hcl, H, enc, fuel, y.1, y.2, htr, fun n hn => hw n (List.mem_cons.2 (Or.inr (List.mem_append.2 (Or.inr (weightsAll_mem (List.mem_map.2 ⟨y, List.mem_of_getElem? hy, rfl⟩) hn)))))⟩
/-- A struct: each field reads. -/
theorem rd_struct {fs : Array Field} (ht : P.underlying t = some (.struct fs)) (h : Rd P w t cs) : cs.length = P.cellsOf t ∧ ∀ (i : Nat) (f : Field), fs.toList[i]? = some f → Rd P w f.type ((cs.drop f.offset).take (P.cellsOf f.type)) := by
  obtain ⟨H, enc, fuel, d, ps, h, hs⟩ := h
  cases fuel with
  | zero => simp [DataW.trod] at h
  | succ fuel =>
    unfold DataW.trod at h
    rw [ht] at h
    simp only at h
    split at h
    case isFalse => cases h
    rename_i hl
    obtain ⟨xs, hxs, heq⟩ := Option.map_eq_some_iff.1 h
    obtain ⟨hd, _⟩ := Prod.mk.inj heq
    subst hd
    obtain ⟨l1, g1⟩ := mapM_some hxs
    refine ⟨hl, fun i f hf => ?_⟩
    obtain ⟨y, hy, htr⟩ := g1 i f hf
    refine ⟨H, enc, fuel, y.1, y.2, htr, fun n hn => hs n ?_⟩
    simp only [DataW.weights, ht]
    exact weightsEach_mem (i := i) (by rw [List.getElem?_map, hf]; rfl) (by rw [List.getElem?_map, hy]; rfl) hn
/-- An array: each place reads. -/
theorem rd_array {e : TypeId} {m : Nat} (ht : P.underlying t = some (.array m e)) (h : Rd P w t cs) : cs.length = P.cellsOf t ∧ ∀ i, i < m → Rd P w e ((cs.drop (i * P.cellsOf e)).take (P.cellsOf e)) := by
  obtain ⟨H, enc, fuel, d, ps, h, hs⟩ := h
  cases fuel with
  | zero => simp [DataW.trod] at h
  | succ fuel =>
    unfold DataW.trod at h
    rw [ht] at h
    simp only at h
    split at h
    case isFalse => cases h
    rename_i hl
    obtain ⟨xs, hxs, heq⟩ := Option.map_eq_some_iff.1 h
    obtain ⟨hd, _⟩ := Prod.mk.inj heq
    subst hd
    obtain ⟨l1, g1⟩ := mapM_some hxs
    refine ⟨hl, fun i hi => ?_⟩
    obtain ⟨y, hy, htr⟩ := g1 i i (by rw [List.getElem?_range hi])
    refine ⟨H, enc, fuel, y.1, y.2, htr, fun n hn => hs n ?_⟩
    simp only [DataW.weights, ht]
    exact weightsAll_mem (List.mem_map.2 ⟨y, List.mem_of_getElem? hy, rfl⟩) hn
/-- Arguments out of the row's own words. -/
theorem arg_of {H : Type} {enc : TypeId × Value → H} {base : Nat} {v : Value} {d : DataW H} {p : List MemPlace} (ho : Value.okWide P w .any base t v) (h : DataW.Trod enc P w 0 (fun _ => true) true t v d p) (hs : ∀ n ∈ d.weights P t, n ≤ reachBytes) : Arg P w t v := by
  obtain ⟨fuel, h⟩ := h
  exact ⟨⟨base, ho⟩, H, enc, fuel, d, p, h, hs⟩
theorem weight_of {H : Type} {ts : List TypeId} {ds : List (DataW H)} (h : (DataW.weightsEach P ts ds).all (· ≤ reachBytes) = true) {i : Nat} {d : DataW H} (ht : ts[i]? = some t) (hd : ds[i]? = some d) : ∀ n ∈ d.weights P t, n ≤ reachBytes := fun n hn => by
  have := List.all_eq_true.1 h n (weightsEach_mem ht hd hn)
  simpa using this
theorem arg_int {k : IntKind} (ht : P.underlying t = some (.int k)) {v : Value} (h : Arg P w t v) : ∃ n, v = .int k n ∧ (Lit.int k n).wf = true := by
  obtain ⟨⟨b, ho⟩, hr⟩ := h
  obtain ⟨n, rfl⟩ := okWide_int ht ho
  obtain ⟨m, hm, hw⟩ := rd_int ht hr
  simp [Value.cells] at hm
  exact ⟨n, rfl, by rw [hm]; exact hw⟩
theorem arg_bool (ht : P.underlying t = some .bool) {v : Value} (h : Arg P w t v) : ∃ b, v = .bool b := by
  obtain ⟨⟨b, ho⟩, hr⟩ := h
  exact okWide_bool ht ho
theorem arg_string (ht : P.underlying t = some .string) {v : Value} (h : Arg P w t v) : ∃ s, v = .string s ∧ s.size ≤ 140737488351232 := by
  obtain ⟨⟨b, ho⟩, hr⟩ := h
  obtain ⟨n, rfl⟩ := okWide_string ht ho
  obtain ⟨m, hm, hw⟩ := rd_string ht hr
  simp [Value.cells] at hm
  exact ⟨n, rfl, by rw [hm]; exact hw⟩
theorem arg_struct {fs : Array Field} (ht : P.underlying t = some (.struct fs)) {v : Value} (h : Arg P w t v) : ∃ cs, v = .agg cs ∧ cs.toList.length = P.cellsOf t ∧ ∀ (i : Nat) (f : Field), fs.toList[i]? = some f → Rd P w f.type ((cs.toList.drop f.offset).take (P.cellsOf f.type)) := by
  obtain ⟨⟨b, ho⟩, hr⟩ := h
  obtain ⟨cs, rfl, _⟩ := okWide_struct ht ho
  exact ⟨cs, rfl, rd_struct ht hr⟩
theorem arg_array {m : Nat} {e : TypeId} (ht : P.underlying t = some (.array m e)) {v : Value} (h : Arg P w t v) : ∃ cs, v = .agg cs ∧ cs.toList.length = P.cellsOf t ∧ ∀ i, i < m → Rd P w e ((cs.toList.drop (i * P.cellsOf e)).take (P.cellsOf e)) := by
  obtain ⟨⟨b, ho⟩, hr⟩ := h
  have : ∃ cs, v = .agg cs := by
    unfold Value.okWide at ho
    rw [ht] at ho
    obtain ⟨cs, rfl, _⟩ := ho
    exact ⟨cs, rfl⟩
  obtain ⟨cs, rfl⟩ := this
  exact ⟨cs, rfl, rd_array ht hr⟩
theorem arg_slice {e : TypeId} (ht : P.underlying t = some (.slice e)) {v : Value} (h : Arg P w t v) : ∃ a len cap, v = .slice a len cap ∧ ((a = none ∧ len = 0 ∧ cap = 0) ∨ ∃ ad, a = some ad ∧ len ≤ cap ∧ cap ≤ maxLen ∧ cap * P.bytesOf e ≤ 140737488351232 ∧
    ∀ i, i < cap → ∃ es, w.cells? 0 (ad.add (i * P.cellsOf e)) (P.cellsOf e) = some es ∧ Rd P w e es) := by
  obtain ⟨⟨b, ho⟩, hr⟩ := h
  obtain ⟨a, len, cap, rfl⟩ := okWide_slice ht ho
  obtain ⟨a', len', cap', hm, hw⟩ := rd_slice ht hr
  simp [Value.cells] at hm
  obtain ⟨rfl, rfl, rfl⟩ := hm
  exact ⟨_, _, _, rfl, hw⟩
end
end Go.Proofs.Ytnemnhfdjofckaa.Rd
