/- Cutting rows of what can be read. -/
import Derived.Test.YtnemnhfdjofckaaCells
import Derived.Test.YtnemnhfdjofckaaOwn
import Derived.Laws.AppendOwnNone
import Derived.ChangeKeysEq
import Derived.Laws.Slices
namespace Go.Proofs.Ytnemnhfdjofckaa.Rw
open Go Go.RowKit Go.Proofs.Ytnemnhfdjofckaa.Hp Go.Proofs.Ytnemnhfdjofckaa
section
variable {P : Program}
theorem elem_of {ty e : TypeId} (ht : P.underlying ty = some (.slice e)) : P.underlying ty = some (.slice (P.elem ty)) := by
  have : P.elem ty = e := by simp [Program.elem, ht]
  rw [this]
  exact ht
/-- x[l:l+k], of a row with room behind l. -/
theorem exec_cut {o : Oper} {a : Act} {w : World} (ty e : TypeId) (x lo hi : Operand) (ho : o.op = .slice ty x (some lo) (some hi) none) (ht : P.underlying ty = some (.slice e)) (s : Nat) (hs : (P.info? e).map (·.size) = some s)
    {ad : Addr} {L c l k : Nat} (hx : a.eval x = .slice (some ad) L c) (hl : a.eval lo = .int .i64 (l : Int)) (hh : a.eval hi = .int .i64 ((l + k : Nat) : Int)) (h1 : l < c) (h2 : l + k ≤ c) :
    (execOp a.eval o).run P w = .ok (.value (.slice (some (ad.add (l * s))) k (c - l))) w := by
  obtain ⟨i, hi0, rfl⟩ := Option.map_eq_some_iff.1 hs
  have he := elem_of ht
  have hee : P.elem ty = e := by simp [Program.elem, ht]
  have h3 := run_slice_lh (P := P) w ty (some ad) L c he .i64 .i64 (l : Int) ((l + k : Nat) : Int) (by omega) (by omega) (by omega)
  rw [hee, run_sizeOf w hi0] at h3
  unfold execOp
  simp only [ho, hx, hl, hh, Option.map_some, Option.map_none, Sem.run_bind, Sem.run_pure, run_sliceAt_slice (P := P) w ty _ _ _ _ he, h3, Result.andThen_ok]
  have h4 : P.cellsOf e = i.size := by simp [Program.cellsOf, hi0]
  rw [h4]
  unfold sliced
  rw [Int.toNat_natCast, Int.toNat_natCast, if_neg (by omega)]
  simp
/-- x[l:l+k], of what may be none. -/
theorem exec_cutn {o : Oper} {a : Act} {w : World} (ty e : TypeId) (x lo hi : Operand) (ho : o.op = .slice ty x (some lo) (some hi) none) (ht : P.underlying ty = some (.slice e)) (s : Nat) (hs : (P.info? e).map (·.size) = some s)
    {A : Option Addr} {L c l k : Nat} (hx : a.eval x = .slice A L c) (hl : a.eval lo = .int .i64 (l : Int)) (hh : a.eval hi = .int .i64 ((l + k : Nat) : Int)) (h2 : l + k ≤ c) :
    ∃ A', (execOp a.eval o).run P w = .ok (.value (.slice A' k (c - l))) w ∧ (A' = none → A = none) ∧ (l < c → A' = A.map (·.add (l * s))) := by
  obtain ⟨i, hi0, rfl⟩ := Option.map_eq_some_iff.1 hs
  have he := elem_of ht
  have hee : P.elem ty = e := by simp [Program.elem, ht]
  have h3 := run_slice_lh (P := P) w ty A L c he .i64 .i64 (l : Int) ((l + k : Nat) : Int) (by omega) (by omega) (by omega)
  rw [hee, run_sizeOf w hi0] at h3
  have h4 : P.cellsOf e = i.size := by simp [Program.cellsOf, hi0]
  refine ⟨if c = l then A else A.map (·.add (l * i.size)), ?_, ?_, ?_⟩
  · unfold execOp
    simp only [ho, hx, hl, hh, Option.map_some, Option.map_none, Sem.run_bind, Sem.run_pure, run_sliceAt_slice (P := P) w ty _ _ _ _ he, h3, Result.andThen_ok]
    unfold sliced
    rw [Int.toNat_natCast, Int.toNat_natCast, h4, Nat.add_sub_cancel_left]
  · cases A <;> split <;> simp
  · intro h
    rw [if_neg (by omega)]
theorem wpList_cutn {ops : Array Oper} {rest : List Oper} {o : Oper} {a : Act} {w : World} {Q : Exit → Act → World → Prop} (hgd : o.guard = none) (ty e : TypeId) (x lo hi : Operand) (ho : o.op = .slice ty x (some lo) (some hi) none) (ht : P.underlying ty = some (.slice e)) (s : Nat) (hs : (P.info? e).map (·.size) = some s)
    {A : Option Addr} {L c l k : Nat} (hx : a.eval x = .slice A L c) (hl : a.eval lo = .int .i64 (l : Int)) (hh : a.eval hi = .int .i64 ((l + k : Nat) : Int)) (h2 : l + k ≤ c)
    (h : ∀ A', (A' = none → A = none) → (l < c → A' = A.map (·.add (l * s))) → wpList P ops Q rest (a.put o.dst (.slice A' k (c - l))) w) : wpList P ops Q (o :: rest) a w := by
  obtain ⟨A', h3, h4, h5⟩ := exec_cutn (P := P) (w := w) ty e x lo hi ho ht s hs hx hl hh h2
  exact wpList_run hgd h3 (h A' h4 h5)
/-- append(row, x...) of what may be none. -/
theorem wpList_append_src {ops : Array Oper} {rest : List Oper} {o : Oper} {a : Act} {w : World} {Q : Exit → Act → World → Prop} (hgd : o.guard = none) (s x : Operand) (t : TypeId)
    (ho : o.op = .call { callee := .builtin .append, args := #[s, x], argTypes := #[t, t] })
    (base : Nat) (e : TypeId) (i : TypeInfo) (z : Value) (size bytes : Nat) (ht : P.underlying t = some (.slice e)) (hi : P.info? e = some i) (hz : i.zero = some z)
    (hsize : i.size = size) (hby : i.bytes = bytes) (hzs : z.cells.size = size) (hsz : 0 < size)
    (v : Value) (n : Nat) (xs : List Value) (hs : a.eval s = v) (hown : w.ownsRow base e size v n xs)
    (A : Option Addr) (m c : Nat) (news : List Value) (hx : a.eval x = .slice A m c) (hA : A = none → m = 0 ∧ c = 0) (hl : news.length = m * size) (hnews : ∀ ad, A = some ad → ∀ j u, news[j]? = some u → w.cell? (ad.add j) = some u) (h1 : ∀ u ∈ news, u.oneCell' = true)
    (h63 : n + m ≤ maxLen) (hbytes : (n + m) * bytes ≤ 140737488355328) (hbase : base ≤ w.heap.size)
    (h : ∀ v' w', w'.ownsRow base e size v' (n + m) (xs ++ news) → w.grownBy w' v.ownBlock → (∀ k, v'.ownBlock = some k → v.ownBlock = some k ∨ w.heap.size ≤ k) → wpList P ops Q rest (a.put o.dst v') w') : wpList P ops Q (o :: rest) a w := by
  cases A with
  | some ad => exact Ow.wpList_append w hgd s x t ho base e i z size bytes ht hi hz hsize hby hzs hsz v n xs hs hown ad m c news hx hl (hnews ad rfl) h1 h63 hbytes hbase (fun v' w' k1 k2 _ k4 => h v' w' k1 k2 k4)
  | none =>
    obtain ⟨rfl, rfl⟩ := hA rfl
    obtain rfl : news = [] := List.eq_nil_of_length_eq_zero (by simpa using hl)
    refine wpList_append_own_none hgd s x t ho base e i size ht hi v n xs hs hown hx (h v w ?_ ?_ ?_)
    · rw [List.append_nil]
      exact hown
    · exact ⟨rfl, rfl, rfl, Nat.le_refl _, fun _ _ _ => rfl⟩
    · exact fun k hk => .inl hk
/-- x[l:]. -/
theorem exec_from {o : Oper} {a : Act} {w : World} (ty e : TypeId) (x lo : Operand) (ho : o.op = .slice ty x (some lo) none none) (ht : P.underlying ty = some (.slice e)) (s : Nat) (hs : (P.info? e).map (·.size) = some s)
    {ad : Addr} {L c l : Nat} (hx : a.eval x = .slice (some ad) L c) (hl : a.eval lo = .int .i64 (l : Int)) (h1 : l < c) (h2 : l ≤ L) :
    (execOp a.eval o).run P w = .ok (.value (.slice (some (ad.add (l * s))) (L - l) (c - l))) w := by
  obtain ⟨i, hi0, rfl⟩ := Option.map_eq_some_iff.1 hs
  have he := elem_of ht
  have hee : P.elem ty = e := by simp [Program.elem, ht]
  have h3 := run_slice_l (P := P) w ty (some ad) L c he .i64 (l : Int) (by omega) (by omega)
  rw [hee, run_sizeOf w hi0] at h3
  unfold execOp
  simp only [ho, hx, hl, Option.map_some, Option.map_none, Sem.run_bind, Sem.run_pure, run_sliceAt_slice (P := P) w ty _ _ _ _ he, h3, Result.andThen_ok]
  have h4 : P.cellsOf e = i.size := by simp [Program.cellsOf, hi0]
  rw [h4]
  unfold sliced
  rw [Int.toNat_natCast, if_neg (by omega)]
  simp
end
end Go.Proofs.Ytnemnhfdjofckaa.Rw
