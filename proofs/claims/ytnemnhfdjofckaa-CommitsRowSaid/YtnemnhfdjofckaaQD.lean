/- Cutting rows of what can be read. commits.files: what is taken. commits.files. A region that draws its order: one walk in the order of the text serves every order. What an operation leaves is a fact that stays, whatever comes behind it; what it asks of the world stays till it comes up. The document's files. The program's files and the document's: one list, or none. commits.fits. -/
import Derived.Test.YtnemnhfdjofckaaQB
import Derived.Laws.AppendOwnNone
import Derived.ChangeKeysEq
import Derived.Laws.Slices
import Derived.Laws.MakeOwn
import Derived.Sort.QuietTacIn
import Derived.StillTail
import Derived.Below
import Derived.Test.YtnemnhfdjofckaaQA
namespace Go.Proofs.Ytnemnhfdjofckaa.Rw
open Go Go.RowKit Go.Proofs.Ytnemnhfdjofckaa.Hp Go.Proofs.Ytnemnhfdjofckaa
section
variable {P : Program}
theorem elem_of {ty e : TypeId} (ht : P.underlying ty = some (.slice e)) : P.underlying ty = some (.slice (P.elem ty)) := by
  have : P.elem ty = e := by simp [Program.elem, ht]
  rw [this]
  exact ht
/-- x[l:l+k], of a row with room behind l. -/
theorem exec_cut {o : Oper} {a : Act} {w : World} (ty e : TypeId) (x lo hi : Operand) (ho : o.op = .slice ty x (some lo) (some hi) none) (ht : P.underlying ty = some (.slice e)) (s : Nat) (hs : (P.info? e).map (·.size) = some s)
    {ad : Addr} {L c l k : Nat} (hx : a.eval x = .slice (some ad) L c) (hl : a.eval lo = .int .i64 (l : Int)) (hh : a.eval hi = .int .i64 ((l + k : Nat) : Int)) (h1 : l < c) (h2 : l + k ≤ c) :
    (execOp a.eval o).run P w = .ok (.value (.slice (some (ad.add (l * s))) k (c - l))) w := by
  obtain ⟨i, hi0, rfl⟩ := Option.map_eq_some_iff.1 hs
  have he := elem_of ht
  have hee : P.elem ty = e := by simp [Program.elem, ht]
  have h3 := run_slice_lh (P := P) w ty (some ad) L c he .i64 .i64 (l : Int) ((l + k : Nat) : Int) (by omega) (by omega) (by omega)
  rw [hee, run_sizeOf w hi0] at h3
  unfold execOp
  simp only [ho, hx, hl, hh, Option.map_some, Option.map_none, Sem.run_bind, Sem.run_pure, run_sliceAt_slice (P := P) w ty _ _ _ _ he, h3, Result.andThen_ok]
  have h4 : P.cellsOf e = i.size := by simp [Program.cellsOf, hi0]
  rw [h4]
  unfold sliced
  rw [Int.toNat_natCast, Int.toNat_natCast, if_neg (by omega)]
  simp
/-- x[l:l+k], of what may be none. -/
theorem exec_cutn {o : Oper} {a : Act} {w : World} (ty e : TypeId) (x lo hi : Operand) (ho : o.op = .slice ty x (some lo) (some hi) none) (ht : P.underlying ty = some (.slice e)) (s : Nat) (hs : (P.info? e).map (·.size) = some s)
    {A : Option Addr} {L c l k : Nat} (hx : a.eval x = .slice A L c) (hl : a.eval lo = .int .i64 (l : Int)) (hh : a.eval hi = .int .i64 ((l + k : Nat) : Int)) (h2 : l + k ≤ c) :
    ∃ A', (execOp a.eval o).run P w = .ok (.value (.slice A' k (c - l))) w ∧ (A' = none → A = none) ∧ (l < c → A' = A.map (·.add (l * s))) := by
  obtain ⟨i, hi0, rfl⟩ := Option.map_eq_some_iff.1 hs
  have he := elem_of ht
  have hee : P.elem ty = e := by simp [Program.elem, ht]
  have h3 := run_slice_lh (P := P) w ty A L c he .i64 .i64 (l : Int) ((l + k : Nat) : Int) (by omega) (by omega) (by omega)
  rw [hee, run_sizeOf w hi0] at h3
  have h4 : P.cellsOf e = i.size := by simp [Program.cellsOf, hi0]
  refine ⟨if c = l then A else A.map (·.add (l * i.size)), ?_, ?_, ?_⟩
  · unfold execOp
    simp only [ho, hx, hl, hh, Option.map_some, Option.map_none, Sem.run_bind, Sem.run_pure, run_sliceAt_slice (P := P) w ty _ _ _ _ he, h3, Result.andThen_ok]
    unfold sliced
    rw [Int.toNat_natCast, Int.toNat_natCast, h4, Nat.add_sub_cancel_left]
  · cases A <;> split <;> simp
  · intro h
    rw [if_neg (by omega)]
/-- The same, its place told. -/
theorem exec_cute {o : Oper} {a : Act} {w : World} (ty e : TypeId) (x lo hi : Operand) (ho : o.op = .slice ty x (some lo) (some hi) none) (ht : P.underlying ty = some (.slice e)) (s : Nat) (hs : (P.info? e).map (·.size) = some s)
    {A A' : Option Addr} {L c l k : Nat} (hx : a.eval x = .slice A L c) (hl : a.eval lo = .int .i64 (l : Int)) (hh : a.eval hi = .int .i64 ((l + k : Nat) : Int)) (h2 : l + k ≤ c) (hA : (if c = l then A else A.map (·.add (l * s))) = A') :
    (execOp a.eval o).run P w = .ok (.value (.slice A' k (c - l))) w := by
  obtain ⟨i, hi0, rfl⟩ := Option.map_eq_some_iff.1 hs
  have he := elem_of ht
  have hee : P.elem ty = e := by simp [Program.elem, ht]
  have h3 := run_slice_lh (P := P) w ty A L c he .i64 .i64 (l : Int) ((l + k : Nat) : Int) (by omega) (by omega) (by omega)
  rw [hee, run_sizeOf w hi0] at h3
  have h4 : P.cellsOf e = i.size := by simp [Program.cellsOf, hi0]
  subst hA
  unfold execOp
  simp only [ho, hx, hl, hh, Option.map_some, Option.map_none, Sem.run_bind, Sem.run_pure, run_sliceAt_slice (P := P) w ty _ _ _ _ he, h3, Result.andThen_ok]
  unfold sliced
  rw [Int.toNat_natCast, Int.toNat_natCast, h4, Nat.add_sub_cancel_left]
theorem wpList_cute {ops : Array Oper} {rest : List Oper} {o : Oper} {a : Act} {w : World} {Q : Exit → Act → World → Prop} (hgd : o.guard = none) (ty e : TypeId) (x lo hi : Operand) (ho : o.op = .slice ty x (some lo) (some hi) none) (ht : P.underlying ty = some (.slice e)) (s : Nat) (hs : (P.info? e).map (·.size) = some s)
    {A A' : Option Addr} {L c l k : Nat} (hx : a.eval x = .slice A L c) (hl : a.eval lo = .int .i64 (l : Int)) (hh : a.eval hi = .int .i64 ((l + k : Nat) : Int)) (h2 : l + k ≤ c) (hA : (if c = l then A else A.map (·.add (l * s))) = A')
    (h : wpList P ops Q rest (a.put o.dst (.slice A' k (c - l))) w) : wpList P ops Q (o :: rest) a w :=
  wpList_run hgd (exec_cute (P := P) (w := w) ty e x lo hi ho ht s hs hx hl hh h2 hA) h
theorem wpList_cutn {ops : Array Oper} {rest : List Oper} {o : Oper} {a : Act} {w : World} {Q : Exit → Act → World → Prop} (hgd : o.guard = none) (ty e : TypeId) (x lo hi : Operand) (ho : o.op = .slice ty x (some lo) (some hi) none) (ht : P.underlying ty = some (.slice e)) (s : Nat) (hs : (P.info? e).map (·.size) = some s)
    {A : Option Addr} {L c l k : Nat} (hx : a.eval x = .slice A L c) (hl : a.eval lo = .int .i64 (l : Int)) (hh : a.eval hi = .int .i64 ((l + k : Nat) : Int)) (h2 : l + k ≤ c)
    (h : ∀ A', (A' = none → A = none) → (l < c → A' = A.map (·.add (l * s))) → wpList P ops Q rest (a.put o.dst (.slice A' k (c - l))) w) : wpList P ops Q (o :: rest) a w := by
  obtain ⟨A', h3, h4, h5⟩ := exec_cutn (P := P) (w := w) ty e x lo hi ho ht s hs hx hl hh h2
  exact wpList_run hgd h3 (h A' h4 h5)
/-- append(row, x...) of what may be none. -/
theorem wpList_append_src {ops : Array Oper} {rest : List Oper} {o : Oper} {a : Act} {w : World} {Q : Exit → Act → World → Prop} (hgd : o.guard = none) (s x : Operand) (t : TypeId)
    (ho : o.op = .call { callee := .builtin .append, args := #[s, x], argTypes := #[t, t] })
    (base : Nat) (e : TypeId) (i : TypeInfo) (z : Value) (size bytes : Nat) (ht : P.underlying t = some (.slice e)) (hi : P.info? e = some i) (hz : i.zero = some z)
    (hsize : i.size = size) (hby : i.bytes = bytes) (hzs : z.cells.size = size) (hsz : 0 < size)
    (v : Value) (n : Nat) (xs : List Value) (hs : a.eval s = v) (hown : w.ownsRow base e size v n xs)
    (A : Option Addr) (m c : Nat) (news : List Value) (hx : a.eval x = .slice A m c) (hA : A = none → m = 0 ∧ c = 0) (hl : news.length = m * size) (hnews : ∀ ad, A = some ad → ∀ j u, news[j]? = some u → w.cell? (ad.add j) = some u) (h1 : ∀ u ∈ news, u.oneCell' = true)
    (h63 : n + m ≤ maxLen) (hbytes : (n + m) * bytes ≤ 140737488355328) (hbase : base ≤ w.heap.size)
    (h : ∀ v' w', w'.ownsRow base e size v' (n + m) (xs ++ news) → w.grownBy w' v.ownBlock → (∀ k, v'.ownBlock = some k → v.ownBlock = some k ∨ w.heap.size ≤ k) → wpList P ops Q rest (a.put o.dst v') w') : wpList P ops Q (o :: rest) a w := by
  cases A with
  | some ad => exact Ow.wpList_append w hgd s x t ho base e i z size bytes ht hi hz hsize hby hzs hsz v n xs hs hown ad m c news hx hl (hnews ad rfl) h1 h63 hbytes hbase (fun v' w' k1 k2 _ k4 => h v' w' k1 k2 k4)
  | none =>
    obtain ⟨rfl, rfl⟩ := hA rfl
    obtain rfl : news = [] := List.eq_nil_of_length_eq_zero (by simpa using hl)
    refine wpList_append_own_none hgd s x t ho base e i size ht hi v n xs hs hown hx (h v w ?_ ?_ ?_)
    · rw [List.append_nil]
      exact hown
    · exact ⟨rfl, rfl, rfl, Nat.le_refl _, fun _ _ _ => rfl⟩
    · exact fun k hk => .inl hk
theorem add_zero (a : Addr) : a.add 0 = a := by simp [Addr.add]
/-- x[:n:n]. -/
theorem wpList_upto3 {ops : Array Oper} {rest : List Oper} {o : Oper} {a : Act} {w : World} {Q : Exit → Act → World → Prop} (hgd : o.guard = none) (ty e : TypeId) (x hi mx : Operand) (ho : o.op = .slice ty x none (some hi) (some mx)) (ht : P.underlying ty = some (.slice e)) (s : Nat) (hs : (P.info? e).map (·.size) = some s)
    {A : Option Addr} {L c n : Nat} (hx : a.eval x = .slice A L c) (hh : a.eval hi = .int .i64 (n : Int)) (hm : a.eval mx = .int .i64 (n : Int)) (h2 : n ≤ c)
    (h : wpList P ops Q rest (a.put o.dst (.slice A n n)) w) : wpList P ops Q (o :: rest) a w := by
  obtain ⟨i, hi0, rfl⟩ := Option.map_eq_some_iff.1 hs
  have he := elem_of ht
  have hee : P.elem ty = e := by simp [Program.elem, ht]
  have h3 := run_slice_hm (P := P) w ty A L c he .i64 .i64 (n : Int) (n : Int) (by omega) (by omega) (by omega)
  rw [hee, run_sizeOf w hi0] at h3
  refine wpList_run hgd (v := .slice A n n) ?_ h
  unfold execOp
  simp only [ho, hx, hh, hm, Option.map_some, Option.map_none, Sem.run_bind, Sem.run_pure, run_sliceAt_slice (P := P) w ty _ _ _ _ he, h3, Result.andThen_ok]
  unfold sliced
  rw [Int.toNat_natCast, Nat.sub_zero]
  have : (if n = 0 then A else A.map fun x => x.add (0 * P.cellsOf e)) = A := by
    rw [Nat.zero_mul]
    cases A <;> simp [add_zero]
  rw [this]
/-- x[:n]. -/
theorem wpList_upto {ops : Array Oper} {rest : List Oper} {o : Oper} {a : Act} {w : World} {Q : Exit → Act → World → Prop} (hgd : o.guard = none) (ty e : TypeId) (x hi : Operand) (ho : o.op = .slice ty x none (some hi) none) (ht : P.underlying ty = some (.slice e)) (s : Nat) (hs : (P.info? e).map (·.size) = some s)
    {A : Option Addr} {L c n : Nat} (hx : a.eval x = .slice A L c) (hh : a.eval hi = .int .i64 (n : Int)) (h2 : n ≤ c)
    (h : wpList P ops Q rest (a.put o.dst (.slice A n c)) w) : wpList P ops Q (o :: rest) a w := by
  obtain ⟨i, hi0, rfl⟩ := Option.map_eq_some_iff.1 hs
  have he := elem_of ht
  have hee : P.elem ty = e := by simp [Program.elem, ht]
  have h3 := run_slice_h (P := P) w ty A L c he .i64 (n : Int) (by omega) (by omega)
  rw [hee, run_sizeOf w hi0] at h3
  refine wpList_run hgd (v := .slice A n c) ?_ h
  unfold execOp
  simp only [ho, hx, hh, Option.map_some, Option.map_none, Sem.run_bind, Sem.run_pure, run_sliceAt_slice (P := P) w ty _ _ _ _ he, h3, Result.andThen_ok]
  unfold sliced
  rw [Int.toNat_natCast, Nat.sub_zero, Nat.sub_zero]
  have : (if c = 0 then A else A.map fun x => x.add (0 * P.cellsOf e)) = A := by
    rw [Nat.zero_mul]
    cases A <;> simp [add_zero]
  rw [this]
/-- x[n:], of what may be none. -/
theorem wpList_fromn {ops : Array Oper} {rest : List Oper} {o : Oper} {a : Act} {w : World} {Q : Exit → Act → World → Prop} (hgd : o.guard = none) (ty e : TypeId) (x lo : Operand) (ho : o.op = .slice ty x (some lo) none none) (ht : P.underlying ty = some (.slice e)) (s : Nat) (hs : (P.info? e).map (·.size) = some s)
    {A : Option Addr} {L c n : Nat} (hx : a.eval x = .slice A L c) (hl : a.eval lo = .int .i64 (n : Int)) (h2 : n ≤ L)
    (h : ∀ A', A' = (if c = n then A else A.map (·.add (n * s))) → wpList P ops Q rest (a.put o.dst (.slice A' (L - n) (c - n))) w) : wpList P ops Q (o :: rest) a w := by
  obtain ⟨i, hi0, rfl⟩ := Option.map_eq_some_iff.1 hs
  have he := elem_of ht
  have hee : P.elem ty = e := by simp [Program.elem, ht]
  have h4 : P.cellsOf e = i.size := by simp [Program.cellsOf, hi0]
  have h3 := run_slice_l (P := P) w ty A L c he .i64 (n : Int) (by omega) (by omega)
  rw [hee, run_sizeOf w hi0] at h3
  refine wpList_run hgd (v := .slice (if c = n then A else A.map (·.add (n * i.size))) (L - n) (c - n)) ?_ (h _ rfl)
  unfold execOp
  simp only [ho, hx, hl, Option.map_some, Option.map_none, Sem.run_bind, Sem.run_pure, run_sliceAt_slice (P := P) w ty _ _ _ _ he, h3, Result.andThen_ok]
  unfold sliced
  rw [Int.toNat_natCast, h4]
end
end Go.Proofs.Ytnemnhfdjofckaa.Rw
namespace Go.Proofs.Ytnemnhfdjofckaa.Co
open Go Go.RowKit Hp Go.Proofs.Ytnemnhfdjofckaa.Fr Go.Proofs.YtnemnhfdjofckaaW.PrintWords Go.Proofs.Ytnemnhfdjofckaa.Print
/-- What is taken of the bytes that are left: whether it is all right, what is left, what was taken. -/
def tk (ok : Bool) (rest : List Int) (n : Int) : Bool × List Int × List Int := if ok = true ∧ n ≤ (rest.length : Int) then (true, rest.drop n.toNat, rest.take n.toNat) else (false, rest, [0])
theorem tk_good {rest : List Int} {n : Nat} (h : n ≤ rest.length) : tk true rest (n : Int) = (true, rest.drop n, rest.take n) := by
  unfold tk
  rw [if_pos ⟨rfl, by omega⟩, Int.toNat_natCast]
theorem tk_bad {ok : Bool} {rest : List Int} {n : Int} (h : ¬ (ok = true ∧ n ≤ (rest.length : Int))) : tk ok rest n = (false, rest, [0]) := by
  unfold tk
  rw [if_neg h]
/-- The two variables. -/
structure Tks (w : World) (bo bb : Nat) (ok : Bool) (rest : List Int) : Prop where
  o : w.heap[bo]? = some (.cells #[.bool ok] 4 (0, 0))
  b : ∃ A c, w.heap[bb]? = some (.cells #[.slice A rest.length c] 38 (0, 0)) ∧ rest.length ≤ c ∧ Bytes w A rest ∧ (0 < rest.length → ∀ ad, A = some ad → ad.block < bb)
  ne : bb < bo
theorem Tks.kept {S : Nat → Prop} {w w' : World} {bo bb : Nat} {ok : Bool} {rest : List Int} (h : Tks w bo bb ok rest) (k : Kept S w w') (h1 : ¬ S bo) (h2 : ¬ S bb) (h3 : ∀ g, g < bb → ¬ S g) : Tks w' bo bb ok rest := by
  obtain ⟨A, c, hb, hc, hby, hA⟩ := h.b
  refine ⟨k.heap h.o h1, ⟨A, c, k.heap hb h2, hc, fun h0 => ?_, hA⟩, h.ne⟩
  exact (hby.kept k (fun h0 ad' e' => h3 _ (hA h0 ad' e'))) h0
theorem Tks.below {w w' : World} {bo bb : Nat} {ok : Bool} {rest : List Int} (h : Tks w bo bb ok rest) (k : Below w.heap.size w w') : Tks w' bo bb ok rest := h.kept (S := fun _ => False) (Kept.of_below k) id id (fun _ _ e => e)
theorem infoB : (Try.prog.info? 5).map (fun i => (i.zero, i.size, i.bytes)) = some (some (.int .u8 0), 1, 1) := by kernel_rfl
theorem make1 (w : World) : (Instr.makeSlice 38 (.int .i64 1) (.int .i64 1)).run Try.prog w = .ok (.slice (some ⟨w.heap.size, 0, none⟩) 1 1) (w.alloc (.cells #[.int .u8 0] 5)) := by
  obtain ⟨i0, hi0, he⟩ := Option.map_eq_some_iff.1 infoB
  simp only [Prod.mk.injEq] at he
  obtain ⟨hz0, hz1, hz2⟩ := he
  have := run_makeSlice (P := Try.prog) w 38 5 i0 (.int .u8 0) Try.underlying38 hi0 hz0 .i64 .i64 1 1 (by omega) (by omega) (by rw [hz1]; decide) (by rw [hz2]; decide) (by omega)
  have hm : madeCells #[Value.int .u8 0] 1 = #[Value.int .u8 0] := by
    apply Array.ext
    · simp [size_madeCells]
    · intro i h1 h2
      obtain rfl : i = 0 := by simpa using h2
      simp [madeCells]
  simpa [hz1, Value.cells, hm] using this
set_option maxHeartbeats 2000000 in
set_option maxRecDepth 100000 in
theorem take_ok (w : World) (bo bb : Nat) (ok : Bool) (rest : List Int) (n : Nat) (hT : Tks w bo bb ok rest) (hn : n ≤ 4294967295) (hlen : rest.length ≤ 1000000000) :
    Calls Try.prog 39 #[.int .i64 (n : Int), .pointer (some ⟨bo, 0, none⟩), .pointer (some ⟨bb, 0, none⟩)] w fun e w' => ∃ A' c', e = .returned (.slice A' (tk ok rest n).2.2.length c') ∧ (tk ok rest n).2.2.length ≤ c' ∧ Bytes w' A' (tk ok rest n).2.2 ∧ Tks w' bo bb (tk ok rest n).1 (tk ok rest n).2.1 ∧ Kept (fun k => k = bo ∨ k = bb) w w' := by
  obtain ⟨A, c, hb, hc, hby, hA⟩ := hT.b
  have HT := Sh.mk hT
  have HBY := Sh.mk hby
  have HA := Sh.mk hA
  have o_ : w.cell? ⟨bo, 0, none⟩ = some (.bool ok) := (Rw.blk_cell hT.o 0).trans rfl
  have o2_ := Rw.blk_frozen hT.o 0
  have HB := Sh.mk hb
  have b_ : w.cell? ⟨bb, 0, none⟩ = some (.slice A rest.length c) := (Rw.blk_cell hb 0).trans rfl
  by_cases hgood : ok = true ∧ n ≤ rest.length
  · obtain ⟨rfl, hnl⟩ := hgood
    rw [tk_good hnl]
    dsimp only
    have hle : (n : Int) ≤ (rest.length : Int) := by omega
    clear hT hby hA hb
    go_enter Try.func39, Try.ntmps39
    go_upto_region 2 with (fail)
    obtain ⟨w1, hw1⟩ : ∃ w1, w.setCell ⟨bo, 0, none⟩ (.bool true) = w1 := ⟨_, rfl⟩
    have hK1 : Kept (fun k => k = bo) w w1 := by rw [← hw1]; exact (Kept.refl (fun k => k = bo) w).setCell (p := ⟨bo, 0, none⟩) (.inr rfl) _
    have g1 : w1.heap[bo]? = some (.cells #[.bool true] 4 (0, 0)) := by rw [← hw1]; exact (Rw.heap_set w bo 0 (.bool true) HT.out.o).trans rfl
    have hne := HT.out.ne
    have g2 : w1.heap[bb]? = some (.cells #[.slice A rest.length c] 38 (0, 0)) := hK1.heap HB.out (fun e => by omega)
    rw [hw1]
    have HK1 := Sh.mk hK1
    have HG1 := Sh.mk g1
    have HG2 := Sh.mk g2
    replace o_ : w1.cell? ⟨bo, 0, none⟩ = some (.bool true) := (Rw.blk_cell g1 0).trans rfl
    replace b_ : w1.cell? ⟨bb, 0, none⟩ = some (.slice A rest.length c) := (Rw.blk_cell g2 0).trans rfl
    have b2_ := Rw.blk_frozen g2 0
    have hnc : n ≤ c := by omega
    clear hw1 hK1 g1 g2 hne o2_ hle
    go_wp2_with (first | ((with_reducible refine Rw.at_slot 19 ?_); refine Rw.wpList_upto3 rfl 38 5 _ _ _ rfl Try.underlying38 1 (by kernel_rfl) rfl rfl rfl hnc ?_) | ((with_reducible refine Rw.at_slot 22 ?_); refine Rw.wpList_fromn rfl 38 5 _ _ rfl Try.underlying38 1 (by kernel_rfl) rfl rfl hnl ?_; intro A' hA'; have HA' := Sh.mk hA'; clear hA'))
    go_ret
    have hK2 : Kept (fun k => k = bo ∨ k = bb) w (w1.setCell ⟨bb, 0, none⟩ (.slice A' (rest.length - n) (c - n))) := (HK1.out.mono (fun i _ e => .inl e)).setCell (p := ⟨bb, 0, none⟩) (.inr (.inr rfl)) _
    have hA2 : 0 < rest.length → ∀ ad, A = some ad → ad.block < bb := HA.out
    have hby2 : Bytes (w1.setCell ⟨bb, 0, none⟩ (.slice A' (rest.length - n) (c - n))) A rest := fun h0 => (HBY.out.kept hK2 (fun h0 ad e => by have := hA2 h0 ad e; have := HT.out.ne; rintro (h | h) <;> omega)) h0
    have hbl : ∀ (x : Addr) k, (x.add k).block = x.block := fun x k => by unfold Addr.add; split <;> rfl
    refine ⟨A, n, by rw [List.length_take, Nat.min_eq_left hnl]; rfl, by rw [List.length_take]; omega, Bytes.take hby2 n, ⟨?_, ⟨A', c - n, ?_, by rw [List.length_drop]; omega, ?_, fun h0 ad e => ?_⟩, HT.out.ne⟩, hK2⟩
    · exact ((Kept.refl (fun k => k = bb) w1).setCell (p := ⟨bb, 0, none⟩) (.inr rfl) (.slice A' (rest.length - n) (c - n))).heap HG1.out (fun e => by have := HT.out.ne; omega)
    · rw [List.length_drop]
      exact (Rw.heap_set w1 bb 0 _ HG2.out).trans rfl
    · have h1 := Bytes.drop hby2 n hc
      rw [← HA'.out] at h1
      exact h1
    · rw [List.length_drop] at h0
      have h1 := hA2 (by omega)
      rw [HA'.out] at e
      split at e
      · exact h1 ad e
      · cases hAx : A with
        | none => rw [hAx] at e; cases e
        | some x =>
          rw [hAx] at e
          obtain rfl := Option.some.inj e
          rw [hbl]
          exact h1 x hAx
  · have hbad : ¬ (ok = true ∧ (n : Int) ≤ (rest.length : Int)) := fun h => hgood ⟨h.1, by omega⟩
    rw [tk_bad hbad]
    dsimp only
    have hfin : ∀ w1, w1 = w.setCell ⟨bo, 0, none⟩ (.bool false) → ∃ A' c', Ending.returned (.slice (some ⟨w.heap.size, 0, none⟩) 1 1) = .returned (.slice A' ([0] : List Int).length c') ∧ ([0] : List Int).length ≤ c' ∧ Bytes (w1.alloc (.cells #[.int .u8 0] 5)) A' [0] ∧ Tks (w1.alloc (.cells #[.int .u8 0] 5)) bo bb false rest ∧ Kept (fun k => k = bo ∨ k = bb) w (w1.alloc (.cells #[.int .u8 0] 5)) := by
      rintro w1 rfl
      have hsz : (w.setCell ⟨bo, 0, none⟩ (.bool false)).heap.size = w.heap.size := by simp [World.setCell]
      rw [← hsz]
      have hK1 : Kept (fun k => k = bo) w (w.setCell ⟨bo, 0, none⟩ (.bool false)) := (Kept.refl (fun k => k = bo) w).setCell (p := ⟨bo, 0, none⟩) (.inr rfl) _
      have hK2 := hK1.alloc (.cells #[.int .u8 0] 5)
      have hN := heap_alloc_new (w.setCell ⟨bo, 0, none⟩ (.bool false)) (.cells #[.int .u8 0] 5)
      have h1 : bo < (w.setCell ⟨bo, 0, none⟩ (.bool false)).heap.size := Nat.lt_of_lt_of_le (lt_of_heap HT.out.o) hK1.size
      refine ⟨_, _, rfl, Nat.le_refl _, fun _ => ⟨_, rfl, fun j x hj => ?_⟩, ⟨?_, ⟨A, c, hK2.heap hb (fun e => by have := HT.out.ne; omega), hc, fun h0 => ?_, hA⟩, HT.out.ne⟩, hK2.mono (fun i _ e => .inl e)⟩
      · match j, hj with
        | 0, hj => cases hj; exact (Rw.blk_cell hN 0).trans rfl
      · exact (Below.heap_alloc _ _ _ h1).trans ((Rw.heap_set w bo 0 (.bool false) HT.out.o).trans rfl)
      · exact (HBY.out.kept hK2 (fun h0 ad e h => by have := HA.out h0 ad e; have := HT.out.ne; omega)) h0
    have HFIN := Sh.mk (hfin _ rfl)
    clear hT hby hA hb hfin hbad
    cases ok with
    | false =>
      clear hgood
      go_enter Try.func39, Try.ntmps39
      have hmk := fun W => make1 W
      go_wp2
      go_ret
      exact HFIN.out
    | true =>
      have hgt : decide (n ≤ rest.length) = false := decide_eq_false (fun h => hgood ⟨rfl, h⟩)
      have hgt2 : rest.length < n := by simpa using hgt
      clear hgood
      go_enter Try.func39, Try.ntmps39
      have hmk := fun W => make1 W
      go_wp2
      go_ret
      exact HFIN.out
end Go.Proofs.Ytnemnhfdjofckaa.Co
namespace Go.Proofs.Ytnemnhfdjofckaa.Co
open Go Go.RowKit Hp Go.Proofs.Ytnemnhfdjofckaa.Fr Go.Proofs.YtnemnhfdjofckaaW.PrintWords Go.Proofs.Ytnemnhfdjofckaa.Print
/-- A file is taken of what is left. -/
def fstep (rest : List Int) : Bool × List Int × S56 :=
  let a := tk true rest ((1 : Nat) : Int)
  let p := tk a.1 a.2.1 (a.2.2.headD 0)
  let v := tk p.1 p.2.1 ((8 : Nat) : Int)
  let z := tk v.1 v.2.1 ((4 : Nat) : Int)
  let c := tk z.1 z.2.1 (numd z.2.2)
  (c.1, c.2.1, ⟨strOfNums p.2.2, wrap64 (numd v.2.2), strOfNums c.2.2⟩)
def floop : Nat → Bool → List Int → List S56 → Option (List S56 × Bool)
  | 0, _, _, _ => none
  | k + 1, ok, rest, acc => if ok = true ∧ 0 < rest.length then floop k (fstep rest).1 (fstep rest).2.1 (acc ++ [(fstep rest).2.2]) else some (acc, ok)
theorem tk_byt {ok : Bool} {rest : List Int} {n : Int} (h : Byt rest) : Byt (tk ok rest n).2.1 ∧ Byt (tk ok rest n).2.2 := by
  unfold tk
  split
  · exact ⟨h.drop _, h.take _⟩
  · exact ⟨h, fun x hx => by simp at hx; omega⟩
theorem tk_len (ok : Bool) (rest : List Int) (n : Nat) : (tk ok rest n).2.1.length ≤ rest.length ∧ (tk ok rest n).2.2.length ≤ max 1 n ∧ (tk ok rest n).2.2.length ≤ max 1 rest.length := by
  unfold tk
  split
  · simp only [Int.toNat_natCast, List.length_drop, List.length_take]
    omega
  · simp
    omega
theorem C8 {w : World} {A : Option Addr} {l : List Int} (h : Bytes w A l) (hl : l.length ≤ 1000000000) : Kd.C (Kd.int .u8) w A l.length l := h.C (by omega)
theorem num_call (w : World) (A : Option Addr) (c : Nat) (l : List Int) (h : Bytes w A l) (hc : l.length ≤ c) (hb : Byt l) (h8 : l.length ≤ 8) : Calls Try.prog 28 #[.slice A l.length c] w fun e w' => e = .returned (.int .u64 (numd l)) ∧ Below w.heap.size w w' := by
  refine (commits_number.calls _ A c l (numd l) w (C8 h (by omega)) hc (number_f l hb h8)).mono ?_
  rintro e w' ⟨rfl, n, rfl⟩
  exact ⟨rfl, pw_below_drewN (Below.refl _ _) n⟩
theorem numd_nat {l : List Int} (hb : Byt l) {k : Nat} (hl : l.length ≤ k) : ∃ n : Nat, numd l = (n : Int) ∧ (n : Int) < 256 ^ k := by
  obtain ⟨h0, h1⟩ := numd_range l hb
  refine ⟨(numd l).toNat, by omega, ?_⟩
  rw [Int.toNat_of_nonneg h0]
  refine Int.lt_of_lt_of_le h1 ?_
  rw [show (256 : Int) ^ l.length = ((256 ^ l.length : Nat) : Int) by rw [Int.natCast_pow]; rfl, show (256 : Int) ^ k = ((256 ^ k : Nat) : Int) by rw [Int.natCast_pow]; rfl]
  exact Int.ofNat_le.2 (Nat.pow_le_pow_right (by decide) hl)
theorem bytes_C {w : World} {A : Option Addr} {n : Nat} {l : List Int} (h : Kd.C (Kd.int .u8) w A n l) : Bytes w A l := fun h0 => by
  obtain ⟨h1, _, h2⟩ := h
  obtain ⟨ad, e, hc⟩ := h2 (by omega)
  refine ⟨ad, e, fun j x hj => ?_⟩
  obtain ⟨c, hl, hk, hcc⟩ := hc j x hj
  have h3 := hcc 0 (.int .u8 x) (by rw [show c = [.int .u8 x] from hk]; rfl)
  simpa [Kd.int, Kd.scalar] using h3
theorem bytes_lt {w : World} {A : Option Addr} {l : List Int} (h : Bytes w A l) (h0 : 0 < l.length) (ad : Addr) (e : A = some ad) : ad.block < w.heap.size := by
  obtain ⟨ad', e', hc⟩ := h h0
  rw [e] at e'
  cases e'
  have := World.block_lt_of_cell? w _ (hc 0 _ (List.getElem?_eq_getElem h0))
  rw [show (ad.add 0) = ad by simp [Addr.add]] at this
  exact this
theorem floop_some {k : Nat} {ok : Bool} {rest : List Int} {acc : List S56} {r : List S56 × Bool} (h : floop k ok rest acc = some r) : ∃ k', k = k' + 1 ∧ ((ok = true ∧ 0 < rest.length ∧ floop k' (fstep rest).1 (fstep rest).2.1 (acc ++ [(fstep rest).2.2]) = some r) ∨ (¬ (ok = true ∧ 0 < rest.length) ∧ r = (acc, ok))) := by
  cases k with
  | zero => simp [floop] at h
  | succ k' =>
    refine ⟨k', rfl, ?_⟩
    unfold floop at h
    split at h
    · rename_i hc
      exact .inl ⟨hc.1, hc.2, h⟩
    · rename_i hc
      exact .inr ⟨hc, (Option.some.inj h).symm⟩
theorem sizeFl : (Try.prog.info? 56).map (·.size) = some 3 := by kernel_rfl
set_option maxHeartbeats 4000000 in
set_option maxRecDepth 100000 in
theorem files_walk (w : World) (A0 : Option Addr) (c0 : Nat) (l0 : List Int) (r1 : List S56) (r2 : Bool) (hr0 : Kd.C (Kd.int .u8) w A0 l0.length l0) (hc0 : l0.length ≤ c0) (hb : Byt l0) (hlen : l0.length ≤ 1000000000) (h : floop (l0.length + 1) true l0 [] = some (r1, r2)) :
    Calls Try.prog 30 #[.slice A0 l0.length c0] w fun e w' => ∃ v0_ : Value, e = .returned (.tuple #[v0_, .bool r2]) ∧ Kd.R k56 56 w' w.heap.size (fun _ => True) v0_ r1 ∧ Below w.heap.size w w' := by
  have mixed : Try.prog.follows Departure.mixedOrders = true := by kernel_rfl
  have hby := bytes_C hr0
  go_enter Try.func30, Try.ntmps30
  go_upto_region 2 with (fail)
  obtain ⟨w1, hw1⟩ : ∃ w1, (w.alloc (.cells #[.slice A0 l0.length c0] 38)).alloc (.cells #[.bool true] 4) = w1 := ⟨_, rfl⟩
  obtain ⟨bb, hbb⟩ : ∃ bb, w.heap.size = bb := ⟨_, rfl⟩
  obtain ⟨bo, hbo⟩ : ∃ bo, bb + 1 = bo := ⟨_, rfl⟩
  have hB1 : Below w.heap.size w w1 := by rw [← hw1]; exact ((Below.refl _ _).alloc (Nat.le_refl _) _).alloc (by simp) _
  have hT1 : Tks w1 bo bb true l0 := by
    refine ⟨?_, ⟨A0, c0, ?_, hc0, hby.below hB1, fun h0 ad e => ?_⟩, by omega⟩
    · rw [← hw1, ← hbo, ← hbb]
      have := heap_alloc_new (w.alloc (.cells #[.slice A0 l0.length c0] 38)) (.cells #[.bool true] 4)
      rw [World.size_alloc] at this
      exact this
    · rw [← hw1, ← hbb]
      exact (Below.heap_alloc _ _ _ (by simp)).trans (heap_alloc_new _ _)
    · have := bytes_lt hby h0 ad e
      omega
  rw [hw1, hbb, hbo]
  have HT1 := Sh.mk hT1
  have HB1 := Sh.mk hB1
  have HLOOP := Sh.mk h
  have HBYT := Sh.mk (And.intro hb hlen)
  have HBBO := Sh.mk (And.intro hbb hbo)
  clear hw1 hbb hbo hB1 hT1 h hb hlen hby hr0 hc0
  go_wp2_with fail
  go_loopg [6] (l0.length + 1) (fun kq v6 w' => ∃ (ok : Bool) (rest : List Int) (acc : List S56), Sh (floop kq ok rest acc = some (r1, r2)) ∧ Sh (Tks w' bo bb ok rest) ∧ Sh (Byt rest ∧ acc.length + rest.length ≤ 1000000000) ∧ Sh (Kd.R k56 56 w' bb (fun k => k ≠ bo ∧ k ≠ bb) v6 acc) ∧ Sh (Below bb w w'))
  case atStart => exact ⟨true, l0, [], HLOOP, HT1, ⟨HBYT.out.1, by have := HBYT.out.2; simpa using this⟩, ⟨Kd.R_nil _ _ _ _ _⟩, ⟨by have := HB1.out; rw [HBBO.out.1] at this; exact this⟩⟩
  case round =>
    clear HLOOP HT1 HB1
    obtain ⟨ok, rest, acc, HF, HT, HR, HO, HB⟩ := hrel
    obtain ⟨k1, rfl, hcase⟩ := floop_some HF.out
    clear HF
    have o_ : wr.cell? ⟨bo, 0, none⟩ = some (.bool ok) := (Rw.blk_cell HT.out.o 0).trans rfl
    obtain ⟨A, c, hbq, hc, hby, hA⟩ := HT.out.b
    have b_ : wr.cell? ⟨bb, 0, none⟩ = some (.slice A rest.length c) := (Rw.blk_cell hbq 0).trans rfl
    have HA := Sh.mk hA
    have HBY := Sh.mk hby
    clear hbq hA hby hc
    rcases hcase with ⟨rfl, hpos, hF⟩ | ⟨hno, heq⟩
    rotate_left
    · obtain ⟨rfl, rfl⟩ : r1 = acc ∧ r2 = ok := by simpa using heq
      clear heq
      have HFIN : Sh (∀ nq, ∃ v0_ : Value, Ending.returned (.tuple #[u6, .bool r2]) = .returned (.tuple #[v0_, .bool r2]) ∧ Kd.R k56 56 (wr.drewN nq) w.heap.size (fun _ => True) v0_ r1 ∧ Below w.heap.size w (wr.drewN nq)) := ⟨fun nq => ⟨u6, rfl, by rw [HBBO.out.1]; exact Kd.R_drewN (Kd.R_mono HO.out (fun _ _ => trivial)) nq, by rw [HBBO.out.1]; exact pw_below_drewN HB.out nq⟩⟩
      have HO_ : ∀ nq, (wr.drewN nq).cell? ⟨bo, 0, none⟩ = some (.bool r2) := fun nq => o_
      have hA1 : r2 = false ∨ (r2 = true ∧ rest = []) := by
        cases r2 with
        | false => exact .inl rfl
        | true => exact .inr ⟨rfl, List.eq_nil_of_length_eq_zero (by rcases Nat.eq_zero_or_pos rest.length with h | h; exact h; exact absurd ⟨rfl, h⟩ hno)⟩
      clear hno HBY HA
      rcases hA1 with rfl | ⟨rfl, rfl⟩
      · clear HO_
        go_upto_region 10 with (fail)
        go_quiet (fail)
        go_wp2_with fail
        go_ret2
        exact HFIN.out nq
      · clear HO_
        go_upto_region 10 with (fail)
        go_quiet (fail)
        go_wp2_with fail
        go_ret2
        exact HFIN.out nq
    · obtain ⟨x, hx⟩ : ∃ x, rest[0]? = some x := ⟨_, List.getElem?_eq_getElem hpos⟩
      have hx0 := HR.out.1 x (List.mem_of_getElem? hx)
      obtain ⟨xn, rfl⟩ : ∃ xn : Nat, x = (xn : Int) := ⟨x.toNat, by omega⟩
      have htk1 : tk true rest ((1 : Nat) : Int) = (true, rest.drop 1, [(xn : Int)]) := by
        rw [tk_good hpos]
        congr 2
        rw [List.take_one, List.head?_eq_getElem?, hx]
        rfl
      obtain ⟨L, hL⟩ : ∃ L, rest.length = L := ⟨_, rfl⟩
      rw [hL] at b_ hpos
      have kk : (0 : Int) < (L : Int) := by omega
      have HTK1 := Sh.mk htk1
      have HL := Sh.mk hL
      have hxl : xn ≤ 255 := by omega
      have HF := Sh.mk hF
      clear hL htk1 hx hx0 hpos hF
      go_upto_region 6 with (fail)
      clear kk b_ o_
      obtain ⟨w2, hw2⟩ : ∃ w2, wr.alloc (.cells #[.string ⟨#[]⟩, .int .i64 0, .string ⟨#[]⟩] 56) = w2 := ⟨_, rfl⟩
      obtain ⟨b7, hb7⟩ : ∃ b7, wr.heap.size = b7 := ⟨_, rfl⟩
      have h12 : Below wr.heap.size wr w2 := by rw [← hw2]; exact (Below.refl _ _).alloc (Nat.le_refl _) _
      have g2 : w2.heap[b7]? = some (.cells #[.string ⟨#[]⟩, .int .i64 0, .string ⟨#[]⟩] 56 (0, 0)) := by rw [← hw2, ← hb7]; exact heap_alloc_new _ _
      rw [hw2, hb7]
      have hTo : bo < b7 := by rw [← hb7]; exact lt_of_heap HT.out.o
      have hTb : bb < b7 := by rw [← hb7]; obtain ⟨_, _, hg, _⟩ := HT.out.b; exact lt_of_heap hg
      have hT2 := HT.out.below h12
      have htake := take_ok w2 bo bb true rest 1 hT2 (by decide) (by have := HR.out.2; omega)
      rw [HTK1.out] at htake
      have HTAKE := Sh.mk htake
      have HK2 := Sh.mk (Hp.Kept.of_below (S := fun k => k = bo ∨ k = bb ∨ k = b7) h12)
      have HG2 := Sh.mk g2
      have HBO7 := Sh.mk (And.intro hTo hTb)
      have HB7 := Sh.mk hb7
      clear hw2 hb7 h12 g2 hTo hTb hT2 htake
      go_wp2_with fail
      refine HTAKE.out.mono ?_
      rintro e w3 ⟨A1, c1, rfl, hc1, hby1, hT3, hK3⟩
      obtain ⟨ad1, rfl, hcs⟩ := hby1 (by simp)
      have x_ : w3.cell? ad1 = some (.int .u8 (xn : Int)) := by
        have := hcs 0 _ rfl
        rwa [show (ad1.add 0) = ad1 by simp [Addr.add]] at this
      have HK3 := Sh.mk (HK2.out.trans hK3 (fun i _ h => by rcases h with h | h; exact .inl h; exact .inr (.inl h)))
      have HG3 := Sh.mk (hK3.heap HG2.out (fun h => by have := HBO7.out; omega))
      have HTA := Sh.mk hT3
      have HBTA := Sh.mk (show Byt (rest.drop 1) ∧ (rest.drop 1).length ≤ 1000000000 from ⟨HR.out.1.drop 1, by rw [List.length_drop]; have := HR.out.2; omega⟩)
      clear hcs hby1 hT3 hK3 HTAKE hc1 HK2
      obtain ⟨⟨ok2, rest2, l2⟩, hq2⟩ : ∃ p, tk true (rest.drop 1) ((xn : Nat) : Int) = p := ⟨_, rfl⟩
      have hbt2 := tk_byt (ok := true) (n := ((xn : Nat) : Int)) HBTA.out.1
      have hln2 := tk_len true (rest.drop 1) xn
      have htake := take_ok w3 bo bb true (rest.drop 1) xn HTA.out (by omega) HBTA.out.2
      rw [hq2] at hbt2 hln2 htake
      have HBT2 := Sh.mk (show Byt rest2 ∧ rest2.length ≤ 1000000000 from ⟨hbt2.1, Nat.le_trans hln2.1 HBTA.out.2⟩)
      have HBL2 := Sh.mk (And.intro hbt2.2 hln2)
      have HQ2 := Sh.mk hq2
      clear hbt2 hln2 hq2
      have HTAKE := Sh.mk htake
      clear htake
      go_wp2_with fail
      refine HTAKE.out.mono ?_
      rintro e w4 ⟨A2, c2, rfl, hc2, hby2, hT4, hK4⟩
      have HK4 := Sh.mk (HK3.out.trans hK4 (fun i _ h => by rcases h with h | h; exact .inl h; exact .inr (.inl h)))
      have g4 := hK4.heap HG3.out (fun h => by have := HBO7.out; omega)
      have hcv := hby2.str (by have := HBL2.out.2; omega) c2
      have f0_ := Rw.blk_cell g4 0
      have f1_ := Rw.blk_frozen g4 0
      obtain ⟨n2, hn2⟩ : ∃ n2, l2.length = n2 := ⟨_, rfl⟩
      rw [hn2] at hcv ⊢
      have HG4 := Sh.mk g4
      have HT4 := Sh.mk hT4
      clear HTAKE x_ hby2 hK4 g4 hn2 hT4 hc2
      go_upto_region 7 with (fail)
      obtain ⟨w5, hw5⟩ : ∃ w', w4.setCell ⟨b7, 0, none⟩ (.string (strOfNums l2)) = w' := ⟨_, rfl⟩
      have hs5 : Kept (fun k => k = b7) w4 w5 := by rw [← hw5]; exact (Kept.refl (fun k => k = b7) w4).setCell (p := ⟨b7, 0, none⟩) (.inr rfl) _
      have HGw5 := Sh.mk (show w5.heap[b7]? = some (.cells #[.string (strOfNums l2), .int .i64 0, .string ⟨#[]⟩] 56 (0, 0)) from by rw [← hw5]; exact (Rw.heap_set w4 b7 0 _ HG4.out).trans rfl)
      have HTw5 := Sh.mk (HT4.out.kept hs5 (fun h => by have := HBO7.out; omega) (fun h => by have := HBO7.out; omega) (fun g hg h => by have := HBO7.out; omega))
      have HKw5 := Sh.mk (HK4.out.trans hs5 (fun i _ h => .inr (.inr h)))
      rw [hw5]
      clear hw5 hs5
      clear f0_ f1_ hcv
      obtain ⟨⟨ok3, rest3, l3⟩, hq3⟩ : ∃ p, tk ok2 rest2 ((8 : Nat) : Int) = p := ⟨_, rfl⟩
      have hbt3 := tk_byt (ok := ok2) (n := ((8 : Nat) : Int)) HBT2.out.1
      have hln3 := tk_len ok2 rest2 8
      have htake := take_ok w5 bo bb ok2 rest2 8 HTw5.out (by omega) HBT2.out.2
      rw [hq3] at hbt3 hln3 htake
      have HBT3 := Sh.mk (show Byt rest3 ∧ rest3.length ≤ 1000000000 from ⟨hbt3.1, Nat.le_trans hln3.1 HBT2.out.2⟩)
      have HBL3 := Sh.mk (And.intro hbt3.2 hln3)
      have HQ3 := Sh.mk hq3
      have HTAKE := Sh.mk htake
      clear hbt3 hln3 hq3 htake
      go_wp2_with fail
      refine HTAKE.out.mono ?_
      rintro e w6 ⟨A3, c3, rfl, hc3, hby3, hT6, hK6⟩
      have HK6 := Sh.mk (HKw5.out.trans hK6 (fun i _ h => by rcases h with h | h; exact .inl h; exact .inr (.inl h)))
      have HG6 := Sh.mk (hK6.heap HGw5.out (fun h => by have := HBO7.out; omega))
      have HNUM := Sh.mk (num_call w6 A3 c3 l3 hby3 hc3 HBL3.out.1 (by have := HBL3.out.2.2.1; omega))
      have HT6 := Sh.mk hT6
      clear HTAKE hc3 hby3 hT6 hK6
      go_wp2_with fail
      refine HNUM.out.mono ?_
      rintro e w7 ⟨rfl, h67⟩
      have HK7 := Sh.mk (HK6.out.then h67)
      have g7 := (h67.block b7 (lt_of_heap HG6.out)).trans HG6.out
      have f0_ := Rw.blk_cell g7 1
      have f1_ := Rw.blk_frozen g7 1
      have HG7 := Sh.mk g7
      have HT7 := Sh.mk (HT6.out.below h67)
      obtain ⟨v3, hv3⟩ : ∃ v3, wrap64 (numd l3) = v3 := ⟨_, rfl⟩
      have HV3 := Sh.mk hv3
      obtain ⟨n3, hn3⟩ : ∃ n3, numd l3 = n3 := ⟨_, rfl⟩
      rw [hn3] at hv3 ⊢
      clear HNUM h67 g7 hn3
      go_upto_region 8 with (fail)
      try rw [hv3]
      clear hv3
      obtain ⟨w8, hw8⟩ : ∃ w', w7.setCell ⟨b7, 1, none⟩ (.int .i64 v3) = w' := ⟨_, rfl⟩
      have hs8 : Kept (fun k => k = b7) w7 w8 := by rw [← hw8]; exact (Kept.refl (fun k => k = b7) w7).setCell (p := ⟨b7, 1, none⟩) (.inr rfl) _
      have HGw8 := Sh.mk (show w8.heap[b7]? = some (.cells #[.string (strOfNums l2), .int .i64 v3, .string ⟨#[]⟩] 56 (0, 0)) from by rw [← hw8]; exact (Rw.heap_set w7 b7 1 _ HG7.out).trans rfl)
      have HTw8 := Sh.mk (HT7.out.kept hs8 (fun h => by have := HBO7.out; omega) (fun h => by have := HBO7.out; omega) (fun g hg h => by have := HBO7.out; omega))
      have HKw8 := Sh.mk (HK7.out.trans hs8 (fun i _ h => .inr (.inr h)))
      rw [hw8]
      clear hw8 hs8
      clear f0_ f1_
      obtain ⟨⟨ok4, rest4, l4⟩, hq4⟩ : ∃ p, tk ok3 rest3 ((4 : Nat) : Int) = p := ⟨_, rfl⟩
      have hbt4 := tk_byt (ok := ok3) (n := ((4 : Nat) : Int)) HBT3.out.1
      have hln4 := tk_len ok3 rest3 4
      have htake := take_ok w8 bo bb ok3 rest3 4 HTw8.out (by omega) HBT3.out.2
      rw [hq4] at hbt4 hln4 htake
      have HBT4 := Sh.mk (show Byt rest4 ∧ rest4.length ≤ 1000000000 from ⟨hbt4.1, Nat.le_trans hln4.1 HBT3.out.2⟩)
      have HBL4 := Sh.mk (And.intro hbt4.2 hln4)
      have HQ4 := Sh.mk hq4
      have HTAKE := Sh.mk htake
      clear hbt4 hln4 hq4 htake
      go_wp2_with fail
      refine HTAKE.out.mono ?_
      rintro e w9 ⟨A4, c4, rfl, hc4, hby4, hT9, hK9⟩
      have HK9 := Sh.mk (HKw8.out.trans hK9 (fun i _ h => by rcases h with h | h; exact .inl h; exact .inr (.inl h)))
      have HG9 := Sh.mk (hK9.heap HGw8.out (fun h => by have := HBO7.out; omega))
      have HNUM := Sh.mk (num_call w9 A4 c4 l4 hby4 hc4 HBL4.out.1 (by have := HBL4.out.2.2.1; omega))
      have HT9 := Sh.mk hT9
      clear HTAKE hc4 hby4 hT9 hK9
      go_wp2_with fail
      refine HNUM.out.mono ?_
      rintro e w10 ⟨rfl, h910⟩
      have HK10 := Sh.mk (HK9.out.then h910)
      have HG10 := Sh.mk ((h910.block b7 (lt_of_heap HG9.out)).trans HG9.out)
      have HT10 := Sh.mk (HT9.out.below h910)
      obtain ⟨zn, hzn, hzb⟩ := numd_nat HBL4.out.1 (k := 4) (by have := HBL4.out.2.2.1; omega)
      have hz4 : zn ≤ 4294967295 := by rw [show (256 : Int) ^ 4 = 4294967296 by decide] at hzb; omega
      rw [hzn]
      have HZN := Sh.mk hzn
      clear HNUM h910 hzn hzb
      obtain ⟨⟨ok5, rest5, l5⟩, hq5⟩ : ∃ p, tk ok4 rest4 ((zn : Nat) : Int) = p := ⟨_, rfl⟩
      have hbt5 := tk_byt (ok := ok4) (n := ((zn : Nat) : Int)) HBT4.out.1
      have hln5 := tk_len ok4 rest4 zn
      have htake := take_ok w10 bo bb ok4 rest4 zn HT10.out (by omega) HBT4.out.2
      rw [hq5] at hbt5 hln5 htake
      have HBT5 := Sh.mk (show Byt rest5 ∧ rest5.length ≤ 1000000000 from ⟨hbt5.1, Nat.le_trans hln5.1 HBT4.out.2⟩)
      have HBL5 := Sh.mk (And.intro hbt5.2 hln5)
      have HQ5 := Sh.mk hq5
      have HTAKE := Sh.mk htake
      clear hbt5 hln5 hq5 htake
      go_wp2_with fail
      refine HTAKE.out.mono ?_
      rintro e w11 ⟨A5, c5, rfl, hc5, hby5, hT11, hK11⟩
      have HK11 := Sh.mk (HK10.out.trans hK11 (fun i _ h => by rcases h with h | h; exact .inl h; exact .inr (.inl h)))
      have g11 := hK11.heap HG10.out (fun h => by have := HBO7.out; omega)
      have hcv := hby5.str (by have := HBL5.out.2.2.2; have := HBT4.out.2; omega) c5
      have f0_ := Rw.blk_cell g11 2
      have f1_ := Rw.blk_frozen g11 2
      obtain ⟨n5, hn5⟩ : ∃ n5, l5.length = n5 := ⟨_, rfl⟩
      rw [hn5] at hcv ⊢
      have HG11 := Sh.mk g11
      have HT11 := Sh.mk hT11
      clear HTAKE hby5 hK11 g11 hn5 hT11 hc5 hz4
      go_upto_region 9 with (fail)
      obtain ⟨w12, hw12⟩ : ∃ w', w11.setCell ⟨b7, 2, none⟩ (.string (strOfNums l5)) = w' := ⟨_, rfl⟩
      have hs11 : Kept (fun k => k = b7) w11 w12 := by rw [← hw12]; exact (Kept.refl (fun k => k = b7) w11).setCell (p := ⟨b7, 2, none⟩) (.inr rfl) _
      have HGw12 := Sh.mk (show w12.heap[b7]? = some (.cells #[.string (strOfNums l2), .int .i64 v3, .string (strOfNums l5)] 56 (0, 0)) from by rw [← hw12]; exact (Rw.heap_set w11 b7 2 _ HG11.out).trans rfl)
      have HTw12 := Sh.mk (HT11.out.kept hs11 (fun h => by have := HBO7.out; omega) (fun h => by have := HBO7.out; omega) (fun g hg h => by have := HBO7.out; omega))
      have HKw12 := Sh.mk (HK11.out.trans hs11 (fun i _ h => .inr (.inr h)))
      rw [hw12]
      clear hw12 hs11
      clear f0_ f1_ hcv
      have hld := run_loadAt_mid (P := Try.prog) w12 b7 0 56 [.string (strOfNums l2), .int .i64 v3, .string (strOfNums l5)] _ (Rw.blk_range HGw12.out) Try.underlying56 rfl sizeFl
      have HO12 := Sh.mk (Kd.R_step HO.out (w1 := w12) (fun k hk hlt => HKw12.out.block k hlt (by rintro (h | h | h); exact hk.1 h; exact hk.2 h; have := HB7.out; omega)))
      have HB12 := Sh.mk (show Below bb w w12 from by
        refine HB.out.trans (HKw12.out.below (B := bb) (by have := HBO7.out; have := HB7.out; omega) (fun i hi => ?_))
        rintro (h | h | h)
        · have := HT.out.ne; omega
        · omega
        · have := HBO7.out; omega)
      have hbd : bo < w12.heap.size := lt_of_heap HTw12.out.o
      have hacc : (acc.length + 1) * 40 ≤ 140737488355328 := by have := HR.out.2; omega
      have hbase : bb ≤ w12.heap.size := by have := HTw12.out.ne; omega
      go_wp2_with (first | ((with_reducible refine Rw.at_slot 38 ?_); refine Rw.wpList_get rfl 56 (.tmp 7) rfl rfl hld ?_) | ((with_reducible refine Rw.at_slot 40 ?_); refine Kd.R_append k56 (w0 := w) bb rfl _ _ 23 56 (.agg #[.string ⟨#[]⟩, .int .i64 0, .string ⟨#[]⟩]) 40 rfl Try.underlying23 info56 rfl (by decide) (by omega) _ acc (⟨strOfNums l2, v3, strOfNums l5⟩ : S56) [.string (strOfNums l2), .int .i64 v3, .string (strOfNums l5)] _ (fun _ => False) rfl rfl (k56_mkM _ _ _ (⟨strOfNums l2, v3, strOfNums l5⟩ : S56)) (fun _ hk => hk.elim) (fun k hk => ⟨by omega, by have := HTw12.out.ne; omega⟩) HO12.out HB12.out hbase hacc ?_))
      intro v7 w13 hR13 hB13 hG13 hat13
      have hT13 : Tks w13 bo bb ok5 rest5 := by
        have hk : Kept (fun k => u6.ownBlock = some k) w12 w13 := (Kept.refl (fun k => u6.ownBlock = some k) w12).grown hG13 (fun k e => .inr e)
        have hty := fun k => Kd.R_typed HO12.out k
        refine HTw12.out.kept hk (fun e => ?_) (fun e => ?_) (fun g hg e => ?_)
        · obtain ⟨cells, hh⟩ := hty _ e
          rw [HTw12.out.o] at hh
          simp at hh
        · obtain ⟨cells, hh⟩ := hty _ e
          obtain ⟨A', c', hb', _⟩ := HTw12.out.b
          rw [hb'] at hh
          simp at hh
        · have := Kd.R_base HO12.out g e
          omega
      have HT13 := Sh.mk hT13
      have HR13 := Sh.mk hR13
      have HB13 := Sh.mk hB13
      clear hld hbd hacc hbase hT13 hR13 hB13 hG13 hat13
      have hstep : fstep rest = (ok5, rest5, ⟨strOfNums l2, v3, strOfNums l5⟩) := by
        unfold fstep
        simp only [HTK1.out, List.headD_cons, HQ2.out, HQ3.out, HQ4.out, HZN.out, HQ5.out, HV3.out]
      have HF2 := Sh.mk (show floop k1 ok5 rest5 (acc ++ [⟨strOfNums l2, v3, strOfNums l5⟩]) = some (r1, r2) from by
        have := HF.out
        rw [hstep] at this
        exact this)
      clear hstep
      go_wp2_with fail
      go_roundg k1
      case measure => omega
      case rel => exact ⟨ok5, rest5, _, HF2, HT13, ⟨HBT5.out.1, by
        have h0 := HR.out.2
        have h1 := HL.out
        have h2 := HBL2.out.2.1
        have h3 := HBL3.out.2.1
        have h4 := HBL4.out.2.1
        have h5 := HBL5.out.2.1
        rw [List.length_drop] at h2
        rw [List.length_append, List.length_singleton]
        omega⟩, HR13, HB13⟩
end Go.Proofs.Ytnemnhfdjofckaa.Co
namespace Go.Proofs.Ytnemnhfdjofckaa.Mo
open Go
/-- What an operation comes to: a value and a world of which R holds. -/
def leaves (P : Program) (R : Value → World → Prop) : Result Next → Prop
  | .ok (.value u) w' => R u w'
  | .ok .skip w' => R undef w'
  | .ok (.enter f args) w' => Calls P f args w' (fun e w'' => ∃ v, e = .returned v ∧ R v w'')
  | .ok (.row row args) w' => Rows P row args w' R
  | _ => False
/-- The value is what the operation gives. -/
def gives (v : Value) : Result Next → Prop
  | .ok (.value u) _ => v = u
  | .ok .skip _ => v = undef
  | _ => True
theorem leaves_some {P : Program} {R : Value → World → Prop} {r : Result Next} (hh : leaves P R r) : ∃ v w', R v w' ∧ gives v r := by
  cases r with
  | ok n w' =>
    cases n <;> simp only [leaves] at hh <;> simp only [gives]
    case value u => exact ⟨u, w', hh, rfl⟩
    case skip => exact ⟨undef, w', hh, rfl⟩
    case enter f args =>
      obtain ⟨e, w'', fr, ⟨v, _, h2⟩, _⟩ := hh []
      exact ⟨v, w'', h2, trivial⟩
    case row row args =>
      obtain ⟨v, w'', h2, _⟩ := hh default []
      exact ⟨v, w'', h2, trivial⟩
  | halt x w' => simp only [leaves] at hh
theorem wp_of_leaves {P : Program} {o : Oper} {a : Act} {w : World} {R : Value → World → Prop} {K : Act → World → Prop} {Q : Exit → Act → World → Prop}
    (h : leaves P R ((execOp a.eval o).run P w)) (hK : ∀ v w', R v w' → gives v ((execOp a.eval o).run P w) → K (a.put o.dst v) w') : o.wp P a w K Q := by
  unfold Oper.wp
  generalize (execOp a.eval o).run P w = r at *
  cases r with
  | ok n w' =>
    cases n <;> simp only [leaves] at h <;> simp only [gives] at hK <;> simp only [Oper.upon]
    case value u => exact hK _ _ h rfl
    case skip => exact hK _ _ h rfl
    case enter f args => exact Calls.mono h fun e w'' ⟨v, he, h2⟩ => by subst he; exact hK _ _ h2 trivial
    case row row args => exact Rows.mono h fun v w'' h2 => hK _ _ h2 trivial
  | halt x w' => simp only [leaves] at h
def upd (F : Nat → World → Prop) (k : Nat) (p : World → Prop) : Nat → World → Prop := fun i => if i = k then p else F i
theorem upd_same (F : Nat → World → Prop) (k : Nat) (p : World → Prop) : upd F k p k = p := by simp [upd]
theorem upd_ne (F : Nat → World → Prop) {k i : Nat} (p : World → Prop) (h : i ≠ k) : upd F k p i = F i := by simp [upd, h]
theorem upd_comm (F : Nat → World → Prop) {i j : Nat} (p q : World → Prop) (h : i ≠ j) : upd (upd F i p) j q = upd (upd F j q) i p := by
  funext k
  unfold upd
  by_cases h1 : k = j
  · by_cases h2 : k = i
    · exact absurd (h2.symm.trans h1) h
    · rw [if_pos h1, if_neg h2, if_pos h1]
  · by_cases h2 : k = i
    · rw [if_neg h1, if_pos h2, if_pos h2]
    · rw [if_neg h1, if_neg h2, if_neg h2, if_neg h1]
/-- Does operation k wait for operation i, at first hand? -/
def direct (ops : Array Oper) (k i : Nat) : Bool := (ops[k]?).any fun o => o.after.any fun e => Region.binds .any e && e.on == i
/-- Each operation's set of operations (a number's bits) for which it waits. -/
def masksOk (ops : Array Oper) (B : List Nat) : Bool :=
  (List.range ops.size).all fun k => decide (B.getD k 0 < 2 ^ k) && (List.range k).all fun i => !(B.getD k 0).testBit i || direct ops k i || (List.range k).any fun d => direct ops k d && (B.getD d 0).testBit i
theorem masks_spec {ops : Array Oper} {B : List Nat} (h : masksOk ops B = true) {k i : Nat} (hk : k < ops.size) (hb : (B.getD k 0).testBit i = true) :
    direct ops k i = true ∨ ∃ d, d < k ∧ direct ops k d = true ∧ (B.getD d 0).testBit i = true := by
  simp only [masksOk, List.all_eq_true, List.mem_range, Bool.and_eq_true, decide_eq_true_eq] at h
  obtain ⟨h1, h2⟩ := h k hk
  have hi : i < k := by
    rcases Nat.lt_or_ge i k with h3 | h3
    · exact h3
    · rw [Nat.testBit_lt_two_pow (Nat.lt_of_lt_of_le h1 (Nat.pow_le_pow_right (by decide) h3))] at hb
      cases hb
  have h3 := h2 i hi
  simp only [hb, Bool.not_true, Bool.false_or, Bool.or_eq_true, List.any_eq_true, List.mem_range, Bool.and_eq_true] at h3
  rcases h3 with h3 | ⟨d, h3, h4⟩
  · exact .inl h3
  · exact .inr ⟨d, h3, h4⟩
def Closed (ops : Array Oper) (L : Array Bool) : Prop := ∀ x, L.getD x false = true → ∀ d, direct ops x d = true → L.getD d false = true
theorem direct_ready {ops : Array Oper} {L : Array Bool} {j d : Nat} (hj : j ∈ Region.ready .any ops L) (hd : direct ops j d = true) : L.getD d false = true := by
  obtain ⟨_, o, ho, hall⟩ := mem_ready.1 hj
  simp only [direct, ho, Option.any_some, Array.any_eq_true', Bool.and_eq_true, beq_iff_eq] at hd
  obtain ⟨e, he, hb, rfl⟩ := hd
  exact hall e he hb
theorem masks_listed {ops : Array Oper} {B : List Nat} {L : Array Bool} (hB : masksOk ops B = true) (hL : Closed ops L) : ∀ (k : Nat), k < ops.size → (∀ d, direct ops k d = true → L.getD d false = true) →
    ∀ i, (B.getD k 0).testBit i = true → L.getD i false = true := by
  intro k
  induction k using Nat.strongRecOn with
  | ind k ih =>
    intro hk hd i hi
    rcases masks_spec hB hk hi with h | ⟨d, h1, h2, h3⟩
    · exact hd i h
    · exact ih d h1 (by omega) (fun x hx => hL d (hd d h2) x hx) i h3
theorem closed_set {ops : Array Oper} {L : Array Bool} (hL : Closed ops L) {j : Nat} (hj : j ∈ Region.ready .any ops L) : Closed ops (L.setIfInBounds j true) := by
  intro x hx d hd
  by_cases h : j = x
  · subst h
    exact getD_set_true (direct_ready hj hd)
  · rw [getD_set_ne false h] at hx
    exact getD_set_true (hL x hx d hd)
theorem ready_size {ops : Array Oper} {L : Array Bool} {x : Nat} (hx : x ∈ Region.ready .any ops L) : x < ops.size := by
  obtain ⟨_, o, ho, _⟩ := mem_ready.1 hx
  exact (Array.getElem?_eq_some_iff.1 ho).1
theorem not_both {L : Array Bool} {y : Nat} (hy : L.getD y true = false) (h1 : L.getD y false = true) : False := by
  rw [getD_both hy] at h1
  cases h1
theorem unl {ops : Array Oper} {B : List Nat} (hB : masksOk ops B = true) {L : Array Bool} (hc : Closed ops L) {x y : Nat} (hx : x ∈ Region.ready .any ops L) (hy : L.getD y true = false) : (B.getD x 0).testBit y = false := by
  cases hb : (B.getD x 0).testBit y with
  | false => rfl
  | true => exact (not_both hy (masks_listed hB hc x (ready_size hx) (fun d hd => direct_ready hx hd) y hb)).elim
theorem unlisted_set {L : Array Bool} {j k : Nat} (hj : L.getD j true = false) (h : (L.setIfInBounds j true).getD k true = false) : k ≠ j ∧ L.getD k true = false := by
  have hlt : j < L.size := by
    rcases Nat.lt_or_ge j L.size with h' | h'
    · exact h'
    · simp [Array.getElem?_eq_none h'] at hj
  by_cases e : j = k
  · subst e; simp [hlt] at h
  · exact ⟨fun e1 => e e1.symm, by rwa [getD_set_ne true e] at h⟩
/-- Each operation ahead of the n-th waits for none behind it; two of them are apart, or wait. -/
def apartOk (ops : Array Oper) (n : Nat) : Bool := (List.range n).all fun j => ((ops[j]?).any fun o => o.after.all fun e => !Region.binds .any e || decide (e.on < j)) && (List.range j).all fun i => direct ops j i || (match ops[i]?, ops[j]? with | some x, some y => x.apart ops y | _, _ => false)
def done_ (n m : Nat) : Array Bool := (List.replicate n true ++ List.replicate (m - n) false).toArray
def okB (ops : Array Oper) (n : Nat) (B : List Nat) : Bool :=
  Region.noSelect ops && masksOk ops B && apartOk ops n && (n == ops.size || (decide (n < ops.size) && Region.sinkB .any ops n && Region.chainB .any ops n)) && Region.seqB .any ops (ops.size - n) n (done_ n ops.size)
section
variable (P : Program) (ops : Array Oper) (B : List Nat) (C : World → Prop) (Tr : Nat → World → World → Prop) (Pre : Nat → World → Prop) (Ψ : Nat → Array Value → Value → World → Prop)
def avail (F : Nat → World → Prop) (m : Nat) (w : World) : Prop := ∀ i, m.testBit i = true → F i w
/-- The value may be what the operation gives, at some world. -/
def SP (k : Nat) (o : Oper) (F : Nat → World → Prop) (a : Act) (v : Value) : Prop :=
  (∃ w, C w ∧ Pre k w ∧ avail F (B.getD k 0) w ∧ gives v ((execOp a.eval o).run P w)) ∧ ∃ w, C w ∧ Ψ k (o.op.operands.map a.eval) v w
def obl (k : Nat) (o : Oper) (F : Nat → World → Prop) (a : Act) : Prop := ∀ w, C w → Pre k w → avail F (B.getD k 0) w → leaves P (fun v w' => Tr k w w' ∧ Ψ k (o.op.operands.map a.eval) v w') ((execOp a.eval o).run P w)
/-- The walk in the order of the text. -/
def tree (Q : (Nat → World → Prop) → Act → Prop) : List (Nat × Oper) → (Nat → World → Prop) → Act → Prop
  | [], F, a => Q F a
  | (k, o) :: rest, F, a => if Region.wanted o (yielded ops a.tmps) then
      obl P B C Tr Pre Ψ k o F a ∧ ∀ v, SP P B C Pre Ψ k o F a v → tree Q rest (upd F k (Ψ k (o.op.operands.map a.eval) v)) (a.put o.dst v)
    else tree Q rest F (a.put o.dst undef)
/-- No operation that is still to come turns a fact. -/
def StableF (L : Array Bool) (F : Nat → World → Prop) : Prop := ∀ i k, L.getD k true = false → ∀ w w', Tr k w w' → F i w → F i w'
structure Legit (L : Array Bool) (F : Nat → World → Prop) (w : World) : Prop where
  closed : Closed ops L
  stable : StableF Tr L F
  cls : C w
  all : ∀ i, F i w
  pre : ∀ k, L.getD k true = false → Pre k w
variable {P ops B C Tr Pre Ψ}
theorem avail_upd {F : Nat → World → Prop} {m i : Nat} {p : World → Prop} (h : m.testBit i = false) (w : World) : avail (upd F i p) m w ↔ avail F m w := by
  unfold avail
  constructor
  · intro h1 j hj
    have := h1 j hj
    rwa [upd_ne _ _ (fun e => by subst e; rw [h] at hj; cases hj)] at this
  · intro h1 j hj
    rw [upd_ne _ _ (fun e => by subst e; rw [h] at hj; cases hj)]
    exact h1 j hj
theorem args_put {o : Oper} {a : Act} {dst : Option Tmp} {v : Value} (h : ∀ d, dst = some d → d ∉ o.looksAt ops) : o.op.operands.map (a.put dst v).eval = o.op.operands.map a.eval :=
  Array.map_congr_left fun x hx => Act.eval_put fun d hd hxd => h d hd (by
    subst hxd
    exact List.mem_append_left _ (List.mem_filterMap.2 ⟨.tmp d, by simpa using hx, rfl⟩))
theorem obl_act {k : Nat} {o : Oper} {F : Nat → World → Prop} {a : Act} {dst : Option Tmp} {v : Value} (hs : ∀ cs b, o.op ≠ .select cs b) (h : ∀ d, dst = some d → d ∉ o.looksAt ops) :
    obl P B C Tr Pre Ψ k o F (a.put dst v) ↔ obl P B C Tr Pre Ψ k o F a := by
  unfold obl
  rw [execOp_put (ops := ops) o hs a dst v h, args_put h]
theorem SP_act {k : Nat} {o : Oper} {F : Nat → World → Prop} {a : Act} {dst : Option Tmp} {v u : Value} (hs : ∀ cs b, o.op ≠ .select cs b) (h : ∀ d, dst = some d → d ∉ o.looksAt ops) :
    SP P B C Pre Ψ k o F (a.put dst v) u ↔ SP P B C Pre Ψ k o F a u := by
  unfold SP
  rw [execOp_put (ops := ops) o hs a dst v h, args_put h]
theorem obl_upd {k i : Nat} {o : Oper} {F : Nat → World → Prop} {a : Act} {p : World → Prop} (hm : (B.getD k 0).testBit i = false) :
    obl P B C Tr Pre Ψ k o (upd F i p) a ↔ obl P B C Tr Pre Ψ k o F a := by
  unfold obl
  constructor
  · intro h1 w h2 h3 h4
    exact h1 w h2 h3 ((avail_upd hm w).2 h4)
  · intro h1 w h2 h3 h4
    exact h1 w h2 h3 ((avail_upd hm w).1 h4)
theorem SP_upd {k i : Nat} {o : Oper} {F : Nat → World → Prop} {a : Act} {u : Value} {p : World → Prop} (hm : (B.getD k 0).testBit i = false) :
    SP P B C Pre Ψ k o (upd F i p) a u ↔ SP P B C Pre Ψ k o F a u := by
  unfold SP
  constructor
  · rintro ⟨⟨w, h2, h3, h4, h5⟩, h6⟩
    exact ⟨⟨w, h2, h3, (avail_upd hm w).1 h4, h5⟩, h6⟩
  · rintro ⟨⟨w, h2, h3, h4, h5⟩, h6⟩
    exact ⟨⟨w, h2, h3, (avail_upd hm w).2 h4, h5⟩, h6⟩
theorem stable_set (hB : masksOk ops B = true) {L : Array Bool} (hc : Closed ops L) (hst : ∀ j k A v w w', j ≠ k → (B.getD j 0).testBit k = false → Tr k w w' → Ψ j A v w → Ψ j A v w') {F : Nat → World → Prop} (hF : StableF Tr L F) {j : Nat} (hj : j ∈ Region.ready .any ops L) (A : Array Value) (v : Value) :
    StableF Tr (L.setIfInBounds j true) (upd F j (Ψ j A v)) := by
  intro i k hk w w' ht h
  obtain ⟨hkj, hk'⟩ := unlisted_set (mem_ready.1 hj).1 hk
  by_cases e : i = j
  · subst e
    rw [upd_same] at *
    exact hst i k A v w w' (Ne.symm hkj) (unl hB hc hj hk') ht h
  · rw [upd_ne _ _ e] at *
    exact hF i k hk' w w' ht h
theorem Legit.skip {L : Array Bool} {F : Nat → World → Prop} {w : World} (h : Legit ops C Tr Pre L F w) {j : Nat} (hj : j ∈ Region.ready .any ops L) : Legit ops C Tr Pre (L.setIfInBounds j true) F w :=
  ⟨closed_set h.closed hj, fun i k hk => h.stable i k (unlisted_set (mem_ready.1 hj).1 hk).2, h.cls, h.all, fun k hk => h.pre k (unlisted_set (mem_ready.1 hj).1 hk).2⟩
theorem Legit.step (hB : masksOk ops B = true) (hC : ∀ k w w', C w → Tr k w w' → C w') (hst : ∀ j k A v w w', j ≠ k → (B.getD j 0).testBit k = false → Tr k w w' → Ψ j A v w → Ψ j A v w')
    (hpre : ∀ j k w w', j ≠ k → (B.getD k 0).testBit j = false → C w → Tr k w w' → Pre j w → Pre j w') {L : Array Bool} {F : Nat → World → Prop} {w w' : World} (h : Legit ops C Tr Pre L F w) {j : Nat} (hj : j ∈ Region.ready .any ops L) {A : Array Value} {v : Value}
    (ht : Tr j w w') (hp : Ψ j A v w') : Legit ops C Tr Pre (L.setIfInBounds j true) (upd F j (Ψ j A v)) w' := by
  refine ⟨closed_set h.closed hj, stable_set hB h.closed hst h.stable hj A v, hC _ _ _ h.cls ht, fun i => ?_, fun k hk => ?_⟩
  · by_cases e : i = j
    · subst e; rw [upd_same]; exact hp
    · rw [upd_ne _ _ e]; exact h.stable i j (mem_ready.1 hj).1 w w' ht (h.all i)
  · obtain ⟨h1, h2⟩ := unlisted_set (mem_ready.1 hj).1 hk
    exact hpre k j w w' h1 (unl hB h.closed hj h2) h.cls ht (h.pre k h2)
theorem obl_some {k : Nat} {o : Oper} {F : Nat → World → Prop} {a : Act} {w : World} (ho : obl P B C Tr Pre Ψ k o F a) (hcl : ∀ w', Tr k w w' → C w') (h1 : C w) (h2 : Pre k w) (h3 : avail F (B.getD k 0) w) :
    ∃ v w', SP P B C Pre Ψ k o F a v ∧ Tr k w w' ∧ Ψ k (o.op.operands.map a.eval) v w' := by
  obtain ⟨v, w', ⟨h4, h5⟩, h6⟩ := leaves_some (ho w h1 h2 h3)
  exact ⟨v, w', ⟨⟨w, h1, h2, h3, h6⟩, w', hcl _ h4, h5⟩, h4, h5⟩
theorem apart_of {n : Nat} (hA : apartOk ops n = true) {i j : Nat} {oi oj : Oper} (hj : j < n) (hij : i < j) (hi : ops[i]? = some oi) (hoj : ops[j]? = some oj) (hd : direct ops j i = false) : oi.apart ops oj = true := by
  simp only [apartOk, List.all_eq_true, List.mem_range, Bool.and_eq_true] at hA
  have h1 := (hA j hj).2 i hij
  rw [hd, hi, hoj] at h1
  simpa using h1
theorem topo_of {n : Nat} (hA : apartOk ops n = true) {j : Nat} {o : Oper} (hj : j < n) (ho : ops[j]? = some o) {e : Edge} (he : e ∈ o.after) (hb : Region.binds .any e = true) : e.on < j := by
  simp only [apartOk, List.all_eq_true, List.mem_range, Bool.and_eq_true] at hA
  have h1 := (hA j hj).1
  rw [ho, Option.any_some] at h1
  have h2 := Array.all_eq_true_iff_forall_mem.1 h1 e he
  simpa [hb] using h2
/-- Which operations are to come. -/
structure Rest (ops : Array Oper) (n : Nat) (l : List (Nat × Oper)) (L : Array Bool) : Prop where
  size : L.size = ops.size
  mem : ∀ k o, (k, o) ∈ l → k < n ∧ ops[k]? = some o ∧ L.getD k true = false
  all : ∀ k, k < n → L.getD k true = false → ∃ o, (k, o) ∈ l
  sorted : l.Pairwise fun x y => x.1 < y.1
  tail : ∀ t, n ≤ t → t < ops.size → L.getD t true = false
theorem Rest.cut {n : Nat} {l1 l2 : List (Nat × Oper)} {j : Nat} {o : Oper} {L : Array Bool} (h : Rest ops n (l1 ++ (j, o) :: l2) L) : Rest ops n (l1 ++ l2) (L.setIfInBounds j true) := by
  obtain ⟨hjn, hoj, hju⟩ := h.mem j o (by simp)
  have hs := h.sorted
  rw [List.pairwise_append, List.pairwise_cons] at hs
  obtain ⟨s1, ⟨s2, s3⟩, s4⟩ := hs
  have ne : ∀ k o', (k, o') ∈ l1 ++ l2 → k ≠ j := fun k o' hk => by
    rcases List.mem_append.1 hk with h1 | h1
    · have := s4 (k, o') h1 (j, o) (by simp); simp at this; omega
    · have := s2 (k, o') h1; simp at this; omega
  refine ⟨by simpa using h.size, fun k o' hk => ?_, fun k hk hu => ?_, ?_, fun t ht hts => ?_⟩
  · obtain ⟨h1, h2, h3⟩ := h.mem k o' (by
      rcases List.mem_append.1 hk with h1 | h1
      · exact List.mem_append.2 (Or.inl h1)
      · exact List.mem_append.2 (Or.inr (List.mem_cons.2 (Or.inr h1))))
    exact ⟨h1, h2, by rw [getD_set_ne true (Ne.symm (ne k o' hk))]; exact h3⟩
  · obtain ⟨h1, h2⟩ := unlisted_set hju hu
    obtain ⟨o', ho'⟩ := h.all k hk h2
    refine ⟨o', ?_⟩
    rcases List.mem_append.1 ho' with h3 | h3
    · exact List.mem_append.2 (Or.inl h3)
    · rcases List.mem_cons.1 h3 with h4 | h4
      · cases h4; exact absurd rfl h1
      · exact List.mem_append.2 (Or.inr h4)
  · rw [List.pairwise_append]
    exact ⟨s1, s3, fun x hx y hy => s4 x hx y (List.mem_cons.2 (Or.inr hy))⟩
  · rw [getD_set_ne true (by omega)]
    exact h.tail t ht hts
theorem Rest.ready {n : Nat} (hA : apartOk ops n = true) {l : List (Nat × Oper)} {j : Nat} {o : Oper} {L : Array Bool} (h : Rest ops n ((j, o) :: l) L) : j ∈ Region.ready .any ops L := by
  obtain ⟨hjn, hoj, hju⟩ := h.mem j o (by simp)
  have hs := List.pairwise_cons.1 h.sorted
  refine mem_ready.2 ⟨hju, o, hoj, fun e he hb => ?_⟩
  have hlt := topo_of hA hjn hoj he hb
  cases hx : L.getD e.on false with
  | true => rfl
  | false =>
    exfalso
    have hjs := (Array.getElem?_eq_some_iff.1 hoj).1
    obtain ⟨o', ho'⟩ := h.all e.on (by omega) (getD_in (by rw [h.size]; omega) hx)
    rcases List.mem_cons.1 ho' with h4 | h4
    · cases h4; omega
    · have := hs.1 _ h4; simp at this; omega
theorem direct_false {L : Array Bool} {i j : Nat} (hj : j ∈ Region.ready .any ops L) (hi : L.getD i true = false) : direct ops j i = false := by
  cases hd : direct ops j i with
  | false => rfl
  | true => exact (not_both hi (direct_ready hj hd)).elim
/-- What the walk shows of an operation that comes up now. -/
theorem extract (hB : masksOk ops B = true) (hC : ∀ k w w', C w → Tr k w w' → C w') (hst : ∀ j k A v w w', j ≠ k → (B.getD j 0).testBit k = false → Tr k w w' → Ψ j A v w → Ψ j A v w')
    (hpre : ∀ j k w w', j ≠ k → (B.getD k 0).testBit j = false → C w → Tr k w w' → Pre j w → Pre j w') {n : Nat} (hA : apartOk ops n = true) (hsel : Region.noSelect ops = true) {Q : (Nat → World → Prop) → Act → Prop} {j : Nat} {oj : Oper} :
    ∀ (l : List (Nat × Oper)) (L : Array Bool) (F : Nat → World → Prop) (a : Act) (w : World), (j, oj) ∈ l → Rest ops n l L → j ∈ Region.ready .any ops L → Legit ops C Tr Pre L F w → tree P ops B C Tr Pre Ψ Q l F a →
      Region.wanted oj (yielded ops a.tmps) = true → obl P B C Tr Pre Ψ j oj F a
  | [], _, _, _, _, hm, _, _, _, _, _ => by simp at hm
  | (i, oi) :: rest, L, F, a, w, hm, hR, hr, hL, hT, hw => by
    obtain ⟨hin, hoi, hiu⟩ := hR.mem i oi (by simp)
    obtain ⟨hjn, hoj, hju⟩ := hR.mem j oj hm
    by_cases hij : i = j
    · subst hij
      have : oi = oj := Option.some.inj (hoi.symm.trans hoj)
      subst this
      unfold tree at hT
      rw [if_pos hw] at hT
      exact hT.1
    · have hm' : (j, oj) ∈ rest := by
        rcases List.mem_cons.1 hm with h | h
        · cases h; exact absurd rfl hij
        · exact h
      have hlt : i < j := by have := (List.pairwise_cons.1 hR.sorted).1 _ hm'; simpa using this
      have hir := hR.ready hA
      have hap := apart_of hA hjn hlt hoi hoj (direct_false hr hiu)
      obtain ⟨h1, h2, h3⟩ := Oper.apart_spec hap
      have si : ∀ cs b, oi.op ≠ .select cs b := fun cs b => Region.noSelect_spec hsel i oi cs b hoi
      have sj : ∀ cs b, oj.op ≠ .select cs b := fun cs b => Region.noSelect_spec hsel j oj cs b hoj
      have hR' : Rest ops n rest (L.setIfInBounds i true) := by
        have := Rest.cut (l1 := []) hR
        simpa using this
      unfold tree at hT
      split at hT
      · obtain ⟨ho, hk⟩ := hT
        obtain ⟨v, w', sv, ht, hp⟩ := obl_some ho (fun w' => hC i w w' hL.cls) hL.cls (hL.pre i hiu) (fun x _ => hL.all x)
        have hL' := hL.step hB hC hst hpre hir (A := oi.op.operands.map a.eval) ht hp
        have := extract hB hC hst hpre hA hsel rest _ _ _ w' hm' hR' (ready_mono hr (Ne.symm hij)) hL' (hk v sv) (by rw [wanted_put oj a oi.dst v h1]; exact hw)
        exact (obl_upd (unl hB hL.closed hr hiu)).1 ((obl_act sj h1).1 this)
      · have := extract hB hC hst hpre hA hsel rest _ _ _ w hm' hR' (ready_mono hr (Ne.symm hij)) (hL.skip hir) hT (by rw [wanted_put oj a oi.dst undef h1]; exact hw)
        exact (obl_act sj h1).1 this
/-- The walk of what is left, once an operation has come up. -/
theorem residual (hB : masksOk ops B = true) {n : Nat} (hA : apartOk ops n = true) (hsel : Region.noSelect ops = true) {Q : (Nat → World → Prop) → Act → Prop} {j : Nat} {oj : Oper} {l2 : List (Nat × Oper)} {L : Array Bool} (hc : Closed ops L) (hr : j ∈ Region.ready .any ops L) (hjn : j < n) (hoj : ops[j]? = some oj) :
    ∀ (l1 : List (Nat × Oper)) (F : Nat → World → Prop) (a : Act), (∀ i oi, (i, oi) ∈ l1 → i < j ∧ ops[i]? = some oi ∧ L.getD i true = false) → tree P ops B C Tr Pre Ψ Q (l1 ++ (j, oj) :: l2) F a →
      (Region.wanted oj (yielded ops a.tmps) = true → ∀ u, SP P B C Pre Ψ j oj F a u → tree P ops B C Tr Pre Ψ Q (l1 ++ l2) (upd F j (Ψ j (oj.op.operands.map a.eval) u)) (a.put oj.dst u)) ∧
      (Region.wanted oj (yielded ops a.tmps) = false → tree P ops B C Tr Pre Ψ Q (l1 ++ l2) F (a.put oj.dst undef))
  | [], F, a, _, hT => by
    rw [List.nil_append] at *
    unfold tree at hT
    refine ⟨fun hw u su => ?_, fun hw => ?_⟩
    · rw [if_pos hw] at hT
      exact hT.2 u su
    · rw [if_neg (by rw [hw]; decide)] at hT
      exact hT
  | (i, oi) :: l1, F, a, hl, hT => by
    obtain ⟨hij, hoi, hiu⟩ := hl i oi (by simp)
    have hl' : ∀ i oi, (i, oi) ∈ l1 → i < j ∧ ops[i]? = some oi ∧ L.getD i true = false := fun i oi h => hl i oi (List.mem_cons.2 (Or.inr h))
    have hap := apart_of hA hjn hij hoi hoj (direct_false hr hiu)
    obtain ⟨h1, h2, h3⟩ := Oper.apart_spec hap
    have si : ∀ cs b, oi.op ≠ .select cs b := fun cs b => Region.noSelect_spec hsel i oi cs b hoi
    have sj : ∀ cs b, oj.op ≠ .select cs b := fun cs b => Region.noSelect_spec hsel j oj cs b hoj
    have mj := unl hB hc hr hiu
    have mi : (B.getD i 0).testBit j = false := by
      have hB' := hB
      simp only [masksOk, List.all_eq_true, List.mem_range, Bool.and_eq_true, decide_eq_true_eq] at hB'
      have := (hB' i (Array.getElem?_eq_some_iff.1 hoi).1).1
      exact Nat.testBit_lt_two_pow (Nat.lt_of_lt_of_le this (Nat.pow_le_pow_right (by decide) (by omega)))
    rw [List.cons_append] at hT ⊢
    unfold tree at hT
    refine ⟨fun hw u su => ?_, fun hw => ?_⟩
    · unfold tree
      rw [wanted_put oi a oj.dst u h3]
      split at hT
      · rename_i wi
        rw [if_pos wi]
        refine ⟨(obl_upd mi).2 ((obl_act si h3).2 hT.1), fun v sv => ?_⟩
        have sv' := (SP_act si h3).1 ((SP_upd mi).1 sv)
        rw [args_put h3, upd_comm _ _ _ (by omega), ← Act.put_comm a v u h2]
        have := (residual hB hA hsel hc hr hjn hoj l1 _ _ hl' (hT.2 v sv')).1 (by rw [wanted_put oj a oi.dst v h1]; exact hw) u ((SP_upd mj).2 ((SP_act sj h1).2 su))
        rw [args_put h1] at this
        exact this
      · rename_i wi
        rw [if_neg wi, ← Act.put_comm a undef u h2]
        have := (residual hB hA hsel hc hr hjn hoj l1 _ _ hl' hT).1 (by rw [wanted_put oj a oi.dst undef h1]; exact hw) u ((SP_act sj h1).2 su)
        rw [args_put h1] at this
        exact this
    · unfold tree
      rw [wanted_put oi a oj.dst undef h3]
      split at hT
      · rename_i wi
        rw [if_pos wi]
        refine ⟨(obl_act si h3).2 hT.1, fun v sv => ?_⟩
        have sv' := (SP_act si h3).1 sv
        rw [args_put h3, ← Act.put_comm a v undef h2]
        exact (residual hB hA hsel hc hr hjn hoj l1 _ _ hl' (hT.2 v sv')).2 (by rw [wanted_put oj a oi.dst v h1]; exact hw)
      · rename_i wi
        rw [if_neg wi, ← Act.put_comm a undef undef h2]
        exact (residual hB hA hsel hc hr hjn hoj l1 _ _ hl' hT).2 (by rw [wanted_put oj a oi.dst undef h1]; exact hw)
theorem rest_split {n : Nat} {l : List (Nat × Oper)} {L : Array Bool} (hR : Rest ops n l L) {j : Nat} {o : Oper} (hm : (j, o) ∈ l) : ∃ l1 l2, l = l1 ++ (j, o) :: l2 ∧ ∀ i oi, (i, oi) ∈ l1 → i < j ∧ ops[i]? = some oi ∧ L.getD i true = false := by
  obtain ⟨l1, l2, rfl⟩ := List.append_of_mem hm
  refine ⟨l1, l2, rfl, fun i oi h => ?_⟩
  obtain ⟨h1, h2, h3⟩ := hR.mem i oi (List.mem_append.2 (Or.inl h))
  have hs := hR.sorted
  rw [List.pairwise_append] at hs
  have := hs.2.2 (i, oi) h (j, o) (by simp)
  exact ⟨by simpa using this, h2, h3⟩
theorem sound (hB : masksOk ops B = true) (hC : ∀ k w w', C w → Tr k w w' → C w') (hst : ∀ j k A v w w', j ≠ k → (B.getD j 0).testBit k = false → Tr k w w' → Ψ j A v w → Ψ j A v w')
    (hpre : ∀ j k w w', j ≠ k → (B.getD k 0).testBit j = false → C w → Tr k w w' → Pre j w → Pre j w') {n g : Nat} (hA : apartOk ops n = true) (hsel : Region.noSelect ops = true) (htail : n = ops.size ∨ (n < ops.size ∧ Region.sinkB .any ops n = true ∧ Region.chainB .any ops n = true))
    {Q : (Nat → World → Prop) → Act → Prop} {Q' : Exit → Act → World → Prop} (hQ : ∀ L F a w, Rest ops n [] L → Legit ops C Tr Pre L F w → Q F a → wpAny P .any ops Q' g L a w) :
    ∀ (m : Nat) (l : List (Nat × Oper)) (L : Array Bool) (F : Nat → World → Prop) (a : Act) (w : World), l.length = m → Rest ops n l L → Legit ops C Tr Pre L F w → tree P ops B C Tr Pre Ψ Q l F a → wpAny P .any ops Q' (m + g) L a w
  | 0, l, L, F, a, w, hl, hR, hL, hT => by
    have : l = [] := List.eq_nil_of_length_eq_zero hl
    subst this
    rw [Nat.zero_add]
    exact hQ L F a w hR hL hT
  | m + 1, l, L, F, a, w, hl, hR, hL, hT => by
    rw [show m + 1 + g = (m + g) + 1 by omega]
    have hne : ∃ k o l', l = (k, o) :: l' := by
      cases l with
      | nil => simp at hl
      | cons x l' => exact ⟨x.1, x.2, l', rfl⟩
    obtain ⟨k, o, l', rfl⟩ := hne
    have hk := hR.ready hA
    refine ⟨fun h0 => (by rw [h0] at hk; cases hk), fun j hj => ?_⟩
    obtain ⟨hju, oj, hoj, hall⟩ := mem_ready.1 hj
    have hjn : j < n := by
      rcases Nat.lt_or_ge j n with h | h
      · exact h
      · rcases htail with e | ⟨hn, hs, hcb⟩
        · have := (Array.getElem?_eq_some_iff.1 hoj).1; omega
        · have inv : HeadInv .any ops n L := ⟨hR.size, fun x ox hx hxl e he hb => hL.closed x hxl e.on (by
            simp only [direct, hx, Option.any_some, Array.any_eq_true', Bool.and_eq_true, beq_iff_eq]
            exact ⟨e, he, hb, rfl⟩), hR.tail⟩
          obtain ⟨hkn, _, hku⟩ := hR.mem k o (by simp)
          exact absurd hj (tail_waits hs hcb hn inv _ k rfl hkn hku j h)
    obtain ⟨o', hm⟩ := hR.all j hjn hju
    have : o' = oj := Option.some.inj ((hR.mem j o' hm).2.1.symm.trans hoj)
    subst this
    obtain ⟨l1, l2, he, hl1⟩ := rest_split hR hm
    have hres := residual hB hA hsel hL.closed hj hjn hoj l1 F a hl1 (he ▸ hT)
    have hR' : Rest ops n (l1 ++ l2) (L.setIfInBounds j true) := Rest.cut (o := o') (by rw [← he]; exact hR)
    have hlen : (l1 ++ l2).length = m := by
      have := congrArg List.length he
      simp only [List.length_append, List.length_cons] at this hl ⊢
      omega
    unfold wpOp
    simp only [hoj]
    split
    · rename_i hw
      have ho := extract hB hC hst hpre hA hsel ((k, o) :: l') L F a w hm hR hj hL hT hw
      refine .inl (wp_of_leaves (ho w hL.cls (hL.pre j hju) fun x _ => hL.all x) fun v w' ⟨h2, h3⟩ hg => ?_)
      have hL' := hL.step hB hC hst hpre hj (A := o'.op.operands.map a.eval) h2 h3
      exact sound hB hC hst hpre hA hsel htail hQ m (l1 ++ l2) _ _ _ w' hlen hR' hL' (hres.1 hw v ⟨⟨w, hL.cls, hL.pre j hju, fun x _ => hL.all x, hg⟩, w', hL'.cls, h3⟩)
    · rename_i hw
      exact sound hB hC hst hpre hA hsel htail hQ m (l1 ++ l2) _ _ _ w hlen hR' (hL.skip hj) (hres.2 (by simpa using hw))
/-- The walk, shut: nothing looks into it. -/
structure Wm (P : Program) (ops : Array Oper) (B : List Nat) (C : World → Prop) (Tr : Nat → World → World → Prop) (Pre : Nat → World → Prop) (Ψ : Nat → Array Value → Value → World → Prop) (Q : (Nat → World → Prop) → Act → Prop) (l : List Oper) (k : Nat) (F : Nat → World → Prop) (a : Act) : Prop where
  out : tree P ops B C Tr Pre Ψ Q (l.zipIdx k |>.map fun x => (x.2, x.1)) F a
/-- THE LAW: the first n operations in whatever order; the others, which come up in one order, are walked one behind the other. -/
theorem region {id : Nat} {Q : Exit → Act → World → Prop} {a : Act} {w : World} {l : List Oper} (n : Nat) (B : List Nat) (C : World → Prop) (Tr : Nat → World → World → Prop) (Pre : Nat → World → Prop) (Ψ : Nat → Array Value → Value → World → Prop)
    (hC0 : C w.drew) (hP0 : ∀ k, Pre k w.drew) (hC : ∀ k w w', C w → Tr k w w' → C w') (hst : ∀ j k A v w w', j ≠ k → (B.getD j 0).testBit k = false → Tr k w w' → Ψ j A v w → Ψ j A v w')
    (hpre : ∀ j k w w', j ≠ k → (B.getD k 0).testBit j = false → C w → Tr k w w' → Pre j w → Pre j w') (hm : P.follows .mixedOrders = true) (hX : okB l.toArray n B = true)
    (h : Wm P l.toArray B C Tr Pre Ψ (fun F a' => ∀ w', C w' → (∀ i, F i w') → (∀ k, n ≤ k → k < l.length → Pre k w') → wpList P l.toArray Q (l.drop n) a' w') (l.take n) 0 (fun _ _ => True) a) : (Code.region id l.toArray true).wp P Q a w := by
  simp only [okB, Bool.and_eq_true, Bool.or_eq_true, beq_iff_eq, decide_eq_true_eq] at hX
  obtain ⟨⟨⟨⟨hsel, hB⟩, hA⟩, htl⟩, hseq⟩ := hX
  have hnl : n ≤ l.length := by
    rcases htl with e | ⟨⟨h1, _⟩, _⟩
    · simpa using Nat.le_of_eq e
    · simpa using Nat.le_of_lt h1
  have htake : (l.take n).length = n := by simp; omega
  have hget : ∀ (k : Nat) (o : Oper), (k, o) ∈ ((l.take n).zipIdx 0 |>.map fun x => (x.2, x.1)) ↔ k < n ∧ l[k]? = some o := fun k o => by
    simp only [List.mem_map, Prod.mk.injEq, Prod.exists]
    constructor
    · rintro ⟨o', k', h1, rfl, rfl⟩
      have := List.mem_zipIdx_iff_getElem?.1 h1
      rw [List.getElem?_take] at this
      split at this
      · exact ⟨by assumption, this⟩
      · cases this
    · rintro ⟨h1, h2⟩
      refine ⟨o, k, List.mem_zipIdx_iff_getElem?.2 ?_, rfl, rfl⟩
      show (l.take n)[k]? = some o
      rw [List.getElem?_take, if_pos h1]
      exact h2
  have hR : Rest l.toArray n ((l.take n).zipIdx 0 |>.map fun x => (x.2, x.1)) (Array.replicate l.toArray.size false) := by
    refine ⟨by simp, fun k o hk => ?_, fun k hk hu => ?_, ?_, fun t ht hts => getD_in (by simpa using hts) (getD_replicate_false _ _)⟩
    · obtain ⟨h1, h2⟩ := (hget k o).1 hk
      exact ⟨h1, by simpa using h2, getD_in (by simp; omega) (getD_replicate_false _ _)⟩
    · have hkl : k < l.length := by omega
      exact ⟨l[k], (hget k _).2 ⟨hk, List.getElem?_eq_getElem hkl⟩⟩
    · rw [List.pairwise_map]
      exact (List.pairwise_iff_getElem.2 fun i j hi hj hij => by
        simp only [List.getElem_zipIdx]
        omega)
  have hL : Legit l.toArray C Tr Pre (Array.replicate l.toArray.size false) (fun _ _ => True) w.drew :=
    ⟨fun x hx => (by rw [getD_replicate_false] at hx; cases hx), fun _ _ _ _ _ _ h => h, hC0, fun _ => trivial, fun k _ => hP0 k⟩
  refine wp_region_any hm ?_
  have H := sound (P := P) (n := n) (g := l.toArray.size - n) (Q' := Q) hB hC hst hpre hA hsel (by
    rcases htl with e | ⟨⟨h1, h2⟩, h3⟩
    · exact Or.inl e
    · exact Or.inr ⟨h1, h2, h3⟩) (fun L F a' w' hRL hLL hq => by
    have hLe : L = done_ n l.toArray.size := by
      apply Array.ext_getElem?
      intro i
      rcases Nat.lt_or_ge i l.toArray.size with h1 | h1
      · have hi : i < L.size := by rw [hRL.size]; exact h1
        rw [Array.getElem?_eq_getElem hi]
        rcases Nat.lt_or_ge i n with h2 | h2
        · have : L[i] = true := by
            cases hx : L[i] with
            | true => rfl
            | false =>
              obtain ⟨o, ho⟩ := hRL.all i h2 (by simp [hi, hx])
              simp at ho
          rw [this]
          simp [done_, List.getElem?_append, h2]
        · have hx := hRL.tail i h2 h1
          have : L[i] = false := by simpa [hi] using hx
          rw [this]
          have h3 : ¬ i < n := by omega
          simp [done_, List.getElem?_append, h3]
          have hsz : l.toArray.size = l.length := by simp
          rw [List.getElem?_replicate, if_pos (by omega)]
      · rw [Array.getElem?_eq_none (by rw [hRL.size]; exact h1), Array.getElem?_eq_none (by simp [done_] at h1 ⊢; omega)]
    have := wpAny_of_seq (md := .any) (Q' := Q) (l.drop n) n L a' w' (fun j => by simp [List.getElem?_drop]) (by rw [hLe]; simpa using hseq) (hq w' hLL.cls hLL.all (fun k hk hkl => hLL.pre k (hRL.tail k hk (by simpa using hkl))))
    simpa using this) n _ _ _ _ w.drew (by simp; omega) hR hL h.out
  simpa [show n + (l.length - n) = l.length by omega] using H
variable {Q : (Nat → World → Prop) → Act → Prop} {o : Oper} {rest : List Oper} {k : Nat} {F : Nat → World → Prop} {a : Act}
theorem done (h : Q F a) : Wm P ops B C Tr Pre Ψ Q [] k F a := ⟨h⟩
theorem skip (hw : Region.wanted o (yielded ops a.tmps) = false) (h : Wm P ops B C Tr Pre Ψ Q rest (k + 1) F (a.put o.dst undef)) : Wm P ops B C Tr Pre Ψ Q (o :: rest) k F a := by
  constructor
  rw [List.zipIdx_cons, List.map_cons]
  unfold tree
  rw [if_neg (by rw [hw]; decide)]
  exact h.out
/-- An operation that gives one value, wherever it comes up, and leaves the world. -/
theorem val {v : Value} (hr : ∀ w, Tr k w w) (hw : Region.wanted o (yielded ops a.tmps) = true) (hΨ : ∀ A v w, Ψ k A v w)
    (h : ∀ w, C w → Pre k w → avail F (B.getD k 0) w → (execOp a.eval o).run P w = .ok (.value v) w) (hk : Wm P ops B C Tr Pre Ψ Q rest (k + 1) (upd F k fun _ => True) (a.put o.dst v)) : Wm P ops B C Tr Pre Ψ Q (o :: rest) k F a := by
  have hu : ∀ A u, upd F k (Ψ k A u) = upd F k fun _ => True := fun A u => by
    funext i w
    unfold upd
    split
    · exact propext ⟨fun _ => trivial, fun _ => hΨ _ _ _⟩
    · rfl
  constructor
  rw [List.zipIdx_cons, List.map_cons]
  unfold tree
  rw [if_pos hw]
  refine ⟨fun w h1 h2 h3 => by rw [h w h1 h2 h3]; exact ⟨hr w, hΨ _ _ _⟩, fun u ⟨⟨w, h1, h2, h3, h4⟩, _⟩ => ?_⟩
  rw [h w h1 h2 h3] at h4
  have : u = v := h4
  subst this
  rw [hu]
  exact hk.out
/-- An operation that says nothing and leaves the world. -/
theorem still (hr : ∀ w, Tr k w w) (hw : Region.wanted o (yielded ops a.tmps) = true) (hΨ : ∀ A v w, Ψ k A v w)
    (h : ∀ w, C w → Pre k w → avail F (B.getD k 0) w → (execOp a.eval o).run P w = .ok .skip w) (hk : Wm P ops B C Tr Pre Ψ Q rest (k + 1) (upd F k fun _ => True) (a.put o.dst undef)) : Wm P ops B C Tr Pre Ψ Q (o :: rest) k F a := by
  have hu : ∀ A u, upd F k (Ψ k A u) = upd F k fun _ => True := fun A u => by
    funext i w
    unfold upd
    split
    · exact propext ⟨fun _ => trivial, fun _ => hΨ _ _ _⟩
    · rfl
  constructor
  rw [List.zipIdx_cons, List.map_cons]
  unfold tree
  rw [if_pos hw]
  refine ⟨fun w h1 h2 h3 => by rw [h w h1 h2 h3]; exact ⟨hr w, hΨ _ _ _⟩, fun u ⟨⟨w, h1, h2, h3, h4⟩, _⟩ => ?_⟩
  rw [h w h1 h2 h3] at h4
  have : u = undef := h4
  subst this
  rw [hu]
  exact hk.out
/-- Any operation that leaves its fact. -/
theorem any (hw : Region.wanted o (yielded ops a.tmps) = true)
    (h : ∀ w, C w → Pre k w → avail F (B.getD k 0) w → leaves P (fun v w' => Tr k w w' ∧ Ψ k (o.op.operands.map a.eval) v w') ((execOp a.eval o).run P w))
    (hk : ∀ v, (∃ w, C w ∧ Ψ k (o.op.operands.map a.eval) v w) → Wm P ops B C Tr Pre Ψ Q rest (k + 1) (upd F k (Ψ k (o.op.operands.map a.eval) v)) (a.put o.dst v)) : Wm P ops B C Tr Pre Ψ Q (o :: rest) k F a := by
  constructor
  rw [List.zipIdx_cons, List.map_cons]
  unfold tree
  rw [if_pos hw]
  exact ⟨h, fun v sv => (hk v sv.2).out⟩
end
end Go.Proofs.Ytnemnhfdjofckaa.Mo
namespace Go.Proofs.Ytnemnhfdjofckaa.Co
open Go Go.RowKit Hp Go.Proofs.Ytnemnhfdjofckaa.Fr Go.Proofs.YtnemnhfdjofckaaW.PrintWords Go.Proofs.Ytnemnhfdjofckaa.Print
/-- A piece of a row of bytes. -/
def sub (l : List Int) (p n : Nat) : List Int := (l.drop p).take n
theorem sub_byt {l : List Int} (h : Byt l) (p n : Nat) : Byt (sub l p n) := (h.drop p).take n
theorem sub_len {l : List Int} {p n : Nat} (h : p + n ≤ l.length) : (sub l p n).length = n := by
  unfold sub
  rw [List.length_take, List.length_drop]
  omega
def rloop : Nat → List Int → Nat → List S56 → Option (List S56 × Bool)
  | 0, _, _, _ => none
  | k + 1, l, p, acc => if l.length ≤ p then some (acc, true) else if 32 < (l.getD p 0).toNat ∨ l.length - p < 13 + (l.getD p 0).toNat then some ([], false) else
    if l.length - (p + 13 + (l.getD p 0).toNat) < (numd (sub l (p + 9 + (l.getD p 0).toNat) 4)).toNat then some ([], false) else
    rloop k l (p + 13 + (l.getD p 0).toNat + (numd (sub l (p + 9 + (l.getD p 0).toNat) 4)).toNat) (acc ++ [⟨strOfNums (sub l (p + 1) (l.getD p 0).toNat), wrap64 (numd (sub l (p + 1 + (l.getD p 0).toNat) 8)), strOfNums (sub l (p + 13 + (l.getD p 0).toNat) (numd (sub l (p + 9 + (l.getD p 0).toNat) 4)).toNat)⟩])
theorem sub_bytes {w : World} {A : Option Addr} {c : Nat} {l : List Int} (h : Bytes w A l) (hc : l.length ≤ c) (p n : Nat) {A' : Option Addr} (hA : (if c = p then A else A.map (·.add (p * 1))) = A') : Bytes w A' (sub l p n) := by
  rw [← hA]
  exact Bytes.take (Bytes.drop h p hc) n
theorem rnum_call (w : World) (A : Option Addr) (c : Nat) (l : List Int) (h : Bytes w A l) (hc : l.length ≤ c) (hb : Byt l) (h8 : l.length ≤ 8) : Calls Try.prog 31 #[.slice A l.length c] w fun e w' => e = .returned (.int .i64 (wrap64 (numd l))) ∧ Below w.heap.size w w' := by
  refine (headgateref20_number.calls _ A c l _ w (C8 h (by omega)) hc (rnumber_f l hb h8)).mono ?_
  rintro e w' ⟨rfl, n, rfl⟩
  exact ⟨rfl, pw_below_drewN (Below.refl _ _) n⟩
/-- What an operation of the drawn region leaves: the number, the file's block. -/
def PsiF (B : Nat) (v8 : Int) (k : Nat) (_ : Array Value) (v : Value) (w : World) : Prop := (k = 19 → v = .int .i64 v8) ∧ (k = 21 → ∃ b, v = .pointer (some ⟨b, 0, none⟩) ∧ B ≤ b ∧ w.heap[b]? = some (.cells #[.string ⟨#[]⟩, .int .i64 0, .string ⟨#[]⟩] 56 (0, 0)))
theorem psiF_stays {B : Nat} {v8 : Int} {j : Nat} {A : Array Value} {v : Value} {w w' : World} (h : Below w.heap.size w w') (hp : PsiF B v8 j A v w) : PsiF B v8 j A v w' :=
  ⟨hp.1, fun e => by
    obtain ⟨b, h1, h2, h3⟩ := hp.2 e
    exact ⟨b, h1, h2, (h.block b (lt_of_heap h3)).trans h3⟩⟩
set_option maxHeartbeats 8000000 in
set_option maxRecDepth 100000 in
theorem rfiles_walk (w : World) (A0 : Option Addr) (c0 : Nat) (l0 : List Int) (r1 : List S56) (r2 : Bool) (hr0 : Kd.C (Kd.int .u8) w A0 l0.length l0) (hc0 : l0.length ≤ c0) (hb : Byt l0) (hlen : l0.length ≤ 1000000000) (h : rloop (l0.length + 1) l0 0 [] = some (r1, r2)) :
    Calls Try.prog 33 #[.slice A0 l0.length c0] w fun e w' => ∃ v0_ : Value, e = .returned (.tuple #[v0_, .bool r2]) ∧ Kd.R k56 56 w' w.heap.size (fun _ => True) v0_ r1 ∧ Below w.heap.size w w' := by
  have mixed : Try.prog.follows Departure.mixedOrders = true := by kernel_rfl
  have HBY := Sh.mk (bytes_C hr0)
  obtain ⟨L, hL⟩ : ∃ L, l0.length = L := ⟨_, rfl⟩
  rw [hL] at hc0 hlen h ⊢
  have HL := Sh.mk hL
  have HLOOP := Sh.mk h
  have HB0 := Sh.mk hb
  have HC0 := Sh.mk hc0
  clear hL h hb hr0 hc0
  go_enter Try.func33, Try.ntmps33
  go_wp2_with fail
  go_loopg [4, 5] (L + 1) (fun kq v4 v5 w' => ∃ (p : Nat) (acc : List S56), v5 = .int .i64 (p : Int) ∧ Sh (rloop kq l0 p acc = some (r1, r2)) ∧ Sh (p ≤ L ∧ acc.length ≤ p) ∧ Sh (Kd.R k56 56 w' w.heap.size (fun _ => True) v4 acc) ∧ Sh (Below w.heap.size w w'))
  case atStart => exact ⟨0, [], rfl, HLOOP, ⟨Nat.zero_le _, Nat.le_refl _⟩, ⟨Kd.R_nil _ _ _ _ _⟩, ⟨Below.refl _ _⟩⟩
  case round =>
    clear HLOOP
    obtain ⟨p, acc, rfl, HF, HP, HO, HB⟩ := hrel
    obtain ⟨k1, rfl⟩ : ∃ k', gk = k' + 1 := by
      cases gk with
      | zero => exact absurd HF.out (by simp [rloop])
      | succ k' => exact ⟨k', rfl⟩
    have hF := HF.out
    unfold rloop at hF
    rw [HL.out] at hF
    clear HF
    by_cases c1 : L ≤ p
    · rw [if_pos c1] at hF
      obtain ⟨rfl, rfl⟩ : acc = r1 ∧ true = r2 := by simpa using hF
      have kk : ¬ (p : Int) < (L : Int) := by omega
      clear c1 hF
      go_wp2_with fail
      go_ret2
      exact ⟨u4, rfl, HO.out, HB.out⟩
    rw [if_neg c1] at hF
    obtain ⟨x, hx⟩ : ∃ x, l0[p]? = some x := ⟨_, List.getElem?_eq_getElem (by rw [HL.out]; omega)⟩
    have hx0 := HB0.out x (List.mem_of_getElem? hx)
    obtain ⟨n, rfl⟩ : ∃ n : Nat, x = (n : Int) := ⟨x.toNat, by omega⟩
    rw [show l0.getD p 0 = (n : Int) by rw [List.getD_eq_getElem?_getD, hx]; rfl, Int.toNat_natCast] at hF
    have hby := HBY.out.below HB.out
    obtain ⟨ad, hA0, hcs⟩ := hby (by rw [HL.out]; omega)
    subst hA0
    have x_ : wr.cell? (ad.add p) = some (.int .u8 (n : Int)) := hcs p _ hx
    have HBYR := Sh.mk hby
    have kk : (p : Int) < (L : Int) := by omega
    have hn255 : n ≤ 255 := by omega
    have HX := Sh.mk hx
    have HC1 := Sh.mk c1
    clear hx hx0 hcs hby c1
    by_cases c2 : 32 < n
    · rw [if_pos (.inl c2)] at hF
      obtain ⟨rfl, rfl⟩ : ([] : List S56) = r1 ∧ false = r2 := by simpa using hF
      have c2' : (32 : Int) < (n : Int) := by omega
      clear c2 hF
      go_wp2_with fail
      go_ret2
      exact ⟨_, rfl, Kd.R_nil _ _ _ _ _, HB.out⟩
    by_cases c3 : L - p < 13 + n
    · rw [if_pos (.inr c3)] at hF
      obtain ⟨rfl, rfl⟩ : ([] : List S56) = r1 ∧ false = r2 := by simpa using hF
      have c2' : ¬ (32 : Int) < (n : Int) := by omega
      have c3' : (L : Int) - (p : Int) < 1 + (n : Int) + 12 := by omega
      clear c2 hF c3
      go_wp2_with fail
      go_ret2
      exact ⟨_, rfl, Kd.R_nil _ _ _ _ _, HB.out⟩
    rw [if_neg (by omega)] at hF
    have c2' : ¬ (32 : Int) < (n : Int) := by omega
    have c3' : ¬ (L : Int) - (p : Int) < 1 + (n : Int) + 12 := by omega
    have HF := Sh.mk hF
    have HN := Sh.mk (show n ≤ 32 ∧ p + 13 + n ≤ L from ⟨by omega, by omega⟩)
    clear hF c2 c3
    go_upto_region 7 with (fail)
    clear c2' c3' x_ kk hn255
    obtain ⟨p1, hp1⟩ : ∃ q, p + 1 = q := ⟨_, rfl⟩
    obtain ⟨p2, hp2⟩ : ∃ q, p1 + n = q := ⟨_, rfl⟩
    obtain ⟨p9, hp9⟩ : ∃ q, p + 9 = q := ⟨_, rfl⟩
    obtain ⟨p10, hp10⟩ : ∃ q, p9 + n = q := ⟨_, rfl⟩
    have hpL : p10 ≤ 1000000000 := by have := HN.out; have := HP.out; omega
    have E1 : IntKind.i64.wrap ((p : Int) + 1) = (p1 : Int) := by rw [IntKind.wrap_i64]; omega
    have E2 : IntKind.i64.wrap ((p1 : Int) + (n : Int)) = (p2 : Int) := by rw [IntKind.wrap_i64]; omega
    have E3 : IntKind.i64.wrap ((p : Int) + 9) = (p9 : Int) := by rw [IntKind.wrap_i64]; omega
    have E4 : IntKind.i64.wrap ((p9 : Int) + (n : Int)) = (p10 : Int) := by rw [IntKind.wrap_i64]; omega
    have HE2 := Sh.mk (show (p2 : Int) = ((p1 + n : Nat) : Int) from by omega)
    have HE10 := Sh.mk (show (p10 : Int) = ((p2 + 8 : Nat) : Int) from by omega)
    have HPS := Sh.mk (And.intro hp1 (And.intro hp2 (And.intro hp9 hp10)))
    have hcut1 : p1 + n ≤ c0 := by have := HN.out; have := HC0.out; omega
    have hcut2 : p2 + 8 ≤ c0 := by have := HN.out; have := HC0.out; omega
    have hw1 : p1 + n ≤ L ∧ p2 + 8 ≤ L := by have := HN.out; omega
    clear hp1 hp2 hp9 hp10
    obtain ⟨S1, hS1⟩ : ∃ S, (if c0 = p1 then some ad else (some ad).map (·.add (p1 * 1))) = S := ⟨_, rfl⟩
    obtain ⟨S2, hS2⟩ : ∃ S, (if c0 = p2 then some ad else (some ad).map (·.add (p2 * 1))) = S := ⟨_, rfl⟩
    have hb1 := sub_bytes HBYR.out (by rw [HL.out]; exact HC0.out) p1 n hS1
    have hb2 := sub_bytes HBYR.out (by rw [HL.out]; exact HC0.out) p2 8 hS2
    have hl1 : (sub l0 p1 n).length = n := sub_len (by rw [HL.out]; omega)
    have hl2 : (sub l0 p2 8).length = 8 := sub_len (by rw [HL.out]; omega)
    obtain ⟨v8, hv8⟩ : ∃ v, wrap64 (numd (sub l0 p2 8)) = v := ⟨_, rfl⟩
    obtain ⟨s1, hs1⟩ : ∃ s, strOfNums (sub l0 p1 n) = s := ⟨_, rfl⟩
    have hcv : ∀ W, Below wr.heap.size wr W → Sem.run Try.prog (convert 38 9 (.slice S1 n (c0 - p1))) W = .ok (.string s1) W := fun W hW => by
      have := (hb1.below hW).str (by rw [hl1]; have := HN.out; omega) (c0 - p1)
      rw [hl1, hs1] at this
      exact this
    have hnum : ∀ W, Below wr.heap.size wr W → Calls Try.prog 31 #[.slice S2 8 (c0 - p2)] W fun e w' => e = .returned (.int .i64 v8) ∧ Below W.heap.size W w' := fun W hW => by
      have := rnum_call W S2 (c0 - p2) (sub l0 p2 8) (hb2.below hW) (by rw [hl2]; omega) (sub_byt HB0.out _ _) (by rw [hl2]; decide)
      rw [hl2, hv8] at this
      exact this
    clear hb1 hb2 hl1 hl2 hw1
    refine Mo.region 22 [0, 0, 2, 0, 8, 0, 56, 127, 255, 0, 0, 1024, 0, 7168, 0, 16384, 0, 114688, 261632, 523776, 1048575, 0, 4194303] (fun w' => Below wr.heap.size wr w') (fun _ u u' => Below u.heap.size u u') (fun _ _ => True) (PsiF wr.heap.size v8) (Below.refl _ _).drew (fun _ => trivial) (fun _ _ _ h k => h.trans (k.mono h.size)) (fun _ _ _ _ _ _ _ _ ht h => psiF_stays ht h) (fun _ _ _ _ _ _ _ _ _ => trivial) mixed (by kernel_rfl) ?_
    simp only [List.take_succ_cons, List.take_zero, List.drop_succ_cons, List.drop_zero]
    refine Mo.val (v := ?_) (fun _ => Below.refl _ _) (by rfl) (fun _ _ _ => ⟨fun h => (by cases h), fun h => (by cases h)⟩) ?_ ?_
    rotate_left
    · (intro w' hT hP hF; go_simp; with_reducible rfl)
    simp only [Act.put, List.setIfInBounds_toArray, List.set_cons_zero, List.set_cons_succ]
    refine Mo.val (v := ?_) (fun _ => Below.refl _ _) (by rfl) (fun _ _ _ => ⟨fun h => (by cases h), fun h => (by cases h)⟩) ?_ ?_
    rotate_left
    · (intro w' hT hP hF; go_simp; with_reducible rfl)
    simp only [Act.put, List.setIfInBounds_toArray, List.set_cons_zero, List.set_cons_succ]
    refine Mo.val (v := ?_) (fun _ => Below.refl _ _) (by rfl) (fun _ _ _ => ⟨fun h => (by cases h), fun h => (by cases h)⟩) ?_ ?_
    rotate_left
    · (intro w' hT hP hF; go_simp; with_reducible rfl)
    simp only [Act.put, List.setIfInBounds_toArray, List.set_cons_zero, List.set_cons_succ]
    refine Mo.val (v := ?_) (fun _ => Below.refl _ _) (by rfl) (fun _ _ _ => ⟨fun h => (by cases h), fun h => (by cases h)⟩) ?_ ?_
    rotate_left
    · (intro w' hT hP hF; go_simp; with_reducible rfl)
    simp only [Act.put, List.setIfInBounds_toArray, List.set_cons_zero, List.set_cons_succ]
    refine Mo.val (v := ?_) (fun _ => Below.refl _ _) (by rfl) (fun _ _ _ => ⟨fun h => (by cases h), fun h => (by cases h)⟩) ?_ ?_
    rotate_left
    · (intro w' hT hP hF; go_simp; with_reducible rfl)
    simp only [Act.put, List.setIfInBounds_toArray, List.set_cons_zero, List.set_cons_succ]
    refine Mo.val (v := ?_) (fun _ => Below.refl _ _) (by rfl) (fun _ _ _ => ⟨fun h => (by cases h), fun h => (by cases h)⟩) ?_ ?_
    rotate_left
    · (intro w' hT hP hF; go_simp; with_reducible rfl)
    simp only [Act.put, List.setIfInBounds_toArray, List.set_cons_zero, List.set_cons_succ]
    refine Mo.val (v := ?_) (fun _ => Below.refl _ _) (by rfl) (fun _ _ _ => ⟨fun h => (by cases h), fun h => (by cases h)⟩) ?_ ?_
    rotate_left
    · (intro w' hT hP hF; go_simp; with_reducible rfl)
    simp only [Act.put, List.setIfInBounds_toArray, List.set_cons_zero, List.set_cons_succ]
    refine Mo.val (v := .slice S1 n (c0 - p1)) (fun _ => Below.refl _ _) (by rfl) (fun _ _ _ => ⟨fun h => (by cases h), fun h => (by cases h)⟩) ?_ ?_
    · (intro w' hT hP hF; refine Rw.exec_cute 38 5 _ _ _ rfl Try.underlying38 1 (by kernel_rfl) (by rfl) (by rfl) ?_ hcut1 hS1; show Value.int .i64 _ = _; rw [← HE2.out])
    simp only [Act.put, List.setIfInBounds_toArray, List.set_cons_zero, List.set_cons_succ]
    refine Mo.val (v := ?_) (fun _ => Below.refl _ _) (by rfl) (fun _ _ _ => ⟨fun h => (by cases h), fun h => (by cases h)⟩) ?_ ?_
    rotate_left
    · (intro w' hT hP hF; have hcw := hcv w' hT; go_simp; with_reducible rfl)
    simp only [Act.put, List.setIfInBounds_toArray, List.set_cons_zero, List.set_cons_succ]
    refine Mo.val (v := ?_) (fun _ => Below.refl _ _) (by rfl) (fun _ _ _ => ⟨fun h => (by cases h), fun h => (by cases h)⟩) ?_ ?_
    rotate_left
    · (intro w' hT hP hF; go_simp; with_reducible rfl)
    simp only [Act.put, List.setIfInBounds_toArray, List.set_cons_zero, List.set_cons_succ]
    refine Mo.val (v := ?_) (fun _ => Below.refl _ _) (by rfl) (fun _ _ _ => ⟨fun h => (by cases h), fun h => (by cases h)⟩) ?_ ?_
    rotate_left
    · (intro w' hT hP hF; go_simp; with_reducible rfl)
    simp only [Act.put, List.setIfInBounds_toArray, List.set_cons_zero, List.set_cons_succ]
    refine Mo.val (v := ?_) (fun _ => Below.refl _ _) (by rfl) (fun _ _ _ => ⟨fun h => (by cases h), fun h => (by cases h)⟩) ?_ ?_
    rotate_left
    · (intro w' hT hP hF; go_simp; with_reducible rfl)
    simp only [Act.put, List.setIfInBounds_toArray, List.set_cons_zero, List.set_cons_succ]
    refine Mo.val (v := ?_) (fun _ => Below.refl _ _) (by rfl) (fun _ _ _ => ⟨fun h => (by cases h), fun h => (by cases h)⟩) ?_ ?_
    rotate_left
    · (intro w' hT hP hF; go_simp; with_reducible rfl)
    simp only [Act.put, List.setIfInBounds_toArray, List.set_cons_zero, List.set_cons_succ]
    refine Mo.val (v := ?_) (fun _ => Below.refl _ _) (by rfl) (fun _ _ _ => ⟨fun h => (by cases h), fun h => (by cases h)⟩) ?_ ?_
    rotate_left
    · (intro w' hT hP hF; go_simp; with_reducible rfl)
    simp only [Act.put, List.setIfInBounds_toArray, List.set_cons_zero, List.set_cons_succ]
    refine Mo.val (v := ?_) (fun _ => Below.refl _ _) (by rfl) (fun _ _ _ => ⟨fun h => (by cases h), fun h => (by cases h)⟩) ?_ ?_
    rotate_left
    · (intro w' hT hP hF; go_simp; with_reducible rfl)
    simp only [Act.put, List.setIfInBounds_toArray, List.set_cons_zero, List.set_cons_succ]
    refine Mo.val (v := ?_) (fun _ => Below.refl _ _) (by rfl) (fun _ _ _ => ⟨fun h => (by cases h), fun h => (by cases h)⟩) ?_ ?_
    rotate_left
    · (intro w' hT hP hF; go_simp; with_reducible rfl)
    simp only [Act.put, List.setIfInBounds_toArray, List.set_cons_zero, List.set_cons_succ]
    refine Mo.val (v := ?_) (fun _ => Below.refl _ _) (by rfl) (fun _ _ _ => ⟨fun h => (by cases h), fun h => (by cases h)⟩) ?_ ?_
    rotate_left
    · (intro w' hT hP hF; go_simp; with_reducible rfl)
    simp only [Act.put, List.setIfInBounds_toArray, List.set_cons_zero, List.set_cons_succ]
    refine Mo.val (v := ?_) (fun _ => Below.refl _ _) (by rfl) (fun _ _ _ => ⟨fun h => (by cases h), fun h => (by cases h)⟩) ?_ ?_
    rotate_left
    · (intro w' hT hP hF; go_simp; with_reducible rfl)
    simp only [Act.put, List.setIfInBounds_toArray, List.set_cons_zero, List.set_cons_succ]
    refine Mo.val (v := .slice S2 8 (c0 - p2)) (fun _ => Below.refl _ _) (by rfl) (fun _ _ _ => ⟨fun h => (by cases h), fun h => (by cases h)⟩) ?_ ?_
    · (intro w' hT hP hF; refine Rw.exec_cute 38 5 _ _ _ rfl Try.underlying38 1 (by kernel_rfl) (by rfl) (by rfl) ?_ hcut2 hS2; show Value.int .i64 _ = _; rw [← HE10.out])
    simp only [Act.put, List.setIfInBounds_toArray, List.set_cons_zero, List.set_cons_succ]
    refine Mo.any (by rfl) ?_ ?_
    · intro w' hT hP hF
      go_simp
      show Calls _ _ _ _ _
      refine (hnum w' hT).mono ?_
      rintro e w'' ⟨rfl, hb⟩
      exact ⟨_, rfl, hb, fun _ => rfl, fun h => by cases h⟩
    simp only [Act.put, List.setIfInBounds_toArray, List.set_cons_zero, List.set_cons_succ]
    rintro v49 ⟨_, _, hv49⟩
    obtain rfl := hv49.1 rfl
    clear hv49
    refine Mo.val (v := ?_) (fun _ => Below.refl _ _) (by rfl) (fun _ _ _ => ⟨fun h => (by cases h), fun h => (by cases h)⟩) ?_ ?_
    rotate_left
    · (intro w' hT hP hF; go_simp; with_reducible rfl)
    simp only [Act.put, List.setIfInBounds_toArray, List.set_cons_zero, List.set_cons_succ]
    refine Mo.any (by rfl) ?_ ?_
    · intro w' hT hP hF
      go_simp
      exact And.intro ((Below.refl _ _).alloc (Nat.le_refl _) _) (by unfold PsiF; exact ⟨fun h => (by cases h), fun _ => ⟨_, rfl, hT.size, heap_alloc_new _ _⟩⟩)
    simp only [Act.put, List.setIfInBounds_toArray, List.set_cons_zero, List.set_cons_succ]
    rintro v7 ⟨_, _, hv7⟩
    obtain ⟨b7, rfl, -, -⟩ := hv7.2 rfl
    clear hv7
    refine Mo.done ?_
    intro w2 hB2 hF2 _
    have hg2 : PsiF wr.heap.size v8 21 #[] (.pointer (some ⟨b7, 0, none⟩)) w2 := by
      have h := hF2 21
      rw [Mo.upd_same] at h
      exact h
    obtain ⟨b', hb', hb7, g7⟩ := hg2.2 rfl
    obtain rfl : b7 = b' := by simpa using hb'
    obtain ⟨w3, z1, -, z3, z4⟩ := Rw.put_row (P := Try.prog) (cs := [.string s1, .int .i64 v8, .string ⟨#[]⟩]) g7 rfl (by simp [Value.oneCell']) Try.underlying56 rfl sizeFl
    have HB3 := Sh.mk (show Below wr.heap.size wr w3 from hB2.trans (z3.below (B := wr.heap.size) hB2.size (fun k hk e => by omega)))
    have HZ3 := Sh.mk z4
    have HB7 := Sh.mk hb7
    have HV8 := Sh.mk (And.intro hv8 hs1)
    clear hF2 hg2 hb' hb7 g7 z3 z4 hB2 hnum hcv E1 E2 E3 E4 hcut1 hcut2 hS1 hS2 hpL hv8 hs1
    go_upto_region 9 with (((with_reducible refine Rw.at_store 7 50 ?_); refine Rw.wpList_put rfl 56 (.tmp 7) (.tmp 50) rfl rfl rfl z1 ?_))
    obtain ⟨q, hq⟩ : ∃ q, p10 + 4 = q := ⟨_, rfl⟩
    have hqe : q = p + 13 + n := by obtain ⟨h1, h2, h3, h4⟩ := HPS.out; omega
    have hqL : q ≤ L := by have := HN.out; omega
    have hQQ : wrap64 (wrap64 ((p : Int) + 13) + (n : Int)) = (q : Int) := by unfold wrap64; omega
    rw [hQQ]
    have E5 : Sh ((q : Int) - 4 = (p10 : Int)) := ⟨by omega⟩
    have E6 : Sh ((q : Int) = ((p10 + 4 : Nat) : Int)) := ⟨by omega⟩
    have hcut : p10 + 4 ≤ c0 := by have := HC0.out; omega
    obtain ⟨S3, hS3⟩ : ∃ S, (if c0 = p10 then some ad else (some ad).map (·.add (p10 * 1))) = S := ⟨_, rfl⟩
    have hb3 := (sub_bytes HBYR.out (by rw [HL.out]; exact HC0.out) p10 4 hS3).below HB3.out
    have hl3 : (sub l0 p10 4).length = 4 := sub_len (by rw [HL.out]; omega)
    obtain ⟨sz, hsz, hsb⟩ := numd_nat (sub_byt HB0.out p10 4) (k := 4) (by rw [hl3]; exact Nat.le_refl _)
    have hsz4 : sz ≤ 4294967295 := by rw [show (256 : Int) ^ 4 = 4294967296 by decide] at hsb; omega
    have hnum := rnum_call w3 S3 (c0 - p10) (sub l0 p10 4) hb3 (by rw [hl3]; omega) (sub_byt HB0.out _ _) (by rw [hl3]; decide)
    rw [hl3, hsz, show wrap64 (sz : Int) = (sz : Int) by unfold wrap64; omega] at hnum
    have HSZ := Sh.mk hsz
    have HQ := Sh.mk (And.intro hq hqe)
    have HQ0 := Sh.mk (show q ≤ 1000000000 from by omega)
    clear hQQ hb3 hl3 hsz hsb z1 hq hqe
    go_wp2_with ((with_reducible refine Rw.at_slot 59 ?_); rw [E5.out]; refine Rw.wpList_cute rfl 38 5 _ _ _ rfl Try.underlying38 1 (by kernel_rfl) rfl rfl (by show Value.int .i64 _ = _; rw [← E6.out]) hcut hS3 ?_)
    refine hnum.mono ?_
    rintro e w4 ⟨rfl, hb34⟩
    have HB4 := Sh.mk (HB3.out.trans (hb34.mono HB3.out.size))
    have g4 := (hb34.block b7 (lt_of_heap HZ3.out)).trans HZ3.out
    have HG4 := Sh.mk g4
    have hF := HF.out
    have hp10 : p + 9 + n = p10 := by obtain ⟨h1, h2, h3, h4⟩ := HPS.out; omega
    have hqq : p + 13 + n = q := HQ.out.2.symm
    rw [hp10, hqq, HSZ.out, Int.toNat_natCast] at hF
    clear hnum hb34 g4 hcut hS3 HF hp10 hqq
    by_cases c4 : L - q < sz
    · rw [if_pos c4] at hF
      obtain ⟨rfl, rfl⟩ : ([] : List S56) = r1 ∧ false = r2 := by simpa using hF
      have c4' : (L : Int) - (q : Int) < (sz : Int) := by omega
      clear c4 hF
      go_wp2_with fail
      go_ret2
      exact ⟨_, rfl, Kd.R_nil _ _ _ _ _, HB.out.trans (HB4.out.mono HB.out.size)⟩
    rw [if_neg c4] at hF
    have c4' : ¬ (L : Int) - (q : Int) < (sz : Int) := by omega
    have HF := Sh.mk hF
    obtain ⟨r, hr⟩ : ∃ r, q + sz = r := ⟨_, rfl⟩
    have hrL : r ≤ L := by omega
    have hq0 := HQ0.out
    have HE := Sh.mk (show (q : Int) + (sz : Int) = ((q + sz : Nat) : Int) from by omega)
    have hcut : q + sz ≤ c0 := by have := HC0.out; omega
    obtain ⟨S4, hS4⟩ : ∃ S, (if c0 = q then some ad else (some ad).map (·.add (q * 1))) = S := ⟨_, rfl⟩
    have hl4 : (sub l0 q sz).length = sz := sub_len (by rw [HL.out]; omega)
    have hcv := ((sub_bytes HBYR.out (by rw [HL.out]; exact HC0.out) q sz hS4).below HB4.out).str (by rw [hl4]; omega) (c0 - q)
    obtain ⟨s2, hs2⟩ : ∃ s, strOfNums (sub l0 q sz) = s := ⟨_, rfl⟩
    rw [hl4, hs2] at hcv
    have f0_ := Rw.blk_cell HG4.out 2
    have f1_ := Rw.blk_frozen HG4.out 2
    have HRR := Sh.mk (And.intro hr hrL)
    have HS2 := Sh.mk hs2
    clear hF c4 hr hrL hl4 hs2
    go_upto_region 13 with ((with_reducible refine Rw.at_slot 72 ?_); refine Rw.wpList_cute rfl 38 5 _ _ _ rfl Try.underlying38 1 (by kernel_rfl) rfl rfl (by show Value.int .i64 _ = _; rw [← HE.out]) hcut hS4 ?_)
    obtain ⟨w5, hw5⟩ : ∃ w', w4.setCell ⟨b7, 2, none⟩ (.string s2) = w' := ⟨_, rfl⟩
    have hs5 : Kept (fun k => k = b7) w4 w5 := by rw [← hw5]; exact (Kept.refl (fun k => k = b7) w4).setCell (p := ⟨b7, 2, none⟩) (.inr rfl) _
    have HG5 := Sh.mk (show w5.heap[b7]? = some (.cells #[.string s1, .int .i64 v8, .string s2] 56 (0, 0)) from by rw [← hw5]; exact (Rw.heap_set w4 b7 2 _ HG4.out).trans rfl)
    rw [hw5]
    have HBW5 := Sh.mk (show Below wr.heap.size wr w5 from HB4.out.trans (hs5.below (B := wr.heap.size) HB4.out.size (fun i hi e => by have := HB7.out; omega)))
    clear hw5 hs5 f0_ f1_ hcv hcut hS4 c4'
    go_upto_region 14 with (fail)
    have hE2 : (q : Int) + (sz : Int) = (r : Int) := by have := HRR.out.1; omega
    rw [hE2]
    have hld := run_loadAt_mid (P := Try.prog) w5 b7 0 56 [.string s1, .int .i64 v8, .string s2] _ (Rw.blk_range HG5.out) Try.underlying56 rfl sizeFl
    have HO5 := Sh.mk (Kd.R_below HO.out HBW5.out)
    have HB5 := Sh.mk (HB.out.trans (HBW5.out.mono HB.out.size))
    have hacc : (acc.length + 1) * 40 ≤ 140737488355328 := by have := HP.out; omega
    have hbase := HB5.out.size
    clear hE2 hsz4 hqL hq0 hlen
    go_wp2_with (first | ((with_reducible refine Rw.at_slot 79 ?_); refine Rw.wpList_get rfl 56 (.tmp 7) rfl rfl hld ?_) | ((with_reducible refine Rw.at_slot 81 ?_); refine Kd.R_append k56 (w0 := w) w.heap.size rfl _ _ 23 56 (.agg #[.string ⟨#[]⟩, .int .i64 0, .string ⟨#[]⟩]) 40 rfl Try.underlying23 info56 rfl (by decide) (by omega) u4 acc (⟨s1, v8, s2⟩ : S56) [.string s1, .int .i64 v8, .string s2] _ (fun _ => False) rfl rfl (k56_mkM _ _ _ (⟨s1, v8, s2⟩ : S56)) (fun _ hk => hk.elim) (fun k hk => trivial) HO5.out HB5.out hbase hacc ?_))
    intro v4 w6 hR6 hB6 _ _
    have HR6 := Sh.mk hR6
    have HB6 := Sh.mk hB6
    have HF2 := Sh.mk (show rloop k1 l0 r (acc ++ [⟨s1, v8, s2⟩]) = some (r1, r2) from by
      have h := HF.out
      have h1 : p + 1 = p1 := HPS.out.1
      have h2 : p1 + n = p2 := HPS.out.2.1
      rw [h1, h2, HV8.out.1, HV8.out.2, HS2.out, HRR.out.1] at h
      exact h)
    clear hR6 hB6 hld hacc hbase
    go_wp2_with fail
    go_roundg k1
    case measure => omega
    case rel => exact ⟨r, _, rfl, HF2, ⟨HRR.out.2, by
      have h1 := HP.out
      have h2 := HRR.out.1
      have h3 := HQ.out.2
      rw [List.length_append, List.length_singleton]
      omega⟩, HR6, HB6⟩
end Go.Proofs.Ytnemnhfdjofckaa.Co
namespace Go.Proofs.Ytnemnhfdjofckaa.Co
open Go Go.RowKit Go.Proofs.YtnemnhfdjofckaaW.PrintWords Go.Proofs.Ytnemnhfdjofckaa.Print
theorem tk_false (rest : List Int) (n : Int) : tk false rest n = (false, rest, [0]) := tk_bad (fun h => by cases h.1)
theorem drop_sub (rest : List Int) (a b : Nat) : (rest.drop a).drop b = rest.drop (a + b) := by rw [List.drop_drop]
theorem sub_at (rest : List Int) (a b n : Nat) (h : a = b) : (rest.drop a).take n = sub rest b n := by subst h; rfl
theorem sub_drop (l : List Int) (p a n : Nat) : sub (l.drop p) a n = sub l (p + a) n := by unfold sub; rw [drop_sub]
/-- The file of what is left, if all is there. -/
def gfile (rest : List Int) (n sz : Nat) : S56 := ⟨strOfNums (sub rest 1 n), wrap64 (numd (sub rest (1 + n) 8)), strOfNums (sub rest (13 + n) sz)⟩
theorem fstep_head {rest : List Int} {n : Nat} (hx : rest[0]? = some (n : Int)) : tk true rest ((1 : Nat) : Int) = (true, rest.drop 1, [(n : Int)]) := by
  rw [tk_good (List.getElem?_eq_some_iff.1 hx).1]
  congr 2
  rw [List.take_one, List.head?_eq_getElem?, hx]
  rfl
theorem fstep_good {rest : List Int} {n sz : Nat} (hx : rest[0]? = some (n : Int)) (h1 : 13 + n ≤ rest.length) (hz : numd (sub rest (9 + n) 4) = (sz : Int)) (h2 : 13 + n + sz ≤ rest.length) :
    fstep rest = (true, rest.drop (13 + n + sz), gfile rest n sz) := by
  have e1 := fstep_head hx
  have e2 : tk true (rest.drop 1) (n : Int) = (true, rest.drop (1 + n), sub rest 1 n) := by
    rw [tk_good (by rw [List.length_drop]; omega), drop_sub]
    rfl
  have e3 : tk true (rest.drop (1 + n)) ((8 : Nat) : Int) = (true, rest.drop (9 + n), sub rest (1 + n) 8) := by
    rw [tk_good (by rw [List.length_drop]; omega), drop_sub, show 1 + n + 8 = 9 + n by omega]
    rfl
  have e4 : tk true (rest.drop (9 + n)) ((4 : Nat) : Int) = (true, rest.drop (13 + n), sub rest (9 + n) 4) := by
    rw [tk_good (by rw [List.length_drop]; omega), drop_sub, show 9 + n + 4 = 13 + n by omega]
    rfl
  have e5 : tk true (rest.drop (13 + n)) (sz : Int) = (true, rest.drop (13 + n + sz), sub rest (13 + n) sz) := by
    rw [tk_good (by rw [List.length_drop]; omega), drop_sub]
    rfl
  unfold fstep
  simp only [e1, List.headD_cons, e2, e3, e4, hz, e5]
  rfl
theorem fstep_path {rest : List Int} {n : Nat} (hx : rest[0]? = some (n : Int)) (h1 : 1 + n ≤ rest.length) : (fstep rest).2.2.f0 = strOfNums (sub rest 1 n) := by
  have e1 := fstep_head hx
  have e2 : tk true (rest.drop 1) (n : Int) = (true, rest.drop (1 + n), sub rest 1 n) := by
    rw [tk_good (by rw [List.length_drop]; omega), drop_sub]
    rfl
  unfold fstep
  simp only [e1, List.headD_cons, e2]
theorem fstep_bad {rest : List Int} {n : Nat} (hx : rest[0]? = some (n : Int)) (h : rest.length < 13 + n ∨ ∃ sz : Nat, numd (sub rest (9 + n) 4) = (sz : Int) ∧ rest.length < 13 + n + sz) : (fstep rest).1 = false := by
  have e1 := fstep_head hx
  have h0 := (List.getElem?_eq_some_iff.1 hx).1
  by_cases c2 : 1 + n ≤ rest.length
  rotate_left
  · have e2 : tk true (rest.drop 1) (n : Int) = (false, rest.drop 1, [0]) := tk_bad (fun h => by have := h.2; rw [List.length_drop] at this; omega)
    unfold fstep
    simp only [e1, List.headD_cons, e2, tk_false]
  have e2 : tk true (rest.drop 1) (n : Int) = (true, rest.drop (1 + n), sub rest 1 n) := by
    rw [tk_good (by rw [List.length_drop]; omega), drop_sub]
    rfl
  by_cases c3 : 9 + n ≤ rest.length
  rotate_left
  · have e3 : tk true (rest.drop (1 + n)) ((8 : Nat) : Int) = (false, rest.drop (1 + n), [0]) := tk_bad (fun h => by have := h.2; rw [List.length_drop] at this; omega)
    unfold fstep
    simp only [e1, List.headD_cons, e2, e3, tk_false]
  have e3 : tk true (rest.drop (1 + n)) ((8 : Nat) : Int) = (true, rest.drop (9 + n), sub rest (1 + n) 8) := by
    rw [tk_good (by rw [List.length_drop]; omega), drop_sub, show 1 + n + 8 = 9 + n by omega]
    rfl
  by_cases c4 : 13 + n ≤ rest.length
  rotate_left
  · have e4 : tk true (rest.drop (9 + n)) ((4 : Nat) : Int) = (false, rest.drop (9 + n), [0]) := tk_bad (fun h => by have := h.2; rw [List.length_drop] at this; omega)
    unfold fstep
    simp only [e1, List.headD_cons, e2, e3, e4, tk_false]
  have e4 : tk true (rest.drop (9 + n)) ((4 : Nat) : Int) = (true, rest.drop (13 + n), sub rest (9 + n) 4) := by
    rw [tk_good (by rw [List.length_drop]; omega), drop_sub, show 9 + n + 4 = 13 + n by omega]
    rfl
  rcases h with h | ⟨sz, hz, h⟩
  · omega
  have e5 : tk true (rest.drop (13 + n)) (sz : Int) = (false, rest.drop (13 + n), [0]) := tk_bad (fun h => by have := h.2; rw [List.length_drop] at this; omega)
  unfold fstep
  simp only [e1, List.headD_cons, e2, e3, e4, hz, e5]
theorem fstep_len (rest : List Int) (h : 0 < rest.length) : (fstep rest).2.1.length < rest.length := by
  obtain ⟨x, hx⟩ : ∃ x, rest[0]? = some x := ⟨_, List.getElem?_eq_getElem h⟩
  have e1 : tk true rest ((1 : Nat) : Int) = (true, rest.drop 1, rest.take 1) := tk_good h
  have hl : ∀ ok r (m : Int), (tk ok r m).2.1.length ≤ r.length := fun ok r m => by
    unfold tk
    split
    · simp only [List.length_drop]; omega
    · exact Nat.le_refl _
  unfold fstep
  simp only [e1]
  refine Nat.lt_of_le_of_lt (Nat.le_trans (hl _ _ _) (Nat.le_trans (hl _ _ _) (Nat.le_trans (hl _ _ _) (hl _ _ _)))) ?_
  rw [List.length_drop]
  omega
theorem floop_total : ∀ (k : Nat) (ok : Bool) (rest : List Int) (acc : List S56), rest.length < k → ∃ F ok', floop k ok rest acc = some (acc ++ F, ok') ∧ (ok = false → ok' = false) := by
  intro k
  induction k with
  | zero => intro ok rest acc h; omega
  | succ k ih =>
    intro ok rest acc h
    unfold floop
    by_cases c : ok = true ∧ 0 < rest.length
    · rw [if_pos c]
      obtain ⟨F, ok', h1, h2⟩ := ih (fstep rest).1 (fstep rest).2.1 (acc ++ [(fstep rest).2.2]) (by have := fstep_len rest c.2; omega)
      exact ⟨(fstep rest).2.2 :: F, ok', by rw [h1, List.append_assoc]; rfl, fun e => by rw [e] at c; cases c.1⟩
    · rw [if_neg c]
      exact ⟨[], ok, by rw [List.append_nil], fun e => e⟩
theorem strOfNums_size (l : List Int) : (strOfNums l).size = l.length := by simp [strOfNums, ByteArray.size]
/-- Both readings of what is left: all right and alike; the program's fails, and the document's; or a path is too long, and the document's fails. -/
theorem both (l : List Int) (hl : Byt l) : ∀ (k p : Nat) (acc racc : List S56), p ≤ l.length → l.length - p < k →
    ∃ F ok R rok, floop k true (l.drop p) acc = some (acc ++ F, ok) ∧ rloop k l p racc = some (R, rok) ∧ ((ok = true ∧ rok = true ∧ R = racc ++ F) ∨ (ok = false ∧ rok = false) ∨ (rok = false ∧ ∃ f ∈ F, 32 < f.f0.size)) := by
  intro k
  induction k with
  | zero => intro p acc racc _ h; omega
  | succ k ih =>
    intro p acc racc hp hk
    have hlen : (l.drop p).length = l.length - p := List.length_drop ..
    by_cases c1 : l.length ≤ p
    · refine ⟨[], true, racc, true, ?_, ?_, .inl ⟨rfl, rfl, by rw [List.append_nil]⟩⟩
      · unfold floop
        rw [if_neg (fun h => by have := h.2; omega), List.append_nil]
      · unfold rloop
        rw [if_pos c1]
    obtain ⟨x, hx⟩ : ∃ x, l[p]? = some x := ⟨_, List.getElem?_eq_getElem (by omega)⟩
    have hx0 := hl x (List.mem_of_getElem? hx)
    obtain ⟨n, rfl⟩ : ∃ n : Nat, x = (n : Int) := ⟨x.toNat, by omega⟩
    have hxr : (l.drop p)[0]? = some (n : Int) := by rw [List.getElem?_drop]; simpa using hx
    have hgd : (l.getD p 0).toNat = n := by rw [List.getD_eq_getElem?_getD, hx]; rfl
    obtain ⟨sz, hsz, -⟩ := numd_nat (sub_byt hl (p + 9 + n) 4) (k := 4) (by unfold sub; rw [List.length_take]; omega)
    have hsz' : numd (sub (l.drop p) (9 + n) 4) = (sz : Int) := by rw [sub_drop, ← Nat.add_assoc]; exact hsz
    have hbad : (fstep (l.drop p)).1 = false → ∀ racc' , rloop (k + 1) l p racc' = some ([], false) → ∃ F ok R rok, floop (k + 1) true (l.drop p) acc = some (acc ++ F, ok) ∧ rloop (k + 1) l p racc' = some (R, rok) ∧ ((ok = true ∧ rok = true ∧ R = racc' ++ F) ∨ (ok = false ∧ rok = false) ∨ (rok = false ∧ ∃ f ∈ F, 32 < f.f0.size)) := fun hf racc' hr => by
      have hfl := fstep_len (l.drop p) (by omega)
      obtain ⟨F, ok', h1, h2⟩ := floop_total k (fstep (l.drop p)).1 (fstep (l.drop p)).2.1 (acc ++ [(fstep (l.drop p)).2.2]) (by omega)
      refine ⟨(fstep (l.drop p)).2.2 :: F, ok', [], false, ?_, hr, .inr (.inl ⟨h2 hf, rfl⟩)⟩
      rw [floop, if_pos ⟨rfl, by omega⟩, h1, List.append_assoc]
      rfl
    by_cases c2 : 32 < n
    · have hr : rloop (k + 1) l p racc = some ([], false) := by
        rw [rloop, if_neg c1, hgd, if_pos (.inl c2)]
      by_cases c3 : 1 + n ≤ (l.drop p).length
      · have hfl := fstep_len (l.drop p) (by omega)
        obtain ⟨F, ok', h1, h2⟩ := floop_total k (fstep (l.drop p)).1 (fstep (l.drop p)).2.1 (acc ++ [(fstep (l.drop p)).2.2]) (by omega)
        refine ⟨(fstep (l.drop p)).2.2 :: F, ok', [], false, ?_, hr, .inr (.inr ⟨rfl, _, List.mem_cons_self .., ?_⟩)⟩
        · rw [floop, if_pos ⟨rfl, by omega⟩, h1, List.append_assoc]
          rfl
        · rw [fstep_path hxr c3, strOfNums_size, sub_len (by omega)]
          exact c2
      · exact hbad (fstep_bad hxr (.inl (by omega))) racc hr
    by_cases c3 : l.length - p < 13 + n
    · exact hbad (fstep_bad hxr (.inl (by omega))) racc (by rw [rloop, if_neg c1, hgd, if_pos (.inr c3)])
    by_cases c4 : l.length - (p + 13 + n) < sz
    · exact hbad (fstep_bad hxr (.inr ⟨sz, hsz', by omega⟩)) racc (by rw [rloop, if_neg c1, hgd, if_neg (by omega), hsz, Int.toNat_natCast, if_pos c4])
    have hg := fstep_good hxr (by omega) hsz' (by omega)
    have hdd : (l.drop p).drop (13 + n + sz) = l.drop (p + 13 + n + sz) := by rw [drop_sub]; congr 1; omega
    have hgf : gfile (l.drop p) n sz = ⟨strOfNums (sub l (p + 1) n), wrap64 (numd (sub l (p + 1 + n) 8)), strOfNums (sub l (p + 13 + n) sz)⟩ := by
      unfold gfile
      rw [sub_drop, sub_drop, sub_drop, ← Nat.add_assoc, ← Nat.add_assoc]
    obtain ⟨F, ok, R, rok, h1, h2, h3⟩ := ih (p + 13 + n + sz) (acc ++ [gfile (l.drop p) n sz]) (racc ++ [gfile (l.drop p) n sz]) (by omega) (by omega)
    refine ⟨gfile (l.drop p) n sz :: F, ok, R, rok, ?_, ?_, ?_⟩
    · rw [floop, if_pos ⟨rfl, by omega⟩, hg, hdd, h1, List.append_assoc]
      rfl
    · rw [rloop, if_neg c1, hgd, if_neg (by omega), hsz, Int.toNat_natCast, if_neg c4, ← hgf, h2]
    · rcases h3 with ⟨e1, e2, e3⟩ | h3 | ⟨e1, f, hf, e2⟩
      · exact .inl ⟨e1, e2, by rw [e3, List.append_assoc]; rfl⟩
      · exact .inr (.inl h3)
      · exact .inr (.inr ⟨e1, f, List.mem_cons_of_mem _ hf, e2⟩)
end Go.Proofs.Ytnemnhfdjofckaa.Co
namespace Go.Proofs.Ytnemnhfdjofckaa.Co
open Go Go.RowKit Hp Go.Proofs.Ytnemnhfdjofckaa.Fr Go.Proofs.YtnemnhfdjofckaaW.PrintWords Go.Proofs.Ytnemnhfdjofckaa.Print
/-- Does a record fit, by its length? -/
def longd2 (M : Nat) (i n : Int) : Bool := M == 4012 || (decide (i = n - 1) && decide (M ≤ 4012) && (decide (n = 1) || decide (12 < M)))
/-- Does a record fit to the first one, as the i-th of n? -/
def fitd (r0 r : List Int) (i n : Int) : Bool :=
  decide (12 ≤ r.length) && ((strOfNums (r.take 8)).toList == (strOfNums (r0.take 8)).toList) && decide (numd (sub r 8 2) = i) && decide (numd (sub r 10 2) = n) && longd2 r.length i n
set_option maxHeartbeats 8000000 in
set_option maxRecDepth 100000 in
theorem fits_walk (w : World) (Ar0 Ar : Option Addr) (cr0 cr : Nat) (i n : Int) (r0 r : List Int) (hC0 : Kd.C (Kd.int .u8) w Ar0 r0.length r0) (hC : Kd.C (Kd.int .u8) w Ar r.length r) (hcr0 : r0.length ≤ cr0) (hcr : r.length ≤ cr) (hr0 : 8 ≤ r0.length) (hlr : r.length ≤ 1000000000)
    (hb : Byt r) (hi0 : 0 ≤ i) (hi1 : i ≤ 1000000000) (hn0 : 0 ≤ n) (hn1 : n ≤ 1000000000) :
    Calls Try.prog 29 #[.slice Ar0 r0.length cr0, .slice Ar r.length cr, .int .i64 i, .int .i64 n] w fun e w' => e = .returned (.bool (fitd r0 r i n)) ∧ Drawn0 w w' := by
  have mixed : Try.prog.follows Departure.mixedOrders = true := by kernel_rfl
  have hby := bytes_C hC
  have hby0 := bytes_C hC0
  obtain ⟨M, hM⟩ : ∃ M, r.length = M := ⟨_, rfl⟩
  obtain ⟨M0, hM0⟩ : ∃ M0, r0.length = M0 := ⟨_, rfl⟩
  obtain ⟨res, hres⟩ : ∃ b, fitd r0 r i n = b := ⟨_, rfl⟩
  rw [hM] at hcr hlr ⊢
  rw [hM0] at hcr0 hr0 ⊢
  rw [hres]
  have HM := Sh.mk hM
  have HM0 := Sh.mk hM0
  have HRES := Sh.mk hres
  have HBY := Sh.mk hby
  have HBY0 := Sh.mk hby0
  have HB := Sh.mk hb
  clear hC hC0 hb hM hM0 hres hby hby0
  have ui : IntKind.u64.wrap i = i := by rw [IntKind.wrap_u64]; omega
  have un : IntKind.u64.wrap n = n := by rw [IntKind.wrap_u64]; omega
  go_enter Try.func29, Try.ntmps29
  by_cases c1 : M < 12
  · obtain rfl : res = false := by rw [← HRES.out]; unfold fitd; rw [HM.out, decide_eq_false (by omega)]; rfl
    have c1' : decide ((M : Int) < 12) = true := decide_eq_true (by omega)
    have c1'' : (M : Int) < 12 := by omega
    clear c1 ui un
    go_upto_region 1 with (fail)
    go_quiet (fail)
    go_wp2_with fail
    go_ret
    exact ⟨rfl, ⟨nq, rfl⟩⟩
  have c1' : decide ((M : Int) < 12) = false := decide_eq_false (by omega)
  have c1'' : ¬ (M : Int) < 12 := by omega
  have hby := HBY.out
  obtain ⟨a, rfl, -⟩ := hby (by rw [HM.out]; omega)
  have hby0 := HBY0.out
  obtain ⟨a0, rfl, -⟩ := hby0 (by rw [HM0.out]; omega)
  clear hby hby0
  have hc8 : ¬ cr = 8 := by omega
  have hc10 : ¬ cr = 10 := by omega
  have hc0 : ¬ cr = 0 := by omega
  have hd0 : ¬ cr0 = 0 := by omega
  have k8 : (8 : Int) ≤ (cr : Int) := by omega
  have k10 : (10 : Int) ≤ (cr : Int) := by omega
  have k12 : (12 : Int) ≤ (cr : Int) := by omega
  have d8 : (8 : Int) ≤ (cr0 : Int) := by omega
  obtain ⟨b1, hb1⟩ : ∃ b, ((strOfNums (r.take 8)).toList == (strOfNums (r0.take 8)).toList) = b := ⟨_, rfl⟩
  have hbm : ∀ m, Below w.heap.size w (w.drewN m) := fun m => pw_below_drewN (Below.refl _ _) m
  have eqc : ∀ m, Calls Try.prog 38 #[.slice (some a) 8 cr, .slice (some a0) 8 cr0] (w.drewN m) fun e w' => e = .returned (.bool b1) ∧ ∃ j, w' = (w.drewN m).drewN j := fun m => by
    have l1 : (r.take 8).length = 8 := by rw [List.length_take, HM.out]; omega
    have l0 : (r0.take 8).length = 8 := by rw [List.length_take, HM0.out]; omega
    have := bytes_Equal.calls (some a) cr (r.take 8) (some a0) cr0 (r0.take 8) b1 (w.drewN m) (C8 (Bytes.take (HBY.out.below (hbm m)) 8) (by rw [l1]; decide)) (by rw [l1]; omega) (C8 (Bytes.take (HBY0.out.below (hbm m)) 8) (by rw [l0]; decide)) (by rw [l0]; omega) (by unfold bytes_Equal.f; rw [hb1])
    rw [l1, l0] at this
    exact this.mono (fun e w' ⟨k1, j, k2⟩ => ⟨k1, j, k2⟩)
  have nm : ∀ (p q : Nat) (S : Option Addr), p + q ≤ M → q ≤ 8 → (if cr = p then some a else (some a).map (·.add (p * 1))) = S → ∀ m, Calls Try.prog 28 #[.slice S q (cr - p)] (w.drewN m) fun e w' => e = .returned (.int .u64 (numd (sub r p q))) ∧ ∃ j, w' = (w.drewN m).drewN j := fun p q S h1 h2 h3 m => by
    have hl := sub_len (l := r) (p := p) (n := q) (by rw [HM.out]; exact h1)
    have := commits_number.calls _ S (cr - p) (sub r p q) _ (w.drewN m) (C8 (sub_bytes (HBY.out.below (hbm m)) (by rw [HM.out]; exact hcr) p q h3) (by rw [hl]; omega)) (by rw [hl]; omega) (number_f _ (sub_byt HB.out p q) (by rw [hl]; exact h2))
    rw [hl] at this
    exact this.mono (fun e w' ⟨k1, j, k2⟩ => ⟨k1, j, k2⟩)
  obtain ⟨v1, hv1⟩ : ∃ v, numd (sub r 8 2) = v := ⟨_, rfl⟩
  obtain ⟨v2, hv2⟩ : ∃ v, numd (sub r 10 2) = v := ⟨_, rfl⟩
  have n1 := nm 8 2 (some ⟨a.block, a.off + 8, none⟩) (by omega) (by decide) (by rw [if_neg hc8]; simp [Addr.add])
  have n2 := nm 10 2 (some ⟨a.block, a.off + 10, none⟩) (by omega) (by decide) (by rw [if_neg hc10]; simp [Addr.add])
  rw [hv1] at n1
  rw [hv2] at n2
  have hres : res = (b1 && decide (v1 = i) && decide (v2 = n) && longd2 M i n) := by
    rw [← HRES.out, ← hb1, ← hv1, ← hv2]
    unfold fitd
    rw [HM.out, decide_eq_true (show 12 ≤ M by omega), Bool.true_and]
  have HRS := Sh.mk hres
  have NE := Sh.mk eqc
  have N1 := Sh.mk n1
  have N2 := Sh.mk n2
  clear nm n1 n2 eqc hb1 hv1 hv2 hres hbm c1
  cases b1 with
  | false =>
    obtain rfl : res = false := by rw [HRS.out]; rfl
    go_upto_region 1 with (fail)
    go_quiet (with_reducible first | (go_at_call 38; exact Calls.quiet_of (NE.out _)) | (go_at_call 28; exact Calls.quiet_of (N1.out _)) | (go_at_call 28; exact Calls.quiet_of (N2.out _)))
    go_wp2_with fail
    go_ret
    exact ⟨rfl, ⟨nq, rfl⟩⟩
  | true =>
    by_cases g1 : v1 = i
    rotate_left
    · have g1b : (v1 == i) = false := by simpa using g1
      obtain rfl : res = false := by rw [HRS.out]; simp [g1]
      go_upto_region 1 with (fail)
      go_quiet (with_reducible first | (go_at_call 38; exact Calls.quiet_of (NE.out _)) | (go_at_call 28; exact Calls.quiet_of (N1.out _)) | (go_at_call 28; exact Calls.quiet_of (N2.out _)))
      go_wp2_with fail
      go_ret
      exact ⟨rfl, ⟨nq, rfl⟩⟩
    have g1b : (v1 == i) = true := by simpa using g1
    by_cases g2 : v2 = n
    rotate_left
    · have g2b : (v2 == n) = false := by simpa using g2
      obtain rfl : res = false := by rw [HRS.out]; simp [g2]
      go_upto_region 1 with (fail)
      go_quiet (with_reducible first | (go_at_call 38; exact Calls.quiet_of (NE.out _)) | (go_at_call 28; exact Calls.quiet_of (N1.out _)) | (go_at_call 28; exact Calls.quiet_of (N2.out _)))
      go_wp2_with fail
      go_ret
      exact ⟨rfl, ⟨nq, rfl⟩⟩
    have g2b : (v2 == n) = true := by simpa using g2
    obtain ⟨lo, hlo⟩ : ∃ b, longd2 M i n = b := ⟨_, rfl⟩
    obtain rfl : res = lo := by rw [HRS.out, hlo]; simp [g1, g2]
    have HLO := Sh.mk hlo
    clear hlo
    go_upto_region 1 with (fail)
    go_quiet (with_reducible first | (go_at_call 38; exact Calls.quiet_of (NE.out _)) | (go_at_call 28; exact Calls.quiet_of (N1.out _)) | (go_at_call 28; exact Calls.quiet_of (N2.out _)))
    generalize hwq : w.drewN nq = wq
    have HWQ := Sh.mk hwq
    clear hwq k8 k10 k12 d8 hc8 hc10 hc0 hd0 ui un g1b g2b g1 g2 c1'
    go_upto_region 4 with (fail)
    by_cases c2 : M = 4012
    · obtain rfl : res = true := by rw [← HLO.out, c2]; rfl
      have c2' : ((M : Int) - 12 == 4000) = true := by simp; omega
      clear c2
      go_wp2_with fail
      go_ret
      exact ⟨rfl, ⟨nq, HWQ.out.symm⟩⟩
    have c2' : ((M : Int) - 12 == 4000) = false := by simp; omega
    have hlo := HLO.out
    unfold longd2 at hlo
    rw [show (M == 4012) = false by simpa using c2, Bool.false_or] at hlo
    by_cases c3 : i = n - 1
    rotate_left
    · have c3' : (i == n - 1) = false := by simpa using c3
      obtain rfl : res = false := by rw [← hlo, decide_eq_false c3]; rfl
      clear c2 c3 hlo
      go_wp2_with fail
      go_ret
      exact ⟨rfl, ⟨nq, HWQ.out.symm⟩⟩
    have c3' : (i == n - 1) = true := by simpa using c3
    by_cases c4 : M ≤ 4012
    rotate_left
    · have c4' : decide ((M : Int) - 12 ≤ 4000) = false := decide_eq_false (by omega)
      have c4'' : ¬ (M : Int) - 12 ≤ 4000 := by omega
      obtain rfl : res = false := by rw [← hlo, decide_eq_false c4]; simp
      clear c2 c3 c4 hlo
      go_wp2_with fail
      go_ret
      exact ⟨rfl, ⟨nq, HWQ.out.symm⟩⟩
    have c4' : (M : Int) - 12 ≤ 4000 := by omega
    by_cases c5 : 12 < M
    · have c5' : (0 : Int) < (M : Int) - 12 := by omega
      obtain rfl : res = true := by rw [← hlo, decide_eq_true c3, decide_eq_true c4, decide_eq_true c5]; simp
      clear c2 c3 c4 c5 hlo
      go_wp2_with fail
      go_ret
      exact ⟨rfl, ⟨nq, HWQ.out.symm⟩⟩
    have c5' : ¬ (0 : Int) < (M : Int) - 12 := by omega
    have c5b : ¬ (12 : Int) < (M : Int) := by omega
    by_cases c6 : n = 1
    · have c6' : (n == 1) = true := by simpa using c6
      obtain rfl : res = true := by rw [← hlo, decide_eq_true c3, decide_eq_true c4, decide_eq_true c6]; simp
      clear c2 c3 c4 c5 c6 hlo
      go_wp2_with fail
      go_ret
      exact ⟨rfl, ⟨nq, HWQ.out.symm⟩⟩
    · have c6' : (n == 1) = false := by simpa using c6
      obtain rfl : res = false := by rw [← hlo, decide_eq_false c5, decide_eq_false c6]; simp
      clear c2 c3 c4 c5 c6 hlo
      go_wp2_with fail
      go_ret
      exact ⟨rfl, ⟨nq, HWQ.out.symm⟩⟩
end Go.Proofs.Ytnemnhfdjofckaa.Co
