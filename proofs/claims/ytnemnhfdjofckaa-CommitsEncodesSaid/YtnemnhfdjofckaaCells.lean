/- A whole struct in its block: stored, loaded, returned. -/
import Derived.Test.YtnemnhfdjofckaaMap
import Derived.Deep.MidRow
import Derived.Laws.ResultCell
import Derived.Laws.AppendOwn
namespace Go.Proofs.Ytnemnhfdjofckaa.Rw
open Go Go.RowKit Go.Proofs.Ytnemnhfdjofckaa.Hp
section
variable {P : Program}
theorem blk_cell {w : World} {b : Nat} {cs : Array Value} {t : TypeId} {fr : Nat × Nat} (h : w.heap[b]? = some (.cells cs t fr)) (j : Nat) : w.cell? ⟨b, j, none⟩ = cs[j]? := by
  unfold World.cell?
  simp [h]
theorem blk_frozen {w : World} {b : Nat} {cs : Array Value} {t : TypeId} (h : w.heap[b]? = some (.cells cs t (0, 0))) (j : Nat) : w.frozen? ⟨b, j, none⟩ = false := by
  unfold World.frozen?
  simp only [h]
  simp
theorem blk_there {w : World} {b : Nat} {old : Array Value} {t : TypeId} (h : w.heap[b]? = some (.cells old t (0, 0))) : w.there b 0 old.size := fun j hj => by
  rw [Nat.zero_add]
  exact ⟨by rw [blk_cell h j]; simp [hj], blk_frozen h j⟩
theorem blk_range {w : World} {b : Nat} {cs : List Value} {t : TypeId} (h : w.heap[b]? = some (.cells cs.toArray t (0, 0))) : w.rangeAt b 0 cs := fun j v hv => by
  rw [Nat.zero_add, blk_cell h j]
  simpa using hv
theorem kept_setCells (b : Nat) : ∀ (vs : List Value) (o : Nat) (w : World), Kept (fun i => i = b) w (w.setCells b o vs)
  | [], _, w => Kept.refl _ w
  | v :: r, o, w => ((Kept.refl (fun i => i = b) w).setCell (p := ⟨b, o, none⟩) (.inr rfl) v).trans (kept_setCells b r (o + 1) _) (fun _ _ e => e)
theorem heap_set (w : World) (b j : Nat) (v : Value) {cs : Array Value} {t : TypeId} {fr : Nat × Nat} (h : w.heap[b]? = some (.cells cs t fr)) : (w.setCell ⟨b, j, none⟩ v).heap[b]? = some (.cells (cs.setIfInBounds j v) t fr) := by
  have hb := lt_of_heap h
  have hb' := (Array.getElem?_eq_some_iff.1 h).2
  rw [Array.getElem?_eq_getElem (by simpa [World.setCell] using hb)]
  simp only [World.setCell, Array.getElem_modify, if_true]
  rw [hb']
  rfl
theorem heap_setCells (b : Nat) : ∀ (vs : List Value) (o : Nat) (w : World) {cs : Array Value} {t : TypeId} {fr : Nat × Nat}, w.heap[b]? = some (.cells cs t fr) → ∃ X, (w.setCells b o vs).heap[b]? = some (.cells X t fr) ∧ X.size = cs.size
  | [], _, _, cs, _, _, h => ⟨cs, h, rfl⟩
  | v :: r, o, w, cs, t, fr, h => by
    obtain ⟨X, h1, h2⟩ := heap_setCells b r (o + 1) _ (heap_set w b o v h)
    exact ⟨X, h1, h2.trans (by simp)⟩
/-- A whole struct is stored in its block. -/
theorem put_row {w : World} {b : Nat} {old : Array Value} {ty : TypeId} {cs : List Value} {d : TypeDesc} (h : w.heap[b]? = some (.cells old ty (0, 0))) (hs : old.size = cs.length) (h1 : ∀ v ∈ cs, v.oneCell' = true) (hu : P.underlying ty = some d) (hd : d.isRow = true) (hi : (P.info? ty).map (·.size) = some cs.length) :
    ∃ w', (Instr.storeAt ty (.pointer (some ⟨b, 0, none⟩)) (.agg cs.toArray)).run P w = .ok () w' ∧ (loadVar ty ⟨b, 0, none⟩).run P w' = .ok (.agg cs.toArray) w' ∧ Kept (fun i => i = b) w w' ∧ w'.heap[b]? = some (.cells cs.toArray ty (0, 0)) := by
  have ht : w.there b 0 cs.length := by rw [← hs]; exact blk_there h
  exact ⟨_, run_storeAt_mid w b 0 ty cs.toArray (by simpa using ht) (by simpa using hi) (all_oneCell_toArray h1), run_loadVar_mid _ b 0 ty cs d (World.rangeAt_setCells_same w b 0 cs ht) hu hd hi, kept_setCells b cs 0 w, by
    obtain ⟨X, h2, h3⟩ := heap_setCells b cs 0 w h
    have hX : X = cs.toArray := by
      apply Array.ext_getElem?
      intro j
      rcases Nat.lt_or_ge j cs.length with hj | hj
      · have h4 := World.rangeAt_setCells_same w b 0 cs ht j cs[j] (List.getElem?_eq_getElem hj)
        rw [Nat.zero_add, blk_cell h2 j] at h4
        rw [h4]
        simp [hj]
      · rw [Array.getElem?_eq_none (by omega), Array.getElem?_eq_none (by simpa using hj)]
    rw [h2, hX]⟩
theorem wpList_put {ops : Array Oper} {rest : List Oper} {op : Oper} {a : Act} {w w' : World} {Q : Exit → Act → World → Prop} (hgd : op.guard = none) (ty : TypeId) (x y : Operand) (ho : op.op = .store ty x y) {p v : Value} (hx : a.eval x = p) (hy : a.eval y = v)
    (hr : (Instr.storeAt ty p v).run P w = .ok () w') (h : wpList P ops Q rest (a.put op.dst undef) w') : wpList P ops Q (op :: rest) a w :=
  wpList_plain hgd fun K hK => by
    unfold Oper.wp execOp
    simp only [ho, hx, hy, hr, Sem.run_bind, Sem.run_pure, Result.andThen_ok]
    exact hK _ _ h
theorem wpList_get {ops : Array Oper} {rest : List Oper} {op : Oper} {a : Act} {w : World} {Q : Exit → Act → World → Prop} (hgd : op.guard = none) (ty : TypeId) (x : Operand) (ho : op.op = .load ty x) {p v : Value} (hx : a.eval x = p)
    (hr : (Instr.loadAt ty p).run P w = .ok v w) (h : wpList P ops Q rest (a.put op.dst v) w) : wpList P ops Q (op :: rest) a w :=
  wpList_plain hgd fun K hK => by
    unfold Oper.wp execOp
    simp only [ho, hx, hr, Sem.run_bind, Sem.run_pure, Result.andThen_ok]
    exact hK _ _ h
/-- An operation whose run is known. -/
theorem wpList_run {ops : Array Oper} {rest : List Oper} {op : Oper} {a : Act} {w w' : World} {v : Value} {Q : Exit → Act → World → Prop} (hgd : op.guard = none) (hr : (execOp a.eval op).run P w = .ok (.value v) w')
    (h : wpList P ops Q rest (a.put op.dst v) w') : wpList P ops Q (op :: rest) a w :=
  wpList_plain hgd fun K hK => by
    unfold Oper.wp
    rw [hr]
    exact hK _ _ h
theorem exec_put {o : Oper} {a : Act} {w w' : World} (ty : TypeId) (x y : Operand) (ho : o.op = .store ty x y) {p v : Value} (hx : a.eval x = p) (hy : a.eval y = v)
    (hr : (Instr.storeAt ty p v).run P w = .ok () w') : (execOp a.eval o).run P w = .ok .skip w' := by
  unfold execOp
  simp only [ho, hx, hy, hr, Sem.run_bind, Sem.run_pure, Result.andThen_ok]
/-- Guards: the operation is this store; it writes this slot. -/
theorem at_store {w : World} (x y : Nat) {ty : TypeId} {d : Option Tmp} {type : TypeId} {pos : String} {after : Array Edge} {guard : Option (Nat × Bool)} {ops : Array Oper} {rest : List Oper} {a : Act} {Q : Exit → Act → World → Prop}
    (h : wpList P ops Q (⟨d, .store ty (.tmp x) (.tmp y), type, pos, after, guard⟩ :: rest) a w) : wpList P ops Q (⟨d, .store ty (.tmp x) (.tmp y), type, pos, after, guard⟩ :: rest) a w := h
theorem at_slot {w : World} (d : Nat) {op : Op} {type : TypeId} {pos : String} {after : Array Edge} {guard : Option (Nat × Bool)} {ops : Array Oper} {rest : List Oper} {a : Act} {Q : Exit → Act → World → Prop}
    (h : wpList P ops Q (⟨some d, op, type, pos, after, guard⟩ :: rest) a w) : wpList P ops Q (⟨some d, op, type, pos, after, guard⟩ :: rest) a w := h
theorem ret_cell {fn : Func} {p u : Tmp} {ty : TypeId} (h : fn.results = #[.cell p ty, .tmp u]) {tmps : Array Value} {w : World} {ad : Addr} {v x : Value} (hp : tmps.getD p undef = .pointer (some ad)) (hu : tmps.getD u undef = x) (hl : (loadVar ty ad).run P w = .ok v w) :
    (results fn tmps).run P w = .ok (.tuple #[v, x]) w := by
  have ha : (asAddr (.pointer (some ad))).run P w = .ok ad w := rfl
  rw [results_cell_tmp h, hp, hu, ha]
  show ((loadVar ty ad).run P w).andThen _ = _
  rw [hl]
  rfl
end
end Go.Proofs.Ytnemnhfdjofckaa.Rw
