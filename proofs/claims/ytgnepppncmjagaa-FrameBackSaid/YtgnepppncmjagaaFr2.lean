/- A number of two bytes; frame.Asked. -/
import Derived.Test.YtgnepppncmjagaaFr1
import Derived.Test.YtgnepppncmjagaaDr
import Derived.Test.YtgnepppncmjagaaCells
import Derived.Test.YtgnepppncmjagaaPrintF35
import Derived.Test.YtgnepppncmjagaaPrintF31
namespace Go.Proofs.Ytgnepppncmjagaa.Fr
open Go Go.RowKit Hp Rd Go.Proofs.YtgnepppncmjagaaW.PrintWords Go.Proofs.YtgnepppncmjagaaW.PrintLast Go.Proofs.Ytgnepppncmjagaa.Print

def bytes (l : List Int) : Prop := ∀ x ∈ l, 0 ≤ x ∧ x ≤ 255
theorem num_or (a b : Int) (ha : 0 ≤ a ∧ a ≤ 255) (hb : 0 ≤ b ∧ b ≤ 255) : Go.bits .or .i64 (wrap64 ((wrap64 a) * 256)) (wrap64 b) = 256 * a + b := by
  have e1 : wrap64 a = a := by unfold wrap64; omega
  have e2 : wrap64 (a * 256) = a * 256 := by unfold wrap64; omega
  have e3 : wrap64 b = b := by unfold wrap64; omega
  rw [e1, e2, e3]
  have p8 : (2 : Int) ^ 8 = 256 := by decide
  have p32 : (2 : Int) ^ 32 = 4294967296 := by decide
  have h := bits_join .i64 32 (by decide) (fun n h0 h1 => by rw [IntKind.wrap_i64]; rw [p32] at h1; omega) 8 (a * 256) b (by omega) (by rw [p8]; omega) (by rw [p32]; omega) (by omega) (by rw [p8]; omega) (by rw [p32]; omega)
  omega
def num2 (o : List Int) : Int := 256 * o.getD 0 0 + o.getD 1 0
theorem number_ok {w : World} {A : Option Addr} {c : Nat} {o : List Int} (h : Bytes w A o) (hb : bytes o) (h2 : o.length = 2) (hc : o.length ≤ c) :
    Calls Try.prog 35 #[.slice A o.length c] w fun e w' => e = .returned (.int .i64 (num2 o)) ∧ Below w.heap.size w w' := by
  obtain ⟨x, y, rfl⟩ : ∃ x y, o = [x, y] := by
    match o, h2 with
    | [x, y], _ => exact ⟨x, y, rfl⟩
  have hx := hb x (by simp)
  have hy := hb y (by simp)
  refine (frame_number.calls A c [x, y] (num2 [x, y]) w (h.C (by simp)) hc ?_).mono ?_
  · unfold frame_number.f
    rw [if_pos (by simp), if_pos (by simp)]
    show some (Go.bits .or .i64 (wrap64 ((wrap64 x) * 256)) (wrap64 y)) = _
    rw [num_or x y hx hy]
    rfl
  · rintro e w' ⟨rfl, hd⟩
    exact ⟨rfl, hd.below⟩
/-- The paths of a request's body. -/
def fl : Nat → Bool → List Int → List (List Int) → Bool × List Int × List (List Int)
  | 0, ok, l, fs => (ok, l, fs)
  | k + 1, ok, l, fs => if ok = true then fl k (tkf (tkf ok l 1).1 (tkf ok l 1).2.2 ((tkf ok l 1).2.1.getD 0 0).toNat).1 (tkf (tkf ok l 1).1 (tkf ok l 1).2.2 ((tkf ok l 1).2.1.getD 0 0).toNat).2.2 (fs ++ [(tkf (tkf ok l 1).1 (tkf ok l 1).2.2 ((tkf ok l 1).2.1.getD 0 0).toNat).2.1]) else (ok, l, fs)
theorem fl_succ (k : Nat) (ok : Bool) (l : List Int) (fs : List (List Int)) : fl (k + 1) ok l fs = if ok = true then fl k (tkf (tkf ok l 1).1 (tkf ok l 1).2.2 ((tkf ok l 1).2.1.getD 0 0).toNat).1 (tkf (tkf ok l 1).1 (tkf ok l 1).2.2 ((tkf ok l 1).2.1.getD 0 0).toNat).2.2 (fs ++ [(tkf (tkf ok l 1).1 (tkf ok l 1).2.2 ((tkf ok l 1).2.1.getD 0 0).toNat).2.1]) else (ok, l, fs) := rfl
def askd2 (ok0 : Bool) (l : List Int) : Option (List Int × Int × List (List Int)) :=
  let s1 := tkf ok0 l 1
  let s2 := tkf s1.1 s1.2.2 2
  let s3 := tkf s2.1 s2.2.2 (num2 s2.2.1).toNat
  let s4 := tkf s3.1 s3.2.2 1
  let r := fl (s4.2.1.getD 0 0).toNat s4.1 s4.2.2 []
  if r.1 = false ∨ r.2.1.length > 0 ∨ s1.2.1.getD 0 0 > 7 then none else some (s3.2.1, s1.2.1.getD 0 0, r.2.2)
def zreq : Value := .agg #[.int .i64 0, .string ⟨#[]⟩, .bool false, .bool false, .bool false, .slice none 0 0]
def askd (id kind : Int) (l : List Int) : Option (List Int × Int × List (List Int)) := askd2 (decide (0 ≤ id ∧ id ≤ 65535 ∧ l.length ≤ 4096 ∧ kind = 1)) l
/-- Texts that can be read at an address. -/
def Strs (w : World) (A : Option Addr) (l : List ByteArray) : Prop := 0 < l.length → ∃ ad, A = some ad ∧ ∀ (j : Nat) (x : ByteArray), l[j]? = some x → w.cell? (ad.add j) = some (.string x)
/-- What a request is told as. -/
def ReqIs (id : Int) (r : Option (List Int × Int × List (List Int))) (e : Ending) (w' : World) : Prop :=
  match r with
  | none => e = .returned (.tuple #[zreq, .int .i64 231])
  | some (sc, b, fs) => ∃ A c, e = .returned (.tuple #[.agg #[.int .i64 id, .string (strOfNums sc), .bool (b % 2 == 1), .bool (b / 2 % 2 == 1), .bool (b / 4 == 1), .slice A fs.length c], .int .i64 0]) ∧ fs.length ≤ c ∧ Strs w' A (fs.map strOfNums)
theorem tkf_bytes {l : List Int} (h : bytes l) (ok : Bool) (n : Nat) : bytes (tkf ok l n).2.1 ∧ bytes (tkf ok l n).2.2 ∧ (tkf ok l n).2.1.length = (if (tkf ok l n).1 = true then n else 2) ∧ (tkf ok l n).2.2.length ≤ l.length := by
  unfold tkf
  split
  · exact ⟨fun x hx => h x (List.mem_of_mem_take hx), fun x hx => h x (List.mem_of_mem_drop hx), by simp; omega, by simp⟩
  · exact ⟨fun x hx => by simp at hx; omega, h, by simp, Nat.le_refl _⟩
theorem getD_byte {l : List Int} (h : bytes l) (j : Nat) : 0 ≤ l.getD j 0 ∧ l.getD j 0 ≤ 255 := by
  rw [List.getD_eq_getElem?_getD]
  cases hj : l[j]? with
  | none => exact ⟨by decide, by decide⟩
  | some x => exact h x (List.mem_of_getElem? hj)
theorem and_bits (b : Int) (h0 : 0 ≤ b) (h7 : b ≤ 7) : (Go.bits .and .u8 b 1 != 0) = (b % 2 == 1) ∧ (Go.bits .and .u8 b 2 != 0) = (b / 2 % 2 == 1) ∧ (Go.bits .and .u8 b 4 != 0) = (b / 4 == 1) := by
  obtain ⟨n, rfl⟩ := Int.eq_ofNat_of_zero_le h0
  have : ∀ n : Fin 8, (Go.bits .and .u8 ((n.val : Nat) : Int) 1 != 0) = (((n.val : Nat) : Int) % 2 == 1) ∧ (Go.bits .and .u8 ((n.val : Nat) : Int) 2 != 0) = (((n.val : Nat) : Int) / 2 % 2 == 1) ∧ (Go.bits .and .u8 ((n.val : Nat) : Int) 4 != 0) = (((n.val : Nat) : Int) / 4 == 1) := by decide +kernel
  exact this ⟨n, by omega⟩
abbrev FO (id kind : Int) (A0 : Option Addr) (n c : Nat) : Obj := .cells #[.int .i64 id, .int .i64 kind, .slice A0 n c] 28 (0, 0)
abbrev RO (id : Int) (s : ByteArray) (x y z : Bool) (v : Value) : Obj := .cells #[.int .i64 id, .string s, .bool x, .bool y, .bool z, v] 36 (0, 0)
theorem heap_set (w : World) (b j : Nat) (v : Value) {cs : Array Value} {t : TypeId} {fr : Nat × Nat} (h : w.heap[b]? = some (.cells cs t fr)) : (w.setCell ⟨b, j, none⟩ v).heap[b]? = some (.cells (cs.setIfInBounds j v) t fr) := by
  have hb := lt_of_heap h
  have hb' := (Array.getElem?_eq_some_iff.1 h).2
  rw [Array.getElem?_eq_getElem (by simpa [World.setCell] using hb)]
  simp only [World.setCell, Array.getElem_modify, if_true]
  rw [hb']
  rfl
theorem heap_ne (w : World) {b j k : Nat} (v : Value) (h : k ≠ b) : (w.setCell ⟨b, j, none⟩ v).heap[k]? = w.heap[k]? := Below.heap_setCell w ⟨b, j, none⟩ v k h
abbrev ZO : Obj := RO 0 ⟨#[]⟩ false false false (.slice none 0 0)
theorem alloc_old {w w' : World} {o : Obj} (h : w.alloc o = w') {k : Nat} {x : Obj} (hk : w.heap[k]? = some x) : w'.heap[k]? = some x := by
  rw [← h]
  exact (Below.heap_alloc _ _ _ (lt_of_heap hk)).trans hk
theorem below_old {w w' : World} (h : Below w.heap.size w w') {k : Nat} {x : Obj} (hk : w.heap[k]? = some x) : w'.heap[k]? = some x := (h.block k (lt_of_heap hk)).trans hk
theorem Bytes.head {w : World} {A : Option Addr} {x : Int} {r : List Int} (h : Bytes w A (x :: r)) : ∃ a, A = some a ∧ w.cell? a = some (.int .u8 x) := by
  obtain ⟨a, e, hc⟩ := h (by simp)
  exact ⟨a, e, hc 0 x rfl⟩
/-- A take, its outcome by letters. -/
theorem take_ok' {w : World} {B p q : Nat} {ok : Bool} {l : List Int} (h : Tk w B p q ok l) (n : Nat) (hl : l.length ≤ 1000000000) (hn : n ≤ 1000000000) {ok1 : Bool} {o1 l1 : List Int} (he : tkf ok l n = (ok1, o1, l1)) :
    Calls Try.prog 34 #[.int .i64 (n : Int), .pointer (some ⟨p, 0, none⟩), .pointer (some ⟨q, 0, none⟩)] w fun e w' => ∃ A c, e = .returned (.slice A o1.length c) ∧ o1.length ≤ c ∧ Bytes w' A o1 ∧ Tk w' B p q ok1 l1 ∧ Kept (fun i => i = p ∨ i = q) w w' := by
  refine (take_ok h n hl hn).mono ?_
  rw [he]
  rintro e w' ⟨A, c, h1, h2, h3, h5, h6⟩
  exact ⟨A, c, h1, h2, h3, h5, h6⟩
theorem tkf_some (ok : Bool) (l : List Int) (n : Nat) : ∃ ok1 o1 l1, tkf ok l n = (ok1, o1, l1) := ⟨_, _, _, rfl⟩
theorem tkf_facts {ok ok1 : Bool} {l o1 l1 : List Int} {n : Nat} (he : tkf ok l n = (ok1, o1, l1)) (h : bytes l) : bytes o1 ∧ bytes l1 ∧ o1.length = (if ok1 = true then n else 2) ∧ l1.length ≤ l.length := by
  have := tkf_bytes h ok n
  rw [he] at this
  exact this
theorem kept_old {S : Nat → Prop} {w w' : World} (k : Kept S w w') {i : Nat} {x : Obj} (hk : w.heap[i]? = some x) (hn : ¬ S i) : w'.heap[i]? = some x := k.heap hk hn
theorem own_kept {S : Nat → Prop} {w w' : World} {base : Nat} {e : TypeId} {size : Nat} {v : Value} {n : Nat} {xs : List Value} (h : w.ownsRow base e size v n xs) (k : Kept S w w') (hv : ∀ i, v.ownBlock = some i → ¬ S i) : w'.ownsRow base e size v n xs := by
  obtain ⟨h1, h2⟩ := h
  refine ⟨h1, ?_⟩
  rcases h2 with h2 | ⟨g, cap, cur, hv', hg, hh, r⟩
  · exact .inl h2
  · exact .inr ⟨g, cap, cur, hv', hg, k.heap hh (hv g (by rw [hv']; rfl)), r⟩
theorem exec_append {P : Program} {a : Act} {o : Oper} {w w' : World} {v u v' : Value} {s x : Operand} {t : TypeId} (ho : o.op = .call { callee := .builtin .append, args := #[s, x], argTypes := #[t, t] }) (hs : a.eval s = v) (hx : a.eval x = u)
    (hr : (Builtin.append_ #[t, t] o.type #[v, u]).run P w = .ok v' w') : (execOp a.eval o).run P w = .ok (.value v') w' := by
  unfold execOp
  simp only [ho, resolve, invoke, builtin, Sem.run_bind, Sem.run_pure, Result.andThen_ok, List.map_toArray, List.map_cons, List.map_nil, hs, hx, hr]
theorem own_succ {W : World} {base : Nat} {e : TypeId} {size : Nat} {v : Value} {k : Nat} {xs : List Value} (h : W.ownsRow base e size v (k + 1) xs) : ∃ g cap, v = .slice (some ⟨g, 0, none⟩) (k + 1) cap := by
  rcases h.2 with ⟨_, h2⟩ | ⟨g, cap, cur, hv, _⟩
  · omega
  · exact ⟨g, cap, hv⟩
theorem info_str : (Try.prog.info? 9).map (fun i => (i.zero, i.size, i.bytes)) = some (some (.string ⟨#[]⟩), 1, 16) := by kernel_rfl
theorem sizeReq : (Try.prog.info? 36).map (·.size) = some 6 := by kernel_rfl
def zrow : List Value := [.int .i64 0, .string ⟨#[]⟩, .bool false, .bool false, .bool false, .slice none 0 0]
set_option maxHeartbeats 4000000 in
set_option maxRecDepth 100000 in
theorem asked_ok {w : World} {A0 : Option Addr} {c0 : Nat} {l : List Int} (id kind : Int) (hB : Bytes w A0 l) (hbl : bytes l) (hc : l.length ≤ c0) (hA : 0 < l.length → ∀ ad, A0 = some ad → ad.block < w.heap.size) (hl : l.length ≤ 1000000000) :
    Calls Try.prog 18 #[.agg #[.int .i64 id, .int .i64 kind, .slice A0 l.length c0]] w fun e w' => ReqIs id (askd id kind l) e w' ∧ Below w.heap.size w w' := by
  have mixed : Try.prog.follows Departure.mixedOrders = true := by kernel_rfl
  obtain ⟨rb, hrb⟩ : ∃ rb, frame_Frame_right.f id kind l = some rb := by
    unfold frame_Frame_right.f
    repeat' split
    all_goals exact ⟨_, rfl⟩
  have hok0 : (rb && decide (kind = 1)) = decide (0 ≤ id ∧ id ≤ 65535 ∧ l.length ≤ 4096 ∧ kind = 1) := by
    unfold frame_Frame_right.f at hrb
    by_cases h1 : id ≥ 0
    · rw [if_pos h1] at hrb
      by_cases h2 : id ≤ 65535
      · rw [if_pos h2] at hrb
        by_cases h3 : kind ≥ 1
        · rw [if_pos h3] at hrb
          by_cases h4 : kind ≤ 4
          · rw [if_pos h4] at hrb
            cases hrb
            rw [Bool.eq_iff_iff, Bool.and_eq_true, decide_eq_true_eq, decide_eq_true_eq, decide_eq_true_eq]
            omega
          · rw [if_neg h4] at hrb
            cases hrb
            rw [Bool.eq_iff_iff, Bool.and_eq_true, decide_eq_true_eq, decide_eq_true_eq]
            constructor
            · rintro ⟨e, -⟩; cases e
            · omega
        · rw [if_neg h3] at hrb
          cases hrb
          rw [Bool.eq_iff_iff, Bool.and_eq_true, decide_eq_true_eq, decide_eq_true_eq]
          constructor
          · rintro ⟨e, -⟩; cases e
          · omega
      · rw [if_neg h2] at hrb
        cases hrb
        rw [Bool.eq_iff_iff, Bool.and_eq_true, decide_eq_true_eq, decide_eq_true_eq]
        constructor
        · rintro ⟨e, -⟩; cases e
        · omega
    · rw [if_neg h1] at hrb
      cases hrb
      rw [Bool.eq_iff_iff, Bool.and_eq_true, decide_eq_true_eq, decide_eq_true_eq]
      constructor
      · rintro ⟨e, -⟩; cases e
      · omega
  obtain ⟨r, hr⟩ : ∃ r, askd id kind l = r := ⟨_, rfl⟩
  rw [hr]
  unfold askd at hr
  rw [← hok0] at hr
  generalize hok : (rb && decide (kind = 1)) = ok0 at hr
  clear hok0
  have HR := Sh.mk hr
  clear hr
  go_enter Try.func18, Try.ntmps18
  obtain ⟨fb, hfb⟩ : ∃ fb, w.heap.size = fb := ⟨_, rfl⟩
  go_upto_region 1 with (fail)
  obtain ⟨wA, hwA⟩ : ∃ wA, ((w.alloc (.cells #[.int .i64 id, .int .i64 kind, .slice A0 l.length c0] 28)).alloc (.cells #[.int .i64 0, .string ⟨#[]⟩, .bool false, .bool false, .bool false, .slice none 0 0] 36)) = wA := ⟨_, rfl⟩
  have hb1 : wA.heap[fb]? = some (FO id kind A0 l.length c0) := by
    rw [← hwA, ← hfb]
    exact (Below.heap_alloc _ _ _ (by simp)).trans (heap_alloc_new w _)
  have hb2 : wA.heap[fb + 1]? = some ZO := by
    rw [← hwA, ← hfb]
    have := heap_alloc_new (w.alloc (.cells #[.int .i64 id, .int .i64 kind, .slice A0 l.length c0] 28)) (.cells #[.int .i64 0, .string ⟨#[]⟩, .bool false, .bool false, .bool false, .slice none 0 0] 36)
    rw [World.size_alloc] at this
    exact this
  have hBw : Below w.heap.size w wA := by rw [← hwA]; exact ((Below.refl _ _).alloc (Nat.le_refl _) _).alloc (by simp) _
  have hsA : wA.heap.size = fb + 2 := by rw [← hwA, ← hfb]; simp
  rw [hwA]
  clear hwA
  have HSA := Sh.mk hsA
  have HFB := Sh.mk hfb
  clear hsA
  go_cut [10, 11, 12, 13, 14, 15, 16, 4] (fun v10 v11 v12 v13 v14 v15 v16 v4 wx => ∃ p, v4 = .pointer (some ⟨p, 0, none⟩) ∧ Sh (fb + 2 ≤ p ∧ wx.heap[p]? = some (.cells #[.bool ok0] 4 (0, 0)) ∧ wx.heap[fb]? = some (FO id kind A0 l.length c0) ∧ wx.heap[fb + 1]? = some ZO ∧ Below w.heap.size w wx))
  case first =>
    have c0_ : wA.cell? ⟨fb, 0, none⟩ = some (.int .i64 id) := (blk_cell hb1 0).trans rfl
    have c1_ : wA.cell? ⟨fb, 1, none⟩ = some (.int .i64 kind) := (blk_cell hb1 1).trans rfl
    have c2_ : wA.cell? ⟨fb, 2, none⟩ = some (.slice A0 l.length c0) := (blk_cell hb1 2).trans rfl
    clear hfb
    go_wp2_with fail
    refine (frame_Frame_right.calls id kind A0 c0 l rb wA ((hB.below hBw).C (by omega)) hc hrb).mono ?_
    rintro e w1 ⟨rfl, hb⟩
    have hb1' := below_old hb hb1
    have hb2' := below_old hb hb2
    have d1_ : w1.cell? ⟨fb, 1, none⟩ = some (.int .i64 kind) := (blk_cell hb1' 1).trans rfl
    have hBw1 : Below w.heap.size w w1 := hBw.trans (hb.mono hBw.size)
    have hs1 := hb.size
    have fin : ∀ v, v = Value.bool ok0 → Sh (fb + 2 ≤ w1.heap.size ∧ (w1.alloc (.cells #[v] 4)).heap[w1.heap.size]? = some (.cells #[.bool ok0] 4 (0, 0)) ∧ (w1.alloc (.cells #[v] 4)).heap[fb]? = some (FO id kind A0 l.length c0) ∧ (w1.alloc (.cells #[v] 4)).heap[fb + 1]? = some ZO ∧ Below w.heap.size w (w1.alloc (.cells #[v] 4))) := fun v hv => by
      have := HSA.out
      subst hv
      exact ⟨by omega, heap_alloc_new _ _, (Below.heap_alloc _ _ _ (by omega)).trans hb1', (Below.heap_alloc _ _ _ (by omega)).trans hb2', hBw1.alloc hBw1.size _⟩
    clear c0_ c1_ c2_
    cases rb with
    | false =>
      go_wp2_with fail
      go_meet
      case rel => exact ⟨_, rfl, fin _ (by rw [← hok]; rfl)⟩
    | true =>
      by_cases hk : kind = 1
      · subst hk
        go_wp2_with fail
        go_meet
        case rel => exact ⟨_, rfl, fin _ (by rw [← hok]; rfl)⟩
      · have hk' : (kind == 1) = false := by simpa using hk
        go_wp2_with fail
        go_meet
        case rel => exact ⟨_, rfl, fin _ (by rw [← hok, decide_eq_false hk]; rfl)⟩
  case rest =>
    obtain ⟨p, rfl, ⟨hp, h4, h1, h2, hBc⟩⟩ := hcut
    have c2_ : wc.cell? ⟨fb, 2, none⟩ = some (.slice A0 l.length c0) := (blk_cell h1 2).trans rfl
    clear hBw hb1 hb2
    go_upto_region 4 with (fail)
    obtain ⟨q, hq⟩ : ∃ q, wc.heap.size = q := ⟨_, rfl⟩
    obtain ⟨w2, hw2⟩ : ∃ w2, wc.alloc (.cells #[.slice A0 l.length c0] 22) = w2 := ⟨_, rfl⟩
    have hpq : p < q := by rw [← hq]; exact lt_of_heap h4
    have hT : Tk w2 w.heap.size p q ok0 l := by
      have hbw2 : Below w.heap.size w w2 := by rw [← hw2]; exact hBc.alloc hBc.size _
      have e4 : w2.heap[p]? = some (.cells #[.bool ok0] 4 (0, 0)) := by rw [← hw2]; exact (Below.heap_alloc _ _ _ (by omega)).trans h4
      have e5 : w2.heap[q]? = some (.cells #[.slice A0 l.length c0] 22 (0, 0)) := by rw [← hw2, ← hq]; exact heap_alloc_new _ _
      have := HFB.out
      have := hBc.size
      exact ⟨(blk_cell e4 0).trans rfl, blk_frozen e4 0, ⟨A0, c0, (blk_cell e5 0).trans rfl, hc, hB.below hbw2, hA⟩, blk_frozen e5 0, by omega, by omega, by omega⟩
    have hK2 : Below w.heap.size w w2 := by rw [← hw2]; exact hBc.alloc hBc.size _
    have g1 := alloc_old hw2 h1
    have g2 := alloc_old hw2 h2
    have hs2 : w2.heap.size = q + 1 := by rw [← hw2, ← hq]; simp
    rw [hw2, hq]
    have HS2 := Sh.mk hs2
    have HPQ := Sh.mk hpq
    have HP := Sh.mk hp
    have HQ := Sh.mk (show fb + 2 ≤ q by omega)
    clear hw2 hq hs2 h1 h2 h4 c2_ hBc hpq hp hfb
    obtain ⟨ok1, o1, l1, e1⟩ := tkf_some ok0 l 1
    obtain ⟨bo1, bl1, lo1, ll1⟩ := tkf_facts e1 hbl
    obtain ⟨b, r1, rfl⟩ : ∃ b r1, o1 = b :: r1 := by
      cases o1 with
      | nil => cases ok1 <;> simp at lo1
      | cons b r1 => exact ⟨b, r1, rfl⟩
    have E1 := Sh.mk e1
    have LL1 := Sh.mk ll1
    clear lo1 ll1
    go_upto_region 5 with (fail)
    refine (take_ok' hT 1 hl (by omega) e1).mono ?_
    rintro e w3 ⟨A3, c3, rfl, hc3, hB3, hT3, hK3⟩
    obtain ⟨a3, rfl, hx3⟩ := hB3.head
    have g3 := kept_old hK3 g1 (by have := HP.out; have := HQ.out; omega)
    have g4 := kept_old hK3 g2 (by have := HP.out; have := HQ.out; omega)
    have hK03 := hK3.below (B := w.heap.size) hK2.size (fun i hi e => by have := HFB.out; have := HP.out; have := HQ.out; omega)
    have hBw3 := hK2.trans hK03
    have HS3 := Sh.mk hK3.size
    clear e1 hT g1 g2 hK03 hK3 hK2
    have q1 : 0 < (b :: r1).length := by simp
    have f0_ : w3.cell? ⟨fb, 0, none⟩ = some (.int .i64 id) := (blk_cell g3 0).trans rfl
    go_upto_region 6 with (fail)
    obtain ⟨x1, hx1⟩ : ∃ x, (bits BinOp.and IntKind.u8 b 1 != 0) = x := ⟨_, rfl⟩
    obtain ⟨x2, hx2⟩ : ∃ x, (bits BinOp.and IntKind.u8 b 2 != 0) = x := ⟨_, rfl⟩
    obtain ⟨x4, hx4⟩ : ∃ x, (bits BinOp.and IntKind.u8 b 4 != 0) = x := ⟨_, rfl⟩
    rw [hx1, hx2, hx4]
    have HX := Sh.mk (And.intro hx1 (And.intro hx2 hx4))
    obtain ⟨rb, hrb8⟩ : ∃ rb, w3.heap.size = rb := ⟨_, rfl⟩
    obtain ⟨w4, hw4⟩ : ∃ w4, w3.alloc (.cells #[.int .i64 id, .string ⟨#[]⟩, .bool x1, .bool x2, .bool x4, .slice none 0 0] 36) = w4 := ⟨_, rfl⟩
    have j1 := alloc_old hw4 g3
    have j2 := alloc_old hw4 g4
    have j3 : w4.heap[rb]? = some (RO id ⟨#[]⟩ x1 x2 x4 (.slice none 0 0)) := by rw [← hw4, ← hrb8]; exact heap_alloc_new _ _
    have hb34 : Below w3.heap.size w3 w4 := by rw [← hw4]; exact (Below.refl _ _).alloc (Nat.le_refl _) _
    have hT4 := hT3.kept (S := fun _ => False) (Kept.of_below hb34) (fun _ e => e.elim)
    have hBw4 := hBw3.trans (hb34.mono hBw3.size)
    have HRB := Sh.mk (show fb + 2 ≤ rb ∧ p < rb ∧ q < rb from by
      have := HS2.out; have := HPQ.out; have := HQ.out
      have := HS3.out
      omega)
    rw [hw4, hrb8]
    clear hw4 hrb8 hx1 hx2 hx4 hb34 hT3 hBw3 g3 g4 f0_ hx3 hB3
    obtain ⟨ok2, o2, l2, e2⟩ := tkf_some ok1 l1 2
    obtain ⟨bo2, bl2, lo2, ll2⟩ := tkf_facts e2 bl1
    obtain ⟨n2, hn2⟩ : ∃ n2 : Nat, num2 o2 = (n2 : Int) ∧ n2 ≤ 100000 := by
      have h1 := getD_byte bo2 0
      have h2 := getD_byte bo2 1
      refine ⟨(num2 o2).toNat, ?_, ?_⟩ <;> unfold num2 <;> omega
    have lo2' : o2.length = 2 := by cases ok2 <;> simpa using lo2
    obtain ⟨ok3, o3, l3, e3⟩ := tkf_some ok2 l2 n2
    obtain ⟨bo3, bl3, lo3, ll3⟩ := tkf_facts e3 bl2
    have LO3 := Sh.mk lo3
    have LL2 := Sh.mk ll2
    have LL3 := Sh.mk ll3
    have E2 := Sh.mk e2
    have E3 := Sh.mk e3
    have N2 := Sh.mk hn2
    have LO2 := Sh.mk lo2'
    clear lo2 lo3 ll2 ll3 lo2'
    go_wp2_with fail
    refine (take_ok' hT4 2 (by have := LL1.out; omega) (by omega) e2).mono ?_
    rintro e w5 ⟨A5, c5, rfl, hc5, hB5, hT5, hK5⟩
    have K1 := kept_old hK5 j1 (by have := HP.out; have := HQ.out; omega)
    have K2 := kept_old hK5 j2 (by have := HP.out; have := HQ.out; omega)
    have K3 := kept_old hK5 j3 (by have := HRB.out; omega)
    have hBw5 := hBw4.trans (hK5.below (B := w.heap.size) hBw4.size (fun i hi e => by have := HFB.out; have := HP.out; have := HQ.out; omega))
    clear hT4 hK5 hBw4 j1 j2 j3
    go_wp2_with fail
    refine (number_ok hB5 bo2 LO2.out hc5).mono ?_
    rintro e w6 ⟨rfl, hb6⟩
    rw [hn2.1]
    have M1 := below_old hb6 K1
    have M2 := below_old hb6 K2
    have M3 := below_old hb6 K3
    have hT6 := hT5.kept (S := fun _ => False) (Kept.of_below hb6) (fun _ e => e.elim)
    have hBw6 := hBw5.trans (hb6.mono hBw5.size)
    clear hT5 K1 K2 K3 hBw5 hB5 hc5
    go_wp2_with fail
    refine (take_ok' hT6 n2 (by have := LL1.out; have := LL2.out; omega) (by omega) e3).mono ?_
    rintro e w7 ⟨A7, c7, rfl, hc7, hB7, hT7, hK7⟩
    have K1 := kept_old hK7 M1 (by have := HP.out; have := HQ.out; omega)
    have K2 := kept_old hK7 M2 (by have := HP.out; have := HQ.out; omega)
    have K3 := kept_old hK7 M3 (by have := HRB.out; omega)
    have hBw7 := hBw6.trans (hK7.below (B := w.heap.size) hBw6.size (fun i hi e => by have := HFB.out; have := HP.out; have := HQ.out; omega))
    clear hT6 hK7 hBw6 M1 M2 M3 hn2 hc7
    have hcv := hB7.str (by have h_ := LO3.out; have := N2.out.2; split at h_ <;> omega) c7
    have f1_ : w7.cell? ⟨rb, 1, none⟩ = some (.string ⟨#[]⟩) := (blk_cell K3 1).trans rfl
    have f2_ := blk_frozen K3 1
    go_upto_region 7 with (fail)
    obtain ⟨sc, hsc⟩ : ∃ sc, strOfNums o3 = sc := ⟨_, rfl⟩
    rw [hsc]
    have HSC := Sh.mk hsc
    obtain ⟨w8, hw8⟩ : ∃ w8, w7.setCell ⟨rb, 1, none⟩ (.string sc) = w8 := ⟨_, rfl⟩
    have hK8 : Kept (fun i => i = rb) w7 w8 := by rw [← hw8]; exact (Kept.refl (fun i => i = rb) w7).setCell (p := ⟨rb, 1, none⟩) (.inr rfl) _
    have j1 := kept_old hK8 K1 (by have := HRB.out; omega)
    have j2 := kept_old hK8 K2 (by have := HRB.out; omega)
    have j3 : w8.heap[rb]? = some (RO id sc x1 x2 x4 (.slice none 0 0)) := by rw [← hw8]; exact heap_set w7 rb 1 _ K3
    have hT8 := hT7.kept hK8 (fun i hi => by have := HRB.out; have := HFB.out; omega)
    have hBw8 := hBw7.trans (hK8.below (B := w.heap.size) hBw7.size (fun i hi e => by have := HFB.out; have := HRB.out; omega))
    rw [hw8]
    clear hw8 hK8 K1 K2 K3 hT7 hBw7 f1_ f2_ hcv hsc hB7
    obtain ⟨ok4, o4, l4, e4⟩ := tkf_some ok3 l3 1
    obtain ⟨bo4, bl4, lo4, ll4⟩ := tkf_facts e4 bl3
    obtain ⟨n4, r4, rfl⟩ : ∃ b r1, o4 = b :: r1 := by
      cases o4 with
      | nil => cases ok4 <;> simp at lo4
      | cons b r1 => exact ⟨b, r1, rfl⟩
    obtain ⟨m4, rfl⟩ := Int.eq_ofNat_of_zero_le (bo4 n4 (by simp)).1
    have hm4 := (bo4 (m4 : Int) (by simp)).2
    have E4 := Sh.mk e4
    have LL4 := Sh.mk ll4
    clear ll4 lo4
    go_wp2_with fail
    refine (take_ok' hT8 1 (by have := LL1.out; have := LL2.out; have := LL3.out; omega) (by omega) e4).mono ?_
    rintro e w9 ⟨A9, c9, rfl, hc9, hB9, hT9, hK9⟩
    obtain ⟨a9, rfl, hx9⟩ := hB9.head
    have K1 := kept_old hK9 j1 (by have := HP.out; have := HQ.out; omega)
    have K2 := kept_old hK9 j2 (by have := HP.out; have := HQ.out; omega)
    have K3 := kept_old hK9 j3 (by have := HRB.out; omega)
    have hBw9 := hBw8.trans (hK9.below (B := w.heap.size) hBw8.size (fun i hi e => by have := HFB.out; have := HP.out; have := HQ.out; omega))
    have q4 : 0 < ((m4 : Int) :: r4).length := by simp
    have w4_ : wrap64 (m4 : Int) = (m4 : Int) := by unfold wrap64; omega
    clear hT8 hK9 hBw8 j1 j2 j3 e4
    go_upto_block 0 with (fail)
    obtain ⟨bs, hbs⟩ : ∃ bs, w9.heap.size = bs := ⟨_, rfl⟩
    have HBS := Sh.mk (show rb < bs from by rw [← hbs]; exact lt_of_heap K3)
    have HM := Sh.mk hm4
    have HWS := Sh.mk hbs
    clear hbs hm4 hx9 hB9
    go_cut [9] (fun v9 wx => ∃ okf lf fs fv, Sh (fl m4 ok4 l4 [] = (okf, lf, fs) ∧ Tk wx w.heap.size p q okf lf ∧ wx.heap[rb]? = some (RO id sc x1 x2 x4 fv) ∧ wx.ownsRow bs 9 1 fv fs.length (fs.map fun x => .string (strOfNums x)) ∧ Kept (fun i => i = p ∨ i = q ∨ i = rb) w9 wx))
    case first =>
      go_wp2_with fail
      go_loopg [9] m4 (fun kq v9 w' => v9 = .int .i64 (kq : Int) ∧ ∃ okk lk fs fv, Sh (fl m4 ok4 l4 [] = fl kq okk lk fs ∧ Tk w' w.heap.size p q okk lk ∧ bytes lk ∧ lk.length ≤ l.length ∧ fs.length + kq ≤ m4 ∧ w'.heap[rb]? = some (RO id sc x1 x2 x4 fv) ∧ w'.ownsRow bs 9 1 fv fs.length (fs.map fun x => .string (strOfNums x)) ∧ Kept (fun i => i = p ∨ i = q ∨ i = rb) w9 w'))
      case atStart => exact ⟨rfl, ok4, l4, [], .slice none 0 0, ⟨rfl, hT9, bl4, by have := LL1.out; have := LL2.out; have := LL3.out; have := LL4.out; omega, by simp, K3, World.ownsRow_nil _ _ _ _, Kept.refl _ _⟩⟩
      case round =>
        obtain ⟨rfl, okk, lk, fs, fv, ⟨hfl, hTk, hblk, hllk, hcnt, hRO, hOw, hKw⟩⟩ := hrel
        have hokc := hTk.okc
        cases okk with
        | false =>
          go_wp2_with fail
          go_meet
          case rel => exact ⟨false, lk, fs, fv, ⟨by rw [hfl]; cases gk <;> rfl, hTk, hRO, hOw, hKw⟩⟩
        | true =>
          cases gk with
          | zero =>
            have k9_ : ¬ ((0 : Int) < ((0 : Nat) : Int)) := by omega
            go_wp2_with fail
            go_meet
            case rel => exact ⟨true, lk, fs, fv, ⟨by rw [hfl]; rfl, hTk, hRO, hOw, hKw⟩⟩
          | succ g1_ =>
            have k9_ : (0 : Int) < ((g1_ + 1 : Nat) : Int) := by omega
            obtain ⟨i9, hi9⟩ : ∃ i9 : Int, ((g1_ + 1 : Nat) : Int) = i9 := ⟨_, rfl⟩
            rw [hi9] at k9_ ⊢
            have HI := Sh.mk hi9
            clear hi9
            go_upto_region 10 with (fail)
            obtain ⟨ok5, o5, l5, e5⟩ := tkf_some true lk 1
            obtain ⟨bo5, bl5, lo5, ll5⟩ := tkf_facts e5 hblk
            obtain ⟨n5, r5, rfl⟩ : ∃ b r1, o5 = b :: r1 := by
              cases o5 with
              | nil => cases ok5 <;> simp at lo5
              | cons b r1 => exact ⟨b, r1, rfl⟩
            obtain ⟨m5, rfl⟩ := Int.eq_ofNat_of_zero_le (bo5 n5 (by simp)).1
            have hm5 := (bo5 (m5 : Int) (by simp)).2
            obtain ⟨ok6, o6, l6, e6⟩ := tkf_some ok5 l5 m5
            obtain ⟨bo6, bl6, lo6, ll6⟩ := tkf_facts e6 bl5
            have lo6' : o6.length ≤ 255 := by split at lo6 <;> omega
            have w5_ : wrap64 (m5 : Int) = (m5 : Int) := by unfold wrap64; omega
            have q5 : 0 < ((m5 : Int) :: r5).length := by simp
            have hfl' : fl (g1_ + 1) true lk fs = fl g1_ ok6 l6 (fs ++ [o6]) := by
              rw [fl_succ, if_pos rfl, e5]
              simp only [List.getD_cons_zero, Int.toNat_natCast]
              rw [e6]
            have FL := Sh.mk (hfl.trans hfl')
            have LO6 := Sh.mk lo6'
            have LLS := Sh.mk (show l6.length ≤ l.length from by omega)
            have M5 := Sh.mk hm5
            clear hfl hfl' lo5 lo6 lo6' hm5
            have hKd : Kept (fun _ => False) wr wr.drew := (Kept.refl _ wr).drew
            have tT := hTk.kept hKd (fun _ e => e.elim)
            have tR := kept_old hKd hRO (fun e => e)
            have tO : wr.drew.ownsRow bs 9 1 fv fs.length (fs.map fun x => .string (strOfNums x)) := hOw
            have tK := hKw.drew
            refine start_ (n := 14) (S := fun w' => w'.cell? ⟨rb, 5, none⟩ = some fv) (ds := [13]) #[false, false, false, false, false, false, false, false, false, false, false, false, false, false] (by kernel_rfl) rfl rfl ((blk_cell tR 5).trans rfl) (fun hHeld => ?_)
            generalize wr.drew = wd at tT tR tO tK hHeld ⊢
            clear hKd hTk hRO hOw hKw
            refine pure_ (i := 0) (N := some 55) (v := ?_) (a' := ?_) #[true, false, false, false, false, false, false, false, false, false, false, false, false, false] rfl rfl (by kernel_rfl) (fun _ _ _ h => h) (Or.inl ⟨by rfl, ?_⟩) ?_ ?_
            rotate_left
            · intro w'
              go_simp
              with_reducible rfl
            rotate_left
            · simp only [Act.put, List.setIfInBounds_toArray, List.set_cons_zero, List.set_cons_succ]
              rfl
            refine take_ (i := 1) (N := some 56) (v := ?_) (a' := ?_) #[true, true, false, false, false, false, false, false, false, false, false, false, false, false] rfl rfl (by kernel_rfl) (fun _ _ _ h => h) (Or.inl ⟨by rfl, ?_⟩) hHeld ?_ ?_
            rotate_left
            · rintro w' s0
              go_simp
              with_reducible rfl
            rotate_left
            · simp only [Act.put, List.setIfInBounds_toArray, List.set_cons_zero, List.set_cons_succ]
              rfl
            refine pure_ (i := 2) (N := some 57) (v := ?_) (a' := ?_) #[true, true, true, false, false, false, false, false, false, false, false, false, false, false] rfl rfl (by kernel_rfl) (fun _ _ _ h => h) (Or.inl ⟨by rfl, ?_⟩) ?_ ?_
            rotate_left
            · intro w'
              go_simp
              with_reducible rfl
            rotate_left
            · simp only [Act.put, List.setIfInBounds_toArray, List.set_cons_zero, List.set_cons_succ]
              rfl
            refine pure_ (i := 3) (N := some 58) (v := ?_) (a' := ?_) #[true, true, true, true, false, false, false, false, false, false, false, false, false, false] rfl rfl (by kernel_rfl) (fun _ _ _ h => h) (Or.inl ⟨by rfl, ?_⟩) ?_ ?_
            rotate_left
            · intro w'
              go_simp
              with_reducible rfl
            rotate_left
            · simp only [Act.put, List.setIfInBounds_toArray, List.set_cons_zero, List.set_cons_succ]
              rfl
            refine one_call (i := 4) (N := some 59) 34 #[.int .i64 ((1 : Nat) : Int), .pointer (some ⟨p, 0, none⟩), .pointer (some ⟨q, 0, none⟩)] #[true, true, true, true, true, false, false, false, false, false, false, false, false, false] rfl rfl (by kernel_rfl) (by decide) (by rfl) (by go_simp) ?_
            refine (take_ok' tT 1 (by omega) (by omega) e5).mono ?_
            rintro e wa ⟨A5, c5, rfl, hc5, hB5, hT5, hK5⟩
            obtain ⟨a5, rfl, hx5⟩ := hB5.head
            have tR5 := kept_old hK5 tR (by have := HRB.out; omega)
            refine ⟨_, rfl, (blk_cell tR5 5).trans rfl, ?_⟩
            simp only [Act.put, List.setIfInBounds_toArray, List.set_cons_zero, List.set_cons_succ]
            refine pure_ (i := 5) (N := some 60) (v := ?_) (a' := ?_) #[true, true, true, true, true, true, false, false, false, false, false, false, false, false] rfl rfl (by kernel_rfl) (fun _ _ _ h => h) (Or.inl ⟨by rfl, ?_⟩) ?_ ?_
            rotate_left
            · intro w'
              go_simp
              with_reducible rfl
            rotate_left
            · simp only [Act.put, List.setIfInBounds_toArray, List.set_cons_zero, List.set_cons_succ]
              rfl
            refine one_val (i := 6) (N := some 61) (v := .int .u8 (m5 : Int)) (w' := wa) (a' := ?_) #[true, true, true, true, true, true, true, false, false, false, false, false, false, false] rfl rfl (by kernel_rfl) (by decide) (by rfl) (by go_simp) ((blk_cell tR5 5).trans rfl) ?_ ?_
            rotate_left
            · simp only [Act.put, List.setIfInBounds_toArray, List.set_cons_zero, List.set_cons_succ]
              rfl
            refine pure_ (i := 7) (N := some 62) (v := ?_) (a' := ?_) #[true, true, true, true, true, true, true, true, false, false, false, false, false, false] rfl rfl (by kernel_rfl) (fun _ _ _ h => h) (Or.inl ⟨by rfl, ?_⟩) ?_ ?_
            rotate_left
            · intro w'
              go_simp
              with_reducible rfl
            rotate_left
            · simp only [Act.put, List.setIfInBounds_toArray, List.set_cons_zero, List.set_cons_succ]
              rfl
            refine one_call (i := 8) (N := some 63) 34 #[.int .i64 (IntKind.i64.wrap (m5 : Int)), .pointer (some ⟨p, 0, none⟩), .pointer (some ⟨q, 0, none⟩)] #[true, true, true, true, true, true, true, true, true, false, false, false, false, false] rfl rfl (by kernel_rfl) (by decide) (by rfl) (by go_simp) ?_
            rw [show IntKind.i64.wrap (m5 : Int) = (m5 : Int) by rw [IntKind.wrap_i64]; have := M5.out; omega]
            refine (take_ok' hT5 m5 (by omega) (by have := M5.out; omega) e6).mono ?_
            rintro e wb ⟨A6, c6, rfl, hc6, hB6, hT6, hK6⟩
            have tR6 := kept_old hK6 tR5 (by have := HRB.out; omega)
            refine ⟨_, rfl, (blk_cell tR6 5).trans rfl, ?_⟩
            simp only [Act.put, List.setIfInBounds_toArray, List.set_cons_zero, List.set_cons_succ]
            have hcv := hB6.str (by have := LO6.out; omega) c6
            refine one_val (i := 9) (N := some 64) (v := .string (strOfNums o6)) (w' := wb) (a' := ?_) #[true, true, true, true, true, true, true, true, true, true, false, false, false, false] rfl rfl (by kernel_rfl) (by decide) (by rfl) (by go_simp) ((blk_cell tR6 5).trans rfl) ?_ ?_
            rotate_left
            · simp only [Act.put, List.setIfInBounds_toArray, List.set_cons_zero, List.set_cons_succ]
              rfl
            have hKa : Kept (fun i => i = p ∨ i = q ∨ i = rb) w9 wb := (tK.trans hK5 (fun i _ e => e.elim .inl (fun e => .inr (.inl e)))).trans hK6 (fun i _ e => e.elim .inl (fun e => .inr (.inl e)))
            have hOb : wb.ownsRow bs 9 1 fv fs.length (fs.map fun x => .string (strOfNums x)) := by
              have hno : ∀ i, fv.ownBlock = some i → ¬ (i = p ∨ i = q) := fun i hi e => by
                have := (tO.lt i hi).1
                have := HRB.out; have := HBS.out
                omega
              exact own_kept (own_kept tO hK5 hno) hK6 hno
            clear tO tT tR hK5 hB5 hT5 tR5 hx5 tK
            refine one_val (i := 10) (N := some 65) (v := .slice (some ⟨wb.heap.size, 0, none⟩) 1 1) (w' := wb.alloc (.cells #[.string (strOfNums o6)] 9)) (a' := ?_) #[true, true, true, true, true, true, true, true, true, true, true, false, false, false] rfl rfl (by kernel_rfl) (by decide) (by rfl) (by go_simp) ((blk_cell ((Below.heap_alloc _ _ _ (lt_of_heap tR6)).trans tR6) 5).trans rfl) ?_ ?_
            rotate_left
            · simp only [Act.put, List.setIfInBounds_toArray, List.set_cons_zero, List.set_cons_succ]
              rfl
            have hbb : bs ≤ wb.heap.size := by have := hKa.size; have := HWS.out; omega
            obtain ⟨i0, hi0, hz0, hz1, hz2⟩ := info_parts info_str
            obtain ⟨v', we, hra, hOe, hge, -, hnew⟩ := Go.Proofs.Ytgnepppncmjagaa.Ow.run_append (P := Try.prog) (wb.alloc (.cells #[.string (strOfNums o6)] 9)) bs 34 34 9 i0 (.string ⟨#[]⟩) 1 16 Try.underlying34 hi0 hz0 hz1 hz2 rfl (by decide) fv fs.length _ (hOb.alloc _) ⟨wb.heap.size, 0, none⟩ 1 1 [.string (strOfNums o6)] rfl (cell_one_new _ _ _) (by simp [Value.oneCell']) (by unfold maxLen; have := HM.out; omega) (by have := HM.out; omega) (by simp; omega)
            obtain ⟨g', cap', rfl⟩ := own_succ hOe
            have hrb' : ∀ k, fv.ownBlock = some k → rb ≠ k := fun k hk e => by
              have := (hOb.lt k hk).1
              have := HBS.out
              omega
            have hKe : Kept (fun i => fv.ownBlock = some i) (wb.alloc (.cells #[.string (strOfNums o6)] 9)) we := (Hp.Kept.refl _ _).grown hge (fun k e => .inr e)
            have tRe : we.heap[rb]? = some (RO id sc x1 x2 x4 fv) := kept_old hKe ((Below.heap_alloc _ _ _ (lt_of_heap tR6)).trans tR6) (fun e => hrb' rb e rfl)
            refine one_val (i := 11) (N := some 66) (v := .slice (some ⟨g', 0, none⟩) (fs.length + 1) cap') (w' := we) (a' := ?_) #[true, true, true, true, true, true, true, true, true, true, true, true, false, false] rfl rfl (by kernel_rfl) (by decide) (by rfl) (exec_append rfl (by rfl) (by rfl) hra) ((blk_cell tRe 5).trans rfl) ?_ ?_
            rotate_left
            · simp only [Act.put, List.setIfInBounds_toArray, List.set_cons_zero, List.set_cons_succ]
              rfl
            refine pure_ (i := 12) (N := some 67) (v := ?_) (a' := ?_) #[true, true, true, true, true, true, true, true, true, true, true, true, true, false] rfl rfl (by kernel_rfl) (fun _ _ _ h => h) (Or.inl ⟨by rfl, ?_⟩) ?_ ?_
            rotate_left
            · intro w'
              go_simp
              with_reducible rfl
            rotate_left
            · simp only [Act.put, List.setIfInBounds_toArray, List.set_cons_zero, List.set_cons_succ]
              rfl
            have k5_ : we.cell? ⟨rb, 5, none⟩ = some fv := (blk_cell tRe 5).trans rfl
            have k5f_ := blk_frozen tRe 5
            refine last_skip (i := 13) (w' := we.setCell ⟨rb, 5, none⟩ (.slice (some ⟨g', 0, none⟩) (fs.length + 1) cap')) #[true, true, true, true, true, true, true, true, true, true, true, true, true, true] rfl rfl (by kernel_rfl) (by decide) (by rfl) (by go_simp) ?_
            refine done_ (by kernel_rfl) ?_
            have w9_ : wrap64 (i9 - 1) = (g1_ : Int) := by have := HI.out; have := HM.out; have := M5.out; unfold wrap64; omega
            have fin : (∃ okk lk fs2 fv2, Sh (fl m4 ok4 l4 [] = fl g1_ okk lk fs2 ∧ Tk (we.setCell ⟨rb, 5, none⟩ (.slice (some ⟨g', 0, none⟩) (fs.length + 1) cap')) w.heap.size p q okk lk ∧ bytes lk ∧ lk.length ≤ l.length ∧ fs2.length + g1_ ≤ m4 ∧ (we.setCell ⟨rb, 5, none⟩ (.slice (some ⟨g', 0, none⟩) (fs.length + 1) cap')).heap[rb]? = some (RO id sc x1 x2 x4 fv2) ∧ (we.setCell ⟨rb, 5, none⟩ (.slice (some ⟨g', 0, none⟩) (fs.length + 1) cap')).ownsRow bs 9 1 fv2 fs2.length (fs2.map fun x => .string (strOfNums x)) ∧ Kept (fun i => i = p ∨ i = q ∨ i = rb) w9 (we.setCell ⟨rb, 5, none⟩ (.slice (some ⟨g', 0, none⟩) (fs.length + 1) cap')))) := by
              have hKs : Kept (fun i => i = rb) we (we.setCell ⟨rb, 5, none⟩ (.slice (some ⟨g', 0, none⟩) (fs.length + 1) cap')) := (Hp.Kept.refl (fun i => i = rb) we).setCell (p := ⟨rb, 5, none⟩) (.inr rfl) _
              have hK1 : Kept (fun i => fv.ownBlock = some i) wb we := (Hp.Kept.of_below ((Below.refl _ _).alloc (Nat.le_refl _) _)).trans hKe (fun i _ e => e)
              have hKt : Kept (fun i => i = rb ∨ bs ≤ i) wb (we.setCell ⟨rb, 5, none⟩ (.slice (some ⟨g', 0, none⟩) (fs.length + 1) cap')) := (hK1.mono (S' := fun i => i = rb ∨ bs ≤ i) (fun i _ e => .inr (hOb.lt i e).1)).trans hKs (fun i _ e => .inl e)
              refine ⟨ok6, l6, fs ++ [o6], .slice (some ⟨g', 0, none⟩) (fs.length + 1) cap', ⟨FL.out, hT6.kept hKt (fun i hi => ?_), bl6, LLS.out, ?_, heap_set we rb 5 _ tRe, ?_, ?_⟩⟩
              · have := HRB.out; have := HBS.out; have := HFB.out
                omega
              · have := HI.out
                simp
                omega
              · have h2 := own_kept hOe hKs (fun i hi e => by
                  subst e
                  have := (hOe.lt i hi).1
                  have := HBS.out
                  omega)
                simpa using h2
              · exact (hKa.trans hKt (fun i hi e => e.elim (fun e => .inr (.inr e)) (fun e => by have := HWS.out; omega)))
            clear hOe hOb hKa hKe hra hge hnew tRe tR6 hT6 k5_ k5f_ hi0 hz0 hz1 hz2
            go_wp2_with fail
            rw [w9_]
            go_roundg g1_
            case measure => omega
            case rel => exact ⟨rfl, fin⟩
    case rest =>
      obtain ⟨okf, lf, fs, fv, ⟨hfl, hTf, hRO, hOw, hKw⟩⟩ := hcut
      have hR : (if okf = false ∨ lf.length > 0 ∨ b > 7 then none else some (o3, b, fs)) = r := by
        rw [← HR.out]
        unfold askd2
        simp only [E1.out, E2.out, N2.out.1, Int.toNat_natCast, E3.out, E4.out, List.getD_cons_zero, hfl]
      have hZO := kept_old hKw K2 (by have := HP.out; have := HQ.out; have := HRB.out; omega)
      have hBf := hBw9.trans (hKw.below (B := w.heap.size) hBw9.size (fun i hi e => by have := HFB.out; have := HP.out; have := HQ.out; have := HRB.out; omega))
      obtain ⟨Af, cf, hs1, hs2, hs3, hs4⟩ := hTf.sl
      have hokf := hTf.okc
      clear hT9 K1 K2 K3 hBw9 hKw hfl
      obtain ⟨wz, z1, z2, z3, -⟩ := Rw.put_row (P := Try.prog) (cs := [.int .i64 0, .string ⟨#[]⟩, .bool false, .bool false, .bool false, .slice none 0 0]) hZO rfl (by decide) Try.underlying36 rfl sizeReq
      have hBz := hBf.trans (z3.below (B := w.heap.size) hBf.size (fun i hi e => by have := HFB.out; omega))
      cases okf with
      | false =>
        rw [if_pos (Or.inl rfl)] at hR
        subst hR
        clear hRO hOw hTf z3 hZO
        go_wp2_with ((with_reducible refine Rw.at_store 2 79 ?_); refine Rw.wpList_put rfl 36 (.tmp 2) (.tmp 79) rfl rfl rfl z1 ?_)
        (try simp only [Exit.inBlock, Exit.then]); refine bodyPost_ret (Rw.ret_cell rfl rfl rfl z2) rfl ?_
        exact ⟨rfl, hBz⟩
      | true =>
        by_cases hlf : lf.length > 0
        · rw [if_pos (Or.inr (Or.inl hlf))] at hR
          subst hR
          clear hRO hOw hTf z3 hZO
          have k0_ : (0 : Int) < (lf.length : Int) := by omega
          go_wp2_with ((with_reducible refine Rw.at_store 2 79 ?_); refine Rw.wpList_put rfl 36 (.tmp 2) (.tmp 79) rfl rfl rfl z1 ?_)
          (try simp only [Exit.inBlock, Exit.then]); refine bodyPost_ret (Rw.ret_cell rfl rfl rfl z2) rfl ?_
          exact ⟨rfl, hBz⟩
        · by_cases hb7 : b > 7
          · rw [if_pos (Or.inr (Or.inr hb7))] at hR
            subst hR
            clear hRO hOw hTf z3 hZO
            have k0_ : ¬ (0 : Int) < (lf.length : Int) := by omega
            have k7_ : (7 : Int) < b := hb7
            go_wp2_with ((with_reducible refine Rw.at_store 2 79 ?_); refine Rw.wpList_put rfl 36 (.tmp 2) (.tmp 79) rfl rfl rfl z1 ?_)
            (try simp only [Exit.inBlock, Exit.then]); refine bodyPost_ret (Rw.ret_cell rfl rfl rfl z2) rfl ?_
            exact ⟨rfl, hBz⟩
          · rw [if_neg (fun h => h.elim (fun h => by cases h) (fun h => h.elim hlf hb7))] at hR
            subst hR
            have k0_ : ¬ (0 : Int) < (lf.length : Int) := by omega
            have k7_ : ¬ (7 : Int) < b := by omega
            clear z1 z2 z3
            have hv1 : fv.oneCell' = true := by
              have := hOw.1
              rcases hOw.2 with ⟨e, _⟩ | ⟨g, cap, cur, e, _⟩ <;> (rw [e]; rfl)
            obtain ⟨wy, z1, z2, z3, -⟩ := Rw.put_row (P := Try.prog) (cs := [.int .i64 id, .string sc, .bool x1, .bool x2, .bool x4, fv]) hZO rfl (fun v hv => by simp at hv; rcases hv with rfl | rfl | rfl | rfl | rfl | rfl <;> first | rfl | exact hv1) Try.underlying36 rfl sizeReq
            have hld := run_loadAt_mid (P := Try.prog) wc rb 0 36 [.int .i64 id, .string sc, .bool x1, .bool x2, .bool x4, fv] _ (Rw.blk_range hRO) Try.underlying36 rfl sizeReq
            have hBy := hBf.trans (z3.below (B := w.heap.size) hBf.size (fun i hi e => by have := HFB.out; omega))
            have hfin : ReqIs id (some (o3, b, fs)) (.returned (.tuple #[.agg #[.int .i64 id, .string sc, .bool x1, .bool x2, .bool x4, fv], .int .i64 0])) wy := by
              obtain ⟨n1, n2, n4⟩ := and_bits b (bo1 b (by simp)).1 (by omega)
              obtain ⟨g1, g2, g4⟩ := HX.out
              have hOy := own_kept hOw z3 (fun i hi e => by
                have := (hOw.lt i hi).1
                have := HBS.out; have := HRB.out
                omega)
              rcases hOw.2 with ⟨e, h0⟩ | ⟨g, cap, cur, e, _, _, hnc, _, _⟩
              · subst e
                have hf0 : fs = [] := List.eq_nil_of_length_eq_zero h0
                subst hf0
                refine ⟨none, 0, ?_, Nat.le_refl _, fun h => absurd h (by simp)⟩
                rw [← g1, ← g2, ← g4, n1, n2, n4, HSC.out]
                rfl
              · subst e
                refine ⟨some ⟨g, 0, none⟩, cap, ?_, hnc, fun _ => ⟨_, rfl, fun j x hj => ?_⟩⟩
                · rw [← g1, ← g2, ← g4, n1, n2, n4, HSC.out]
                · refine hOy.cells (g := g) rfl j _ ?_
                  rw [List.getElem?_map] at hj ⊢
                  cases hq : fs[j]? with
                  | none => rw [hq] at hj; cases hj
                  | some y => rw [hq] at hj; cases hj; rfl
            clear hRO hOw hTf z3 hZO hBz
            go_wp2_with (first | ((with_reducible refine Rw.at_store 2 80 ?_); refine Rw.wpList_put rfl 36 (.tmp 2) (.tmp 80) rfl rfl rfl z1 ?_) | ((with_reducible refine Rw.at_slot 80 ?_); refine Rw.wpList_get rfl 36 (.tmp 8) rfl rfl hld ?_))
            (try simp only [Exit.inBlock, Exit.then]); refine bodyPost_ret (Rw.ret_cell rfl rfl rfl z2) rfl ?_
            exact ⟨hfin, hBy⟩
end Go.Proofs.Ytgnepppncmjagaa.Fr
