/- FrameGathers, walked. -/
import Derived.Test.YtgnepppncmjagaaGat
import Derived.Test.YtgnepppncmjagaaAlive
namespace Go.Proofs.Ytgnepppncmjagaa.Gt
open Go Go.RowKit Hp Rd Go.Proofs.Ytgnepppncmjagaa.Fr Go.Proofs.YtgnepppncmjagaaW.PrintWords Go.Proofs.YtgnepppncmjagaaW.PrintLast Go.Proofs.Ytgnepppncmjagaa.Print
theorem wpList_get_if {P : Program} {ops : Array Oper} {rest : List Oper} {op : Oper} {a : Act} {w : World} {Q : Exit → Act → World → Prop} (hw : Region.wanted op (yielded ops a.tmps) = true) (ty : TypeId) (x : Operand) (ho : op.op = .load ty x) {p v : Value} (hx : a.eval x = p)
    (hr : (Instr.loadAt ty p).run P w = .ok v w) (h : wpList P ops Q rest (a.put op.dst v) w) : wpList P ops Q (op :: rest) a w :=
  wpList_step fun K hK => by
    rw [if_pos hw]
    unfold Oper.wp execOp
    simp only [ho, hx, hr, Sem.run_bind, Sem.run_pure, Result.andThen_ok]
    exact hK _ _ h
theorem wpList_bin_if {P : Program} {ops : Array Oper} {rest : List Oper} {op : Oper} {a : Act} {w : World} {Q : Exit → Act → World → Prop} (hw : Region.wanted op (yielded ops a.tmps) = true) (b : BinOp) (ty ty2 : TypeId) (x y : Operand) (ho : op.op = .binOp b ty x y ty2) {p q v : Value} (hx : a.eval x = p) (hy : a.eval y = q)
    (hgd : (eqGuard b ty x y p q).run P w = .ok () w) (hr : (binOp b ty p q).run P w = .ok v w) (h : wpList P ops Q rest (a.put op.dst v) w) : wpList P ops Q (op :: rest) a w :=
  wpList_step fun K hK => by
    rw [if_pos hw]
    unfold Oper.wp execOp
    simp only [ho, hx, hy, hgd, hr, Sem.run_bind, Sem.run_pure, Result.andThen_ok]
    exact hK _ _ h
/-- The reply of frames. -/
def gd (L : List Fm) : Rp := match L.reverse with
  | [] => none
  | e :: r => ge r.reverse e
theorem gd_snoc (C : List Fm) (e : Fm) : gd (C ++ [e]) = ge C e := by
  unfold gd
  rw [List.reverse_append]
  show ge C.reverse.reverse e = _
  rw [List.reverse_reverse]
theorem nil_or_snoc (L : List Fm) : L = [] ∨ ∃ C e, L = C ++ [e] := by
  rcases List.eq_nil_or_concat L with h | ⟨C, e, h⟩
  · exact .inl h
  · exact .inr ⟨C, e, by simpa using h⟩
theorem gather_ok (w : World) (A : Option Addr) (c : Nat) (L : List Fm) (hL : FmsAt w w.heap.size A L) (hn : L.length ≤ 13) (hcap : L.length ≤ c) (hl : ∀ f ∈ L, f.l.length ≤ 2000) :
    Calls Try.prog 24 #[.slice A L.length c] w fun x w' => x = .returned (.tuple #[RV (gd L), .int .i64 (RE (gd L))]) ∧ Below w.heap.size w w' := by
  rcases nil_or_snoc L with rfl | ⟨C, e, rfl⟩
  · exact gather_nil w A c
  · rw [List.length_append] at hn hcap ⊢
    rw [gd_snoc]
    exact gather_some w A c C e hL (by simpa using hn) (by simpa using hcap) hl
theorem refgather_ok (w : World) (A : Option Addr) (c : Nat) (L : List Fm) (hL : FmsAt w w.heap.size A L) (hn : L.length ≤ 13) (hl : ∀ f ∈ L, f.l.length ≤ 2000) :
    Calls Try.prog 25 #[.slice A L.length c] w fun x w' => x = .returned (.tuple #[RV (gd L), .int .i64 (RE (gd L))]) ∧ Below w.heap.size w w' := by
  rcases nil_or_snoc L with rfl | ⟨C, e, rfl⟩
  · exact refgather_nil w A c
  · rw [List.length_append] at hn ⊢
    rw [gd_snoc]
    exact refgather_some w A c C e hL (by simpa using hn) hl
/-- A reply whose place is of numbers of two bytes. -/
def Fine : Rp → Prop
  | none => True
  | some (_, _, x, y, _) => x ≤ 65535 ∧ y ≤ 65535
theorem ge_fine (C : List Fm) (e : Fm) (h : ∀ x ∈ e.l, 0 ≤ x ∧ x ≤ 255) : Fine (ge C e) := by
  unfold ge
  split
  · unfold ends
    split
    · rename_i b0 b1 b2 b3 b4 b5 hl
      rw [hl] at h
      have h2 := h b2 (by simp)
      have h3 := h b3 (by simp)
      have h4 := h b4 (by simp)
      have h5 := h b5 (by simp)
      cases gl e.id C [] with
      | none => trivial
      | some acc => exact ⟨by show (256 * b2 + b3).toNat ≤ _; omega, by show (256 * b4 + b5).toNat ≤ _; omega⟩
    · trivial
  · trivial
theorem gd_fine (L : List Fm) (h : ∀ f ∈ L, ∀ x ∈ f.l, 0 ≤ x ∧ x ≤ 255) : Fine (gd L) := by
  rcases nil_or_snoc L with rfl | ⟨C, e, rfl⟩
  · trivial
  · rw [gd_snoc]
    exact ge_fine C e (h e (by simp))
theorem eqR (d : Nat) (w : World) (id n : Int) (x y : Nat) (s : ByteArray) (hx : FloatKind.f64.format.order x x = some Ordering.eq) (hy : FloatKind.f64.format.order y y = some Ordering.eq) :
    (Op.equalIn (d + 2) 53 (.agg #[.int .i64 id, .int .i64 n, .complex .f64 x y, .string s]) (.agg #[.int .i64 id, .int .i64 n, .complex .f64 x y, .string s])).run Try.prog w = .ok true w := by
  have hf : ∀ z, FloatKind.f64.format.order z z = some Ordering.eq → Op.floatEq .f64 z z = true := fun z hz => by unfold Op.floatEq; rw [hz]; rfl
  have e1 : (Op.equalIn (d + 1) 3 (.int .i64 id) (.int .i64 id)).run Try.prog w = .ok true w := by simp [Op.equalIn, run_underlying Try.underlying3]
  have e2 : (Op.equalIn (d + 1) 24 (.int .i64 n) (.int .i64 n)).run Try.prog w = .ok true w := by simp [Op.equalIn, run_underlying Try.underlying24]
  have e3 : (Op.equalIn (d + 1) 51 (.complex .f64 x y) (.complex .f64 x y)).run Try.prog w = .ok true w := by simp [Op.equalIn, run_underlying Try.underlying51, hf x hx, hf y hy]
  have e4 : (Op.equalIn (d + 1) 9 (.string s) (.string s)).run Try.prog w = .ok true w := by simp [Op.equalIn, run_underlying Try.underlying9]; rw [beq_toListBytes]; simp
  refine eqA_of Try.underlying53 (by kernel_rfl) ?_
  show Sem.run Try.prog _ w = .ok (true && (true && (true && true))) w
  refine eqf_cons (by rfl) (by go_simp) (by go_simp) e1 ?_
  refine eqf_cons (by rfl) (by go_simp) (by go_simp) e2 ?_
  refine eqf_cons (by rfl) (by go_simp) (by go_simp) e3 ?_
  exact eqf_last (by rfl) (by go_simp) (by go_simp) e4
theorem eq_rep (w : World) (v : Rp) (hv : Fine v) : Sem.run Try.prog (binOp .eql 53 (RV v) (RV v)) w = .ok (.bool true) w := by
  have one : ∀ (id n : Int) (x y : Nat) (s : ByteArray), FloatKind.f64.format.order x x = some Ordering.eq → FloatKind.f64.format.order y y = some Ordering.eq → Sem.run Try.prog (binOp .eql 53 (.agg #[.int .i64 id, .int .i64 n, .complex .f64 x y, .string s]) (.agg #[.int .i64 id, .int .i64 n, .complex .f64 x y, .string s])) w = .ok (.bool true) w := fun id n x y s hx hy => by
    simp only [binOp]
    simp [Op.equal, Op.maxDepth, eqR 9998 w id n x y s hx hy]
  match v, hv with
  | none, _ => exact one 0 0 0 0 _ (fl_self 0 (by decide)) (fl_self 0 (by decide))
  | some (id, n, x, y, acc), hv => exact one id n (fl x) (fl y) _ (fl_self x (by have := hv.1; omega)) (fl_self y (by have := hv.2; omega))
theorem guard_rep (w : World) (v : Rp) (x y : Operand) : (eqGuard .eql 53 x y (RV v) (RV v)).run Try.prog w = .ok () w := by
  have h : ∀ cs : Array Value, (eqGuard .eql 53 x y (.agg cs) (.agg cs)).run Try.prog w = .ok () w := fun cs => by
    unfold eqGuard
    simp
  cases v with
  | none => exact h _
  | some p => exact h _
theorem RV_cells (v : Rp) : ∃ cs : List Value, RV v = .agg cs.toArray ∧ (∀ x ∈ cs, x.oneCell' = true) ∧ cs.length = 4 := by
  cases v with
  | none => exact ⟨_, rfl, by decide, rfl⟩
  | some p => exact ⟨[_, _, _, _], rfl, by simp [Value.oneCell'], rfl⟩
/-- A reply's variable: laid, written, read. -/
theorem rep_var (w : World) (v : Rp) : ∃ w', (Instr.storeAt 53 (.pointer (some ⟨w.heap.size, 0, none⟩)) (RV v)).run Try.prog (w.alloc (.cells #[.int .i64 0, .int .i64 0, .complex .f64 0 0, .string ⟨#[]⟩] 53)) = .ok () w' ∧ Below w.heap.size w w' ∧ w.heap.size < w'.heap.size ∧
    ∀ W, Below w'.heap.size w' W → (Instr.loadAt 53 (.pointer (some ⟨w.heap.size, 0, none⟩))).run Try.prog W = .ok (RV v) W := by
  obtain ⟨cs, hcs, h1, h4⟩ := RV_cells v
  have g0 : (w.alloc (.cells #[.int .i64 0, .int .i64 0, .complex .f64 0 0, .string ⟨#[]⟩] 53)).heap[w.heap.size]? = some (.cells #[.int .i64 0, .int .i64 0, .complex .f64 0 0, .string ⟨#[]⟩] 53 (0, 0)) := heap_alloc_new _ _
  obtain ⟨wz, z1, -, z3, z4⟩ := Rw.put_row (P := Try.prog) (cs := cs) g0 (by rw [h4]; rfl) h1 Try.underlying53 rfl (by rw [h4]; exact sizeRep)
  rw [hcs]
  refine ⟨wz, z1, ?_, lt_of_heap z4, fun W hW => ?_⟩
  · have h2 : Below w.heap.size w (w.alloc (.cells #[.int .i64 0, .int .i64 0, .complex .f64 0 0, .string ⟨#[]⟩] 53)) := (Below.refl _ _).alloc (Nat.le_refl _) _
    exact h2.trans (z3.below (B := w.heap.size) h2.size (fun i hi e => by omega))
  · exact run_loadAt_mid (P := Try.prog) W w.heap.size 0 53 cs _ (Rw.blk_range ((hW.block _ (lt_of_heap z4)).trans z4)) Try.underlying53 rfl (by rw [h4]; exact sizeRep)
theorem own_cap {w : World} {base n : Nat} {e : TypeId} {size : Nat} {a : Option Addr} {c : Nat} {xs : List Value} (h : w.ownsRow base e size (.slice a n c) n xs) : n ≤ c := by
  rcases h.2 with ⟨_, h2⟩ | ⟨g, cap, cur, e, _, _, hn, _⟩
  · omega
  · cases e
    exact hn
theorem infoFrm : (Try.prog.info? 28).map (fun i => (i.zero, i.size, i.bytes)) = some (some (.agg #[.int .i64 0, .int .i64 0, .slice none 0 0]), 3, 40) := by kernel_rfl
set_option maxHeartbeats 4000000 in
set_option maxRecDepth 100000 in
theorem frameGathers_calls (v0 : Value) (W : World) (a0 : Arg Try.prog W 58 v0) : Calls Try.prog 7 #[v0] W fun e w' => e = .returned (.bool true) ∧ Below W.heap.size W w' := by
  have mixed : Try.prog.follows Departure.mixedOrders = true := by kernel_rfl
  obtain ⟨A, L, c, rfl, hmax, hL⟩ := arg_fms a0
  clear a0
  have quit : ∀ (w2 : World), Below W.heap.size W w2 → Calls Try.prog 10 #[] w2 fun e w' => e = .returned (.bool true) ∧ Below w2.heap.size w2 w' ∧ Below W.heap.size W w' := fun w2 hb => by
    refine (headgatelaw23_alive.calls 8 true w2 Go.Proofs.Ytgnepppncmjagaa.Ev.alive_f).mono ?_
    rintro e w' ⟨rfl, h⟩
    exact ⟨rfl, h, hb.trans (h.mono hb.size)⟩
  have QUIT := Sh.mk quit
  have HMAX := Sh.mk hmax
  clear quit hmax
  go_enter Try.func7, Try.ntmps7
  go_wp2
  go_loopg [3, 4] L.length (fun kq v3 v4 w' => ∃ i : Nat, i + kq = L.length ∧ v4 = .int .i64 (i : Int) ∧ Sh (i ≤ 12 ∧ (∀ f ∈ L.take i, f.l.length ≤ 2000) ∧ w'.ownsRow W.heap.size 28 3 v3 i (fcells (L.take i)) ∧ Below W.heap.size W w'))
  case atStart => exact ⟨0, by omega, rfl, ⟨by omega, by simp, World.ownsRow_nil _ _ _ _, Below.refl _ _⟩⟩
  case round =>
    obtain ⟨i, hik, rfl, ⟨h12, hfew, hrow, hB⟩⟩ := hrel
    cases gk with
    | zero =>
      obtain rfl : i = L.length := by omega
      have kk : ¬ (L.length : Int) < (L.length : Int) := by omega
      obtain ⟨a, c', rfl⟩ := own_slice hrow
      rw [List.take_of_length_le (Nat.le_refl _)] at hrow hfew
      have hcap : L.length ≤ c' := own_cap hrow
      have hok : ∀ (w' : World), Below W.heap.size W w' → ∀ f ∈ L, FmOk w' W.heap.size f := fun w' hw f hf => (hL.ok f hf).below hw
      have hLr : FmsAt wr wr.heap.size a L := fms_own hrow rfl (fun f hf => (hok wr hB f hf).mono hB.size) (Nat.le_refl _)
      have hfine : Fine (gd L) := gd_fine L (fun f hf => (hL.ok f hf).num)
      have HFEW := Sh.mk hfew
      have H12 := Sh.mk h12
      have HOK := Sh.mk hok
      have HGA := Sh.mk (gather_ok wr a c' L hLr (by omega) hcap hfew)
      have HLR := Sh.mk hLr
      have HB := Sh.mk hB
      obtain ⟨V, hV⟩ : ∃ V, RV (gd L) = V := ⟨_, rfl⟩
      obtain ⟨E, hE⟩ : ∃ E, RE (gd L) = E := ⟨_, rfl⟩
      have heq : ∀ w', Sem.run Try.prog (binOp .eql 53 V V) w' = .ok (.bool true) w' := fun w' => by rw [← hV]; exact eq_rep w' _ hfine
      have HQG : Sh (∀ (W : World) (x y : Operand), (eqGuard .eql 53 x y V V).run Try.prog W = .ok () W) := ⟨fun W x y => by rw [← hV]; exact guard_rep W _ x y⟩
      have HEQ := Sh.mk heq
      have HV := Sh.mk hV
      have HE := Sh.mk hE
      clear hV hE heq hfine hLr hcap hfew h12 hik hB hrow
      go_wp2_with fail
      refine HGA.out.mono ?_
      rw [HV.out, HE.out]
      rintro e w1 ⟨rfl, hb1⟩
      obtain ⟨w2, z1, hb12, hs2, hl2⟩ := rep_var w1 (gd L)
      rw [HV.out] at z1 hl2
      obtain ⟨b5, hb5⟩ : ∃ b5, w1.heap.size = b5 := ⟨_, rfl⟩
      rw [hb5] at z1 hs2 hl2
      have HL2 := Sh.mk hl2
      have hBr2 : Below wr.heap.size wr w2 := hb1.trans (hb12.mono hb1.size)
      have HBR2 := Sh.mk hBr2
      have HS2 := Sh.mk hs2
      clear hb12 hb1 hl2 hs2 hBr2
      go_upto_region 9 with ((with_reducible refine Rw.at_store 5 49 ?_); (try simp only [hb5]); refine Rw.wpList_put rfl 53 (.tmp 5) (.tmp 49) rfl rfl rfl z1 ?_)
      clear z1 hb5
      go_wp2_with fail
      refine (told_ok w2 a c' L ((HLR.out.below HBR2.out).mono HBR2.out.size) (by have := H12.out; omega)).mono ?_
      rintro e w3 ⟨a3, c3, rfl, hrow3, hb23⟩
      have hB3 : Below W.heap.size W w3 := HB.out.trans ((HBR2.out.trans (hb23.mono HBR2.out.size)).mono HB.out.size)
      have HGR := Sh.mk (refgather_ok w3 a3 c3 L (fms_own hrow3 rfl (fun f hf => (HOK.out w3 hB3 f hf).mono hB3.size) (Nat.le_refl _)) (by have := H12.out; omega) HFEW.out)
      have HB23 := Sh.mk hb23
      have HB3 := Sh.mk hB3
      clear hrow3 hb23 hB3
      go_wp2_with fail
      refine HGR.out.mono ?_
      rw [HV.out, HE.out]
      rintro e w4 ⟨rfl, hb34⟩
      obtain ⟨w5, z1, hb45, hs5, hl5⟩ := rep_var w4 (gd L)
      rw [HV.out] at z1 hl5
      obtain ⟨b7, hb7⟩ : ∃ b7, w4.heap.size = b7 := ⟨_, rfl⟩
      rw [hb7] at z1 hs5 hl5
      have HL5 := Sh.mk hl5
      have h35 : Below w3.heap.size w3 w5 := hb34.trans (hb45.mono hb34.size)
      have h25 : Below w2.heap.size w2 w5 := HB23.out.trans (h35.mono HB23.out.size)
      have H25 := Sh.mk h25
      have HB5 := Sh.mk (HB3.out.trans (h35.mono HB3.out.size))
      clear hb34 hb45 hs5 hl5 h35 h25
      go_upto_region 10 with ((with_reducible refine Rw.at_store 7 55 ?_); (try simp only [hb7]); refine Rw.wpList_put rfl 53 (.tmp 7) (.tmp 55) rfl rfl rfl z1 ?_)
      clear z1 hb7
      go_wp2_with fail
      refine (QUIT.out w5 HB5.out).mono ?_
      rintro e w6 ⟨rfl, hb56, h6⟩
      have l5_ := HL2.out w6 (H25.out.trans (hb56.mono H25.out.size))
      have l7_ := HL5.out w6 hb56
      have q_ := HEQ.out w6
      go_wp2_with (first | ((with_reducible refine Rw.at_slot 59 ?_); refine wpList_get_if (by rfl) 53 (.tmp 5) rfl rfl l5_ ?_) | ((with_reducible refine Rw.at_slot 60 ?_); refine wpList_get_if (by rfl) 53 (.tmp 7) rfl rfl l7_ ?_) | ((with_reducible refine Rw.at_slot 61 ?_); refine wpList_bin_if (by rfl) .eql 53 53 (.tmp 59) (.tmp 60) rfl rfl rfl (HQG.out w6 (.tmp 59) (.tmp 60)) q_ ?_))
      go_ret
      exact ⟨rfl, h6⟩
    | succ g1_ =>
      have kk : (i : Int) < (L.length : Int) := by omega
      have hil : i < L.length := by omega
      obtain ⟨f, hf⟩ : ∃ f, L[i]? = some f := ⟨_, List.getElem?_eq_getElem hil⟩
      obtain ⟨g, off, rfl, hg, hfa⟩ := (hL.below hB).at_ i f hf
      have HG := Sh.mk hg
      have HF := Sh.mk hf
      have HB := Sh.mk hB
      have HN := Sh.mk h12
      have HI := Sh.mk hik
      have HFEW := Sh.mk hfew
      have htk : L.take (i + 1) = L.take i ++ [f] := by rw [List.take_add_one, hf]; rfl
      have HTK := Sh.mk htk
      have w4_ : wrap64 ((i : Int) + 1) = ((i + 1 : Nat) : Int) := by unfold wrap64; omega
      have p2_ := hfa.c2
      clear hg hf hB h12 hik htk hil hfew
      by_cases c12 : (i : Int) = 12
      · have b12_ : ((i : Int) == 12) = true := by simpa using c12
        go_wp2_with fail
        refine (QUIT.out wr HB.out).mono ?_
        rintro e w' ⟨rfl, -, h⟩
        go_wp2_with fail
        go_ret
        exact ⟨rfl, h⟩
      have b12_ : ((i : Int) == 12) = false := by simpa using c12
      by_cases clong : (2000 : Int) < (f.l.length : Int)
      · go_wp2_with fail
        refine (QUIT.out wr HB.out).mono ?_
        rintro e w' ⟨rfl, -, h⟩
        go_wp2_with fail
        go_ret
        exact ⟨rfl, h⟩
      go_upto_region 7 with (fail)
      refine start_ (n := 20) (S := fun w' => w'.cell? ⟨g, off + i * 3, none⟩ = some (.int .i64 f.id) ∧ w'.cell? ⟨g, off + i * 3 + 1, none⟩ = some (.int .i64 f.kind) ∧ w'.cell? ⟨g, off + i * 3 + 2, none⟩ = some (.slice f.A f.l.length f.c)) (ds := []) #[false, false, false, false, false, false, false, false, false, false, false, false, false, false, false, false, false, false, false, false] (by kernel_rfl) rfl rfl (⟨hfa.c0, hfa.c1, hfa.c2⟩) (fun hHeld => ?_)
      clear p2_
      refine pure_ (i := 0) (N := some 27) (v := ?_) (a' := ?_) #[true, false, false, false, false, false, false, false, false, false, false, false, false, false, false, false, false, false, false, false] rfl rfl (by kernel_rfl) (fun _ _ _ h => h) (Or.inl ⟨by rfl, ?_⟩) ?_ ?_
      rotate_left
      · intro w'
        go_simp
        with_reducible rfl
      rotate_left
      · simp only [Act.put, List.setIfInBounds_toArray, List.set_cons_zero, List.set_cons_succ]
        rfl
      refine pure_ (i := 1) (N := some 28) (v := ?_) (a' := ?_) #[true, true, false, false, false, false, false, false, false, false, false, false, false, false, false, false, false, false, false, false] rfl rfl (by kernel_rfl) (fun _ _ _ h => h) (Or.inl ⟨by rfl, ?_⟩) ?_ ?_
      rotate_left
      · intro w'
        go_simp
        with_reducible rfl
      rotate_left
      · simp only [Act.put, List.setIfInBounds_toArray, List.set_cons_zero, List.set_cons_succ]
        rfl
      refine pure_ (i := 2) (N := some 29) (v := ?_) (a' := ?_) #[true, true, true, false, false, false, false, false, false, false, false, false, false, false, false, false, false, false, false, false] rfl rfl (by kernel_rfl) (fun _ _ _ h => h) (Or.inl ⟨by rfl, ?_⟩) ?_ ?_
      rotate_left
      · intro w'
        go_simp
        with_reducible rfl
      rotate_left
      · simp only [Act.put, List.setIfInBounds_toArray, List.set_cons_zero, List.set_cons_succ]
        rfl
      refine pure_ (i := 3) (N := some 30) (v := ?_) (a' := ?_) #[true, true, true, true, false, false, false, false, false, false, false, false, false, false, false, false, false, false, false, false] rfl rfl (by kernel_rfl) (fun _ _ _ h => h) (Or.inl ⟨by rfl, ?_⟩) ?_ ?_
      rotate_left
      · intro w'
        go_simp
        with_reducible rfl
      rotate_left
      · simp only [Act.put, List.setIfInBounds_toArray, List.set_cons_zero, List.set_cons_succ]
        rfl
      refine pure_ (i := 4) (N := some 31) (v := ?_) (a' := ?_) #[true, true, true, true, true, false, false, false, false, false, false, false, false, false, false, false, false, false, false, false] rfl rfl (by kernel_rfl) (fun _ _ _ h => h) (Or.inl ⟨by rfl, ?_⟩) ?_ ?_
      rotate_left
      · intro w'
        go_simp
        with_reducible rfl
      rotate_left
      · simp only [Act.put, List.setIfInBounds_toArray, List.set_cons_zero, List.set_cons_succ]
        rfl
      refine take_ (i := 5) (N := some 32) (v := ?_) (a' := ?_) #[true, true, true, true, true, true, false, false, false, false, false, false, false, false, false, false, false, false, false, false] rfl rfl (by kernel_rfl) (fun _ _ _ h => h) (Or.inl ⟨by rfl, ?_⟩) hHeld ?_ ?_
      rotate_left
      · rintro w' ⟨s0, s1, s2⟩
        go_simp
        with_reducible rfl
      rotate_left
      · simp only [Act.put, List.setIfInBounds_toArray, List.set_cons_zero, List.set_cons_succ]
        rfl
      refine pure_ (i := 6) (N := some 33) (v := ?_) (a' := ?_) #[true, true, true, true, true, true, true, false, false, false, false, false, false, false, false, false, false, false, false, false] rfl rfl (by kernel_rfl) (fun _ _ _ h => h) (Or.inl ⟨by rfl, ?_⟩) ?_ ?_
      rotate_left
      · intro w'
        go_simp
        with_reducible rfl
      rotate_left
      · simp only [Act.put, List.setIfInBounds_toArray, List.set_cons_zero, List.set_cons_succ]
        rfl
      refine pure_ (i := 7) (N := some 34) (v := ?_) (a' := ?_) #[true, true, true, true, true, true, true, true, false, false, false, false, false, false, false, false, false, false, false, false] rfl rfl (by kernel_rfl) (fun _ _ _ h => h) (Or.inl ⟨by rfl, ?_⟩) ?_ ?_
      rotate_left
      · intro w'
        go_simp
        with_reducible rfl
      rotate_left
      · simp only [Act.put, List.setIfInBounds_toArray, List.set_cons_zero, List.set_cons_succ]
        rfl
      refine pure_ (i := 8) (N := some 35) (v := ?_) (a' := ?_) #[true, true, true, true, true, true, true, true, true, false, false, false, false, false, false, false, false, false, false, false] rfl rfl (by kernel_rfl) (fun _ _ _ h => h) (Or.inl ⟨by rfl, ?_⟩) ?_ ?_
      rotate_left
      · intro w'
        go_simp
        with_reducible rfl
      rotate_left
      · simp only [Act.put, List.setIfInBounds_toArray, List.set_cons_zero, List.set_cons_succ]
        rfl
      refine pure_ (i := 9) (N := some 36) (v := ?_) (a' := ?_) #[true, true, true, true, true, true, true, true, true, true, false, false, false, false, false, false, false, false, false, false] rfl rfl (by kernel_rfl) (fun _ _ _ h => h) (Or.inl ⟨by rfl, ?_⟩) ?_ ?_
      rotate_left
      · intro w'
        go_simp
        with_reducible rfl
      rotate_left
      · simp only [Act.put, List.setIfInBounds_toArray, List.set_cons_zero, List.set_cons_succ]
        rfl
      refine take_ (i := 10) (N := some 37) (v := ?_) (a' := ?_) #[true, true, true, true, true, true, true, true, true, true, true, false, false, false, false, false, false, false, false, false] rfl rfl (by kernel_rfl) (fun _ _ _ h => h) (Or.inl ⟨by rfl, ?_⟩) hHeld ?_ ?_
      rotate_left
      · rintro w' ⟨s0, s1, s2⟩
        go_simp
        with_reducible rfl
      rotate_left
      · simp only [Act.put, List.setIfInBounds_toArray, List.set_cons_zero, List.set_cons_succ]
        rfl
      refine pure_ (i := 11) (N := some 38) (v := ?_) (a' := ?_) #[true, true, true, true, true, true, true, true, true, true, true, true, false, false, false, false, false, false, false, false] rfl rfl (by kernel_rfl) (fun _ _ _ h => h) (Or.inl ⟨by rfl, ?_⟩) ?_ ?_
      rotate_left
      · intro w'
        go_simp
        with_reducible rfl
      rotate_left
      · simp only [Act.put, List.setIfInBounds_toArray, List.set_cons_zero, List.set_cons_succ]
        rfl
      refine pure_ (i := 12) (N := some 39) (v := ?_) (a' := ?_) #[true, true, true, true, true, true, true, true, true, true, true, true, true, false, false, false, false, false, false, false] rfl rfl (by kernel_rfl) (fun _ _ _ h => h) (Or.inl ⟨by rfl, ?_⟩) ?_ ?_
      rotate_left
      · intro w'
        go_simp
        with_reducible rfl
      rotate_left
      · simp only [Act.put, List.setIfInBounds_toArray, List.set_cons_zero, List.set_cons_succ]
        rfl
      refine pure_ (i := 13) (N := some 40) (v := ?_) (a' := ?_) #[true, true, true, true, true, true, true, true, true, true, true, true, true, true, false, false, false, false, false, false] rfl rfl (by kernel_rfl) (fun _ _ _ h => h) (Or.inl ⟨by rfl, ?_⟩) ?_ ?_
      rotate_left
      · intro w'
        go_simp
        with_reducible rfl
      rotate_left
      · simp only [Act.put, List.setIfInBounds_toArray, List.set_cons_zero, List.set_cons_succ]
        rfl
      refine pure_ (i := 14) (N := some 41) (v := ?_) (a' := ?_) #[true, true, true, true, true, true, true, true, true, true, true, true, true, true, true, false, false, false, false, false] rfl rfl (by kernel_rfl) (fun _ _ _ h => h) (Or.inl ⟨by rfl, ?_⟩) ?_ ?_
      rotate_left
      · intro w'
        go_simp
        with_reducible rfl
      rotate_left
      · simp only [Act.put, List.setIfInBounds_toArray, List.set_cons_zero, List.set_cons_succ]
        rfl
      refine take_ (i := 15) (N := some 42) (v := ?_) (a' := ?_) #[true, true, true, true, true, true, true, true, true, true, true, true, true, true, true, true, false, false, false, false] rfl rfl (by kernel_rfl) (fun _ _ _ h => h) (Or.inl ⟨by rfl, ?_⟩) hHeld ?_ ?_
      rotate_left
      · rintro w' ⟨s0, s1, s2⟩
        go_simp
        with_reducible rfl
      rotate_left
      · simp only [Act.put, List.setIfInBounds_toArray, List.set_cons_zero, List.set_cons_succ]
        rfl
      refine pure_ (i := 16) (N := some 43) (v := ?_) (a' := ?_) #[true, true, true, true, true, true, true, true, true, true, true, true, true, true, true, true, true, false, false, false] rfl rfl (by kernel_rfl) (fun _ _ _ h => h) (Or.inl ⟨by rfl, ?_⟩) ?_ ?_
      rotate_left
      · intro w'
        go_simp
        with_reducible rfl
      rotate_left
      · simp only [Act.put, List.setIfInBounds_toArray, List.set_cons_zero, List.set_cons_succ]
        rfl
      obtain ⟨wd, hwd⟩ : ∃ wd, wr.drew = wd := ⟨_, rfl⟩
      have hrd : wd.ownsRow W.heap.size 28 3 u3 i (fcells (L.take i)) := by rw [← hwd]; exact hrow
      have hBd : Below W.heap.size W wd := by rw [← hwd]; exact HB.out.drew
      rw [hwd] at hHeld ⊢
      clear hwd hrow hfa
      obtain ⟨i0, hi0, hz0, hz1, hz2⟩ := info_parts infoFrm
      obtain ⟨v', w8, hra, hO8, hb8⟩ := push 48 28 i0 Try.underlying48 hi0 hz0 hz1 hz2 hrd hBd.size (by have := HN.out; omega) f
      have hal : Below W.heap.size wd (wd.alloc (.cells #[.int .i64 f.id, .int .i64 f.kind, .slice f.A f.l.length f.c] 28)) := (Below.refl _ _).alloc hBd.size _
      have hS7 := And.intro (cell_below hal HG.out hHeld.1) (And.intro (cell_below hal HG.out hHeld.2.1) (cell_below hal HG.out hHeld.2.2))
      have hS8 := And.intro (cell_below hb8 HG.out hHeld.1) (And.intro (cell_below hb8 HG.out hHeld.2.1) (cell_below hb8 HG.out hHeld.2.2))
      refine one_val (i := 17) (N := some 44) (v := .slice (some ⟨wd.heap.size, 0, none⟩) 1 1) (w' := wd.alloc (.cells #[.int .i64 f.id, .int .i64 f.kind, .slice f.A f.l.length f.c] 28)) (a' := ?_) #[true, true, true, true, true, true, true, true, true, true, true, true, true, true, true, true, true, true, false, false] rfl rfl (by kernel_rfl) (by decide) (by rfl) (by go_simp) (hS7) ?_ ?_
      rotate_left
      · simp only [Act.put, List.setIfInBounds_toArray, List.set_cons_zero, List.set_cons_succ]
        rfl
      refine one_val (i := 18) (N := some 45) (v := v') (w' := w8) (a' := ?_) #[true, true, true, true, true, true, true, true, true, true, true, true, true, true, true, true, true, true, true, false] rfl rfl (by kernel_rfl) (by decide) (by rfl) (exec_append rfl (by rfl) (by rfl) hra) (hS8) ?_ ?_
      rotate_left
      · simp only [Act.put, List.setIfInBounds_toArray, List.set_cons_zero, List.set_cons_succ]
        rfl
      refine pure_ (i := 19) (N := some 3) (v := ?_) (a' := ?_) #[true, true, true, true, true, true, true, true, true, true, true, true, true, true, true, true, true, true, true, true] rfl rfl (by kernel_rfl) (fun _ _ _ h => h) (Or.inl ⟨by rfl, ?_⟩) ?_ ?_
      rotate_left
      · intro w'
        go_simp
        with_reducible rfl
      rotate_left
      · simp only [Act.put, List.setIfInBounds_toArray, List.set_cons_zero, List.set_cons_succ]
        rfl
      refine done_ (by kernel_rfl) ?_
      have HO8 := Sh.mk hO8
      have HB8 := Sh.mk (hBd.trans hb8)
      have hlast : ∀ x ∈ L.take (i + 1), x.l.length ≤ 2000 := fun x hx => by
        rw [HTK.out] at hx
        rcases List.mem_append.1 hx with h | h
        · exact HFEW.out x h
        · simp at h
          subst h
          omega
      have HLAST := Sh.mk hlast
      have hn12 : i ≠ 12 := fun h => c12 (by rw [h]; rfl)
      have HN12 := Sh.mk hn12
      clear hra hO8 hb8 hal hS7 hS8 hHeld hBd hrd hi0 hz0 hz1 hz2 hlast hn12
      go_wp2_with fail
      go_roundg g1_
      case measure => have := HI.out; omega
      case rel => exact ⟨i + 1, by have := HI.out; omega, (by first | rfl | (rw [w4_])), ⟨by have := HN.out; have := HN12.out; omega, HLAST.out, by rw [HTK.out, fcells_snoc]; exact HO8.out, HB8.out⟩⟩
end Go.Proofs.Ytgnepppncmjagaa.Gt
