/- frame.Gather. (printed by gen/gat.py) -/
import Derived.Test.YtgnepppncmjagaaPart
import Derived.Test.YtgnepppncmjagaaBld
import Derived.Test.YtgnepppncmjagaaShelf
namespace Go.Proofs.Ytgnepppncmjagaa.Gt
open Go Go.RowKit Hp Rd Go.Proofs.Ytgnepppncmjagaa.Fr Go.Proofs.YtgnepppncmjagaaW.PrintWords Go.Proofs.YtgnepppncmjagaaW.PrintLast Go.Proofs.Ytgnepppncmjagaa.Print
theorem exec_load_mid {P : Program} {w : World} {o : Oper} {ρ : Operand → Value} (ty : TypeId) (x : Operand) {b off : Nat} {cs : List Value} {d : TypeDesc} (ho : o.op = .load ty x) (hx : ρ x = .pointer (some ⟨b, off, none⟩)) (hc : w.rangeAt b off cs) (hu : P.underlying ty = some d) (hd : d.isRow = true) (hi : (P.info? ty).map (·.size) = some cs.length) :
    (execOp ρ o).run P w = .ok (.value (.agg cs.toArray)) w := by
  unfold execOp
  simp only [ho, hx, Instr.loadAt, Instr.sureAddr, Sem.run_bind, Sem.run_pure, Result.andThen_ok, run_loadVar_mid w b off ty cs d hc hu hd hi]
theorem sizeFrm : (Try.prog.info? 28).map (·.size) = some 3 := by kernel_rfl
theorem FmAt.range {w : World} {f : Fm} {g off : Nat} (h : FmAt w f g off) : w.rangeAt g off f.cells := fun j v hj => by
  match j, hj with
  | 0, hj => cases hj; exact h.c0
  | 1, hj => cases hj; exact h.c1
  | 2, hj => cases hj; exact h.c2
theorem FmAt.of_blk {w : World} {f : Fm} {g : Nat} {t : TypeId} (h : w.heap[g]? = some (.cells f.cells.toArray t (0, 0))) : FmAt w f g 0 := ⟨(blk_cell h 0).trans rfl, (blk_cell h 1).trans rfl, (blk_cell h 2).trans rfl⟩
/-- A builder stays under what leaves its blocks. -/
theorem bld_kept {S : Nat → Prop} {w w' : World} {T e : TypeId} {B b : Nat} {bs : List Value} (h : Lib.IsBuilder T e B b bs w) (k : Kept S w w') (hS : ∀ i, S i → w.heap.size ≤ i) : Lib.IsBuilder T e B b bs w' := by
  have one : ∀ p, Lib.BuilderAt T e B b p bs w → Lib.BuilderAt T e B b p bs w' := fun p hp => by
    obtain ⟨hB, v, hb, hown, hne⟩ := hp
    refine ⟨hB, v, k.heap hb (fun hs => by have := hS _ hs; have := lt_of_heap hb; omega), ?_, hne⟩
    obtain ⟨h1, h2⟩ := hown
    refine ⟨h1, ?_⟩
    rcases h2 with h2 | ⟨g, cap, cur, hv', hg, hh, r⟩
    · exact .inl h2
    · exact .inr ⟨g, cap, cur, hv', hg, k.heap hh (fun hs => by have := hS _ hs; have := lt_of_heap hh; omega), r⟩
  exact h.imp (one _) (one _)
theorem cells_acc {acc : List Int} (h : ∀ x ∈ acc, 0 ≤ x ∧ x ≤ 255) : acc.map (Value.int .u8) = Lib.byteCells (acc.map fun n => UInt8.ofNat n.toNat) := by
  unfold Lib.byteCells
  rw [List.map_map]
  refine List.map_congr_left fun x hx => ?_
  have := h x hx
  show Value.int .u8 x = Value.int .u8 ((UInt8.ofNat x.toNat).toNat : Int)
  congr 1
  simp
  omega
theorem kept_below {w w' : World} {B : Nat} (h : Below B w w') : Kept (fun k => B ≤ k) w w' := ⟨h.os, h.tape, h.output, h.size, fun k hk hn => h.block k (by omega)⟩
set_option maxHeartbeats 4000000 in
set_option maxRecDepth 100000 in
theorem gather_nil (w : World) (A : Option Addr) (c : Nat) :
    Calls Try.prog 24 #[.slice A 0 c] w fun e w' => e = .returned (.tuple #[RV none, .int .i64 231]) ∧ Below w.heap.size w w' := by
  go_enter Try.func24, Try.ntmps24
  go_upto_region 1 with (fail)
  obtain ⟨w1, hw1⟩ : ∃ w1, w.alloc (.cells #[.int .i64 0, .int .i64 0, .complex .f64 0 0, .string ⟨#[]⟩] 53) = w1 := ⟨_, rfl⟩
  obtain ⟨b0, hb0⟩ : ∃ b0, w.heap.size = b0 := ⟨_, rfl⟩
  have h01 : Below w.heap.size w w1 := by rw [← hw1]; exact (Below.refl _ _).alloc (Nat.le_refl _) _
  have g0 : w1.heap[b0]? = some (.cells #[.int .i64 0, .int .i64 0, .complex .f64 0 0, .string ⟨#[]⟩] 53 (0, 0)) := by rw [← hw1, ← hb0]; exact heap_alloc_new _ _
  obtain ⟨wz, z1, z2, z3, -⟩ := Rw.put_row (P := Try.prog) (cs := [.int .i64 0, .int .i64 0, .complex .f64 0 0, .string ⟨#[]⟩]) g0 rfl (by decide) Try.underlying53 rfl sizeRep
  have hBz := h01.trans (z3.below (B := w.heap.size) h01.size (fun i hi e => by omega))
  rw [hw1, hb0]
  clear hw1 g0 z3 h01 hb0
  go_wp2_with ((with_reducible refine Rw.at_store 2 14 ?_); refine Rw.wpList_put rfl 53 (.tmp 2) (.tmp 14) rfl rfl rfl z1 ?_)
  (try simp only [Exit.inBlock, Exit.then]); refine bodyPost_ret (Rw.ret_cell rfl rfl rfl z2) rfl ?_
  exact ⟨rfl, hBz⟩
set_option maxHeartbeats 8000000 in
set_option maxRecDepth 100000 in
theorem gather_some (w : World) (A : Option Addr) (c : Nat) (C : List Fm) (e : Fm) (hL : FmsAt w w.heap.size A (C ++ [e])) (hn : C.length ≤ 12) (hcap : C.length + 1 ≤ c) (hl : ∀ f ∈ C ++ [e], f.l.length ≤ 2000) :
    Calls Try.prog 24 #[.slice A (C.length + 1) c] w fun x w' => x = .returned (.tuple #[RV (ge C e), .int .i64 (RE (ge C e))]) ∧ Below w.heap.size w w' := by
  have mixed : Try.prog.follows Departure.mixedOrders = true := by kernel_rfl
  obtain ⟨g, off, rfl, hg, hfa⟩ := hL.at_ C.length e (by simp)
  have hoke := hL.ok e (by simp)
  obtain ⟨m, hm⟩ : ∃ m, C.length = m := ⟨_, rfl⟩
  rw [hm] at hfa hn hcap ⊢
  have HM := Sh.mk hm
  have HL := Sh.mk hL
  have HLL := Sh.mk hl
  clear hm hL hl
  go_enter Try.func24, Try.ntmps24
  go_upto_region 1 with (fail)
  obtain ⟨w1, hw1⟩ : ∃ w1, w.alloc (.cells #[.int .i64 0, .int .i64 0, .complex .f64 0 0, .string ⟨#[]⟩] 53) = w1 := ⟨_, rfl⟩
  obtain ⟨b0, hb0⟩ : ∃ b0, w.heap.size = b0 := ⟨_, rfl⟩
  have h01 : Below w.heap.size w w1 := by rw [← hw1]; exact (Below.refl _ _).alloc (Nat.le_refl _) _
  have g0 : w1.heap[b0]? = some (.cells #[.int .i64 0, .int .i64 0, .complex .f64 0 0, .string ⟨#[]⟩] 53 (0, 0)) := by rw [← hw1, ← hb0]; exact heap_alloc_new _ _
  have fin : ∀ w2 (v : Rp), Below w1.heap.size w1 w2 → ∃ wz, (Instr.storeAt 53 (.pointer (some ⟨b0, 0, none⟩)) (RV v)).run Try.prog w2 = .ok () wz ∧ (loadVar 53 ⟨b0, 0, none⟩).run Try.prog wz = .ok (RV v) wz ∧ Below w.heap.size w wz := fun w2 v hb => by
    obtain ⟨cs, hcs, h1, h4⟩ : ∃ cs : List Value, RV v = .agg cs.toArray ∧ (∀ x ∈ cs, x.oneCell' = true) ∧ cs.length = 4 := by
      cases v with
      | none => exact ⟨_, rfl, by decide, rfl⟩
      | some p => exact ⟨[_, _, _, _], rfl, by simp [Value.oneCell'], rfl⟩
    obtain ⟨wz, z1, z2, z3, -⟩ := Rw.put_row (P := Try.prog) (cs := cs) ((hb.block b0 (by rw [← hb0]; exact Hp.lt_of_heap (by rw [hb0]; exact g0))).trans g0) (by rw [h4]; rfl) h1 Try.underlying53 rfl (by rw [h4]; exact sizeRep)
    rw [hcs]
    have hb' := h01.trans (hb.mono h01.size)
    exact ⟨wz, z1, z2, hb'.trans (z3.below (B := w.heap.size) hb'.size (fun i hi e => by omega))⟩
  have hfa1 := hfa.below h01
  have hok1 := hoke.below h01
  have hL1 := HL.out.below h01
  have HL1 := Sh.mk hL1
  have FIN := Sh.mk fin
  have HG := Sh.mk hg
  have HN := Sh.mk hn
  have HCAP := Sh.mk hcap
  have HB0 := Sh.mk hb0
  have HS1 := Sh.mk h01.size
  rw [hw1, hb0]
  clear hw1 hb0 fin hfa hoke HL hg h01 g0 hL1
  have m1_ : wrap64 (m : Int) = (m : Int) := by unfold wrap64; omega
  have m1b_ : IntKind.i64.wrap (m : Int) = (m : Int) := by rw [IntKind.wrap_i64]; omega
  have m0_ : ¬ ((m : Int) + 1 == 0) = true := by simp; omega
  have m2_ : (m : Int) ≤ (c : Int) := by omega
  have m3_ : (0 : Int) ≤ (m : Int) := by omega
  have m4_ : (m : Int) < (m : Int) + 1 := by omega
  clear hn hcap
  go_upto_region 3 with (fail)
  refine start_ (n := 14) (S := fun w' => w'.rangeAt g (off + m * 3) e.cells) (ds := [13]) #[false, false, false, false, false, false, false, false, false, false, false, false, false, false] (by kernel_rfl) rfl rfl (hfa1.range) (fun hHeld => ?_)
  refine pure_ (i := 0) (N := some 15) (v := ?_) (a' := ?_) #[true, false, false, false, false, false, false, false, false, false, false, false, false, false] rfl rfl (by kernel_rfl) (fun _ _ _ h => h) (Or.inl ⟨by rfl, ?_⟩) ?_ ?_
  rotate_left
  · intro w'
    go_simp
    with_reducible rfl
  rotate_left
  · simp only [Act.put, List.setIfInBounds_toArray, List.set_cons_zero, List.set_cons_succ]
    rfl
  refine pure_ (i := 1) (N := some 16) (v := ?_) (a' := ?_) #[true, true, false, false, false, false, false, false, false, false, false, false, false, false] rfl rfl (by kernel_rfl) (fun _ _ _ h => h) (Or.inl ⟨by rfl, ?_⟩) ?_ ?_
  rotate_left
  · intro w'
    go_simp
    with_reducible rfl
  rotate_left
  · simp only [Act.put, List.setIfInBounds_toArray, List.set_cons_zero, List.set_cons_succ]
    rfl
  refine pure_ (i := 2) (N := some 17) (v := ?_) (a' := ?_) #[true, true, true, false, false, false, false, false, false, false, false, false, false, false] rfl rfl (by kernel_rfl) (fun _ _ _ h => h) (Or.inl ⟨by rfl, ?_⟩) ?_ ?_
  rotate_left
  · intro w'
    go_simp
    with_reducible rfl
  rotate_left
  · simp only [Act.put, List.setIfInBounds_toArray, List.set_cons_zero, List.set_cons_succ]
    rfl
  refine pure_ (i := 3) (N := some 18) (v := ?_) (a' := ?_) #[true, true, true, true, false, false, false, false, false, false, false, false, false, false] rfl rfl (by kernel_rfl) (fun _ _ _ h => h) (Or.inl ⟨by rfl, ?_⟩) ?_ ?_
  rotate_left
  · intro w'
    go_simp
    with_reducible rfl
  rotate_left
  · simp only [Act.put, List.setIfInBounds_toArray, List.set_cons_zero, List.set_cons_succ]
    rfl
  refine pure_ (i := 4) (N := some 19) (v := ?_) (a' := ?_) #[true, true, true, true, true, false, false, false, false, false, false, false, false, false] rfl rfl (by kernel_rfl) (fun _ _ _ h => h) (Or.inl ⟨by rfl, ?_⟩) ?_ ?_
  rotate_left
  · intro w'
    go_simp
    with_reducible rfl
  rotate_left
  · simp only [Act.put, List.setIfInBounds_toArray, List.set_cons_zero, List.set_cons_succ]
    rfl
  refine pure_ (i := 5) (N := some 20) (v := ?_) (a' := ?_) #[true, true, true, true, true, true, false, false, false, false, false, false, false, false] rfl rfl (by kernel_rfl) (fun _ _ _ h => h) (Or.inl ⟨by rfl, ?_⟩) ?_ ?_
  rotate_left
  · intro w'
    go_simp
    with_reducible rfl
  rotate_left
  · simp only [Act.put, List.setIfInBounds_toArray, List.set_cons_zero, List.set_cons_succ]
    rfl
  refine pure_ (i := 6) (N := some 21) (v := ?_) (a' := ?_) #[true, true, true, true, true, true, true, false, false, false, false, false, false, false] rfl rfl (by kernel_rfl) (fun _ _ _ h => h) (Or.inl ⟨by rfl, ?_⟩) ?_ ?_
  rotate_left
  · intro w'
    go_simp
    with_reducible rfl
  rotate_left
  · simp only [Act.put, List.setIfInBounds_toArray, List.set_cons_zero, List.set_cons_succ]
    rfl
  refine pure_ (i := 7) (N := some 22) (v := ?_) (a' := ?_) #[true, true, true, true, true, true, true, true, false, false, false, false, false, false] rfl rfl (by kernel_rfl) (fun _ _ _ h => h) (Or.inl ⟨by rfl, ?_⟩) ?_ ?_
  rotate_left
  · intro w'
    go_simp
    with_reducible rfl
  rotate_left
  · simp only [Act.put, List.setIfInBounds_toArray, List.set_cons_zero, List.set_cons_succ]
    rfl
  refine pure_ (i := 8) (N := some 23) (v := ?_) (a' := ?_) #[true, true, true, true, true, true, true, true, true, false, false, false, false, false] rfl rfl (by kernel_rfl) (fun _ _ _ h => h) (Or.inl ⟨by rfl, ?_⟩) ?_ ?_
  rotate_left
  · intro w'
    go_simp
    with_reducible rfl
  rotate_left
  · simp only [Act.put, List.setIfInBounds_toArray, List.set_cons_zero, List.set_cons_succ]
    rfl
  refine pure_ (i := 9) (N := some 24) (v := ?_) (a' := ?_) #[true, true, true, true, true, true, true, true, true, true, false, false, false, false] rfl rfl (by kernel_rfl) (fun _ _ _ h => h) (Or.inl ⟨by rfl, ?_⟩) ?_ ?_
  rotate_left
  · intro w'
    go_simp
    with_reducible rfl
  rotate_left
  · simp only [Act.put, List.setIfInBounds_toArray, List.set_cons_zero, List.set_cons_succ]
    rfl
  refine take_ (i := 10) (N := some 25) (v := .agg e.cells.toArray) (a' := ?_) #[true, true, true, true, true, true, true, true, true, true, true, false, false, false] rfl rfl (by kernel_rfl) (fun _ _ _ h => h) (Or.inl ⟨by rfl, ?_⟩) hHeld ?_ ?_
  · rintro w' s0
    exact exec_load_mid 28 (.tmp 24) rfl (by rfl) s0 Try.underlying28 rfl sizeFrm
  rotate_left
  · simp only [Act.put, List.setIfInBounds_toArray, List.set_cons_zero, List.set_cons_succ]
    rfl
  obtain ⟨wd, hwd⟩ : ∃ wd, w1.drew = wd := ⟨_, rfl⟩
  have hBd : Below w1.heap.size w1 wd := by rw [← hwd]; exact (Below.refl _ _).drew
  have hsd : wd.heap.size = w1.heap.size := by rw [← hwd]; rfl
  rw [hwd] at hHeld ⊢
  obtain ⟨b5, hb5⟩ : ∃ b5, wd.heap.size = b5 := ⟨_, rfl⟩
  obtain ⟨w2, hw2⟩ : ∃ w2, wd.alloc (.cells #[.int .i64 0, .int .i64 0, .slice none 0 0] 28) = w2 := ⟨_, rfl⟩
  have hB2 : Below wd.heap.size wd w2 := by rw [← hw2]; exact (Below.refl _ _).alloc (Nat.le_refl _) _
  have g5 : w2.heap[b5]? = some (.cells #[.int .i64 0, .int .i64 0, .slice none 0 0] 28 (0, 0)) := by rw [← hw2, ← hb5]; exact heap_alloc_new _ _
  have hr2 : w2.rangeAt g (off + m * 3) e.cells := ((hfa1.below hBd).below hB2).range
  refine one_val (i := 11) (N := some 5) (v := .pointer (some ⟨wd.heap.size, 0, none⟩)) (w' := wd.alloc (.cells #[.int .i64 0, .int .i64 0, .slice none 0 0] 28)) (a' := ?_) #[true, true, true, true, true, true, true, true, true, true, true, true, false, false] rfl rfl (by kernel_rfl) (by decide) (by rfl) (by go_simp) ((by rw [hw2]; exact hr2)) ?_ ?_
  rotate_left
  · simp only [Act.put, List.setIfInBounds_toArray, List.set_cons_zero, List.set_cons_succ]
    rfl
  rw [hw2, hb5]
  obtain ⟨w3, z1, -, z3, z4⟩ := Rw.put_row (P := Try.prog) (cs := e.cells) g5 rfl (by simp [Fm.cells, Value.oneCell']) Try.underlying28 rfl sizeFrm
  refine pure_ (i := 12) (N := some 4) (v := ?_) (a' := ?_) #[true, true, true, true, true, true, true, true, true, true, true, true, true, false] rfl rfl (by kernel_rfl) (fun _ _ _ h => h) (Or.inl ⟨by rfl, ?_⟩) ?_ ?_
  rotate_left
  · intro w'
    go_simp
    with_reducible rfl
  rotate_left
  · simp only [Act.put, List.setIfInBounds_toArray, List.set_cons_zero, List.set_cons_succ]
    rfl
  refine last_skip (i := 13) (w' := w3) #[true, true, true, true, true, true, true, true, true, true, true, true, true, true] rfl rfl (by kernel_rfl) (by decide) (by rfl) (Rw.exec_put 28 (.tmp 5) (.tmp 25) rfl (by rfl) (by rfl) z1) ?_
  refine done_ (by kernel_rfl) ?_
  have hB3 : Below w1.heap.size w1 w3 := by
    have h2 := hBd.trans (hB2.mono hBd.size)
    exact h2.trans (z3.below (B := w1.heap.size) h2.size (fun i hi e => by omega))
  have hs5 : w1.heap.size ≤ b5 := by omega
  have h53 : b5 < w3.heap.size := lt_of_heap z4
  have hfb := FmAt.of_blk z4
  obtain ⟨bl, hbl⟩ : ∃ bl, e.l.length = bl := ⟨_, rfl⟩
  have d0_ := hfb.c0
  have d1_ := hfb.c1
  have d2_ := hfb.c2
  rw [hbl] at d2_
  rw [Nat.zero_add] at d1_ d2_
  have HBL := Sh.mk hbl
  have HB3 := Sh.mk hB3
  have HS5 := Sh.mk hs5
  have H53 := Sh.mk h53
  have hok3 := hok1.kept (Kept.of_below (S := fun _ => False) hB3) (fun _ e => e.elim)
  have HOK3 := Sh.mk hok3
  have HL3 := Sh.mk (HL1.out.below hB3)
  clear hbl hB3 hs5 h53 hfb z1 z3 z4 hr2 g5 hB2 hw2 hb5 hsd hBd hwd hHeld hok1 hok3 hfa1 m0_ HL1 m1_ m1b_
  by_cases c1 : e.kind = 3
  rotate_left
  · have b1_ : (e.kind != 3) = true := by simpa using c1
    obtain ⟨wz, z1, z2, hBz⟩ := FIN.out w3 none (HB3.out)
    go_wp2_with ((with_reducible refine Rw.at_store 2 45 ?_); refine Rw.wpList_put rfl 53 (.tmp 2) (.tmp 45) rfl rfl rfl z1 ?_)
    (try simp only [Exit.inBlock, Exit.then]); refine bodyPost_ret (Rw.ret_cell rfl rfl rfl z2) rfl ?_
    exact ⟨by rw [ge_kind c1]; rfl, hBz⟩
  have b1_ : (e.kind != 3) = false := by simpa using c1
  by_cases c2 : bl = 6
  rotate_left
  · have b2_ : ((bl : Int) != 6) = true := by simp; omega
    obtain ⟨wz, z1, z2, hBz⟩ := FIN.out w3 none (HB3.out)
    go_wp2_with ((with_reducible refine Rw.at_store 2 45 ?_); refine Rw.wpList_put rfl 53 (.tmp 2) (.tmp 45) rfl rfl rfl z1 ?_)
    (try simp only [Exit.inBlock, Exit.then]); refine bodyPost_ret (Rw.ret_cell rfl rfl rfl z2) rfl ?_
    exact ⟨by rw [ge_len (C := C) (e := e) (by rw [HBL.out]; exact c2)]; rfl, hBz⟩
  subst c2
  by_cases c3 : e.id < 0
  · skip
    obtain ⟨wz, z1, z2, hBz⟩ := FIN.out w3 none (HB3.out)
    go_wp2_with ((with_reducible refine Rw.at_store 2 45 ?_); refine Rw.wpList_put rfl 53 (.tmp 2) (.tmp 45) rfl rfl rfl z1 ?_)
    (try simp only [Exit.inBlock, Exit.then]); refine bodyPost_ret (Rw.ret_cell rfl rfl rfl z2) rfl ?_
    exact ⟨by rw [ge_low (C := C) (e := e) c3]; rfl, hBz⟩
  by_cases c4 : 65535 < e.id
  · skip
    obtain ⟨wz, z1, z2, hBz⟩ := FIN.out w3 none (HB3.out)
    go_wp2_with ((with_reducible refine Rw.at_store 2 45 ?_); refine Rw.wpList_put rfl 53 (.tmp 2) (.tmp 45) rfl rfl rfl z1 ?_)
    (try simp only [Exit.inBlock, Exit.then]); refine bodyPost_ret (Rw.ret_cell rfl rfl rfl z2) rfl ?_
    exact ⟨by rw [ge_high (C := C) (e := e) c4]; rfl, hBz⟩
  go_upto_region 7 with (fail)
  obtain ⟨b6, hb6⟩ : ∃ b6, w3.heap.size = b6 := ⟨_, rfl⟩
  obtain ⟨w4, hw4⟩ : ∃ w4, w3.alloc (.cells #[.pointer none, .slice none 0 0] 89) = w4 := ⟨_, rfl⟩
  have hbu : Lib.IsBuilder 89 5 b6 b6 [] w4 := by rw [← hw4, ← hb6]; exact Lib.fresh_isBuilder _ _ _
  have hB4 : Below w3.heap.size w3 w4 := by rw [← hw4]; exact (Below.refl _ _).alloc (Nat.le_refl _) _
  have hs4 : b6 < w4.heap.size := by rw [← hw4, ← hb6]; simp
  have hb56 : b5 < b6 := by have := H53.out; omega
  have H56 := Sh.mk hb56
  have hB14 : Below w1.heap.size w1 w4 := HB3.out.trans (hB4.mono HB3.out.size)
  have HB14 := Sh.mk hB14
  have HL4 := Sh.mk (HL3.out.below hB4)
  have hok4 := HOK3.out.below hB4
  have HOK4 := Sh.mk hok4
  have HS16 := Sh.mk (show w1.heap.size ≤ b6 by have := HS5.out; omega)
  have e0_ : w4.cell? ⟨b5, 0, none⟩ = some (.int .i64 e.id) := (hB4.cell (p := ⟨b5, 0, none⟩) (by rw [hb6]; exact hb56)).trans d0_
  have e2_ : w4.cell? ⟨b5, 2, none⟩ = some (.slice e.A 6 e.c) := (hB4.cell (p := ⟨b5, 2, none⟩) (by rw [hb6]; exact hb56)).trans d2_
  have E0 := Sh.mk e0_
  have E2 := Sh.mk e2_
  have HS4 := Sh.mk hs4
  rw [hw4, hb6]
  clear hw4 hb6 hB4 hs4 hb56 hB14 hok4 d0_ d1_ d2_ e0_ e2_ b1_ HOK3 HL3
  go_wp2_with fail
  go_loopg [48] m (fun kq v48 w' => ∃ (i : Nat) (acc : List Int), i + kq = m ∧ v48 = .int .i64 (i : Int) ∧ Sh (gl e.id (C.drop i) acc = gl e.id C [] ∧ acc.length ≤ 2000 * i ∧ (∀ x ∈ acc, 0 ≤ x ∧ x ≤ 255) ∧ Lib.IsBuilder 89 5 b6 b6 (acc.map (Value.int .u8)) w' ∧ Below b6 w4 w'))
  case atStart => exact ⟨0, [], by omega, rfl, ⟨rfl, by simp, by simp, hbu, Below.refl _ _⟩⟩
  case round =>
    obtain ⟨i, acc, hik, rfl, ⟨hgl, hacc, hby, hbu, hB⟩⟩ := hrel
    have HGL := Sh.mk hgl
    have HAC := Sh.mk hacc
    have HB := Sh.mk hB
    have HI := Sh.mk hik
    have HBU := Sh.mk hbu
    have HBY := Sh.mk hby
    have n12 := HN.out
    have hrs : b6 < wr.heap.size := Nat.lt_of_lt_of_le HS4.out hB.size
    have x0_ : wr.cell? ⟨b5, 0, none⟩ = some (.int .i64 e.id) := (hB.cell (p := ⟨b5, 0, none⟩) H56.out).trans E0.out
    have HX0 := Sh.mk x0_
    clear hgl hacc hbu hby
    cases gk with
    | zero =>
      obtain rfl : i = m := by omega
      have kk : ¬ (i : Int) < (i : Int) := by omega
      obtain ⟨n0, n1, n2, n3, n4, n5, hel⟩ := ends_six HBL.out
      have hokr : FmOk wr w.heap.size e := HOK4.out.kept (S := fun k => b6 ≤ k) (kept_below hB) (fun k hk => by have := HS16.out; have := HS1.out; omega)
      obtain ⟨ea, hea, -⟩ := hokr.byt (by rw [HBL.out]; decide)
      have hc6 : 6 ≤ e.c := by have := hokr.len; rw [HBL.out] at this; exact this
      have hnum := hokr.num
      have hn' := hnum
      rw [hel] at hn'
      have HNUM := Sh.mk hn'
      have y2_ : wr.cell? ⟨b5, 2, none⟩ = some (.slice (some ea) 6 e.c) := by
        rw [← hea]
        exact (hB.cell (p := ⟨b5, 2, none⟩) H56.out).trans E2.out
      have hby2 : Bytes wr (some ea) e.l := hea ▸ hokr.byt
      have hgl2 : gl e.id C [] = some acc := by
        rw [← HGL.out]
        have := gl_all (id := e.id) (C := C) acc
        rw [HM.out] at this
        exact this
      have HGE := Sh.mk (ge_good (e := e) c1 (by omega) (by omega) hel hgl2)
      have hwd : Below wr.heap.size wr wr.drew := (Below.refl _ _).drew
      have part : ∀ (W : World) (j : Nat) (x y : Int) (r : List Int), Below wr.heap.size wr W → j ≤ 4 → e.l.drop j = x :: y :: r → Calls Try.prog 41 #[.int .i64 (j : Int), .pointer (some ⟨b5, 0, none⟩)] W fun x2 w' => x2 = .returned (.float .f64 (FloatKind.f64.nearest (256 * x + y))) ∧ Below wr.heap.size wr w' ∧ w'.cell? ⟨b5, 0, none⟩ = some (.int .i64 e.id) := fun W j x y r hW hj hd => by
        refine (part_ok W b5 e.c j ea e.l x y r ((hW.cell (p := ⟨b5, 2, none⟩) (by have := H56.out; show b5 < wr.heap.size; omega)).trans y2_) (hby2.below hW) HBL.out hnum hc6 hj hd).mono ?_
        rintro e2 w' ⟨rfl, hb⟩
        have hb2 := hW.trans (hb.mono hW.size)
        exact ⟨rfl, hb2, (hb2.cell (p := ⟨b5, 0, none⟩) (by have := H56.out; show b5 < wr.heap.size; omega)).trans x0_⟩
      have PART := Sh.mk part
      have HHEL := Sh.mk hel
      have hte : ∀ (W : World), Sem.run Try.prog (convert 67 24 (.float .f64 (FloatKind.f64.nearest (256 * n0 + n1)))) W = .ok (.int .i64 (256 * n0 + n1)) W := fun W => toErrI W _ (by have := hn' n0 (by simp); have := hn' n1 (by simp); omega) (by have := hn' n0 (by simp); have := hn' n1 (by simp); omega)
      have hcx := fun (W : World) (x y : Nat) => toCx W x y
      clear part hel hnum hn' hea hby2 hgl2 hokr y2_ hc6
      go_upto_region 16 with (fail)
      refine start_ (n := 14) (S := fun w' => w'.cell? ⟨b5, 0, none⟩ = some (.int .i64 e.id)) (ds := [12]) #[false, false, false, false, false, false, false, false, false, false, false, false, false, false] (by kernel_rfl) rfl rfl (x0_) (fun hHeld => ?_)
      have HWD := Sh.mk hwd
      generalize wr.drew = wa at HWD hHeld ⊢
      clear hwd
      refine pure_ (i := 0) (N := some 91) (v := ?_) (a' := ?_) #[true, false, false, false, false, false, false, false, false, false, false, false, false, false] rfl rfl (by kernel_rfl) (fun _ _ _ h => h) (Or.inl ⟨by rfl, ?_⟩) ?_ ?_
      rotate_left
      · intro w'
        go_simp
        with_reducible rfl
      rotate_left
      · simp only [Act.put, List.setIfInBounds_toArray, List.set_cons_zero, List.set_cons_succ]
        rfl
      refine take_ (i := 1) (N := some 92) (v := ?_) (a' := ?_) #[true, true, false, false, false, false, false, false, false, false, false, false, false, false] rfl rfl (by kernel_rfl) (fun _ _ _ h => h) (Or.inl ⟨by rfl, ?_⟩) hHeld ?_ ?_
      rotate_left
      · rintro w' s0
        go_simp
        with_reducible rfl
      rotate_left
      · simp only [Act.put, List.setIfInBounds_toArray, List.set_cons_zero, List.set_cons_succ]
        rfl
      refine pure_ (i := 2) (N := some 93) (v := ?_) (a' := ?_) #[true, true, true, false, false, false, false, false, false, false, false, false, false, false] rfl rfl (by kernel_rfl) (fun _ _ _ h => h) (Or.inl ⟨by rfl, ?_⟩) ?_ ?_
      rotate_left
      · intro w'
        go_simp
        with_reducible rfl
      rotate_left
      · simp only [Act.put, List.setIfInBounds_toArray, List.set_cons_zero, List.set_cons_succ]
        rfl
      refine pure_ (i := 5) (N := some 96) (v := ?_) (a' := ?_) #[true, true, true, false, false, true, false, false, false, false, false, false, false, false] rfl rfl (by kernel_rfl) (fun _ _ _ h => h) (Or.inl ⟨by rfl, ?_⟩) ?_ ?_
      rotate_left
      · intro w'
        go_simp
        with_reducible rfl
      rotate_left
      · simp only [Act.put, List.setIfInBounds_toArray, List.set_cons_zero, List.set_cons_succ]
        rfl
      refine pure_ (i := 7) (N := some 98) (v := ?_) (a' := ?_) #[true, true, true, false, false, true, false, true, false, false, false, false, false, false] rfl rfl (by kernel_rfl) (fun _ _ _ h => h) (Or.inl ⟨by rfl, ?_⟩) ?_ ?_
      rotate_left
      · intro w'
        go_simp
        with_reducible rfl
      rotate_left
      · simp only [Act.put, List.setIfInBounds_toArray, List.set_cons_zero, List.set_cons_succ]
        rfl
      refine one_call (i := 3) (N := some 94) 41 #[.int .i64 0, .pointer (some ⟨b5, 0, none⟩)] #[true, true, true, true, false, true, false, true, false, false, false, false, false, false] rfl rfl (by kernel_rfl) (by decide) (by rfl) (by go_simp) ?_
      refine (PART.out wa 0 n0 n1 [n2, n3, n4, n5] HWD.out (by decide) (by rw [HHEL.out]; rfl)).mono ?_
      rintro e2 wb ⟨rfl, hb, hs⟩
      refine ⟨_, rfl, hs, ?_⟩
      simp only [Act.put, List.setIfInBounds_toArray, List.set_cons_zero, List.set_cons_succ]
      have HWB := Sh.mk hb
      clear hb HWD hHeld hs
      refine pure_ (i := 4) (N := some 95) (v := ?_) (a' := ?_) #[true, true, true, true, true, true, false, true, false, false, false, false, false, false] rfl rfl (by kernel_rfl) (fun _ _ _ h => h) (Or.inl ⟨by rfl, ?_⟩) ?_ ?_
      rotate_left
      · intro w'
        go_simp
        with_reducible rfl
      rotate_left
      · simp only [Act.put, List.setIfInBounds_toArray, List.set_cons_zero, List.set_cons_succ]
        rfl
      refine one_call (i := 6) (N := some 97) 41 #[.int .i64 2, .pointer (some ⟨b5, 0, none⟩)] #[true, true, true, true, true, true, true, true, false, false, false, false, false, false] rfl rfl (by kernel_rfl) (by decide) (by rfl) (by go_simp) ?_
      refine (PART.out wb 2 n2 n3 [n4, n5] HWB.out (by decide) (by rw [HHEL.out]; rfl)).mono ?_
      rintro e2 wc ⟨rfl, hb, hs⟩
      refine ⟨_, rfl, hs, ?_⟩
      simp only [Act.put, List.setIfInBounds_toArray, List.set_cons_zero, List.set_cons_succ]
      have HWC := Sh.mk hb
      clear hb HWB hs
      refine one_call (i := 8) (N := some 99) 41 #[.int .i64 4, .pointer (some ⟨b5, 0, none⟩)] #[true, true, true, true, true, true, true, true, true, false, false, false, false, false] rfl rfl (by kernel_rfl) (by decide) (by rfl) (by go_simp) ?_
      refine (PART.out wc 4 n4 n5 [] HWC.out (by decide) (by rw [HHEL.out]; rfl)).mono ?_
      rintro e2 we ⟨rfl, hb, hs⟩
      refine ⟨_, rfl, hs, ?_⟩
      simp only [Act.put, List.setIfInBounds_toArray, List.set_cons_zero, List.set_cons_succ]
      have HWE := Sh.mk hb
      clear hb HWC hs
      refine pure_ (i := 9) (N := some 100) (v := ?_) (a' := ?_) #[true, true, true, true, true, true, true, true, true, true, false, false, false, false] rfl rfl (by kernel_rfl) (fun _ _ _ h => h) (Or.inl ⟨by rfl, ?_⟩) ?_ ?_
      rotate_left
      · intro w'
        go_simp
        with_reducible rfl
      rotate_left
      · simp only [Act.put, List.setIfInBounds_toArray, List.set_cons_zero, List.set_cons_succ]
        rfl
      refine one_call (i := 10) (N := some 101) 42 #[.pointer (some ⟨b6, 0, none⟩)] #[true, true, true, true, true, true, true, true, true, true, true, false, false, false] rfl rfl (by kernel_rfl) (by decide) (by rfl) (by go_simp) ?_
      refine (Try.Builder_String_any b6 b6 (acc.map fun n => UInt8.ofNat n.toNat) we (cells_acc HBY.out ▸ bld_kept HBU.out (Kept.of_below (S := fun _ => False) HWE.out) (fun _ e => e.elim)) (by have := HWE.out.size; omega)).mono ?_
      rintro e2 wf ⟨rfl, hb⟩
      refine ⟨_, rfl, (hb.cell (p := ⟨b5, 0, none⟩) H56.out).trans ((HWE.out.cell (p := ⟨b5, 0, none⟩) (by have := H56.out; show b5 < wr.heap.size; omega)).trans x0_), ?_⟩
      simp only [Act.put, List.setIfInBounds_toArray, List.set_cons_zero, List.set_cons_succ]
      have HWF := Sh.mk (HB14.out.trans (((HB.out.trans (HWE.out.mono (by omega))).trans hb).mono HS16.out))
      clear hb HWE
      refine pure_ (i := 11) (N := some 102) (v := ?_) (a' := ?_) #[true, true, true, true, true, true, true, true, true, true, true, true, false, false] rfl rfl (by kernel_rfl) (fun _ _ _ h => h) (Or.inl ⟨by rfl, ?_⟩) ?_ ?_
      rotate_left
      · intro w'
        go_simp
        with_reducible rfl
      rotate_left
      · simp only [Act.put, List.setIfInBounds_toArray, List.set_cons_zero, List.set_cons_succ]
        rfl
      obtain ⟨wz, z1, z2, hBz⟩ := FIN.out wf (ge C e) HWF.out
      have hv : RV (ge C e) = .agg #[.int .i64 e.id, .int .i64 (256 * n0 + n1), .complex .f64 (FloatKind.f64.nearest (256 * n2 + n3)) (FloatKind.f64.nearest (256 * n4 + n5)), .string ⟨(acc.map fun n => UInt8.ofNat n.toNat).toArray⟩] := by
        have k0 := HNUM.out n0 (by simp)
        have k1 := HNUM.out n1 (by simp)
        have k2 := HNUM.out n2 (by simp)
        have k3 := HNUM.out n3 (by simp)
        have k4 := HNUM.out n4 (by simp)
        have k5 := HNUM.out n5 (by simp)
        rw [HGE.out, near_fl (256 * n2 + n3) (by omega), near_fl (256 * n4 + n5) (by omega)]
        show Value.agg #[_, .int .i64 ((256 * n0 + n1).toNat : Int), _, _] = _
        rw [Int.toNat_of_nonneg (by omega)]
        rfl
      rw [hv] at z1
      refine last_skip (i := 12) (w' := wz) #[true, true, true, true, true, true, true, true, true, true, true, true, true, false] rfl rfl (by kernel_rfl) (by decide) (by rfl) (Rw.exec_put 53 (.tmp 2) (.tmp 102) rfl (by rfl) (by rfl) z1) ?_
      refine pure_ (i := 13) (N := some 3) (v := ?_) (a' := ?_) #[true, true, true, true, true, true, true, true, true, true, true, true, true, true] rfl rfl (by kernel_rfl) (fun _ _ _ h => h) (Or.inl ⟨by rfl, ?_⟩) ?_ ?_
      rotate_left
      · intro w'
        go_simp
        with_reducible rfl
      rotate_left
      · simp only [Act.put, List.setIfInBounds_toArray, List.set_cons_zero, List.set_cons_succ]
        rfl
      refine done_ (by kernel_rfl) ?_
      clear z1 hv hte hcx x0_
      go_wp2_with fail
      (try simp only [Exit.inBlock, Exit.then]); refine bodyPost_ret (Rw.ret_cell rfl rfl rfl z2) rfl ?_
      exact ⟨by rw [HGE.out]; rfl, hBz⟩
    | succ g1_ =>
      have him : i < m := by omega
      obtain ⟨f, hf⟩ : ∃ f, C[i]? = some f := ⟨_, List.getElem?_eq_getElem (by rw [HM.out]; exact him)⟩
      have hfL : (C ++ [e])[i]? = some f := by rw [List.getElem?_append_left (by rw [HM.out]; exact him)]; exact hf
      have hLr : FmsAt wr w.heap.size (some ⟨g, off, none⟩) (C ++ [e]) := HL4.out.kept (S := fun k => b6 ≤ k) (kept_below hB) (fun k hk => by have := HS16.out; have := HS1.out; omega)
      obtain ⟨g', off', hgg, -, hfa⟩ := hLr.at_ i f hfL
      cases hgg
      have hok := hLr.ok f (List.mem_of_getElem? hfL)
      have hb2 := HLL.out f (List.mem_of_getElem? hfL)
      have hld := run_loadAt_mid (P := Try.prog) wr g (off + i * 3) 28 f.cells _ hfa.range Try.underlying28 rfl sizeFrm
      obtain ⟨b8, hb8⟩ : ∃ b8, wr.heap.size = b8 := ⟨_, rfl⟩
      obtain ⟨w5, hw5⟩ : ∃ w5, wr.alloc (.cells #[.int .i64 0, .int .i64 0, .slice none 0 0] 28) = w5 := ⟨_, rfl⟩
      have h5 : w5.heap[b8]? = some (.cells #[.int .i64 0, .int .i64 0, .slice none 0 0] 28 (0, 0)) := by rw [← hw5, ← hb8]; exact heap_alloc_new _ _
      have hB5 : Below wr.heap.size wr w5 := by rw [← hw5]; exact (Below.refl _ _).alloc (Nat.le_refl _) _
      obtain ⟨w6, z1, -, z3, z4⟩ := Rw.put_row (P := Try.prog) (cs := f.cells) h5 rfl (by simp [Fm.cells, Value.oneCell']) Try.underlying28 rfl sizeFrm
      have hB6 : Below wr.heap.size wr w6 := hB5.trans (z3.below (B := wr.heap.size) hB5.size (fun k hk e => by omega))
      have HBU6 := Sh.mk (bld_kept HBU.out (Kept.of_below (S := fun _ => False) hB6) (fun _ e => e.elim))
      have HB6 := Sh.mk (hB.trans (hB6.mono (by omega)))
      have HOK6 := Sh.mk (hok.below hB6)
      have hs6 : b6 < w6.heap.size := Nat.lt_of_lt_of_le hrs hB6.size
      have HS6 := Sh.mk hs6
      have kk : (i : Int) < (m : Int) := by omega
      have w6_ := wrap_one i m him (by omega)
      have y0_ : w6.cell? ⟨b5, 0, none⟩ = some (.int .i64 e.id) := (hB6.cell (p := ⟨b5, 0, none⟩) (by have := H56.out; show b5 < wr.heap.size; omega)).trans x0_
      clear hfL hLr hfa hok hB5 h5 z3 x0_ HBU HX0
      have hfb := FmAt.of_blk z4
      obtain ⟨bf, hbf⟩ : ∃ bf, f.l.length = bf := ⟨_, rfl⟩
      have p0_ := hfb.c0
      have p1_ := hfb.c1
      have p2_ := hfb.c2
      rw [hbf] at p2_ hb2
      rw [Nat.zero_add] at p1_ p2_
      have HBF := Sh.mk hbf
      have HF := Sh.mk hf
      clear hfb hbf hf z4 hB hB6 hrs
      go_upto_region 10 with (first | ((with_reducible refine Rw.at_slot 52 ?_); refine Rw.wpList_get rfl 28 (.tmp 51) rfl rfl hld ?_) | ((with_reducible refine Rw.at_store 8 52 ?_); (try simp only [hw5, hb8]); refine Rw.wpList_put rfl 28 (.tmp 8) (.tmp 52) rfl rfl rfl z1 ?_))
      clear hld z1 hw5 hb8 hs6
      by_cases k1 : f.kind = 2
      rotate_left
      · have q1_ : (f.kind != 2) = true := by simpa using k1
        have HST := Sh.mk (ge_bad (C := C) (e := e) (HGL.out.symm.trans (gl_stop HF.out acc (by rw [HBF.out, HM.out]; omega))))
        obtain ⟨wz, z1, z2, hBz⟩ := FIN.out w6 none (HB14.out.trans (HB6.out.mono HS16.out))
        go_wp2_with ((with_reducible refine Rw.at_store 2 85 ?_); refine Rw.wpList_put rfl 53 (.tmp 2) (.tmp 85) rfl rfl rfl z1 ?_)
        (try simp only [Exit.inBlock, Exit.then]); refine bodyPost_ret (Rw.ret_cell rfl rfl rfl z2) rfl ?_
        exact ⟨by rw [HST.out]; rfl, hBz⟩
      have q1_ : (f.kind != 2) = false := by simpa using k1
      by_cases k2 : f.id = e.id
      rotate_left
      · have q2_ : (f.id != e.id) = true := by simpa using k2
        have HST := Sh.mk (ge_bad (C := C) (e := e) (HGL.out.symm.trans (gl_stop HF.out acc (by rw [HBF.out, HM.out]; omega))))
        obtain ⟨wz, z1, z2, hBz⟩ := FIN.out w6 none (HB14.out.trans (HB6.out.mono HS16.out))
        go_wp2_with ((with_reducible refine Rw.at_store 2 85 ?_); refine Rw.wpList_put rfl 53 (.tmp 2) (.tmp 85) rfl rfl rfl z1 ?_)
        (try simp only [Exit.inBlock, Exit.then]); refine bodyPost_ret (Rw.ret_cell rfl rfl rfl z2) rfl ?_
        exact ⟨by rw [HST.out]; rfl, hBz⟩
      have q2_ : (f.id != e.id) = false := by simpa using k2
      by_cases k3 : bf = 0
      · subst k3
        have HST := Sh.mk (ge_bad (C := C) (e := e) (HGL.out.symm.trans (gl_stop HF.out acc (by rw [HBF.out, HM.out]; omega))))
        obtain ⟨wz, z1, z2, hBz⟩ := FIN.out w6 none (HB14.out.trans (HB6.out.mono HS16.out))
        go_wp2_with ((with_reducible refine Rw.at_store 2 85 ?_); refine Rw.wpList_put rfl 53 (.tmp 2) (.tmp 85) rfl rfl rfl z1 ?_)
        (try simp only [Exit.inBlock, Exit.then]); refine bodyPost_ret (Rw.ret_cell rfl rfl rfl z2) rfl ?_
        exact ⟨by rw [HST.out]; rfl, hBz⟩
      have q3_ : ((bf : Int) == 0) = false := by simp; omega
      by_cases k4 : (1000 : Int) < (bf : Int)
      · skip
        have HST := Sh.mk (ge_bad (C := C) (e := e) (HGL.out.symm.trans (gl_stop HF.out acc (by rw [HBF.out, HM.out]; omega))))
        obtain ⟨wz, z1, z2, hBz⟩ := FIN.out w6 none (HB14.out.trans (HB6.out.mono HS16.out))
        go_wp2_with ((with_reducible refine Rw.at_store 2 85 ?_); refine Rw.wpList_put rfl 53 (.tmp 2) (.tmp 85) rfl rfl rfl z1 ?_)
        (try simp only [Exit.inBlock, Exit.then]); refine bodyPost_ret (Rw.ret_cell rfl rfl rfl z2) rfl ?_
        exact ⟨by rw [HST.out]; rfl, hBz⟩
      by_cases k5 : (i : Int) < (m : Int) - 1 ∧ (bf : Int) < 1000
      · obtain ⟨k5, k6⟩ := k5
        have HST := Sh.mk (ge_bad (C := C) (e := e) (HGL.out.symm.trans (gl_stop HF.out acc (by rw [HBF.out, HM.out]; omega))))
        obtain ⟨wz, z1, z2, hBz⟩ := FIN.out w6 none (HB14.out.trans (HB6.out.mono HS16.out))
        go_wp2_with ((with_reducible refine Rw.at_store 2 85 ?_); refine Rw.wpList_put rfl 53 (.tmp 2) (.tmp 85) rfl rfl rfl z1 ?_)
        (try simp only [Exit.inBlock, Exit.then]); refine bodyPost_ret (Rw.ret_cell rfl rfl rfl z2) rfl ?_
        exact ⟨by rw [HST.out]; rfl, hBz⟩
      by_cases k6 : (bf : Int) < 1000
      · have k7 : ¬ (i : Int) < (m : Int) - 1 := fun h => k5 ⟨h, k6⟩
        have HST := Sh.mk ((gl_step HF.out acc k1 k2 (by rw [HBF.out]; omega) (by rw [HBF.out]; omega) (by rw [HBF.out, HM.out]; omega)).symm.trans HGL.out)
        obtain ⟨ad, hA, -⟩ := HOK6.out.byt (by rw [HBF.out]; omega)
        rw [hA] at p2_
        have hwr := write_ok b6 b6 (acc.map (Value.int .u8)) w6 HBU6.out ad f.l f.c (by rw [HBF.out]; omega) (hA ▸ HOK6.out.byt) (by have := HOK6.out.low (by rw [HBF.out]; omega) ad hA; have := HS16.out; have := HS1.out; omega) (by have := HAC.out; rw [List.length_map, HBF.out]; omega) (Nat.le_of_lt HS6.out)
        rw [HBF.out] at hwr
        have HWR := Sh.mk hwr
        clear hA hwr k3 k4 q1_ q2_ hb2
        go_wp2_with fail
        refine HWR.out.mono ?_
        rintro e2 w7 ⟨rfl, hbw, hB7⟩
        have HBW := Sh.mk hbw
        have HB7 := Sh.mk (HB6.out.trans hB7)
        clear hbw hB7 p0_ p1_ p2_ y0_
        go_wp2_with fail
        go_roundg g1_
        case measure => have := HI.out; omega
        case rel => exact ⟨i + 1, acc ++ f.l, by have := HI.out; omega, (by first | rfl | (rw [w6_]) | simp), ⟨HST.out, by have := HAC.out; rw [List.length_append, HBF.out]; omega, (fun x hx => (List.mem_append.1 hx).elim (HBY.out x) (HOK6.out.num x)), by rw [List.map_append]; exact Or.inr HBW.out, HB7.out⟩⟩
      · clear k5
        have HST := Sh.mk ((gl_step HF.out acc k1 k2 (by rw [HBF.out]; omega) (by rw [HBF.out]; omega) (by rw [HBF.out, HM.out]; omega)).symm.trans HGL.out)
        obtain ⟨ad, hA, -⟩ := HOK6.out.byt (by rw [HBF.out]; omega)
        rw [hA] at p2_
        have hwr := write_ok b6 b6 (acc.map (Value.int .u8)) w6 HBU6.out ad f.l f.c (by rw [HBF.out]; omega) (hA ▸ HOK6.out.byt) (by have := HOK6.out.low (by rw [HBF.out]; omega) ad hA; have := HS16.out; have := HS1.out; omega) (by have := HAC.out; rw [List.length_map, HBF.out]; omega) (Nat.le_of_lt HS6.out)
        rw [HBF.out] at hwr
        have HWR := Sh.mk hwr
        clear hA hwr k3 q1_ q2_ hb2
        go_wp2_with fail
        refine HWR.out.mono ?_
        rintro e2 w7 ⟨rfl, hbw, hB7⟩
        have HBW := Sh.mk hbw
        have HB7 := Sh.mk (HB6.out.trans hB7)
        clear hbw hB7 p0_ p1_ p2_ y0_
        go_wp2_with fail
        go_roundg g1_
        case measure => have := HI.out; omega
        case rel => exact ⟨i + 1, acc ++ f.l, by have := HI.out; omega, (by first | rfl | (rw [w6_]) | simp), ⟨HST.out, by have := HAC.out; rw [List.length_append, HBF.out]; omega, (fun x hx => (List.mem_append.1 hx).elim (HBY.out x) (HOK6.out.num x)), by rw [List.map_append]; exact Or.inr HBW.out, HB7.out⟩⟩
end Go.Proofs.Ytgnepppncmjagaa.Gt
