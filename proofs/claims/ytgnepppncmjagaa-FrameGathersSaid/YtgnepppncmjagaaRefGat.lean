/- The document's Gather. -/
import Derived.Test.YtgnepppncmjagaaPureGat
import Derived.Test.YtgnepppncmjagaaTold
namespace Go.Proofs.Ytgnepppncmjagaa.Gt
open Go Go.RowKit Hp Rd Go.Proofs.Ytgnepppncmjagaa.Fr Go.Proofs.YtgnepppncmjagaaW.PrintWords Go.Proofs.YtgnepppncmjagaaW.PrintLast
theorem below_drewN {B : Nat} {a w : World} (h : Below B a w) (n : Nat) : Below B a (w.drewN n) := ⟨h.os, h.tape, h.output, h.size, h.block⟩
theorem str_add (a b : List Int) : strOfNums a ++ strOfNums b = strOfNums (a ++ b) := by
  apply ByteArray.ext
  apply Array.toList_inj.1
  simp [strOfNums]
theorem add_nil (a : Addr) : a.add 0 = a := by simp [Addr.add]
theorem add_pos (a : Addr) (j : Nat) (h : 0 < j) : a.add j = ⟨a.block, a.off + j, none⟩ := by
  unfold Addr.add
  rw [if_neg (by omega)]
theorem two_wrap (a b : Int) (ha : 0 ≤ a ∧ a ≤ 255) (hb : 0 ≤ b ∧ b ≤ 255) : IntKind.i64.wrap (IntKind.i64.wrap (256 * IntKind.i64.wrap a) + IntKind.i64.wrap b) = (((256 * a + b).toNat : Nat) : Int) := by
  have e : ∀ x : Int, 0 ≤ x → x ≤ 100000 → IntKind.i64.wrap x = x := fun x h0 h1 => by rw [IntKind.wrap_i64]; omega
  rw [e a (by omega) (by omega), e b (by omega) (by omega), e (256 * a) (by omega) (by omega), e (256 * a + b) (by omega) (by omega)]
  omega
theorem sizeRep : (Try.prog.info? 53).map (·.size) = some 4 := by kernel_rfl
set_option maxHeartbeats 4000000 in
set_option maxRecDepth 100000 in
theorem refgather_nil (w : World) (A : Option Addr) (c : Nat) :
    Calls Try.prog 25 #[.slice A 0 c] w fun e w' => e = .returned (.tuple #[RV none, .int .i64 231]) ∧ Below w.heap.size w w' := by
  go_enter Try.func25, Try.ntmps25
  go_upto_region 1 with (fail)
  obtain ⟨w1, hw1⟩ : ∃ w1, w.alloc (.cells #[.int .i64 0, .int .i64 0, .complex .f64 0 0, .string ⟨#[]⟩] 53) = w1 := ⟨_, rfl⟩
  obtain ⟨b0, hb0⟩ : ∃ b0, w.heap.size = b0 := ⟨_, rfl⟩
  have h01 : Below w.heap.size w w1 := by rw [← hw1]; exact (Below.refl _ _).alloc (Nat.le_refl _) _
  have g0 : w1.heap[b0]? = some (.cells #[.int .i64 0, .int .i64 0, .complex .f64 0 0, .string ⟨#[]⟩] 53 (0, 0)) := by rw [← hw1, ← hb0]; exact heap_alloc_new _ _
  obtain ⟨wz, z1, z2, z3, -⟩ := Rw.put_row (P := Try.prog) (cs := [.int .i64 0, .int .i64 0, .complex .f64 0 0, .string ⟨#[]⟩]) g0 rfl (by decide) Try.underlying53 rfl sizeRep
  have hBz := h01.trans (z3.below (B := w.heap.size) h01.size (fun i hi e => by omega))
  rw [hw1, hb0]
  clear hw1 g0 z3 h01 hb0
  go_wp2_with ((with_reducible refine Rw.at_store 2 47 ?_); refine Rw.wpList_put rfl 53 (.tmp 2) (.tmp 47) rfl rfl rfl z1 ?_)
  (try simp only [Exit.inBlock, Exit.then]); refine bodyPost_ret (Rw.ret_cell rfl rfl rfl z2) rfl ?_
  exact ⟨rfl, hBz⟩
set_option maxHeartbeats 8000000 in
set_option maxRecDepth 100000 in
theorem refgather_some (w : World) (A : Option Addr) (c : Nat) (C : List Fm) (e : Fm) (hL : FmsAt w w.heap.size A (C ++ [e])) (hn : C.length ≤ 12) (hl : ∀ f ∈ C ++ [e], f.l.length ≤ 2000) :
    Calls Try.prog 25 #[.slice A (C.length + 1) c] w fun x w' => x = .returned (.tuple #[RV (ge C e), .int .i64 (RE (ge C e))]) ∧ Below w.heap.size w w' := by
  obtain ⟨g, off, rfl, hg, hfa⟩ := hL.at_ C.length e (by simp)
  have hoke := hL.ok e (by simp)
  obtain ⟨m, hm⟩ : ∃ m, C.length = m := ⟨_, rfl⟩
  rw [hm] at hfa hn ⊢
  have HM := Sh.mk hm
  have HL := Sh.mk hL
  have HLL := Sh.mk hl
  clear hm hL hl
  go_enter Try.func25, Try.ntmps25
  go_upto_region 1 with (fail)
  obtain ⟨w1, hw1⟩ : ∃ w1, w.alloc (.cells #[.int .i64 0, .int .i64 0, .complex .f64 0 0, .string ⟨#[]⟩] 53) = w1 := ⟨_, rfl⟩
  obtain ⟨b0, hb0⟩ : ∃ b0, w.heap.size = b0 := ⟨_, rfl⟩
  have h01 : Below w.heap.size w w1 := by rw [← hw1]; exact (Below.refl _ _).alloc (Nat.le_refl _) _
  have g0 : w1.heap[b0]? = some (.cells #[.int .i64 0, .int .i64 0, .complex .f64 0 0, .string ⟨#[]⟩] 53 (0, 0)) := by rw [← hw1, ← hb0]; exact heap_alloc_new _ _
  have fin : ∀ w2 (v : Rp), Below w1.heap.size w1 w2 → ∃ wz, (Instr.storeAt 53 (.pointer (some ⟨b0, 0, none⟩)) (RV v)).run Try.prog w2 = .ok () wz ∧ (loadVar 53 ⟨b0, 0, none⟩).run Try.prog wz = .ok (RV v) wz ∧ Below w.heap.size w wz := fun w2 v hb => by
    obtain ⟨cs, hcs, h1, h4⟩ : ∃ cs : List Value, RV v = .agg cs.toArray ∧ (∀ x ∈ cs, x.oneCell' = true) ∧ cs.length = 4 := by
      cases v with
      | none => exact ⟨_, rfl, by decide, rfl⟩
      | some p => exact ⟨[_, _, _, _], rfl, by simp [Value.oneCell'], rfl⟩
    obtain ⟨wz, z1, z2, z3, -⟩ := Rw.put_row (P := Try.prog) (cs := cs) ((hb.block b0 (by rw [← hb0]; exact Hp.lt_of_heap (by rw [hb0]; exact g0))).trans g0) (by rw [h4]; rfl) h1 Try.underlying53 rfl (by rw [h4]; exact sizeRep)
    rw [hcs]
    have hb' := h01.trans (hb.mono h01.size)
    exact ⟨wz, z1, z2, hb'.trans (z3.below (B := w.heap.size) hb'.size (fun i hi e => by omega))⟩
  have hfa1 := hfa.below h01
  have hok1 := hoke.below h01
  have HL1 := Sh.mk (HL.out.below h01)
  have FIN := Sh.mk fin
  have HG := Sh.mk hg
  have HN := Sh.mk hn
  rw [hw1, hb0]
  clear hw1 hb0 fin hfa hoke HL hg
  have d0_ := hfa1.c0
  have d1_ := hfa1.c1
  have d2_ := hfa1.c2
  have m1_ : wrap64 (m : Int) = (m : Int) := by unfold wrap64; omega
  have mk_ : ¬ (m : Int) < 0 := by omega
  have hlen1 := hok1.len
  obtain ⟨bl, hbl⟩ : ∃ bl, e.l.length = bl := ⟨_, rfl⟩
  rw [hbl] at d2_ hlen1
  have HBL := Sh.mk hbl
  clear hbl hn h01 g0 hfa1
  go_upto_region 2 with (fail)
  simp only [m1_]
  clear m1_
  by_cases c1 : e.kind = 3
  rotate_left
  · have b1_ : (e.kind != 3) = true := by simpa using c1
    obtain ⟨wz, z1, z2, hBz⟩ := FIN.out w1 none (Below.refl _ _)
    go_wp2_with ((with_reducible refine Rw.at_store 2 47 ?_); refine Rw.wpList_put rfl 53 (.tmp 2) (.tmp 47) rfl rfl rfl z1 ?_)
    skip
    (try simp only [Exit.inBlock, Exit.then]); refine bodyPost_ret (Rw.ret_cell rfl rfl rfl z2) rfl ?_
    exact ⟨by rw [ge_kind c1]; rfl, hBz⟩
  have b1_ : (e.kind != 3) = false := by simpa using c1
  by_cases c2 : bl = 6
  rotate_left
  · have b2_ : ((bl : Int) != 6) = true := by simp; omega
    obtain ⟨wz, z1, z2, hBz⟩ := FIN.out w1 none (Below.refl _ _)
    go_wp2_with ((with_reducible refine Rw.at_store 2 47 ?_); refine Rw.wpList_put rfl 53 (.tmp 2) (.tmp 47) rfl rfl rfl z1 ?_)
    skip
    (try simp only [Exit.inBlock, Exit.then]); refine bodyPost_ret (Rw.ret_cell rfl rfl rfl z2) rfl ?_
    exact ⟨by rw [ge_len (C := C) (e := e) (by rw [HBL.out]; exact c2)]; rfl, hBz⟩
  have b2_ : ((bl : Int) != 6) = false := by simp; omega
  by_cases c3 : e.id < 0
  · obtain ⟨wz, z1, z2, hBz⟩ := FIN.out w1 none (Below.refl _ _)
    go_wp2_with ((with_reducible refine Rw.at_store 2 47 ?_); refine Rw.wpList_put rfl 53 (.tmp 2) (.tmp 47) rfl rfl rfl z1 ?_)
    skip
    (try simp only [Exit.inBlock, Exit.then]); refine bodyPost_ret (Rw.ret_cell rfl rfl rfl z2) rfl ?_
    exact ⟨by rw [ge_low (C := C) (e := e) c3]; rfl, hBz⟩
  by_cases c4 : 65535 < e.id
  · obtain ⟨wz, z1, z2, hBz⟩ := FIN.out w1 none (Below.refl _ _)
    go_wp2_with ((with_reducible refine Rw.at_store 2 47 ?_); refine Rw.wpList_put rfl 53 (.tmp 2) (.tmp 47) rfl rfl rfl z1 ?_)
    skip
    (try simp only [Exit.inBlock, Exit.then]); refine bodyPost_ret (Rw.ret_cell rfl rfl rfl z2) rfl ?_
    exact ⟨by rw [ge_high (C := C) (e := e) c4]; rfl, hBz⟩
  go_wp2_with fail
  have D2 := Sh.mk d2_
  clear hlen1 d1_ d2_ mk_
  go_loopg [5, 6] m (fun kq v5 v6 w' => ∃ (i : Nat) (acc : List Int), i + kq = m ∧ v5 = .string (strOfNums acc) ∧ v6 = .int .i64 (i : Int) ∧ Sh (gl e.id (C.drop i) acc = gl e.id C [] ∧ acc.length ≤ 2000 * i ∧ Below w1.heap.size w1 w'))
  case atStart => exact ⟨0, [], by omega, rfl, rfl, ⟨rfl, by simp, Below.refl _ _⟩⟩
  case round =>
    obtain ⟨i, acc, hik, rfl, rfl, ⟨hgl, hacc, hB⟩⟩ := hrel
    have HGL := Sh.mk hgl
    have HAC := Sh.mk hacc
    have HB := Sh.mk hB
    have HI := Sh.mk hik
    have n12 := HN.out
    have x0_ : wr.cell? ⟨g, off + m * 3, none⟩ = some (.int .i64 e.id) := (World.cell?_of_block (a := ⟨g, off + m * 3, none⟩) (hB.block g (World.block_lt_of_cell? w1 ⟨g, off + m * 3, none⟩ d0_))).trans d0_
    clear hgl hacc
    cases gk with
    | zero =>
      obtain rfl : i = m := by omega
      have kk : ¬ (i : Int) < (i : Int) := by omega
      have kx_ : (i : Int) < (i : Int) + 1 := by omega
      subst c2
      have d2_ := D2.out
      obtain ⟨n0, n1, n2, n3, n4, n5, hel⟩ := ends_six HBL.out
      have hoe := (hok1.below hB).byt
      obtain ⟨ea, hea, hcs⟩ := hoe (by rw [HBL.out]; decide)
      have y_ : ∀ j x, [n0, n1, n2, n3, n4, n5][j]? = some x → wr.cell? (ea.add j) = some (.int .u8 x) := fun j x hj => hcs j x (by rw [hel]; exact hj)
      have hc6 : 6 ≤ e.c := by have := hok1.len; rw [HBL.out] at this; exact this
      have hnum := hok1.num
      rw [hel] at hnum
      have HNUM := Sh.mk hnum
      have HEL := Sh.mk hel
      have x2_ : wr.cell? ⟨g, off + i * 3 + 2, none⟩ = some (.slice (some ea) 6 e.c) := by
        rw [← hea]
        exact (World.cell?_of_block (a := ⟨g, off + i * 3 + 2, none⟩) (hB.block g (World.block_lt_of_cell? w1 ⟨g, off + i * 3 + 2, none⟩ d2_))).trans d2_
      have HHEA := Sh.mk hea
      have hgl2 : gl e.id C [] = some acc := by
        rw [← HGL.out]
        have := gl_all (id := e.id) (C := C) acc
        rw [HM.out] at this
        exact this
      have HGE := Sh.mk (ge_good (e := e) c1 (by omega) (by omega) hel hgl2)
      have hfl : ∀ (W : World) (n : Int), Sem.run Try.prog (convert 3 67 (.int .i64 n)) W = .ok (.float .f64 (FloatKind.f64.nearest n)) W := fun _ _ => rfl
      have hcx := fun (W : World) (x y : Nat) => toCx W x y
      have hsl := And.intro x0_ (And.intro ((add_nil ea) ▸ y_ 0 _ rfl) (And.intro ((add_pos ea 1 (by decide)) ▸ y_ 1 _ rfl) (And.intro ((add_pos ea 2 (by decide)) ▸ y_ 2 _ rfl) (And.intro ((add_pos ea 3 (by decide)) ▸ y_ 3 _ rfl) (And.intro ((add_pos ea 4 (by decide)) ▸ y_ 4 _ rfl) ((add_pos ea 5 (by decide)) ▸ y_ 5 _ rfl))))))
      clear hnum hel hoe hea hcs y_ hgl2 hB hok1 d0_ d2_
      go_upto_region 13 with (fail)
      refine start_ (n := 42) (S := fun w' => w'.cell? ⟨g, off + i * 3, none⟩ = some (.int .i64 e.id) ∧ w'.cell? ea = some (.int .u8 n0) ∧ w'.cell? ⟨ea.block, ea.off + 1, none⟩ = some (.int .u8 n1) ∧ w'.cell? ⟨ea.block, ea.off + 2, none⟩ = some (.int .u8 n2) ∧ w'.cell? ⟨ea.block, ea.off + 3, none⟩ = some (.int .u8 n3) ∧ w'.cell? ⟨ea.block, ea.off + 4, none⟩ = some (.int .u8 n4) ∧ w'.cell? ⟨ea.block, ea.off + 5, none⟩ = some (.int .u8 n5)) (ds := [40]) #[false, false, false, false, false, false, false, false, false, false, false, false, false, false, false, false, false, false, false, false, false, false, false, false, false, false, false, false, false, false, false, false, false, false, false, false, false, false, false, false, false, false] (by kernel_rfl) rfl rfl (hsl) (fun hHeld => ?_)
      refine pure_ (i := 0) (N := some 110) (v := ?_) (a' := ?_) #[true, false, false, false, false, false, false, false, false, false, false, false, false, false, false, false, false, false, false, false, false, false, false, false, false, false, false, false, false, false, false, false, false, false, false, false, false, false, false, false, false, false] rfl rfl (by kernel_rfl) (fun _ _ _ h => h) (Or.inl ⟨by rfl, ?_⟩) ?_ ?_
      rotate_left
      · intro w'
        go_simp
        with_reducible rfl
      rotate_left
      · simp only [Act.put, List.setIfInBounds_toArray, List.set_cons_zero, List.set_cons_succ]
        rfl
      refine pure_ (i := 1) (N := some 111) (v := ?_) (a' := ?_) #[true, true, false, false, false, false, false, false, false, false, false, false, false, false, false, false, false, false, false, false, false, false, false, false, false, false, false, false, false, false, false, false, false, false, false, false, false, false, false, false, false, false] rfl rfl (by kernel_rfl) (fun _ _ _ h => h) (Or.inl ⟨by rfl, ?_⟩) ?_ ?_
      rotate_left
      · intro w'
        go_simp
        with_reducible rfl
      rotate_left
      · simp only [Act.put, List.setIfInBounds_toArray, List.set_cons_zero, List.set_cons_succ]
        rfl
      refine pure_ (i := 2) (N := some 112) (v := ?_) (a' := ?_) #[true, true, true, false, false, false, false, false, false, false, false, false, false, false, false, false, false, false, false, false, false, false, false, false, false, false, false, false, false, false, false, false, false, false, false, false, false, false, false, false, false, false] rfl rfl (by kernel_rfl) (fun _ _ _ h => h) (Or.inl ⟨by rfl, ?_⟩) ?_ ?_
      rotate_left
      · intro w'
        go_simp
        with_reducible rfl
      rotate_left
      · simp only [Act.put, List.setIfInBounds_toArray, List.set_cons_zero, List.set_cons_succ]
        rfl
      refine pure_ (i := 3) (N := some 113) (v := ?_) (a' := ?_) #[true, true, true, true, false, false, false, false, false, false, false, false, false, false, false, false, false, false, false, false, false, false, false, false, false, false, false, false, false, false, false, false, false, false, false, false, false, false, false, false, false, false] rfl rfl (by kernel_rfl) (fun _ _ _ h => h) (Or.inl ⟨by rfl, ?_⟩) ?_ ?_
      rotate_left
      · intro w'
        go_simp
        with_reducible rfl
      rotate_left
      · simp only [Act.put, List.setIfInBounds_toArray, List.set_cons_zero, List.set_cons_succ]
        rfl
      refine take_ (i := 4) (N := some 114) (v := ?_) (a' := ?_) #[true, true, true, true, true, false, false, false, false, false, false, false, false, false, false, false, false, false, false, false, false, false, false, false, false, false, false, false, false, false, false, false, false, false, false, false, false, false, false, false, false, false] rfl rfl (by kernel_rfl) (fun _ _ _ h => h) (Or.inl ⟨by rfl, ?_⟩) hHeld ?_ ?_
      rotate_left
      · rintro w' ⟨s0, s1, s2, s3, s4, s5, s6⟩
        go_simp
        with_reducible rfl
      rotate_left
      · simp only [Act.put, List.setIfInBounds_toArray, List.set_cons_zero, List.set_cons_succ]
        rfl
      refine pure_ (i := 5) (N := some 115) (v := ?_) (a' := ?_) #[true, true, true, true, true, true, false, false, false, false, false, false, false, false, false, false, false, false, false, false, false, false, false, false, false, false, false, false, false, false, false, false, false, false, false, false, false, false, false, false, false, false] rfl rfl (by kernel_rfl) (fun _ _ _ h => h) (Or.inl ⟨by rfl, ?_⟩) ?_ ?_
      rotate_left
      · intro w'
        go_simp
        with_reducible rfl
      rotate_left
      · simp only [Act.put, List.setIfInBounds_toArray, List.set_cons_zero, List.set_cons_succ]
        rfl
      refine pure_ (i := 6) (N := some 116) (v := ?_) (a' := ?_) #[true, true, true, true, true, true, true, false, false, false, false, false, false, false, false, false, false, false, false, false, false, false, false, false, false, false, false, false, false, false, false, false, false, false, false, false, false, false, false, false, false, false] rfl rfl (by kernel_rfl) (fun _ _ _ h => h) (Or.inl ⟨by rfl, ?_⟩) ?_ ?_
      rotate_left
      · intro w'
        go_simp
        with_reducible rfl
      rotate_left
      · simp only [Act.put, List.setIfInBounds_toArray, List.set_cons_zero, List.set_cons_succ]
        rfl
      refine take_ (i := 7) (N := some 117) (v := ?_) (a' := ?_) #[true, true, true, true, true, true, true, true, false, false, false, false, false, false, false, false, false, false, false, false, false, false, false, false, false, false, false, false, false, false, false, false, false, false, false, false, false, false, false, false, false, false] rfl rfl (by kernel_rfl) (fun _ _ _ h => h) (Or.inl ⟨by rfl, ?_⟩) hHeld ?_ ?_
      rotate_left
      · rintro w' ⟨s0, s1, s2, s3, s4, s5, s6⟩
        go_simp
        with_reducible rfl
      rotate_left
      · simp only [Act.put, List.setIfInBounds_toArray, List.set_cons_zero, List.set_cons_succ]
        rfl
      refine pure_ (i := 8) (N := some 118) (v := ?_) (a' := ?_) #[true, true, true, true, true, true, true, true, true, false, false, false, false, false, false, false, false, false, false, false, false, false, false, false, false, false, false, false, false, false, false, false, false, false, false, false, false, false, false, false, false, false] rfl rfl (by kernel_rfl) (fun _ _ _ h => h) (Or.inl ⟨by rfl, ?_⟩) ?_ ?_
      rotate_left
      · intro w'
        go_simp
        with_reducible rfl
      rotate_left
      · simp only [Act.put, List.setIfInBounds_toArray, List.set_cons_zero, List.set_cons_succ]
        rfl
      refine pure_ (i := 9) (N := some 119) (v := ?_) (a' := ?_) #[true, true, true, true, true, true, true, true, true, true, false, false, false, false, false, false, false, false, false, false, false, false, false, false, false, false, false, false, false, false, false, false, false, false, false, false, false, false, false, false, false, false] rfl rfl (by kernel_rfl) (fun _ _ _ h => h) (Or.inl ⟨by rfl, ?_⟩) ?_ ?_
      rotate_left
      · intro w'
        go_simp
        with_reducible rfl
      rotate_left
      · simp only [Act.put, List.setIfInBounds_toArray, List.set_cons_zero, List.set_cons_succ]
        rfl
      refine pure_ (i := 10) (N := some 120) (v := ?_) (a' := ?_) #[true, true, true, true, true, true, true, true, true, true, true, false, false, false, false, false, false, false, false, false, false, false, false, false, false, false, false, false, false, false, false, false, false, false, false, false, false, false, false, false, false, false] rfl rfl (by kernel_rfl) (fun _ _ _ h => h) (Or.inl ⟨by rfl, ?_⟩) ?_ ?_
      rotate_left
      · intro w'
        go_simp
        with_reducible rfl
      rotate_left
      · simp only [Act.put, List.setIfInBounds_toArray, List.set_cons_zero, List.set_cons_succ]
        rfl
      refine pure_ (i := 11) (N := some 121) (v := ?_) (a' := ?_) #[true, true, true, true, true, true, true, true, true, true, true, true, false, false, false, false, false, false, false, false, false, false, false, false, false, false, false, false, false, false, false, false, false, false, false, false, false, false, false, false, false, false] rfl rfl (by kernel_rfl) (fun _ _ _ h => h) (Or.inl ⟨by rfl, ?_⟩) ?_ ?_
      rotate_left
      · intro w'
        go_simp
        with_reducible rfl
      rotate_left
      · simp only [Act.put, List.setIfInBounds_toArray, List.set_cons_zero, List.set_cons_succ]
        rfl
      refine take_ (i := 12) (N := some 122) (v := ?_) (a' := ?_) #[true, true, true, true, true, true, true, true, true, true, true, true, true, false, false, false, false, false, false, false, false, false, false, false, false, false, false, false, false, false, false, false, false, false, false, false, false, false, false, false, false, false] rfl rfl (by kernel_rfl) (fun _ _ _ h => h) (Or.inl ⟨by rfl, ?_⟩) hHeld ?_ ?_
      rotate_left
      · rintro w' ⟨s0, s1, s2, s3, s4, s5, s6⟩
        go_simp
        with_reducible rfl
      rotate_left
      · simp only [Act.put, List.setIfInBounds_toArray, List.set_cons_zero, List.set_cons_succ]
        rfl
      refine pure_ (i := 13) (N := some 123) (v := ?_) (a' := ?_) #[true, true, true, true, true, true, true, true, true, true, true, true, true, true, false, false, false, false, false, false, false, false, false, false, false, false, false, false, false, false, false, false, false, false, false, false, false, false, false, false, false, false] rfl rfl (by kernel_rfl) (fun _ _ _ h => h) (Or.inl ⟨by rfl, ?_⟩) ?_ ?_
      rotate_left
      · intro w'
        go_simp
        with_reducible rfl
      rotate_left
      · simp only [Act.put, List.setIfInBounds_toArray, List.set_cons_zero, List.set_cons_succ]
        rfl
      refine pure_ (i := 14) (N := some 124) (v := ?_) (a' := ?_) #[true, true, true, true, true, true, true, true, true, true, true, true, true, true, true, false, false, false, false, false, false, false, false, false, false, false, false, false, false, false, false, false, false, false, false, false, false, false, false, false, false, false] rfl rfl (by kernel_rfl) (fun _ _ _ h => h) (Or.inl ⟨by rfl, ?_⟩) ?_ ?_
      rotate_left
      · intro w'
        go_simp
        with_reducible rfl
      rotate_left
      · simp only [Act.put, List.setIfInBounds_toArray, List.set_cons_zero, List.set_cons_succ]
        rfl
      refine pure_ (i := 15) (N := some 125) (v := ?_) (a' := ?_) #[true, true, true, true, true, true, true, true, true, true, true, true, true, true, true, true, false, false, false, false, false, false, false, false, false, false, false, false, false, false, false, false, false, false, false, false, false, false, false, false, false, false] rfl rfl (by kernel_rfl) (fun _ _ _ h => h) (Or.inl ⟨by rfl, ?_⟩) ?_ ?_
      rotate_left
      · intro w'
        go_simp
        with_reducible rfl
      rotate_left
      · simp only [Act.put, List.setIfInBounds_toArray, List.set_cons_zero, List.set_cons_succ]
        rfl
      refine pure_ (i := 16) (N := some 126) (v := ?_) (a' := ?_) #[true, true, true, true, true, true, true, true, true, true, true, true, true, true, true, true, true, false, false, false, false, false, false, false, false, false, false, false, false, false, false, false, false, false, false, false, false, false, false, false, false, false] rfl rfl (by kernel_rfl) (fun _ _ _ h => h) (Or.inl ⟨by rfl, ?_⟩) ?_ ?_
      rotate_left
      · intro w'
        go_simp
        with_reducible rfl
      rotate_left
      · simp only [Act.put, List.setIfInBounds_toArray, List.set_cons_zero, List.set_cons_succ]
        rfl
      refine take_ (i := 17) (N := some 127) (v := ?_) (a' := ?_) #[true, true, true, true, true, true, true, true, true, true, true, true, true, true, true, true, true, true, false, false, false, false, false, false, false, false, false, false, false, false, false, false, false, false, false, false, false, false, false, false, false, false] rfl rfl (by kernel_rfl) (fun _ _ _ h => h) (Or.inl ⟨by rfl, ?_⟩) hHeld ?_ ?_
      rotate_left
      · rintro w' ⟨s0, s1, s2, s3, s4, s5, s6⟩
        go_simp
        with_reducible rfl
      rotate_left
      · simp only [Act.put, List.setIfInBounds_toArray, List.set_cons_zero, List.set_cons_succ]
        rfl
      refine pure_ (i := 18) (N := some 128) (v := ?_) (a' := ?_) #[true, true, true, true, true, true, true, true, true, true, true, true, true, true, true, true, true, true, true, false, false, false, false, false, false, false, false, false, false, false, false, false, false, false, false, false, false, false, false, false, false, false] rfl rfl (by kernel_rfl) (fun _ _ _ h => h) (Or.inl ⟨by rfl, ?_⟩) ?_ ?_
      rotate_left
      · intro w'
        go_simp
        with_reducible rfl
      rotate_left
      · simp only [Act.put, List.setIfInBounds_toArray, List.set_cons_zero, List.set_cons_succ]
        rfl
      refine pure_ (i := 19) (N := some 129) (v := ?_) (a' := ?_) #[true, true, true, true, true, true, true, true, true, true, true, true, true, true, true, true, true, true, true, true, false, false, false, false, false, false, false, false, false, false, false, false, false, false, false, false, false, false, false, false, false, false] rfl rfl (by kernel_rfl) (fun _ _ _ h => h) (Or.inl ⟨by rfl, ?_⟩) ?_ ?_
      rotate_left
      · intro w'
        go_simp
        with_reducible rfl
      rotate_left
      · simp only [Act.put, List.setIfInBounds_toArray, List.set_cons_zero, List.set_cons_succ]
        rfl
      refine pure_ (i := 20) (N := some 130) (v := ?_) (a' := ?_) #[true, true, true, true, true, true, true, true, true, true, true, true, true, true, true, true, true, true, true, true, true, false, false, false, false, false, false, false, false, false, false, false, false, false, false, false, false, false, false, false, false, false] rfl rfl (by kernel_rfl) (fun _ _ _ h => h) (Or.inl ⟨by rfl, ?_⟩) ?_ ?_
      rotate_left
      · intro w'
        go_simp
        with_reducible rfl
      rotate_left
      · simp only [Act.put, List.setIfInBounds_toArray, List.set_cons_zero, List.set_cons_succ]
        rfl
      refine pure_ (i := 21) (N := some 131) (v := ?_) (a' := ?_) #[true, true, true, true, true, true, true, true, true, true, true, true, true, true, true, true, true, true, true, true, true, true, false, false, false, false, false, false, false, false, false, false, false, false, false, false, false, false, false, false, false, false] rfl rfl (by kernel_rfl) (fun _ _ _ h => h) (Or.inl ⟨by rfl, ?_⟩) ?_ ?_
      rotate_left
      · intro w'
        go_simp
        with_reducible rfl
      rotate_left
      · simp only [Act.put, List.setIfInBounds_toArray, List.set_cons_zero, List.set_cons_succ]
        rfl
      refine take_ (i := 22) (N := some 132) (v := ?_) (a' := ?_) #[true, true, true, true, true, true, true, true, true, true, true, true, true, true, true, true, true, true, true, true, true, true, true, false, false, false, false, false, false, false, false, false, false, false, false, false, false, false, false, false, false, false] rfl rfl (by kernel_rfl) (fun _ _ _ h => h) (Or.inl ⟨by rfl, ?_⟩) hHeld ?_ ?_
      rotate_left
      · rintro w' ⟨s0, s1, s2, s3, s4, s5, s6⟩
        go_simp
        with_reducible rfl
      rotate_left
      · simp only [Act.put, List.setIfInBounds_toArray, List.set_cons_zero, List.set_cons_succ]
        rfl
      refine pure_ (i := 23) (N := some 133) (v := ?_) (a' := ?_) #[true, true, true, true, true, true, true, true, true, true, true, true, true, true, true, true, true, true, true, true, true, true, true, true, false, false, false, false, false, false, false, false, false, false, false, false, false, false, false, false, false, false] rfl rfl (by kernel_rfl) (fun _ _ _ h => h) (Or.inl ⟨by rfl, ?_⟩) ?_ ?_
      rotate_left
      · intro w'
        go_simp
        with_reducible rfl
      rotate_left
      · simp only [Act.put, List.setIfInBounds_toArray, List.set_cons_zero, List.set_cons_succ]
        rfl
      refine pure_ (i := 24) (N := some 134) (v := ?_) (a' := ?_) #[true, true, true, true, true, true, true, true, true, true, true, true, true, true, true, true, true, true, true, true, true, true, true, true, true, false, false, false, false, false, false, false, false, false, false, false, false, false, false, false, false, false] rfl rfl (by kernel_rfl) (fun _ _ _ h => h) (Or.inl ⟨by rfl, ?_⟩) ?_ ?_
      rotate_left
      · intro w'
        go_simp
        with_reducible rfl
      rotate_left
      · simp only [Act.put, List.setIfInBounds_toArray, List.set_cons_zero, List.set_cons_succ]
        rfl
      refine pure_ (i := 25) (N := some 135) (v := ?_) (a' := ?_) #[true, true, true, true, true, true, true, true, true, true, true, true, true, true, true, true, true, true, true, true, true, true, true, true, true, true, false, false, false, false, false, false, false, false, false, false, false, false, false, false, false, false] rfl rfl (by kernel_rfl) (fun _ _ _ h => h) (Or.inl ⟨by rfl, ?_⟩) ?_ ?_
      rotate_left
      · intro w'
        go_simp
        with_reducible rfl
      rotate_left
      · simp only [Act.put, List.setIfInBounds_toArray, List.set_cons_zero, List.set_cons_succ]
        rfl
      refine pure_ (i := 26) (N := some 136) (v := ?_) (a' := ?_) #[true, true, true, true, true, true, true, true, true, true, true, true, true, true, true, true, true, true, true, true, true, true, true, true, true, true, true, false, false, false, false, false, false, false, false, false, false, false, false, false, false, false] rfl rfl (by kernel_rfl) (fun _ _ _ h => h) (Or.inl ⟨by rfl, ?_⟩) ?_ ?_
      rotate_left
      · intro w'
        go_simp
        with_reducible rfl
      rotate_left
      · simp only [Act.put, List.setIfInBounds_toArray, List.set_cons_zero, List.set_cons_succ]
        rfl
      refine pure_ (i := 27) (N := some 137) (v := ?_) (a' := ?_) #[true, true, true, true, true, true, true, true, true, true, true, true, true, true, true, true, true, true, true, true, true, true, true, true, true, true, true, true, false, false, false, false, false, false, false, false, false, false, false, false, false, false] rfl rfl (by kernel_rfl) (fun _ _ _ h => h) (Or.inl ⟨by rfl, ?_⟩) ?_ ?_
      rotate_left
      · intro w'
        go_simp
        with_reducible rfl
      rotate_left
      · simp only [Act.put, List.setIfInBounds_toArray, List.set_cons_zero, List.set_cons_succ]
        rfl
      refine take_ (i := 28) (N := some 138) (v := ?_) (a' := ?_) #[true, true, true, true, true, true, true, true, true, true, true, true, true, true, true, true, true, true, true, true, true, true, true, true, true, true, true, true, true, false, false, false, false, false, false, false, false, false, false, false, false, false] rfl rfl (by kernel_rfl) (fun _ _ _ h => h) (Or.inl ⟨by rfl, ?_⟩) hHeld ?_ ?_
      rotate_left
      · rintro w' ⟨s0, s1, s2, s3, s4, s5, s6⟩
        go_simp
        with_reducible rfl
      rotate_left
      · simp only [Act.put, List.setIfInBounds_toArray, List.set_cons_zero, List.set_cons_succ]
        rfl
      refine pure_ (i := 29) (N := some 139) (v := ?_) (a' := ?_) #[true, true, true, true, true, true, true, true, true, true, true, true, true, true, true, true, true, true, true, true, true, true, true, true, true, true, true, true, true, true, false, false, false, false, false, false, false, false, false, false, false, false] rfl rfl (by kernel_rfl) (fun _ _ _ h => h) (Or.inl ⟨by rfl, ?_⟩) ?_ ?_
      rotate_left
      · intro w'
        go_simp
        with_reducible rfl
      rotate_left
      · simp only [Act.put, List.setIfInBounds_toArray, List.set_cons_zero, List.set_cons_succ]
        rfl
      refine pure_ (i := 30) (N := some 140) (v := ?_) (a' := ?_) #[true, true, true, true, true, true, true, true, true, true, true, true, true, true, true, true, true, true, true, true, true, true, true, true, true, true, true, true, true, true, true, false, false, false, false, false, false, false, false, false, false, false] rfl rfl (by kernel_rfl) (fun _ _ _ h => h) (Or.inl ⟨by rfl, ?_⟩) ?_ ?_
      rotate_left
      · intro w'
        go_simp
        with_reducible rfl
      rotate_left
      · simp only [Act.put, List.setIfInBounds_toArray, List.set_cons_zero, List.set_cons_succ]
        rfl
      refine pure_ (i := 31) (N := some 141) (v := ?_) (a' := ?_) #[true, true, true, true, true, true, true, true, true, true, true, true, true, true, true, true, true, true, true, true, true, true, true, true, true, true, true, true, true, true, true, true, false, false, false, false, false, false, false, false, false, false] rfl rfl (by kernel_rfl) (fun _ _ _ h => h) (Or.inl ⟨by rfl, ?_⟩) ?_ ?_
      rotate_left
      · intro w'
        go_simp
        with_reducible rfl
      rotate_left
      · simp only [Act.put, List.setIfInBounds_toArray, List.set_cons_zero, List.set_cons_succ]
        rfl
      refine pure_ (i := 32) (N := some 142) (v := ?_) (a' := ?_) #[true, true, true, true, true, true, true, true, true, true, true, true, true, true, true, true, true, true, true, true, true, true, true, true, true, true, true, true, true, true, true, true, true, false, false, false, false, false, false, false, false, false] rfl rfl (by kernel_rfl) (fun _ _ _ h => h) (Or.inl ⟨by rfl, ?_⟩) ?_ ?_
      rotate_left
      · intro w'
        go_simp
        with_reducible rfl
      rotate_left
      · simp only [Act.put, List.setIfInBounds_toArray, List.set_cons_zero, List.set_cons_succ]
        rfl
      refine take_ (i := 33) (N := some 143) (v := ?_) (a' := ?_) #[true, true, true, true, true, true, true, true, true, true, true, true, true, true, true, true, true, true, true, true, true, true, true, true, true, true, true, true, true, true, true, true, true, true, false, false, false, false, false, false, false, false] rfl rfl (by kernel_rfl) (fun _ _ _ h => h) (Or.inl ⟨by rfl, ?_⟩) hHeld ?_ ?_
      rotate_left
      · rintro w' ⟨s0, s1, s2, s3, s4, s5, s6⟩
        go_simp
        with_reducible rfl
      rotate_left
      · simp only [Act.put, List.setIfInBounds_toArray, List.set_cons_zero, List.set_cons_succ]
        rfl
      refine pure_ (i := 34) (N := some 144) (v := ?_) (a' := ?_) #[true, true, true, true, true, true, true, true, true, true, true, true, true, true, true, true, true, true, true, true, true, true, true, true, true, true, true, true, true, true, true, true, true, true, true, false, false, false, false, false, false, false] rfl rfl (by kernel_rfl) (fun _ _ _ h => h) (Or.inl ⟨by rfl, ?_⟩) ?_ ?_
      rotate_left
      · intro w'
        go_simp
        with_reducible rfl
      rotate_left
      · simp only [Act.put, List.setIfInBounds_toArray, List.set_cons_zero, List.set_cons_succ]
        rfl
      refine pure_ (i := 35) (N := some 145) (v := ?_) (a' := ?_) #[true, true, true, true, true, true, true, true, true, true, true, true, true, true, true, true, true, true, true, true, true, true, true, true, true, true, true, true, true, true, true, true, true, true, true, true, false, false, false, false, false, false] rfl rfl (by kernel_rfl) (fun _ _ _ h => h) (Or.inl ⟨by rfl, ?_⟩) ?_ ?_
      rotate_left
      · intro w'
        go_simp
        with_reducible rfl
      rotate_left
      · simp only [Act.put, List.setIfInBounds_toArray, List.set_cons_zero, List.set_cons_succ]
        rfl
      refine pure_ (i := 36) (N := some 146) (v := ?_) (a' := ?_) #[true, true, true, true, true, true, true, true, true, true, true, true, true, true, true, true, true, true, true, true, true, true, true, true, true, true, true, true, true, true, true, true, true, true, true, true, true, false, false, false, false, false] rfl rfl (by kernel_rfl) (fun _ _ _ h => h) (Or.inl ⟨by rfl, ?_⟩) ?_ ?_
      rotate_left
      · intro w'
        go_simp
        with_reducible rfl
      rotate_left
      · simp only [Act.put, List.setIfInBounds_toArray, List.set_cons_zero, List.set_cons_succ]
        rfl
      refine pure_ (i := 37) (N := some 147) (v := ?_) (a' := ?_) #[true, true, true, true, true, true, true, true, true, true, true, true, true, true, true, true, true, true, true, true, true, true, true, true, true, true, true, true, true, true, true, true, true, true, true, true, true, true, false, false, false, false] rfl rfl (by kernel_rfl) (fun _ _ _ h => h) (Or.inl ⟨by rfl, ?_⟩) ?_ ?_
      rotate_left
      · intro w'
        go_simp
        with_reducible rfl
      rotate_left
      · simp only [Act.put, List.setIfInBounds_toArray, List.set_cons_zero, List.set_cons_succ]
        rfl
      refine pure_ (i := 38) (N := some 148) (v := ?_) (a' := ?_) #[true, true, true, true, true, true, true, true, true, true, true, true, true, true, true, true, true, true, true, true, true, true, true, true, true, true, true, true, true, true, true, true, true, true, true, true, true, true, true, false, false, false] rfl rfl (by kernel_rfl) (fun _ _ _ h => h) (Or.inl ⟨by rfl, ?_⟩) ?_ ?_
      rotate_left
      · intro w'
        go_simp
        with_reducible rfl
      rotate_left
      · simp only [Act.put, List.setIfInBounds_toArray, List.set_cons_zero, List.set_cons_succ]
        rfl
      refine pure_ (i := 39) (N := some 149) (v := ?_) (a' := ?_) #[true, true, true, true, true, true, true, true, true, true, true, true, true, true, true, true, true, true, true, true, true, true, true, true, true, true, true, true, true, true, true, true, true, true, true, true, true, true, true, true, false, false] rfl rfl (by kernel_rfl) (fun _ _ _ h => h) (Or.inl ⟨by rfl, ?_⟩) ?_ ?_
      rotate_left
      · intro w'
        go_simp
        with_reducible rfl
      rotate_left
      · simp only [Act.put, List.setIfInBounds_toArray, List.set_cons_zero, List.set_cons_succ]
        rfl
      obtain ⟨wz, z1, z2, hBz⟩ := FIN.out wr.drew (ge C e) HB.out.drew
      have hv : RV (ge C e) = .agg #[.int .i64 e.id, .int .i64 (IntKind.i64.wrap (IntKind.i64.wrap (256 * IntKind.i64.wrap n0) + IntKind.i64.wrap n1)), .complex .f64 (FloatKind.f64.nearest (IntKind.i64.wrap (IntKind.i64.wrap (256 * IntKind.i64.wrap n2) + IntKind.i64.wrap n3))) (FloatKind.f64.nearest (IntKind.i64.wrap (IntKind.i64.wrap (256 * IntKind.i64.wrap n4) + IntKind.i64.wrap n5))), .string (strOfNums acc)] := by
        rw [HGE.out, two_wrap n0 n1 (HNUM.out n0 (by simp)) (HNUM.out n1 (by simp)), two_wrap n2 n3 (HNUM.out n2 (by simp)) (HNUM.out n3 (by simp)), two_wrap n4 n5 (HNUM.out n4 (by simp)) (HNUM.out n5 (by simp))]
        rfl
      rw [hv] at z1
      refine last_skip (i := 40) (w' := wz) #[true, true, true, true, true, true, true, true, true, true, true, true, true, true, true, true, true, true, true, true, true, true, true, true, true, true, true, true, true, true, true, true, true, true, true, true, true, true, true, true, true, false] rfl rfl (by kernel_rfl) (by decide) (by rfl) (Rw.exec_put 53 (.tmp 2) (.tmp 149) rfl (by rfl) (by rfl) z1) ?_
      refine pure_ (i := 41) (N := some 3) (v := ?_) (a' := ?_) #[true, true, true, true, true, true, true, true, true, true, true, true, true, true, true, true, true, true, true, true, true, true, true, true, true, true, true, true, true, true, true, true, true, true, true, true, true, true, true, true, true, true] rfl rfl (by kernel_rfl) (fun _ _ _ h => h) (Or.inl ⟨by rfl, ?_⟩) ?_ ?_
      rotate_left
      · intro w'
        go_simp
        with_reducible rfl
      rotate_left
      · simp only [Act.put, List.setIfInBounds_toArray, List.set_cons_zero, List.set_cons_succ]
        rfl
      refine done_ (by kernel_rfl) ?_
      clear z1 hv hHeld hfl hcx hsl x0_ x2_
      go_wp2_with fail
      (try simp only [Exit.inBlock, Exit.then]); refine bodyPost_ret (Rw.ret_cell rfl rfl rfl z2) rfl ?_
      exact ⟨by rw [HGE.out]; rfl, hBz⟩
    | succ g1_ =>
      have him : i < m := by omega
      obtain ⟨f, hf⟩ : ∃ f, C[i]? = some f := ⟨_, List.getElem?_eq_getElem (by rw [HM.out]; exact him)⟩
      have hfL : (C ++ [e])[i]? = some f := by rw [List.getElem?_append_left (by rw [HM.out]; exact him)]; exact hf
      obtain ⟨g', off', hgg, -, hfa⟩ := HL1.out.at_ i f hfL
      cases hgg
      have hfb := hfa.below hB
      have hok := (HL1.out.ok f (List.mem_of_getElem? hfL)).below hB
      have p0_ := hfb.c0
      have p1_ := hfb.c1
      have p2_ := hfb.c2
      obtain ⟨bf, hbf⟩ : ∃ bf, f.l.length = bf := ⟨_, rfl⟩
      have hb2 := HLL.out f (List.mem_of_getElem? hfL)
      rw [hbf] at p2_ hb2
      have HF := Sh.mk hf
      have HBF := Sh.mk hbf
      have HOK := Sh.mk hok
      have kk : (i : Int) < (m : Int) := by omega
      have w6_ := wrap_one i m him (by omega)
      clear hf hfL hfa hfb hok hbf hB
      by_cases k1 : f.kind = 2
      rotate_left
      · have q1_ : (f.kind != 2) = true := by simpa using k1

        have hst := fun hx => ge_bad (C := C) (e := e) (HGL.out.symm.trans (gl_stop HF.out acc hx))
        have HST := Sh.mk (hst (by rw [HBF.out, HM.out]; omega))
        clear hst
        go_upto_region 9 with (fail)
        go_quiet (fail)
        obtain ⟨wz, z1, z2, hBz⟩ := FIN.out (wr.drewN nq) none (below_drewN HB.out nq)
        go_wp2_with ((with_reducible refine Rw.at_store 2 96 ?_); refine Rw.wpList_put rfl 53 (.tmp 2) (.tmp 96) rfl rfl rfl z1 ?_)
        (try simp only [Exit.inBlock, Exit.then]); refine bodyPost_ret (Rw.ret_cell rfl rfl rfl z2) rfl ?_
        exact ⟨by rw [HST.out]; rfl, hBz⟩
      have q1_ : (f.kind != 2) = false := by simpa using k1
      by_cases k2 : f.id = e.id
      rotate_left
      · have q2_ : (f.id != e.id) = true := by simpa using k2

        have hst := fun hx => ge_bad (C := C) (e := e) (HGL.out.symm.trans (gl_stop HF.out acc hx))
        have HST := Sh.mk (hst (by rw [HBF.out, HM.out]; omega))
        clear hst
        go_upto_region 9 with (fail)
        go_quiet (fail)
        obtain ⟨wz, z1, z2, hBz⟩ := FIN.out (wr.drewN nq) none (below_drewN HB.out nq)
        go_wp2_with ((with_reducible refine Rw.at_store 2 96 ?_); refine Rw.wpList_put rfl 53 (.tmp 2) (.tmp 96) rfl rfl rfl z1 ?_)
        (try simp only [Exit.inBlock, Exit.then]); refine bodyPost_ret (Rw.ret_cell rfl rfl rfl z2) rfl ?_
        exact ⟨by rw [HST.out]; rfl, hBz⟩
      have q2_ : (f.id != e.id) = false := by simpa using k2
      by_cases k3 : (bf : Int) < 1
      · skip

        have hst := fun hx => ge_bad (C := C) (e := e) (HGL.out.symm.trans (gl_stop HF.out acc hx))
        have HST := Sh.mk (hst (by rw [HBF.out, HM.out]; omega))
        clear hst
        go_upto_region 9 with (fail)
        go_quiet (fail)
        obtain ⟨wz, z1, z2, hBz⟩ := FIN.out (wr.drewN nq) none (below_drewN HB.out nq)
        go_wp2_with ((with_reducible refine Rw.at_store 2 96 ?_); refine Rw.wpList_put rfl 53 (.tmp 2) (.tmp 96) rfl rfl rfl z1 ?_)
        (try simp only [Exit.inBlock, Exit.then]); refine bodyPost_ret (Rw.ret_cell rfl rfl rfl z2) rfl ?_
        exact ⟨by rw [HST.out]; rfl, hBz⟩
      by_cases k4 : (1000 : Int) < (bf : Int)
      · skip

        have hst := fun hx => ge_bad (C := C) (e := e) (HGL.out.symm.trans (gl_stop HF.out acc hx))
        have HST := Sh.mk (hst (by rw [HBF.out, HM.out]; omega))
        clear hst
        go_upto_region 9 with (fail)
        go_quiet (fail)
        obtain ⟨wz, z1, z2, hBz⟩ := FIN.out (wr.drewN nq) none (below_drewN HB.out nq)
        go_wp2_with ((with_reducible refine Rw.at_store 2 96 ?_); refine Rw.wpList_put rfl 53 (.tmp 2) (.tmp 96) rfl rfl rfl z1 ?_)
        (try simp only [Exit.inBlock, Exit.then]); refine bodyPost_ret (Rw.ret_cell rfl rfl rfl z2) rfl ?_
        exact ⟨by rw [HST.out]; rfl, hBz⟩
      by_cases k5 : (i : Int) < (m : Int) - 1 ∧ bf ≠ 1000
      · obtain ⟨k5, k6⟩ := k5
        have q6_ : ((bf : Int) != 1000) = true := by simp; omega

        have hst := fun hx => ge_bad (C := C) (e := e) (HGL.out.symm.trans (gl_stop HF.out acc hx))
        have HST := Sh.mk (hst (by rw [HBF.out, HM.out]; omega))
        clear hst
        go_upto_region 9 with (fail)
        go_quiet (fail)
        obtain ⟨wz, z1, z2, hBz⟩ := FIN.out (wr.drewN nq) none (below_drewN HB.out nq)
        go_wp2_with ((with_reducible refine Rw.at_store 2 96 ?_); refine Rw.wpList_put rfl 53 (.tmp 2) (.tmp 96) rfl rfl rfl z1 ?_)
        (try simp only [Exit.inBlock, Exit.then]); refine bodyPost_ret (Rw.ret_cell rfl rfl rfl z2) rfl ?_
        exact ⟨by rw [HST.out]; rfl, hBz⟩
      by_cases k6 : bf = 1000
      · subst k6
        by_cases k7 : (i : Int) < (m : Int) - 1
        · skip
          have HST := Sh.mk ((gl_step HF.out acc k1 k2 (by rw [HBF.out]; omega) (by rw [HBF.out]; omega) (by rw [HBF.out, HM.out]; omega)).symm.trans HGL.out)
          go_upto_region 9 with (fail)
          go_quiet (fail)
          obtain ⟨wn, hwn⟩ : ∃ wn, wr.drewN nq = wn := ⟨_, rfl⟩
          have hBn : Below wr.heap.size wr wn := by rw [← hwn]; exact below_drewN (Below.refl _ _) nq
          have hcv := Bytes.str (HOK.out.below hBn).byt (by rw [HBF.out]; omega) f.c
          rw [HBF.out] at hcv
          have r2_ : wn.cell? ⟨g, off + i * 3 + 2, none⟩ = some (.slice f.A 1000 f.c) := by rw [← hwn]; exact p2_
          have HBN := Sh.mk (HB.out.trans (hBn.mono HB.out.size))
          have sz_ : ¬ (9223372036854775807 : Int) < ((strOfNums acc).size : Int) + ((strOfNums f.l).size : Int) := by
            have := HAC.out
            rw [strOfNums_size, strOfNums_size, HBF.out]
            omega
          have hadd := str_add acc f.l
          rw [hwn]
          clear hwn hBn p0_ p1_ p2_ x0_ k3 k4 q1_ q2_
          go_wp2_with fail
          go_roundg g1_
          case measure => have := HI.out; omega
          case rel => exact ⟨i + 1, acc ++ f.l, by have := HI.out; omega, (by first | rfl | (rw [hadd])), (by first | rfl | (rw [w6_]) | simp), ⟨HST.out, by have := HAC.out; rw [List.length_append, HBF.out]; omega, HBN.out⟩⟩
        · skip
          have HST := Sh.mk ((gl_step HF.out acc k1 k2 (by rw [HBF.out]; omega) (by rw [HBF.out]; omega) (by rw [HBF.out, HM.out]; omega)).symm.trans HGL.out)
          go_upto_region 9 with (fail)
          go_quiet (fail)
          obtain ⟨wn, hwn⟩ : ∃ wn, wr.drewN nq = wn := ⟨_, rfl⟩
          have hBn : Below wr.heap.size wr wn := by rw [← hwn]; exact below_drewN (Below.refl _ _) nq
          have hcv := Bytes.str (HOK.out.below hBn).byt (by rw [HBF.out]; omega) f.c
          rw [HBF.out] at hcv
          have r2_ : wn.cell? ⟨g, off + i * 3 + 2, none⟩ = some (.slice f.A 1000 f.c) := by rw [← hwn]; exact p2_
          have HBN := Sh.mk (HB.out.trans (hBn.mono HB.out.size))
          have sz_ : ¬ (9223372036854775807 : Int) < ((strOfNums acc).size : Int) + ((strOfNums f.l).size : Int) := by
            have := HAC.out
            rw [strOfNums_size, strOfNums_size, HBF.out]
            omega
          have hadd := str_add acc f.l
          rw [hwn]
          clear hwn hBn p0_ p1_ p2_ x0_ k3 k4 q1_ q2_
          go_wp2_with fail
          go_roundg g1_
          case measure => have := HI.out; omega
          case rel => exact ⟨i + 1, acc ++ f.l, by have := HI.out; omega, (by first | rfl | (rw [hadd])), (by first | rfl | (rw [w6_]) | simp), ⟨HST.out, by have := HAC.out; rw [List.length_append, HBF.out]; omega, HBN.out⟩⟩
      · have k7 : ¬ (i : Int) < (m : Int) - 1 := fun h => k5 ⟨h, k6⟩
        have HST := Sh.mk ((gl_step HF.out acc k1 k2 (by rw [HBF.out]; omega) (by rw [HBF.out]; omega) (by rw [HBF.out, HM.out]; omega)).symm.trans HGL.out)
        go_upto_region 9 with (fail)
        go_quiet (fail)
        obtain ⟨wn, hwn⟩ : ∃ wn, wr.drewN nq = wn := ⟨_, rfl⟩
        have hBn : Below wr.heap.size wr wn := by rw [← hwn]; exact below_drewN (Below.refl _ _) nq
        have hcv := Bytes.str (HOK.out.below hBn).byt (by rw [HBF.out]; omega) f.c
        rw [HBF.out] at hcv
        have r2_ : wn.cell? ⟨g, off + i * 3 + 2, none⟩ = some (.slice f.A bf f.c) := by rw [← hwn]; exact p2_
        have HBN := Sh.mk (HB.out.trans (hBn.mono HB.out.size))
        have sz_ : ¬ (9223372036854775807 : Int) < ((strOfNums acc).size : Int) + ((strOfNums f.l).size : Int) := by
          have := HAC.out
          rw [strOfNums_size, strOfNums_size, HBF.out]
          omega
        have hadd := str_add acc f.l
        rw [hwn]
        clear hwn hBn p0_ p1_ p2_ x0_ k3 k4 q1_ q2_
        go_wp2_with fail
        go_roundg g1_
        case measure => have := HI.out; omega
        case rel => exact ⟨i + 1, acc ++ f.l, by have := HI.out; omega, (by first | rfl | (rw [hadd])), (by first | rfl | (rw [w6_]) | simp), ⟨HST.out, by have := HAC.out; rw [List.length_append, HBF.out]; omega, HBN.out⟩⟩
end Go.Proofs.Ytgnepppncmjagaa.Gt
