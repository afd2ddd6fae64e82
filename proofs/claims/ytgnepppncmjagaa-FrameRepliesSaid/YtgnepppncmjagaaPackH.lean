/- Gather. -/
import Derived.Test.YtgnepppncmjagaaPackG
import Derived.Shelf.Strings.Builder1
import Derived.Test.YtgnepppncmjagaaPrintF35
import Derived.Test.YtgnepppncmjagaaShelf
namespace Go.Proofs.Ytgnepppncmjagaa.Gt
open Go Go.RowKit Hp Rd Go.Proofs.Ytgnepppncmjagaa.Fr
theorem sizeBld : (Try.prog.info? 89).map (·.size) = some 2 := by kernel_rfl
theorem liesBld : liesAt Try.prog Try.prog.depth 89 (2 / Try.prog.cellsOf 89) 0 89 1 = true := by kernel_rfl
theorem infoU8 : (Try.prog.info? 5).map (fun i => (i.zero, i.size, i.bytes)) = some (some (.int .u8 0), 1, 1) := by kernel_rfl
set_option maxHeartbeats 1000000 in
set_option maxRecDepth 100000 in
theorem check_used (b : Nat) (w : World) (h0 : w.cell? ⟨b, 0, none⟩ = some (.pointer (some ⟨b, 0, none⟩))) :
    Calls Try.prog 46 #[.pointer (some ⟨b, 0, none⟩)] w fun e w' => e = .returned (.tuple #[]) ∧ w' = w := by
  obtain ⟨j, hj, _⟩ := Option.map_eq_some_iff.1 sizeBld
  go_enter Try.func46, Try.ntmps46
  go_wp2
  rw [Lib.run_neq_ptr_same w _ Try.underlying87 hj]
  go_wp2
  go_end0
  exact ⟨rfl, rfl⟩
set_option maxHeartbeats 1000000 in
set_option maxRecDepth 100000 in
theorem check_fresh (b : Nat) (w : World) (h0 : w.cell? ⟨b, 0, none⟩ = some (.pointer none)) (hsh : w.shape? b = some (89, 2)) (hfz : w.frozen? ⟨b, 0, none⟩ = false) :
    Calls Try.prog 46 #[.pointer (some ⟨b, 0, none⟩)] w fun e w' => e = .returned (.tuple #[]) ∧ w' = w.setCell ⟨b, 0, none⟩ (.pointer (some ⟨b, 0, none⟩)) := by
  obtain ⟨j, hj, hjs⟩ := Option.map_eq_some_iff.1 sizeBld
  go_enter Try.func46, Try.ntmps46
  go_wp2
  rw [Lib.run_to_unsafe w ⟨b, 0, none⟩ Try.underlying87 Try.underlying101 hj (by rw [hjs]; decide) hsh (Nat.zero_lt_succ 1)]
  simp only [Result.andThen]
  rw [Oper.upon_value]
  go_wp2
  rw [run_callFunc_extern Try.func48 (by kernel_rfl) (by kernel_rfl) (by kernel_rfl) (e := Extern.AbiNoEscape.same) (by kernel_rfl)]
  rw [Lib.run_noEscape]
  simp only [Result.andThen]
  rw [Oper.upon_value]
  go_wp2
  rw [Lib.run_from_unsafe w ⟨b, 0, none⟩ Try.underlying101 Try.underlying87 hj hsh liesBld]
  simp only [Result.andThen]
  rw [Oper.upon_value]
  go_wp2
  go_end0
  exact ⟨rfl, rfl⟩
theorem check_ok (B b : Nat) (bs : List Value) (w : World) (h : Lib.IsBuilder 89 5 B b bs w) :
    Calls Try.prog 46 #[.pointer (some ⟨b, 0, none⟩)] w fun e w' => e = .returned (.tuple #[]) ∧ (Lib.BuilderAt 89 5 B b (.pointer (some ⟨b, 0, none⟩)) bs w' ∧ Below B w w') := by
  rcases h with h | h
  · refine (check_fresh b w h.cell0 h.shape h.frozen0).mono ?_
    rintro e w' ⟨rfl, rfl⟩
    exact ⟨rfl, h.used _, (Below.refl B w).setCell (p := ⟨b, 0, none⟩) h.1 _⟩
  · refine (check_used b w h.cell0).mono ?_
    rintro e w' ⟨rfl, rfl⟩
    exact ⟨rfl, h, Below.refl B _⟩
theorem add_block (a : Addr) (j : Nat) : (a.add j).block = a.block := by unfold Addr.add; split <;> rfl
theorem bytes_low {w w' : World} {B : Nat} {A : Option Addr} {l : List Int} (h : Bytes w A l) (k : Below B w w') (hA : 0 < l.length → ∀ ad, A = some ad → ad.block < B) : Bytes w' A l := fun h0 => by
  obtain ⟨ad, e, hc⟩ := h h0
  exact ⟨ad, e, fun j x hj => (k.cell (by rw [add_block]; exact hA h0 ad e)).trans (hc j x hj)⟩
set_option maxHeartbeats 2000000 in
set_option maxRecDepth 100000 in
/-- Write. -/
theorem write_ok (B b : Nat) (bs : List Value) (w : World) (h : Lib.IsBuilder 89 5 B b bs w) (ad : Addr) (l : List Int) (c : Nat) (h0 : 0 < l.length) (hby : Bytes w (some ad) l) (hlow : ad.block < B) (hlen : bs.length + l.length ≤ 1000000) (hBw : B ≤ w.heap.size) :
    Calls Try.prog 40 #[.pointer (some ⟨b, 0, none⟩), .slice (some ad) l.length c] w fun e w' => e = .returned (.tuple #[.int .i64 l.length, .nilIface]) ∧ Lib.BuilderAt 89 5 B b (.pointer (some ⟨b, 0, none⟩)) (bs ++ l.map (Value.int .u8)) w' ∧ Below B w w' := by
  obtain ⟨i0, hi, hz0, hz1, hz2⟩ := info_parts infoU8
  go_enter Try.func40, Try.ntmps40
  go_wp2_with (go_at_call 46; refine (check_ok B b bs _ h).mono ?_)
  rintro e w1 ⟨rfl, h1, hb1⟩
  obtain ⟨hB, v, hbk, hown, hne⟩ := h1
  have c0 : w1.cell? ⟨b, 0, none⟩ = some (.pointer (some ⟨b, 0, none⟩)) := by rw [Lib.cell_of_heap hbk]; rfl
  have c1 : w1.cell? ⟨b, 1, none⟩ = some v := by rw [Lib.cell_of_heap hbk]; rfl
  have hby1 := bytes_low hby hb1 (fun _ a e => by cases e; exact hlow)
  have hnews : ∀ j u, (l.map (Value.int .u8))[j]? = some u → w1.cell? (ad.add j) = some u := fun j u hu => by
    obtain ⟨a, e, hc⟩ := hby1 h0
    cases e
    rw [List.getElem?_map] at hu
    obtain ⟨x, hx, rfl⟩ := Option.map_eq_some_iff.1 hu
    exact hc j x hx
  go_wp2_with (at_builtin; refine wpList_append_own _ rfl _ _ 22 rfl B 5 i0 (.int .u8 0) 1 1 Try.underlying22 hi hz0 hz1 hz2 rfl (by decide) _ _ _ rfl hown ad l.length c (l.map (Value.int .u8)) rfl (by simp) hnews (by simp [Value.oneCell']) (by unfold maxLen; omega) (by omega) (by have := hb1.size; omega) ?_)
  intro v' w2 hown' hgrow _
  have hlt : b < w1.heap.size := Hp.lt_of_heap hbk
  have hb2 : w2.heap[b]? = some (.cells #[.pointer (some ⟨b, 0, none⟩), v] 89 (0, 0)) := by
    rw [hgrow.block b hlt (fun e => hne e.symm)]
    exact hbk
  have d0 : w2.cell? ⟨b, 0, none⟩ = some (.pointer (some ⟨b, 0, none⟩)) := by rw [Lib.cell_of_heap hb2]; rfl
  have d1 : w2.cell? ⟨b, 1, none⟩ = some v := by rw [Lib.cell_of_heap hb2]; rfl
  have f1 : w2.frozen? ⟨b, 1, none⟩ = false := Lib.frozen_of_heap hb2 1
  obtain ⟨ao, n', cap, rfl⟩ : ∃ ao n' cap, v' = .slice ao n' cap := by
    rcases hown'.2 with ⟨hv, _⟩ | ⟨g, cap, cur, hv, _⟩
    · exact ⟨_, _, _, hv⟩
    · exact ⟨_, _, _, hv⟩
  go_wp2
  go_ret2
  refine ⟨rfl, ?_, ?_⟩
  · exact Lib.BuilderAt.put (T := 89) (e := 5) hB hb2 (bs' := bs ++ l.map (Value.int .u8)) (by simpa using hown') (by decide)
  · exact (hb1.grown hgrow (by have := hb1.size; omega) (fun k hk => (hown.lt k hk).1)).setCell (p := ⟨b, 1, none⟩) hB _
end Go.Proofs.Ytgnepppncmjagaa.Gt

namespace Go.Proofs.Ytgnepppncmjagaa.Gt
open Go Go.RowKit Hp Rd Go.Proofs.Ytgnepppncmjagaa.Fr Go.Proofs.YtgnepppncmjagaaW.PrintWords Go.Proofs.YtgnepppncmjagaaW.PrintLast
theorem below_drewN {B : Nat} {a w : World} (h : Below B a w) (n : Nat) : Below B a (w.drewN n) := ⟨h.os, h.tape, h.output, h.size, h.block⟩
theorem str_add (a b : List Int) : strOfNums a ++ strOfNums b = strOfNums (a ++ b) := by
  apply ByteArray.ext
  apply Array.toList_inj.1
  simp [strOfNums]
theorem add_nil (a : Addr) : a.add 0 = a := by simp [Addr.add]
theorem add_pos (a : Addr) (j : Nat) (h : 0 < j) : a.add j = ⟨a.block, a.off + j, none⟩ := by
  unfold Addr.add
  rw [if_neg (by omega)]
theorem two_wrap (a b : Int) (ha : 0 ≤ a ∧ a ≤ 255) (hb : 0 ≤ b ∧ b ≤ 255) : IntKind.i64.wrap (IntKind.i64.wrap (256 * IntKind.i64.wrap a) + IntKind.i64.wrap b) = (((256 * a + b).toNat : Nat) : Int) := by
  have e : ∀ x : Int, 0 ≤ x → x ≤ 100000 → IntKind.i64.wrap x = x := fun x h0 h1 => by rw [IntKind.wrap_i64]; omega
  rw [e a (by omega) (by omega), e b (by omega) (by omega), e (256 * a) (by omega) (by omega), e (256 * a + b) (by omega) (by omega)]
  omega
theorem sizeRep : (Try.prog.info? 53).map (·.size) = some 4 := by kernel_rfl
set_option maxHeartbeats 4000000 in
set_option maxRecDepth 100000 in
theorem refgather_nil (w : World) (A : Option Addr) (c : Nat) :
    Calls Try.prog 25 #[.slice A 0 c] w fun e w' => e = .returned (.tuple #[RV none, .int .i64 231]) ∧ Below w.heap.size w w' := by
  go_enter Try.func25, Try.ntmps25
  go_upto_region 1 with (fail)
  obtain ⟨w1, hw1⟩ : ∃ w1, w.alloc (.cells #[.int .i64 0, .int .i64 0, .complex .f64 0 0, .string ⟨#[]⟩] 53) = w1 := ⟨_, rfl⟩
  obtain ⟨b0, hb0⟩ : ∃ b0, w.heap.size = b0 := ⟨_, rfl⟩
  have h01 : Below w.heap.size w w1 := by rw [← hw1]; exact (Below.refl _ _).alloc (Nat.le_refl _) _
  have g0 : w1.heap[b0]? = some (.cells #[.int .i64 0, .int .i64 0, .complex .f64 0 0, .string ⟨#[]⟩] 53 (0, 0)) := by rw [← hw1, ← hb0]; exact heap_alloc_new _ _
  obtain ⟨wz, z1, z2, z3, -⟩ := Rw.put_row (P := Try.prog) (cs := [.int .i64 0, .int .i64 0, .complex .f64 0 0, .string ⟨#[]⟩]) g0 rfl (by decide) Try.underlying53 rfl sizeRep
  have hBz := h01.trans (z3.below (B := w.heap.size) h01.size (fun i hi e => by omega))
  rw [hw1, hb0]
  clear hw1 g0 z3 h01 hb0
  go_wp2_with ((with_reducible refine Rw.at_store 2 47 ?_); refine Rw.wpList_put rfl 53 (.tmp 2) (.tmp 47) rfl rfl rfl z1 ?_)
  (try simp only [Exit.inBlock, Exit.then]); refine bodyPost_ret (Rw.ret_cell rfl rfl rfl z2) rfl ?_
  exact ⟨rfl, hBz⟩
set_option maxHeartbeats 8000000 in
set_option maxRecDepth 100000 in
theorem refgather_some (w : World) (A : Option Addr) (c : Nat) (C : List Fm) (e : Fm) (hL : FmsAt w w.heap.size A (C ++ [e])) (hn : C.length ≤ 12) (hl : ∀ f ∈ C ++ [e], f.l.length ≤ 2000) :
    Calls Try.prog 25 #[.slice A (C.length + 1) c] w fun x w' => x = .returned (.tuple #[RV (ge C e), .int .i64 (RE (ge C e))]) ∧ Below w.heap.size w w' := by
  obtain ⟨g, off, rfl, hg, hfa⟩ := hL.at_ C.length e (by simp)
  have hoke := hL.ok e (by simp)
  obtain ⟨m, hm⟩ : ∃ m, C.length = m := ⟨_, rfl⟩
  rw [hm] at hfa hn ⊢
  have HM := Sh.mk hm
  have HL := Sh.mk hL
  have HLL := Sh.mk hl
  clear hm hL hl
  go_enter Try.func25, Try.ntmps25
  go_upto_region 1 with (fail)
  obtain ⟨w1, hw1⟩ : ∃ w1, w.alloc (.cells #[.int .i64 0, .int .i64 0, .complex .f64 0 0, .string ⟨#[]⟩] 53) = w1 := ⟨_, rfl⟩
  obtain ⟨b0, hb0⟩ : ∃ b0, w.heap.size = b0 := ⟨_, rfl⟩
  have h01 : Below w.heap.size w w1 := by rw [← hw1]; exact (Below.refl _ _).alloc (Nat.le_refl _) _
  have g0 : w1.heap[b0]? = some (.cells #[.int .i64 0, .int .i64 0, .complex .f64 0 0, .string ⟨#[]⟩] 53 (0, 0)) := by rw [← hw1, ← hb0]; exact heap_alloc_new _ _
  have fin : ∀ w2 (v : Rp), Below w1.heap.size w1 w2 → ∃ wz, (Instr.storeAt 53 (.pointer (some ⟨b0, 0, none⟩)) (RV v)).run Try.prog w2 = .ok () wz ∧ (loadVar 53 ⟨b0, 0, none⟩).run Try.prog wz = .ok (RV v) wz ∧ Below w.heap.size w wz := fun w2 v hb => by
    obtain ⟨cs, hcs, h1, h4⟩ : ∃ cs : List Value, RV v = .agg cs.toArray ∧ (∀ x ∈ cs, x.oneCell' = true) ∧ cs.length = 4 := by
      cases v with
      | none => exact ⟨_, rfl, by decide, rfl⟩
      | some p => exact ⟨[_, _, _, _], rfl, by simp [Value.oneCell'], rfl⟩
    obtain ⟨wz, z1, z2, z3, -⟩ := Rw.put_row (P := Try.prog) (cs := cs) ((hb.block b0 (by rw [← hb0]; exact Hp.lt_of_heap (by rw [hb0]; exact g0))).trans g0) (by rw [h4]; rfl) h1 Try.underlying53 rfl (by rw [h4]; exact sizeRep)
    rw [hcs]
    have hb' := h01.trans (hb.mono h01.size)
    exact ⟨wz, z1, z2, hb'.trans (z3.below (B := w.heap.size) hb'.size (fun i hi e => by omega))⟩
  have hfa1 := hfa.below h01
  have hok1 := hoke.below h01
  have HL1 := Sh.mk (HL.out.below h01)
  have FIN := Sh.mk fin
  have HG := Sh.mk hg
  have HN := Sh.mk hn
  rw [hw1, hb0]
  clear hw1 hb0 fin hfa hoke HL hg
  have d0_ := hfa1.c0
  have d1_ := hfa1.c1
  have d2_ := hfa1.c2
  have m1_ : wrap64 (m : Int) = (m : Int) := by unfold wrap64; omega
  have mk_ : ¬ (m : Int) < 0 := by omega
  have hlen1 := hok1.len
  obtain ⟨bl, hbl⟩ : ∃ bl, e.l.length = bl := ⟨_, rfl⟩
  rw [hbl] at d2_ hlen1
  have HBL := Sh.mk hbl
  clear hbl hn h01 g0 hfa1
  go_upto_region 2 with (fail)
  simp only [m1_]
  clear m1_
  by_cases c1 : e.kind = 3
  rotate_left
  · have b1_ : (e.kind != 3) = true := by simpa using c1
    obtain ⟨wz, z1, z2, hBz⟩ := FIN.out w1 none (Below.refl _ _)
    go_wp2_with ((with_reducible refine Rw.at_store 2 47 ?_); refine Rw.wpList_put rfl 53 (.tmp 2) (.tmp 47) rfl rfl rfl z1 ?_)
    skip
    (try simp only [Exit.inBlock, Exit.then]); refine bodyPost_ret (Rw.ret_cell rfl rfl rfl z2) rfl ?_
    exact ⟨by rw [ge_kind c1]; rfl, hBz⟩
  have b1_ : (e.kind != 3) = false := by simpa using c1
  by_cases c2 : bl = 6
  rotate_left
  · have b2_ : ((bl : Int) != 6) = true := by simp; omega
    obtain ⟨wz, z1, z2, hBz⟩ := FIN.out w1 none (Below.refl _ _)
    go_wp2_with ((with_reducible refine Rw.at_store 2 47 ?_); refine Rw.wpList_put rfl 53 (.tmp 2) (.tmp 47) rfl rfl rfl z1 ?_)
    skip
    (try simp only [Exit.inBlock, Exit.then]); refine bodyPost_ret (Rw.ret_cell rfl rfl rfl z2) rfl ?_
    exact ⟨by rw [ge_len (C := C) (e := e) (by rw [HBL.out]; exact c2)]; rfl, hBz⟩
  have b2_ : ((bl : Int) != 6) = false := by simp; omega
  by_cases c3 : e.id < 0
  · obtain ⟨wz, z1, z2, hBz⟩ := FIN.out w1 none (Below.refl _ _)
    go_wp2_with ((with_reducible refine Rw.at_store 2 47 ?_); refine Rw.wpList_put rfl 53 (.tmp 2) (.tmp 47) rfl rfl rfl z1 ?_)
    skip
    (try simp only [Exit.inBlock, Exit.then]); refine bodyPost_ret (Rw.ret_cell rfl rfl rfl z2) rfl ?_
    exact ⟨by rw [ge_low (C := C) (e := e) c3]; rfl, hBz⟩
  by_cases c4 : 65535 < e.id
  · obtain ⟨wz, z1, z2, hBz⟩ := FIN.out w1 none (Below.refl _ _)
    go_wp2_with ((with_reducible refine Rw.at_store 2 47 ?_); refine Rw.wpList_put rfl 53 (.tmp 2) (.tmp 47) rfl rfl rfl z1 ?_)
    skip
    (try simp only [Exit.inBlock, Exit.then]); refine bodyPost_ret (Rw.ret_cell rfl rfl rfl z2) rfl ?_
    exact ⟨by rw [ge_high (C := C) (e := e) c4]; rfl, hBz⟩
  go_wp2_with fail
  have D2 := Sh.mk d2_
  clear hlen1 d1_ d2_ mk_
  go_loopg [5, 6] m (fun kq v5 v6 w' => ∃ (i : Nat) (acc : List Int), i + kq = m ∧ v5 = .string (strOfNums acc) ∧ v6 = .int .i64 (i : Int) ∧ Sh (gl e.id (C.drop i) acc = gl e.id C [] ∧ acc.length ≤ 2000 * i ∧ Below w1.heap.size w1 w'))
  case atStart => exact ⟨0, [], by omega, rfl, rfl, ⟨rfl, by simp, Below.refl _ _⟩⟩
  case round =>
    obtain ⟨i, acc, hik, rfl, rfl, ⟨hgl, hacc, hB⟩⟩ := hrel
    have HGL := Sh.mk hgl
    have HAC := Sh.mk hacc
    have HB := Sh.mk hB
    have HI := Sh.mk hik
    have n12 := HN.out
    have x0_ : wr.cell? ⟨g, off + m * 3, none⟩ = some (.int .i64 e.id) := (World.cell?_of_block (a := ⟨g, off + m * 3, none⟩) (hB.block g (World.block_lt_of_cell? w1 ⟨g, off + m * 3, none⟩ d0_))).trans d0_
    clear hgl hacc
    cases gk with
    | zero =>
      obtain rfl : i = m := by omega
      have kk : ¬ (i : Int) < (i : Int) := by omega
      have kx_ : (i : Int) < (i : Int) + 1 := by omega
      subst c2
      have d2_ := D2.out
      obtain ⟨n0, n1, n2, n3, n4, n5, hel⟩ := ends_six HBL.out
      have hoe := (hok1.below hB).byt
      obtain ⟨ea, hea, hcs⟩ := hoe (by rw [HBL.out]; decide)
      have y_ : ∀ j x, [n0, n1, n2, n3, n4, n5][j]? = some x → wr.cell? (ea.add j) = some (.int .u8 x) := fun j x hj => hcs j x (by rw [hel]; exact hj)
      have hc6 : 6 ≤ e.c := by have := hok1.len; rw [HBL.out] at this; exact this
      have hnum := hok1.num
      rw [hel] at hnum
      have HNUM := Sh.mk hnum
      have HEL := Sh.mk hel
      have x2_ : wr.cell? ⟨g, off + i * 3 + 2, none⟩ = some (.slice (some ea) 6 e.c) := by
        rw [← hea]
        exact (World.cell?_of_block (a := ⟨g, off + i * 3 + 2, none⟩) (hB.block g (World.block_lt_of_cell? w1 ⟨g, off + i * 3 + 2, none⟩ d2_))).trans d2_
      have HHEA := Sh.mk hea
      have hgl2 : gl e.id C [] = some acc := by
        rw [← HGL.out]
        have := gl_all (id := e.id) (C := C) acc
        rw [HM.out] at this
        exact this
      have HGE := Sh.mk (ge_good (e := e) c1 (by omega) (by omega) hel hgl2)
      have hfl : ∀ (W : World) (n : Int), Sem.run Try.prog (convert 3 67 (.int .i64 n)) W = .ok (.float .f64 (FloatKind.f64.nearest n)) W := fun _ _ => rfl
      have hcx := fun (W : World) (x y : Nat) => toCx W x y
      have hsl := And.intro x0_ (And.intro ((add_nil ea) ▸ y_ 0 _ rfl) (And.intro ((add_pos ea 1 (by decide)) ▸ y_ 1 _ rfl) (And.intro ((add_pos ea 2 (by decide)) ▸ y_ 2 _ rfl) (And.intro ((add_pos ea 3 (by decide)) ▸ y_ 3 _ rfl) (And.intro ((add_pos ea 4 (by decide)) ▸ y_ 4 _ rfl) ((add_pos ea 5 (by decide)) ▸ y_ 5 _ rfl))))))
      clear hnum hel hoe hea hcs y_ hgl2 hB hok1 d0_ d2_
      go_upto_region 13 with (fail)
      refine start_ (n := 42) (S := fun w' => w'.cell? ⟨g, off + i * 3, none⟩ = some (.int .i64 e.id) ∧ w'.cell? ea = some (.int .u8 n0) ∧ w'.cell? ⟨ea.block, ea.off + 1, none⟩ = some (.int .u8 n1) ∧ w'.cell? ⟨ea.block, ea.off + 2, none⟩ = some (.int .u8 n2) ∧ w'.cell? ⟨ea.block, ea.off + 3, none⟩ = some (.int .u8 n3) ∧ w'.cell? ⟨ea.block, ea.off + 4, none⟩ = some (.int .u8 n4) ∧ w'.cell? ⟨ea.block, ea.off + 5, none⟩ = some (.int .u8 n5)) (ds := [40]) #[false, false, false, false, false, false, false, false, false, false, false, false, false, false, false, false, false, false, false, false, false, false, false, false, false, false, false, false, false, false, false, false, false, false, false, false, false, false, false, false, false, false] (by kernel_rfl) rfl rfl (hsl) (fun hHeld => ?_)
      refine pure_ (i := 0) (N := some 110) (v := ?_) (a' := ?_) #[true, false, false, false, false, false, false, false, false, false, false, false, false, false, false, false, false, false, false, false, false, false, false, false, false, false, false, false, false, false, false, false, false, false, false, false, false, false, false, false, false, false] rfl rfl (by kernel_rfl) (fun _ _ _ h => h) (Or.inl ⟨by rfl, ?_⟩) ?_ ?_
      rotate_left
      · intro w'
        go_simp
        with_reducible rfl
      rotate_left
      · simp only [Act.put, List.setIfInBounds_toArray, List.set_cons_zero, List.set_cons_succ]
        rfl
      refine pure_ (i := 1) (N := some 111) (v := ?_) (a' := ?_) #[true, true, false, false, false, false, false, false, false, false, false, false, false, false, false, false, false, false, false, false, false, false, false, false, false, false, false, false, false, false, false, false, false, false, false, false, false, false, false, false, false, false] rfl rfl (by kernel_rfl) (fun _ _ _ h => h) (Or.inl ⟨by rfl, ?_⟩) ?_ ?_
      rotate_left
      · intro w'
        go_simp
        with_reducible rfl
      rotate_left
      · simp only [Act.put, List.setIfInBounds_toArray, List.set_cons_zero, List.set_cons_succ]
        rfl
      refine pure_ (i := 2) (N := some 112) (v := ?_) (a' := ?_) #[true, true, true, false, false, false, false, false, false, false, false, false, false, false, false, false, false, false, false, false, false, false, false, false, false, false, false, false, false, false, false, false, false, false, false, false, false, false, false, false, false, false] rfl rfl (by kernel_rfl) (fun _ _ _ h => h) (Or.inl ⟨by rfl, ?_⟩) ?_ ?_
      rotate_left
      · intro w'
        go_simp
        with_reducible rfl
      rotate_left
      · simp only [Act.put, List.setIfInBounds_toArray, List.set_cons_zero, List.set_cons_succ]
        rfl
      refine pure_ (i := 3) (N := some 113) (v := ?_) (a' := ?_) #[true, true, true, true, false, false, false, false, false, false, false, false, false, false, false, false, false, false, false, false, false, false, false, false, false, false, false, false, false, false, false, false, false, false, false, false, false, false, false, false, false, false] rfl rfl (by kernel_rfl) (fun _ _ _ h => h) (Or.inl ⟨by rfl, ?_⟩) ?_ ?_
      rotate_left
      · intro w'
        go_simp
        with_reducible rfl
      rotate_left
      · simp only [Act.put, List.setIfInBounds_toArray, List.set_cons_zero, List.set_cons_succ]
        rfl
      refine take_ (i := 4) (N := some 114) (v := ?_) (a' := ?_) #[true, true, true, true, true, false, false, false, false, false, false, false, false, false, false, false, false, false, false, false, false, false, false, false, false, false, false, false, false, false, false, false, false, false, false, false, false, false, false, false, false, false] rfl rfl (by kernel_rfl) (fun _ _ _ h => h) (Or.inl ⟨by rfl, ?_⟩) hHeld ?_ ?_
      rotate_left
      · rintro w' ⟨s0, s1, s2, s3, s4, s5, s6⟩
        go_simp
        with_reducible rfl
      rotate_left
      · simp only [Act.put, List.setIfInBounds_toArray, List.set_cons_zero, List.set_cons_succ]
        rfl
      refine pure_ (i := 5) (N := some 115) (v := ?_) (a' := ?_) #[true, true, true, true, true, true, false, false, false, false, false, false, false, false, false, false, false, false, false, false, false, false, false, false, false, false, false, false, false, false, false, false, false, false, false, false, false, false, false, false, false, false] rfl rfl (by kernel_rfl) (fun _ _ _ h => h) (Or.inl ⟨by rfl, ?_⟩) ?_ ?_
      rotate_left
      · intro w'
        go_simp
        with_reducible rfl
      rotate_left
      · simp only [Act.put, List.setIfInBounds_toArray, List.set_cons_zero, List.set_cons_succ]
        rfl
      refine pure_ (i := 6) (N := some 116) (v := ?_) (a' := ?_) #[true, true, true, true, true, true, true, false, false, false, false, false, false, false, false, false, false, false, false, false, false, false, false, false, false, false, false, false, false, false, false, false, false, false, false, false, false, false, false, false, false, false] rfl rfl (by kernel_rfl) (fun _ _ _ h => h) (Or.inl ⟨by rfl, ?_⟩) ?_ ?_
      rotate_left
      · intro w'
        go_simp
        with_reducible rfl
      rotate_left
      · simp only [Act.put, List.setIfInBounds_toArray, List.set_cons_zero, List.set_cons_succ]
        rfl
      refine take_ (i := 7) (N := some 117) (v := ?_) (a' := ?_) #[true, true, true, true, true, true, true, true, false, false, false, false, false, false, false, false, false, false, false, false, false, false, false, false, false, false, false, false, false, false, false, false, false, false, false, false, false, false, false, false, false, false] rfl rfl (by kernel_rfl) (fun _ _ _ h => h) (Or.inl ⟨by rfl, ?_⟩) hHeld ?_ ?_
      rotate_left
      · rintro w' ⟨s0, s1, s2, s3, s4, s5, s6⟩
        go_simp
        with_reducible rfl
      rotate_left
      · simp only [Act.put, List.setIfInBounds_toArray, List.set_cons_zero, List.set_cons_succ]
        rfl
      refine pure_ (i := 8) (N := some 118) (v := ?_) (a' := ?_) #[true, true, true, true, true, true, true, true, true, false, false, false, false, false, false, false, false, false, false, false, false, false, false, false, false, false, false, false, false, false, false, false, false, false, false, false, false, false, false, false, false, false] rfl rfl (by kernel_rfl) (fun _ _ _ h => h) (Or.inl ⟨by rfl, ?_⟩) ?_ ?_
      rotate_left
      · intro w'
        go_simp
        with_reducible rfl
      rotate_left
      · simp only [Act.put, List.setIfInBounds_toArray, List.set_cons_zero, List.set_cons_succ]
        rfl
      refine pure_ (i := 9) (N := some 119) (v := ?_) (a' := ?_) #[true, true, true, true, true, true, true, true, true, true, false, false, false, false, false, false, false, false, false, false, false, false, false, false, false, false, false, false, false, false, false, false, false, false, false, false, false, false, false, false, false, false] rfl rfl (by kernel_rfl) (fun _ _ _ h => h) (Or.inl ⟨by rfl, ?_⟩) ?_ ?_
      rotate_left
      · intro w'
        go_simp
        with_reducible rfl
      rotate_left
      · simp only [Act.put, List.setIfInBounds_toArray, List.set_cons_zero, List.set_cons_succ]
        rfl
      refine pure_ (i := 10) (N := some 120) (v := ?_) (a' := ?_) #[true, true, true, true, true, true, true, true, true, true, true, false, false, false, false, false, false, false, false, false, false, false, false, false, false, false, false, false, false, false, false, false, false, false, false, false, false, false, false, false, false, false] rfl rfl (by kernel_rfl) (fun _ _ _ h => h) (Or.inl ⟨by rfl, ?_⟩) ?_ ?_
      rotate_left
      · intro w'
        go_simp
        with_reducible rfl
      rotate_left
      · simp only [Act.put, List.setIfInBounds_toArray, List.set_cons_zero, List.set_cons_succ]
        rfl
      refine pure_ (i := 11) (N := some 121) (v := ?_) (a' := ?_) #[true, true, true, true, true, true, true, true, true, true, true, true, false, false, false, false, false, false, false, false, false, false, false, false, false, false, false, false, false, false, false, false, false, false, false, false, false, false, false, false, false, false] rfl rfl (by kernel_rfl) (fun _ _ _ h => h) (Or.inl ⟨by rfl, ?_⟩) ?_ ?_
      rotate_left
      · intro w'
        go_simp
        with_reducible rfl
      rotate_left
      · simp only [Act.put, List.setIfInBounds_toArray, List.set_cons_zero, List.set_cons_succ]
        rfl
      refine take_ (i := 12) (N := some 122) (v := ?_) (a' := ?_) #[true, true, true, true, true, true, true, true, true, true, true, true, true, false, false, false, false, false, false, false, false, false, false, false, false, false, false, false, false, false, false, false, false, false, false, false, false, false, false, false, false, false] rfl rfl (by kernel_rfl) (fun _ _ _ h => h) (Or.inl ⟨by rfl, ?_⟩) hHeld ?_ ?_
      rotate_left
      · rintro w' ⟨s0, s1, s2, s3, s4, s5, s6⟩
        go_simp
        with_reducible rfl
      rotate_left
      · simp only [Act.put, List.setIfInBounds_toArray, List.set_cons_zero, List.set_cons_succ]
        rfl
      refine pure_ (i := 13) (N := some 123) (v := ?_) (a' := ?_) #[true, true, true, true, true, true, true, true, true, true, true, true, true, true, false, false, false, false, false, false, false, false, false, false, false, false, false, false, false, false, false, false, false, false, false, false, false, false, false, false, false, false] rfl rfl (by kernel_rfl) (fun _ _ _ h => h) (Or.inl ⟨by rfl, ?_⟩) ?_ ?_
      rotate_left
      · intro w'
        go_simp
        with_reducible rfl
      rotate_left
      · simp only [Act.put, List.setIfInBounds_toArray, List.set_cons_zero, List.set_cons_succ]
        rfl
      refine pure_ (i := 14) (N := some 124) (v := ?_) (a' := ?_) #[true, true, true, true, true, true, true, true, true, true, true, true, true, true, true, false, false, false, false, false, false, false, false, false, false, false, false, false, false, false, false, false, false, false, false, false, false, false, false, false, false, false] rfl rfl (by kernel_rfl) (fun _ _ _ h => h) (Or.inl ⟨by rfl, ?_⟩) ?_ ?_
      rotate_left
      · intro w'
        go_simp
        with_reducible rfl
      rotate_left
      · simp only [Act.put, List.setIfInBounds_toArray, List.set_cons_zero, List.set_cons_succ]
        rfl
      refine pure_ (i := 15) (N := some 125) (v := ?_) (a' := ?_) #[true, true, true, true, true, true, true, true, true, true, true, true, true, true, true, true, false, false, false, false, false, false, false, false, false, false, false, false, false, false, false, false, false, false, false, false, false, false, false, false, false, false] rfl rfl (by kernel_rfl) (fun _ _ _ h => h) (Or.inl ⟨by rfl, ?_⟩) ?_ ?_
      rotate_left
      · intro w'
        go_simp
        with_reducible rfl
      rotate_left
      · simp only [Act.put, List.setIfInBounds_toArray, List.set_cons_zero, List.set_cons_succ]
        rfl
      refine pure_ (i := 16) (N := some 126) (v := ?_) (a' := ?_) #[true, true, true, true, true, true, true, true, true, true, true, true, true, true, true, true, true, false, false, false, false, false, false, false, false, false, false, false, false, false, false, false, false, false, false, false, false, false, false, false, false, false] rfl rfl (by kernel_rfl) (fun _ _ _ h => h) (Or.inl ⟨by rfl, ?_⟩) ?_ ?_
      rotate_left
      · intro w'
        go_simp
        with_reducible rfl
      rotate_left
      · simp only [Act.put, List.setIfInBounds_toArray, List.set_cons_zero, List.set_cons_succ]
        rfl
      refine take_ (i := 17) (N := some 127) (v := ?_) (a' := ?_) #[true, true, true, true, true, true, true, true, true, true, true, true, true, true, true, true, true, true, false, false, false, false, false, false, false, false, false, false, false, false, false, false, false, false, false, false, false, false, false, false, false, false] rfl rfl (by kernel_rfl) (fun _ _ _ h => h) (Or.inl ⟨by rfl, ?_⟩) hHeld ?_ ?_
      rotate_left
      · rintro w' ⟨s0, s1, s2, s3, s4, s5, s6⟩
        go_simp
        with_reducible rfl
      rotate_left
      · simp only [Act.put, List.setIfInBounds_toArray, List.set_cons_zero, List.set_cons_succ]
        rfl
      refine pure_ (i := 18) (N := some 128) (v := ?_) (a' := ?_) #[true, true, true, true, true, true, true, true, true, true, true, true, true, true, true, true, true, true, true, false, false, false, false, false, false, false, false, false, false, false, false, false, false, false, false, false, false, false, false, false, false, false] rfl rfl (by kernel_rfl) (fun _ _ _ h => h) (Or.inl ⟨by rfl, ?_⟩) ?_ ?_
      rotate_left
      · intro w'
        go_simp
        with_reducible rfl
      rotate_left
      · simp only [Act.put, List.setIfInBounds_toArray, List.set_cons_zero, List.set_cons_succ]
        rfl
      refine pure_ (i := 19) (N := some 129) (v := ?_) (a' := ?_) #[true, true, true, true, true, true, true, true, true, true, true, true, true, true, true, true, true, true, true, true, false, false, false, false, false, false, false, false, false, false, false, false, false, false, false, false, false, false, false, false, false, false] rfl rfl (by kernel_rfl) (fun _ _ _ h => h) (Or.inl ⟨by rfl, ?_⟩) ?_ ?_
      rotate_left
      · intro w'
        go_simp
        with_reducible rfl
      rotate_left
      · simp only [Act.put, List.setIfInBounds_toArray, List.set_cons_zero, List.set_cons_succ]
        rfl
      refine pure_ (i := 20) (N := some 130) (v := ?_) (a' := ?_) #[true, true, true, true, true, true, true, true, true, true, true, true, true, true, true, true, true, true, true, true, true, false, false, false, false, false, false, false, false, false, false, false, false, false, false, false, false, false, false, false, false, false] rfl rfl (by kernel_rfl) (fun _ _ _ h => h) (Or.inl ⟨by rfl, ?_⟩) ?_ ?_
      rotate_left
      · intro w'
        go_simp
        with_reducible rfl
      rotate_left
      · simp only [Act.put, List.setIfInBounds_toArray, List.set_cons_zero, List.set_cons_succ]
        rfl
      refine pure_ (i := 21) (N := some 131) (v := ?_) (a' := ?_) #[true, true, true, true, true, true, true, true, true, true, true, true, true, true, true, true, true, true, true, true, true, true, false, false, false, false, false, false, false, false, false, false, false, false, false, false, false, false, false, false, false, false] rfl rfl (by kernel_rfl) (fun _ _ _ h => h) (Or.inl ⟨by rfl, ?_⟩) ?_ ?_
      rotate_left
      · intro w'
        go_simp
        with_reducible rfl
      rotate_left
      · simp only [Act.put, List.setIfInBounds_toArray, List.set_cons_zero, List.set_cons_succ]
        rfl
      refine take_ (i := 22) (N := some 132) (v := ?_) (a' := ?_) #[true, true, true, true, true, true, true, true, true, true, true, true, true, true, true, true, true, true, true, true, true, true, true, false, false, false, false, false, false, false, false, false, false, false, false, false, false, false, false, false, false, false] rfl rfl (by kernel_rfl) (fun _ _ _ h => h) (Or.inl ⟨by rfl, ?_⟩) hHeld ?_ ?_
      rotate_left
      · rintro w' ⟨s0, s1, s2, s3, s4, s5, s6⟩
        go_simp
        with_reducible rfl
      rotate_left
      · simp only [Act.put, List.setIfInBounds_toArray, List.set_cons_zero, List.set_cons_succ]
        rfl
      refine pure_ (i := 23) (N := some 133) (v := ?_) (a' := ?_) #[true, true, true, true, true, true, true, true, true, true, true, true, true, true, true, true, true, true, true, true, true, true, true, true, false, false, false, false, false, false, false, false, false, false, false, false, false, false, false, false, false, false] rfl rfl (by kernel_rfl) (fun _ _ _ h => h) (Or.inl ⟨by rfl, ?_⟩) ?_ ?_
      rotate_left
      · intro w'
        go_simp
        with_reducible rfl
      rotate_left
      · simp only [Act.put, List.setIfInBounds_toArray, List.set_cons_zero, List.set_cons_succ]
        rfl
      refine pure_ (i := 24) (N := some 134) (v := ?_) (a' := ?_) #[true, true, true, true, true, true, true, true, true, true, true, true, true, true, true, true, true, true, true, true, true, true, true, true, true, false, false, false, false, false, false, false, false, false, false, false, false, false, false, false, false, false] rfl rfl (by kernel_rfl) (fun _ _ _ h => h) (Or.inl ⟨by rfl, ?_⟩) ?_ ?_
      rotate_left
      · intro w'
        go_simp
        with_reducible rfl
      rotate_left
      · simp only [Act.put, List.setIfInBounds_toArray, List.set_cons_zero, List.set_cons_succ]
        rfl
      refine pure_ (i := 25) (N := some 135) (v := ?_) (a' := ?_) #[true, true, true, true, true, true, true, true, true, true, true, true, true, true, true, true, true, true, true, true, true, true, true, true, true, true, false, false, false, false, false, false, false, false, false, false, false, false, false, false, false, false] rfl rfl (by kernel_rfl) (fun _ _ _ h => h) (Or.inl ⟨by rfl, ?_⟩) ?_ ?_
      rotate_left
      · intro w'
        go_simp
        with_reducible rfl
      rotate_left
      · simp only [Act.put, List.setIfInBounds_toArray, List.set_cons_zero, List.set_cons_succ]
        rfl
      refine pure_ (i := 26) (N := some 136) (v := ?_) (a' := ?_) #[true, true, true, true, true, true, true, true, true, true, true, true, true, true, true, true, true, true, true, true, true, true, true, true, true, true, true, false, false, false, false, false, false, false, false, false, false, false, false, false, false, false] rfl rfl (by kernel_rfl) (fun _ _ _ h => h) (Or.inl ⟨by rfl, ?_⟩) ?_ ?_
      rotate_left
      · intro w'
        go_simp
        with_reducible rfl
      rotate_left
      · simp only [Act.put, List.setIfInBounds_toArray, List.set_cons_zero, List.set_cons_succ]
        rfl
      refine pure_ (i := 27) (N := some 137) (v := ?_) (a' := ?_) #[true, true, true, true, true, true, true, true, true, true, true, true, true, true, true, true, true, true, true, true, true, true, true, true, true, true, true, true, false, false, false, false, false, false, false, false, false, false, false, false, false, false] rfl rfl (by kernel_rfl) (fun _ _ _ h => h) (Or.inl ⟨by rfl, ?_⟩) ?_ ?_
      rotate_left
      · intro w'
        go_simp
        with_reducible rfl
      rotate_left
      · simp only [Act.put, List.setIfInBounds_toArray, List.set_cons_zero, List.set_cons_succ]
        rfl
      refine take_ (i := 28) (N := some 138) (v := ?_) (a' := ?_) #[true, true, true, true, true, true, true, true, true, true, true, true, true, true, true, true, true, true, true, true, true, true, true, true, true, true, true, true, true, false, false, false, false, false, false, false, false, false, false, false, false, false] rfl rfl (by kernel_rfl) (fun _ _ _ h => h) (Or.inl ⟨by rfl, ?_⟩) hHeld ?_ ?_
      rotate_left
      · rintro w' ⟨s0, s1, s2, s3, s4, s5, s6⟩
        go_simp
        with_reducible rfl
      rotate_left
      · simp only [Act.put, List.setIfInBounds_toArray, List.set_cons_zero, List.set_cons_succ]
        rfl
      refine pure_ (i := 29) (N := some 139) (v := ?_) (a' := ?_) #[true, true, true, true, true, true, true, true, true, true, true, true, true, true, true, true, true, true, true, true, true, true, true, true, true, true, true, true, true, true, false, false, false, false, false, false, false, false, false, false, false, false] rfl rfl (by kernel_rfl) (fun _ _ _ h => h) (Or.inl ⟨by rfl, ?_⟩) ?_ ?_
      rotate_left
      · intro w'
        go_simp
        with_reducible rfl
      rotate_left
      · simp only [Act.put, List.setIfInBounds_toArray, List.set_cons_zero, List.set_cons_succ]
        rfl
      refine pure_ (i := 30) (N := some 140) (v := ?_) (a' := ?_) #[true, true, true, true, true, true, true, true, true, true, true, true, true, true, true, true, true, true, true, true, true, true, true, true, true, true, true, true, true, true, true, false, false, false, false, false, false, false, false, false, false, false] rfl rfl (by kernel_rfl) (fun _ _ _ h => h) (Or.inl ⟨by rfl, ?_⟩) ?_ ?_
      rotate_left
      · intro w'
        go_simp
        with_reducible rfl
      rotate_left
      · simp only [Act.put, List.setIfInBounds_toArray, List.set_cons_zero, List.set_cons_succ]
        rfl
      refine pure_ (i := 31) (N := some 141) (v := ?_) (a' := ?_) #[true, true, true, true, true, true, true, true, true, true, true, true, true, true, true, true, true, true, true, true, true, true, true, true, true, true, true, true, true, true, true, true, false, false, false, false, false, false, false, false, false, false] rfl rfl (by kernel_rfl) (fun _ _ _ h => h) (Or.inl ⟨by rfl, ?_⟩) ?_ ?_
      rotate_left
      · intro w'
        go_simp
        with_reducible rfl
      rotate_left
      · simp only [Act.put, List.setIfInBounds_toArray, List.set_cons_zero, List.set_cons_succ]
        rfl
      refine pure_ (i := 32) (N := some 142) (v := ?_) (a' := ?_) #[true, true, true, true, true, true, true, true, true, true, true, true, true, true, true, true, true, true, true, true, true, true, true, true, true, true, true, true, true, true, true, true, true, false, false, false, false, false, false, false, false, false] rfl rfl (by kernel_rfl) (fun _ _ _ h => h) (Or.inl ⟨by rfl, ?_⟩) ?_ ?_
      rotate_left
      · intro w'
        go_simp
        with_reducible rfl
      rotate_left
      · simp only [Act.put, List.setIfInBounds_toArray, List.set_cons_zero, List.set_cons_succ]
        rfl
      refine take_ (i := 33) (N := some 143) (v := ?_) (a' := ?_) #[true, true, true, true, true, true, true, true, true, true, true, true, true, true, true, true, true, true, true, true, true, true, true, true, true, true, true, true, true, true, true, true, true, true, false, false, false, false, false, false, false, false] rfl rfl (by kernel_rfl) (fun _ _ _ h => h) (Or.inl ⟨by rfl, ?_⟩) hHeld ?_ ?_
      rotate_left
      · rintro w' ⟨s0, s1, s2, s3, s4, s5, s6⟩
        go_simp
        with_reducible rfl
      rotate_left
      · simp only [Act.put, List.setIfInBounds_toArray, List.set_cons_zero, List.set_cons_succ]
        rfl
      refine pure_ (i := 34) (N := some 144) (v := ?_) (a' := ?_) #[true, true, true, true, true, true, true, true, true, true, true, true, true, true, true, true, true, true, true, true, true, true, true, true, true, true, true, true, true, true, true, true, true, true, true, false, false, false, false, false, false, false] rfl rfl (by kernel_rfl) (fun _ _ _ h => h) (Or.inl ⟨by rfl, ?_⟩) ?_ ?_
      rotate_left
      · intro w'
        go_simp
        with_reducible rfl
      rotate_left
      · simp only [Act.put, List.setIfInBounds_toArray, List.set_cons_zero, List.set_cons_succ]
        rfl
      refine pure_ (i := 35) (N := some 145) (v := ?_) (a' := ?_) #[true, true, true, true, true, true, true, true, true, true, true, true, true, true, true, true, true, true, true, true, true, true, true, true, true, true, true, true, true, true, true, true, true, true, true, true, false, false, false, false, false, false] rfl rfl (by kernel_rfl) (fun _ _ _ h => h) (Or.inl ⟨by rfl, ?_⟩) ?_ ?_
      rotate_left
      · intro w'
        go_simp
        with_reducible rfl
      rotate_left
      · simp only [Act.put, List.setIfInBounds_toArray, List.set_cons_zero, List.set_cons_succ]
        rfl
      refine pure_ (i := 36) (N := some 146) (v := ?_) (a' := ?_) #[true, true, true, true, true, true, true, true, true, true, true, true, true, true, true, true, true, true, true, true, true, true, true, true, true, true, true, true, true, true, true, true, true, true, true, true, true, false, false, false, false, false] rfl rfl (by kernel_rfl) (fun _ _ _ h => h) (Or.inl ⟨by rfl, ?_⟩) ?_ ?_
      rotate_left
      · intro w'
        go_simp
        with_reducible rfl
      rotate_left
      · simp only [Act.put, List.setIfInBounds_toArray, List.set_cons_zero, List.set_cons_succ]
        rfl
      refine pure_ (i := 37) (N := some 147) (v := ?_) (a' := ?_) #[true, true, true, true, true, true, true, true, true, true, true, true, true, true, true, true, true, true, true, true, true, true, true, true, true, true, true, true, true, true, true, true, true, true, true, true, true, true, false, false, false, false] rfl rfl (by kernel_rfl) (fun _ _ _ h => h) (Or.inl ⟨by rfl, ?_⟩) ?_ ?_
      rotate_left
      · intro w'
        go_simp
        with_reducible rfl
      rotate_left
      · simp only [Act.put, List.setIfInBounds_toArray, List.set_cons_zero, List.set_cons_succ]
        rfl
      refine pure_ (i := 38) (N := some 148) (v := ?_) (a' := ?_) #[true, true, true, true, true, true, true, true, true, true, true, true, true, true, true, true, true, true, true, true, true, true, true, true, true, true, true, true, true, true, true, true, true, true, true, true, true, true, true, false, false, false] rfl rfl (by kernel_rfl) (fun _ _ _ h => h) (Or.inl ⟨by rfl, ?_⟩) ?_ ?_
      rotate_left
      · intro w'
        go_simp
        with_reducible rfl
      rotate_left
      · simp only [Act.put, List.setIfInBounds_toArray, List.set_cons_zero, List.set_cons_succ]
        rfl
      refine pure_ (i := 39) (N := some 149) (v := ?_) (a' := ?_) #[true, true, true, true, true, true, true, true, true, true, true, true, true, true, true, true, true, true, true, true, true, true, true, true, true, true, true, true, true, true, true, true, true, true, true, true, true, true, true, true, false, false] rfl rfl (by kernel_rfl) (fun _ _ _ h => h) (Or.inl ⟨by rfl, ?_⟩) ?_ ?_
      rotate_left
      · intro w'
        go_simp
        with_reducible rfl
      rotate_left
      · simp only [Act.put, List.setIfInBounds_toArray, List.set_cons_zero, List.set_cons_succ]
        rfl
      obtain ⟨wz, z1, z2, hBz⟩ := FIN.out wr.drew (ge C e) HB.out.drew
      have hv : RV (ge C e) = .agg #[.int .i64 e.id, .int .i64 (IntKind.i64.wrap (IntKind.i64.wrap (256 * IntKind.i64.wrap n0) + IntKind.i64.wrap n1)), .complex .f64 (FloatKind.f64.nearest (IntKind.i64.wrap (IntKind.i64.wrap (256 * IntKind.i64.wrap n2) + IntKind.i64.wrap n3))) (FloatKind.f64.nearest (IntKind.i64.wrap (IntKind.i64.wrap (256 * IntKind.i64.wrap n4) + IntKind.i64.wrap n5))), .string (strOfNums acc)] := by
        rw [HGE.out, two_wrap n0 n1 (HNUM.out n0 (by simp)) (HNUM.out n1 (by simp)), two_wrap n2 n3 (HNUM.out n2 (by simp)) (HNUM.out n3 (by simp)), two_wrap n4 n5 (HNUM.out n4 (by simp)) (HNUM.out n5 (by simp))]
        rfl
      rw [hv] at z1
      refine last_skip (i := 40) (w' := wz) #[true, true, true, true, true, true, true, true, true, true, true, true, true, true, true, true, true, true, true, true, true, true, true, true, true, true, true, true, true, true, true, true, true, true, true, true, true, true, true, true, true, false] rfl rfl (by kernel_rfl) (by decide) (by rfl) (Rw.exec_put 53 (.tmp 2) (.tmp 149) rfl (by rfl) (by rfl) z1) ?_
      refine pure_ (i := 41) (N := some 3) (v := ?_) (a' := ?_) #[true, true, true, true, true, true, true, true, true, true, true, true, true, true, true, true, true, true, true, true, true, true, true, true, true, true, true, true, true, true, true, true, true, true, true, true, true, true, true, true, true, true] rfl rfl (by kernel_rfl) (fun _ _ _ h => h) (Or.inl ⟨by rfl, ?_⟩) ?_ ?_
      rotate_left
      · intro w'
        go_simp
        with_reducible rfl
      rotate_left
      · simp only [Act.put, List.setIfInBounds_toArray, List.set_cons_zero, List.set_cons_succ]
        rfl
      refine done_ (by kernel_rfl) ?_
      clear z1 hv hHeld hfl hcx hsl x0_ x2_
      go_wp2_with fail
      (try simp only [Exit.inBlock, Exit.then]); refine bodyPost_ret (Rw.ret_cell rfl rfl rfl z2) rfl ?_
      exact ⟨by rw [HGE.out]; rfl, hBz⟩
    | succ g1_ =>
      have him : i < m := by omega
      obtain ⟨f, hf⟩ : ∃ f, C[i]? = some f := ⟨_, List.getElem?_eq_getElem (by rw [HM.out]; exact him)⟩
      have hfL : (C ++ [e])[i]? = some f := by rw [List.getElem?_append_left (by rw [HM.out]; exact him)]; exact hf
      obtain ⟨g', off', hgg, -, hfa⟩ := HL1.out.at_ i f hfL
      cases hgg
      have hfb := hfa.below hB
      have hok := (HL1.out.ok f (List.mem_of_getElem? hfL)).below hB
      have p0_ := hfb.c0
      have p1_ := hfb.c1
      have p2_ := hfb.c2
      obtain ⟨bf, hbf⟩ : ∃ bf, f.l.length = bf := ⟨_, rfl⟩
      have hb2 := HLL.out f (List.mem_of_getElem? hfL)
      rw [hbf] at p2_ hb2
      have HF := Sh.mk hf
      have HBF := Sh.mk hbf
      have HOK := Sh.mk hok
      have kk : (i : Int) < (m : Int) := by omega
      have w6_ := wrap_one i m him (by omega)
      clear hf hfL hfa hfb hok hbf hB
      by_cases k1 : f.kind = 2
      rotate_left
      · have q1_ : (f.kind != 2) = true := by simpa using k1

        have hst := fun hx => ge_bad (C := C) (e := e) (HGL.out.symm.trans (gl_stop HF.out acc hx))
        have HST := Sh.mk (hst (by rw [HBF.out, HM.out]; omega))
        clear hst
        go_upto_region 9 with (fail)
        go_quiet (fail)
        obtain ⟨wz, z1, z2, hBz⟩ := FIN.out (wr.drewN nq) none (below_drewN HB.out nq)
        go_wp2_with ((with_reducible refine Rw.at_store 2 96 ?_); refine Rw.wpList_put rfl 53 (.tmp 2) (.tmp 96) rfl rfl rfl z1 ?_)
        (try simp only [Exit.inBlock, Exit.then]); refine bodyPost_ret (Rw.ret_cell rfl rfl rfl z2) rfl ?_
        exact ⟨by rw [HST.out]; rfl, hBz⟩
      have q1_ : (f.kind != 2) = false := by simpa using k1
      by_cases k2 : f.id = e.id
      rotate_left
      · have q2_ : (f.id != e.id) = true := by simpa using k2

        have hst := fun hx => ge_bad (C := C) (e := e) (HGL.out.symm.trans (gl_stop HF.out acc hx))
        have HST := Sh.mk (hst (by rw [HBF.out, HM.out]; omega))
        clear hst
        go_upto_region 9 with (fail)
        go_quiet (fail)
        obtain ⟨wz, z1, z2, hBz⟩ := FIN.out (wr.drewN nq) none (below_drewN HB.out nq)
        go_wp2_with ((with_reducible refine Rw.at_store 2 96 ?_); refine Rw.wpList_put rfl 53 (.tmp 2) (.tmp 96) rfl rfl rfl z1 ?_)
        (try simp only [Exit.inBlock, Exit.then]); refine bodyPost_ret (Rw.ret_cell rfl rfl rfl z2) rfl ?_
        exact ⟨by rw [HST.out]; rfl, hBz⟩
      have q2_ : (f.id != e.id) = false := by simpa using k2
      by_cases k3 : (bf : Int) < 1
      · skip

        have hst := fun hx => ge_bad (C := C) (e := e) (HGL.out.symm.trans (gl_stop HF.out acc hx))
        have HST := Sh.mk (hst (by rw [HBF.out, HM.out]; omega))
        clear hst
        go_upto_region 9 with (fail)
        go_quiet (fail)
        obtain ⟨wz, z1, z2, hBz⟩ := FIN.out (wr.drewN nq) none (below_drewN HB.out nq)
        go_wp2_with ((with_reducible refine Rw.at_store 2 96 ?_); refine Rw.wpList_put rfl 53 (.tmp 2) (.tmp 96) rfl rfl rfl z1 ?_)
        (try simp only [Exit.inBlock, Exit.then]); refine bodyPost_ret (Rw.ret_cell rfl rfl rfl z2) rfl ?_
        exact ⟨by rw [HST.out]; rfl, hBz⟩
      by_cases k4 : (1000 : Int) < (bf : Int)
      · skip

        have hst := fun hx => ge_bad (C := C) (e := e) (HGL.out.symm.trans (gl_stop HF.out acc hx))
        have HST := Sh.mk (hst (by rw [HBF.out, HM.out]; omega))
        clear hst
        go_upto_region 9 with (fail)
        go_quiet (fail)
        obtain ⟨wz, z1, z2, hBz⟩ := FIN.out (wr.drewN nq) none (below_drewN HB.out nq)
        go_wp2_with ((with_reducible refine Rw.at_store 2 96 ?_); refine Rw.wpList_put rfl 53 (.tmp 2) (.tmp 96) rfl rfl rfl z1 ?_)
        (try simp only [Exit.inBlock, Exit.then]); refine bodyPost_ret (Rw.ret_cell rfl rfl rfl z2) rfl ?_
        exact ⟨by rw [HST.out]; rfl, hBz⟩
      by_cases k5 : (i : Int) < (m : Int) - 1 ∧ bf ≠ 1000
      · obtain ⟨k5, k6⟩ := k5
        have q6_ : ((bf : Int) != 1000) = true := by simp; omega

        have hst := fun hx => ge_bad (C := C) (e := e) (HGL.out.symm.trans (gl_stop HF.out acc hx))
        have HST := Sh.mk (hst (by rw [HBF.out, HM.out]; omega))
        clear hst
        go_upto_region 9 with (fail)
        go_quiet (fail)
        obtain ⟨wz, z1, z2, hBz⟩ := FIN.out (wr.drewN nq) none (below_drewN HB.out nq)
        go_wp2_with ((with_reducible refine Rw.at_store 2 96 ?_); refine Rw.wpList_put rfl 53 (.tmp 2) (.tmp 96) rfl rfl rfl z1 ?_)
        (try simp only [Exit.inBlock, Exit.then]); refine bodyPost_ret (Rw.ret_cell rfl rfl rfl z2) rfl ?_
        exact ⟨by rw [HST.out]; rfl, hBz⟩
      by_cases k6 : bf = 1000
      · subst k6
        by_cases k7 : (i : Int) < (m : Int) - 1
        · skip
          have HST := Sh.mk ((gl_step HF.out acc k1 k2 (by rw [HBF.out]; omega) (by rw [HBF.out]; omega) (by rw [HBF.out, HM.out]; omega)).symm.trans HGL.out)
          go_upto_region 9 with (fail)
          go_quiet (fail)
          obtain ⟨wn, hwn⟩ : ∃ wn, wr.drewN nq = wn := ⟨_, rfl⟩
          have hBn : Below wr.heap.size wr wn := by rw [← hwn]; exact below_drewN (Below.refl _ _) nq
          have hcv := Bytes.str (HOK.out.below hBn).byt (by rw [HBF.out]; omega) f.c
          rw [HBF.out] at hcv
          have r2_ : wn.cell? ⟨g, off + i * 3 + 2, none⟩ = some (.slice f.A 1000 f.c) := by rw [← hwn]; exact p2_
          have HBN := Sh.mk (HB.out.trans (hBn.mono HB.out.size))
          have sz_ : ¬ (9223372036854775807 : Int) < ((strOfNums acc).size : Int) + ((strOfNums f.l).size : Int) := by
            have := HAC.out
            rw [strOfNums_size, strOfNums_size, HBF.out]
            omega
          have hadd := str_add acc f.l
          rw [hwn]
          clear hwn hBn p0_ p1_ p2_ x0_ k3 k4 q1_ q2_
          go_wp2_with fail
          go_roundg g1_
          case measure => have := HI.out; omega
          case rel => exact ⟨i + 1, acc ++ f.l, by have := HI.out; omega, (by first | rfl | (rw [hadd])), (by first | rfl | (rw [w6_]) | simp), ⟨HST.out, by have := HAC.out; rw [List.length_append, HBF.out]; omega, HBN.out⟩⟩
        · skip
          have HST := Sh.mk ((gl_step HF.out acc k1 k2 (by rw [HBF.out]; omega) (by rw [HBF.out]; omega) (by rw [HBF.out, HM.out]; omega)).symm.trans HGL.out)
          go_upto_region 9 with (fail)
          go_quiet (fail)
          obtain ⟨wn, hwn⟩ : ∃ wn, wr.drewN nq = wn := ⟨_, rfl⟩
          have hBn : Below wr.heap.size wr wn := by rw [← hwn]; exact below_drewN (Below.refl _ _) nq
          have hcv := Bytes.str (HOK.out.below hBn).byt (by rw [HBF.out]; omega) f.c
          rw [HBF.out] at hcv
          have r2_ : wn.cell? ⟨g, off + i * 3 + 2, none⟩ = some (.slice f.A 1000 f.c) := by rw [← hwn]; exact p2_
          have HBN := Sh.mk (HB.out.trans (hBn.mono HB.out.size))
          have sz_ : ¬ (9223372036854775807 : Int) < ((strOfNums acc).size : Int) + ((strOfNums f.l).size : Int) := by
            have := HAC.out
            rw [strOfNums_size, strOfNums_size, HBF.out]
            omega
          have hadd := str_add acc f.l
          rw [hwn]
          clear hwn hBn p0_ p1_ p2_ x0_ k3 k4 q1_ q2_
          go_wp2_with fail
          go_roundg g1_
          case measure => have := HI.out; omega
          case rel => exact ⟨i + 1, acc ++ f.l, by have := HI.out; omega, (by first | rfl | (rw [hadd])), (by first | rfl | (rw [w6_]) | simp), ⟨HST.out, by have := HAC.out; rw [List.length_append, HBF.out]; omega, HBN.out⟩⟩
      · have k7 : ¬ (i : Int) < (m : Int) - 1 := fun h => k5 ⟨h, k6⟩
        have HST := Sh.mk ((gl_step HF.out acc k1 k2 (by rw [HBF.out]; omega) (by rw [HBF.out]; omega) (by rw [HBF.out, HM.out]; omega)).symm.trans HGL.out)
        go_upto_region 9 with (fail)
        go_quiet (fail)
        obtain ⟨wn, hwn⟩ : ∃ wn, wr.drewN nq = wn := ⟨_, rfl⟩
        have hBn : Below wr.heap.size wr wn := by rw [← hwn]; exact below_drewN (Below.refl _ _) nq
        have hcv := Bytes.str (HOK.out.below hBn).byt (by rw [HBF.out]; omega) f.c
        rw [HBF.out] at hcv
        have r2_ : wn.cell? ⟨g, off + i * 3 + 2, none⟩ = some (.slice f.A bf f.c) := by rw [← hwn]; exact p2_
        have HBN := Sh.mk (HB.out.trans (hBn.mono HB.out.size))
        have sz_ : ¬ (9223372036854775807 : Int) < ((strOfNums acc).size : Int) + ((strOfNums f.l).size : Int) := by
          have := HAC.out
          rw [strOfNums_size, strOfNums_size, HBF.out]
          omega
        have hadd := str_add acc f.l
        rw [hwn]
        clear hwn hBn p0_ p1_ p2_ x0_ k3 k4 q1_ q2_
        go_wp2_with fail
        go_roundg g1_
        case measure => have := HI.out; omega
        case rel => exact ⟨i + 1, acc ++ f.l, by have := HI.out; omega, (by first | rfl | (rw [hadd])), (by first | rfl | (rw [w6_]) | simp), ⟨HST.out, by have := HAC.out; rw [List.length_append, HBF.out]; omega, HBN.out⟩⟩
end Go.Proofs.Ytgnepppncmjagaa.Gt

namespace Go.Proofs.Ytgnepppncmjagaa.Gt
open Go Go.RowKit Hp Rd Go.Proofs.Ytgnepppncmjagaa.Fr Go.Proofs.YtgnepppncmjagaaW.PrintWords Go.Proofs.YtgnepppncmjagaaW.PrintLast Go.Proofs.Ytgnepppncmjagaa.Print
theorem num_or (a b : Int) (ha : 0 ≤ a ∧ a ≤ 255) (hb : 0 ≤ b ∧ b ≤ 255) : Go.bits .or .i64 (wrap64 ((wrap64 a) * 256)) (wrap64 b) = 256 * a + b := by
  have e1 : wrap64 a = a := by unfold wrap64; omega
  have e2 : wrap64 (a * 256) = a * 256 := by unfold wrap64; omega
  have e3 : wrap64 b = b := by unfold wrap64; omega
  rw [e1, e2, e3]
  have p8 : (2 : Int) ^ 8 = 256 := by decide
  have p32 : (2 : Int) ^ 32 = 4294967296 := by decide
  have h := bits_join .i64 32 (by decide) (fun n h0 h1 => by rw [IntKind.wrap_i64]; rw [p32] at h1; omega) 8 (a * 256) b (by omega) (by rw [p8]; omega) (by rw [p32]; omega) (by omega) (by rw [p8]; omega) (by rw [p32]; omega)
  omega
theorem number_ok {w : World} {A : Option Addr} {c : Nat} {l : List Int} {x y : Int} {r : List Int} (h : Bytes w A l) (hb : ∀ x ∈ l, 0 ≤ x ∧ x ≤ 255) (hl : l = x :: y :: r) (hc : l.length ≤ c) (hm : l.length ≤ 9223372036854775807) :
    Calls Try.prog 35 #[.slice A l.length c] w fun e w' => e = .returned (.int .i64 (256 * x + y)) ∧ Below w.heap.size w w' := by
  have hx := hb x (by rw [hl]; simp)
  have hy := hb y (by rw [hl]; simp)
  refine (frame_number.calls A c l (256 * x + y) w (h.C hm) hc ?_).mono ?_
  · subst hl
    unfold frame_number.f
    rw [if_pos (by simp; omega), if_pos (by simp; omega)]
    show some (Go.bits .or .i64 (wrap64 ((wrap64 x) * 256)) (wrap64 y)) = _
    rw [num_or x y hx hy]
  · rintro e w' ⟨rfl, hd⟩
    exact ⟨rfl, hd.below⟩
set_option maxRecDepth 100000 in
theorem part_ok (w : World) (b5 c j : Nat) (ad : Addr) (l : List Int) (x y : Int) (r : List Int) (h : w.cell? ⟨b5, 2, none⟩ = some (.slice (some ad) 6 c)) (hb : Bytes w (some ad) l) (h6 : l.length = 6) (hn : ∀ x ∈ l, 0 ≤ x ∧ x ≤ 255) (hc : 6 ≤ c) (hj : j ≤ 4) (hl : l.drop j = x :: y :: r) :
    Calls Try.prog 41 #[.int .i64 (j : Int), .pointer (some ⟨b5, 0, none⟩)] w fun e w' => e = .returned (.float .f64 (FloatKind.f64.nearest (256 * x + y))) ∧ Below w.heap.size w w' := by
  have hdr := Bytes.drop hb j (show l.length ≤ c by omega)
  have hdl : (l.drop j).length = 6 - j := by rw [List.length_drop, h6]
  have hnd : ∀ x ∈ l.drop j, 0 ≤ x ∧ x ≤ 255 := fun x hx => hn x (List.mem_of_mem_drop hx)
  have hcj : ¬ c = j := by omega
  have hnum := number_ok (c := c - j) hdr hnd hl (by rw [hdl]; omega) (by rw [hdl]; omega)
  rw [hdl, if_neg hcj, Nat.mul_one] at hnum
  have HNUM := Sh.mk hnum
  have j0_ : (0 : Int) ≤ (j : Int) := by omega
  have j6_ : (j : Int) ≤ 6 := by omega
  have hfl : ∀ (W : World) (n : Int), Sem.run Try.prog (convert 3 67 (.int .i64 n)) W = .ok (.float .f64 (FloatKind.f64.nearest n)) W := fun _ _ => rfl
  clear hdr hdl hnd hnum hl h6 hn hb hc hj
  go_enter Try.func41, Try.ntmps41
  go_wp2_with fail
  refine HNUM.out.mono ?_
  rintro e w' ⟨rfl, hB⟩
  go_wp2_with fail
  go_ret
  exact ⟨rfl, hB⟩
theorem near_fl (k : Int) (h : 0 ≤ k) : FloatKind.f64.nearest k = fl k.toNat := by
  unfold fl
  rw [Int.toNat_of_nonneg h]
theorem toErrI (w : World) (k : Int) (h0 : 0 ≤ k) (h1 : k ≤ 65535) : Sem.run Try.prog (convert 67 24 (.float .f64 (FloatKind.f64.nearest k))) w = .ok (.int .i64 k) w := by
  rw [near_fl k h0, toErr w k.toNat (by omega), Int.toNat_of_nonneg h0]
end Go.Proofs.Ytgnepppncmjagaa.Gt

namespace Go.Proofs.Ytgnepppncmjagaa.Gt
open Go Go.RowKit Hp Rd Go.Proofs.Ytgnepppncmjagaa.Fr Go.Proofs.YtgnepppncmjagaaW.PrintWords Go.Proofs.YtgnepppncmjagaaW.PrintLast Go.Proofs.Ytgnepppncmjagaa.Print
theorem exec_load_mid {P : Program} {w : World} {o : Oper} {ρ : Operand → Value} (ty : TypeId) (x : Operand) {b off : Nat} {cs : List Value} {d : TypeDesc} (ho : o.op = .load ty x) (hx : ρ x = .pointer (some ⟨b, off, none⟩)) (hc : w.rangeAt b off cs) (hu : P.underlying ty = some d) (hd : d.isRow = true) (hi : (P.info? ty).map (·.size) = some cs.length) :
    (execOp ρ o).run P w = .ok (.value (.agg cs.toArray)) w := by
  unfold execOp
  simp only [ho, hx, Instr.loadAt, Instr.sureAddr, Sem.run_bind, Sem.run_pure, Result.andThen_ok, run_loadVar_mid w b off ty cs d hc hu hd hi]
theorem sizeFrm : (Try.prog.info? 28).map (·.size) = some 3 := by kernel_rfl
theorem FmAt.range {w : World} {f : Fm} {g off : Nat} (h : FmAt w f g off) : w.rangeAt g off f.cells := fun j v hj => by
  match j, hj with
  | 0, hj => cases hj; exact h.c0
  | 1, hj => cases hj; exact h.c1
  | 2, hj => cases hj; exact h.c2
theorem FmAt.of_blk {w : World} {f : Fm} {g : Nat} {t : TypeId} (h : w.heap[g]? = some (.cells f.cells.toArray t (0, 0))) : FmAt w f g 0 := ⟨(blk_cell h 0).trans rfl, (blk_cell h 1).trans rfl, (blk_cell h 2).trans rfl⟩
/-- A builder stays under what leaves its blocks. -/
theorem bld_kept {S : Nat → Prop} {w w' : World} {T e : TypeId} {B b : Nat} {bs : List Value} (h : Lib.IsBuilder T e B b bs w) (k : Kept S w w') (hS : ∀ i, S i → w.heap.size ≤ i) : Lib.IsBuilder T e B b bs w' := by
  have one : ∀ p, Lib.BuilderAt T e B b p bs w → Lib.BuilderAt T e B b p bs w' := fun p hp => by
    obtain ⟨hB, v, hb, hown, hne⟩ := hp
    refine ⟨hB, v, k.heap hb (fun hs => by have := hS _ hs; have := lt_of_heap hb; omega), ?_, hne⟩
    obtain ⟨h1, h2⟩ := hown
    refine ⟨h1, ?_⟩
    rcases h2 with h2 | ⟨g, cap, cur, hv', hg, hh, r⟩
    · exact .inl h2
    · exact .inr ⟨g, cap, cur, hv', hg, k.heap hh (fun hs => by have := hS _ hs; have := lt_of_heap hh; omega), r⟩
  exact h.imp (one _) (one _)
theorem cells_acc {acc : List Int} (h : ∀ x ∈ acc, 0 ≤ x ∧ x ≤ 255) : acc.map (Value.int .u8) = Lib.byteCells (acc.map fun n => UInt8.ofNat n.toNat) := by
  unfold Lib.byteCells
  rw [List.map_map]
  refine List.map_congr_left fun x hx => ?_
  have := h x hx
  show Value.int .u8 x = Value.int .u8 ((UInt8.ofNat x.toNat).toNat : Int)
  congr 1
  simp
  omega
theorem kept_below {w w' : World} {B : Nat} (h : Below B w w') : Kept (fun k => B ≤ k) w w' := ⟨h.os, h.tape, h.output, h.size, fun k hk hn => h.block k (by omega)⟩
set_option maxHeartbeats 4000000 in
set_option maxRecDepth 100000 in
theorem gather_nil (w : World) (A : Option Addr) (c : Nat) :
    Calls Try.prog 24 #[.slice A 0 c] w fun e w' => e = .returned (.tuple #[RV none, .int .i64 231]) ∧ Below w.heap.size w w' := by
  go_enter Try.func24, Try.ntmps24
  go_upto_region 1 with (fail)
  obtain ⟨w1, hw1⟩ : ∃ w1, w.alloc (.cells #[.int .i64 0, .int .i64 0, .complex .f64 0 0, .string ⟨#[]⟩] 53) = w1 := ⟨_, rfl⟩
  obtain ⟨b0, hb0⟩ : ∃ b0, w.heap.size = b0 := ⟨_, rfl⟩
  have h01 : Below w.heap.size w w1 := by rw [← hw1]; exact (Below.refl _ _).alloc (Nat.le_refl _) _
  have g0 : w1.heap[b0]? = some (.cells #[.int .i64 0, .int .i64 0, .complex .f64 0 0, .string ⟨#[]⟩] 53 (0, 0)) := by rw [← hw1, ← hb0]; exact heap_alloc_new _ _
  obtain ⟨wz, z1, z2, z3, -⟩ := Rw.put_row (P := Try.prog) (cs := [.int .i64 0, .int .i64 0, .complex .f64 0 0, .string ⟨#[]⟩]) g0 rfl (by decide) Try.underlying53 rfl sizeRep
  have hBz := h01.trans (z3.below (B := w.heap.size) h01.size (fun i hi e => by omega))
  rw [hw1, hb0]
  clear hw1 g0 z3 h01 hb0
  go_wp2_with ((with_reducible refine Rw.at_store 2 14 ?_); refine Rw.wpList_put rfl 53 (.tmp 2) (.tmp 14) rfl rfl rfl z1 ?_)
  (try simp only [Exit.inBlock, Exit.then]); refine bodyPost_ret (Rw.ret_cell rfl rfl rfl z2) rfl ?_
  exact ⟨rfl, hBz⟩
set_option maxHeartbeats 8000000 in
set_option maxRecDepth 100000 in
theorem gather_some (w : World) (A : Option Addr) (c : Nat) (C : List Fm) (e : Fm) (hL : FmsAt w w.heap.size A (C ++ [e])) (hn : C.length ≤ 100) (hcap : C.length + 1 ≤ c) (hl : ∀ f ∈ C ++ [e], f.l.length ≤ 2000) :
    Calls Try.prog 24 #[.slice A (C.length + 1) c] w fun x w' => x = .returned (.tuple #[RV (ge C e), .int .i64 (RE (ge C e))]) ∧ Below w.heap.size w w' := by
  have mixed : Try.prog.follows Departure.mixedOrders = true := by kernel_rfl
  obtain ⟨g, off, rfl, hg, hfa⟩ := hL.at_ C.length e (by simp)
  have hoke := hL.ok e (by simp)
  obtain ⟨m, hm⟩ : ∃ m, C.length = m := ⟨_, rfl⟩
  rw [hm] at hfa hn hcap ⊢
  have HM := Sh.mk hm
  have HL := Sh.mk hL
  have HLL := Sh.mk hl
  clear hm hL hl
  go_enter Try.func24, Try.ntmps24
  go_upto_region 1 with (fail)
  obtain ⟨w1, hw1⟩ : ∃ w1, w.alloc (.cells #[.int .i64 0, .int .i64 0, .complex .f64 0 0, .string ⟨#[]⟩] 53) = w1 := ⟨_, rfl⟩
  obtain ⟨b0, hb0⟩ : ∃ b0, w.heap.size = b0 := ⟨_, rfl⟩
  have h01 : Below w.heap.size w w1 := by rw [← hw1]; exact (Below.refl _ _).alloc (Nat.le_refl _) _
  have g0 : w1.heap[b0]? = some (.cells #[.int .i64 0, .int .i64 0, .complex .f64 0 0, .string ⟨#[]⟩] 53 (0, 0)) := by rw [← hw1, ← hb0]; exact heap_alloc_new _ _
  have fin : ∀ w2 (v : Rp), Below w1.heap.size w1 w2 → ∃ wz, (Instr.storeAt 53 (.pointer (some ⟨b0, 0, none⟩)) (RV v)).run Try.prog w2 = .ok () wz ∧ (loadVar 53 ⟨b0, 0, none⟩).run Try.prog wz = .ok (RV v) wz ∧ Below w.heap.size w wz := fun w2 v hb => by
    obtain ⟨cs, hcs, h1, h4⟩ : ∃ cs : List Value, RV v = .agg cs.toArray ∧ (∀ x ∈ cs, x.oneCell' = true) ∧ cs.length = 4 := by
      cases v with
      | none => exact ⟨_, rfl, by decide, rfl⟩
      | some p => exact ⟨[_, _, _, _], rfl, by simp [Value.oneCell'], rfl⟩
    obtain ⟨wz, z1, z2, z3, -⟩ := Rw.put_row (P := Try.prog) (cs := cs) ((hb.block b0 (by rw [← hb0]; exact Hp.lt_of_heap (by rw [hb0]; exact g0))).trans g0) (by rw [h4]; rfl) h1 Try.underlying53 rfl (by rw [h4]; exact sizeRep)
    rw [hcs]
    have hb' := h01.trans (hb.mono h01.size)
    exact ⟨wz, z1, z2, hb'.trans (z3.below (B := w.heap.size) hb'.size (fun i hi e => by omega))⟩
  have hfa1 := hfa.below h01
  have hok1 := hoke.below h01
  have hL1 := HL.out.below h01
  have HL1 := Sh.mk hL1
  have FIN := Sh.mk fin
  have HG := Sh.mk hg
  have HN := Sh.mk hn
  have HCAP := Sh.mk hcap
  have HB0 := Sh.mk hb0
  have HS1 := Sh.mk h01.size
  rw [hw1, hb0]
  clear hw1 hb0 fin hfa hoke HL hg h01 g0 hL1
  have m1_ : wrap64 (m : Int) = (m : Int) := by unfold wrap64; omega
  have m1b_ : IntKind.i64.wrap (m : Int) = (m : Int) := by rw [IntKind.wrap_i64]; omega
  have m0_ : ¬ ((m : Int) + 1 == 0) = true := by simp; omega
  have m2_ : (m : Int) ≤ (c : Int) := by omega
  have m3_ : (0 : Int) ≤ (m : Int) := by omega
  have m4_ : (m : Int) < (m : Int) + 1 := by omega
  clear hn hcap
  go_upto_region 3 with (fail)
  refine start_ (n := 14) (S := fun w' => w'.rangeAt g (off + m * 3) e.cells) (ds := [13]) #[false, false, false, false, false, false, false, false, false, false, false, false, false, false] (by kernel_rfl) rfl rfl (hfa1.range) (fun hHeld => ?_)
  refine pure_ (i := 0) (N := some 15) (v := ?_) (a' := ?_) #[true, false, false, false, false, false, false, false, false, false, false, false, false, false] rfl rfl (by kernel_rfl) (fun _ _ _ h => h) (Or.inl ⟨by rfl, ?_⟩) ?_ ?_
  rotate_left
  · intro w'
    go_simp
    with_reducible rfl
  rotate_left
  · simp only [Act.put, List.setIfInBounds_toArray, List.set_cons_zero, List.set_cons_succ]
    rfl
  refine pure_ (i := 1) (N := some 16) (v := ?_) (a' := ?_) #[true, true, false, false, false, false, false, false, false, false, false, false, false, false] rfl rfl (by kernel_rfl) (fun _ _ _ h => h) (Or.inl ⟨by rfl, ?_⟩) ?_ ?_
  rotate_left
  · intro w'
    go_simp
    with_reducible rfl
  rotate_left
  · simp only [Act.put, List.setIfInBounds_toArray, List.set_cons_zero, List.set_cons_succ]
    rfl
  refine pure_ (i := 2) (N := some 17) (v := ?_) (a' := ?_) #[true, true, true, false, false, false, false, false, false, false, false, false, false, false] rfl rfl (by kernel_rfl) (fun _ _ _ h => h) (Or.inl ⟨by rfl, ?_⟩) ?_ ?_
  rotate_left
  · intro w'
    go_simp
    with_reducible rfl
  rotate_left
  · simp only [Act.put, List.setIfInBounds_toArray, List.set_cons_zero, List.set_cons_succ]
    rfl
  refine pure_ (i := 3) (N := some 18) (v := ?_) (a' := ?_) #[true, true, true, true, false, false, false, false, false, false, false, false, false, false] rfl rfl (by kernel_rfl) (fun _ _ _ h => h) (Or.inl ⟨by rfl, ?_⟩) ?_ ?_
  rotate_left
  · intro w'
    go_simp
    with_reducible rfl
  rotate_left
  · simp only [Act.put, List.setIfInBounds_toArray, List.set_cons_zero, List.set_cons_succ]
    rfl
  refine pure_ (i := 4) (N := some 19) (v := ?_) (a' := ?_) #[true, true, true, true, true, false, false, false, false, false, false, false, false, false] rfl rfl (by kernel_rfl) (fun _ _ _ h => h) (Or.inl ⟨by rfl, ?_⟩) ?_ ?_
  rotate_left
  · intro w'
    go_simp
    with_reducible rfl
  rotate_left
  · simp only [Act.put, List.setIfInBounds_toArray, List.set_cons_zero, List.set_cons_succ]
    rfl
  refine pure_ (i := 5) (N := some 20) (v := ?_) (a' := ?_) #[true, true, true, true, true, true, false, false, false, false, false, false, false, false] rfl rfl (by kernel_rfl) (fun _ _ _ h => h) (Or.inl ⟨by rfl, ?_⟩) ?_ ?_
  rotate_left
  · intro w'
    go_simp
    with_reducible rfl
  rotate_left
  · simp only [Act.put, List.setIfInBounds_toArray, List.set_cons_zero, List.set_cons_succ]
    rfl
  refine pure_ (i := 6) (N := some 21) (v := ?_) (a' := ?_) #[true, true, true, true, true, true, true, false, false, false, false, false, false, false] rfl rfl (by kernel_rfl) (fun _ _ _ h => h) (Or.inl ⟨by rfl, ?_⟩) ?_ ?_
  rotate_left
  · intro w'
    go_simp
    with_reducible rfl
  rotate_left
  · simp only [Act.put, List.setIfInBounds_toArray, List.set_cons_zero, List.set_cons_succ]
    rfl
  refine pure_ (i := 7) (N := some 22) (v := ?_) (a' := ?_) #[true, true, true, true, true, true, true, true, false, false, false, false, false, false] rfl rfl (by kernel_rfl) (fun _ _ _ h => h) (Or.inl ⟨by rfl, ?_⟩) ?_ ?_
  rotate_left
  · intro w'
    go_simp
    with_reducible rfl
  rotate_left
  · simp only [Act.put, List.setIfInBounds_toArray, List.set_cons_zero, List.set_cons_succ]
    rfl
  refine pure_ (i := 8) (N := some 23) (v := ?_) (a' := ?_) #[true, true, true, true, true, true, true, true, true, false, false, false, false, false] rfl rfl (by kernel_rfl) (fun _ _ _ h => h) (Or.inl ⟨by rfl, ?_⟩) ?_ ?_
  rotate_left
  · intro w'
    go_simp
    with_reducible rfl
  rotate_left
  · simp only [Act.put, List.setIfInBounds_toArray, List.set_cons_zero, List.set_cons_succ]
    rfl
  refine pure_ (i := 9) (N := some 24) (v := ?_) (a' := ?_) #[true, true, true, true, true, true, true, true, true, true, false, false, false, false] rfl rfl (by kernel_rfl) (fun _ _ _ h => h) (Or.inl ⟨by rfl, ?_⟩) ?_ ?_
  rotate_left
  · intro w'
    go_simp
    with_reducible rfl
  rotate_left
  · simp only [Act.put, List.setIfInBounds_toArray, List.set_cons_zero, List.set_cons_succ]
    rfl
  refine take_ (i := 10) (N := some 25) (v := .agg e.cells.toArray) (a' := ?_) #[true, true, true, true, true, true, true, true, true, true, true, false, false, false] rfl rfl (by kernel_rfl) (fun _ _ _ h => h) (Or.inl ⟨by rfl, ?_⟩) hHeld ?_ ?_
  · rintro w' s0
    exact exec_load_mid 28 (.tmp 24) rfl (by rfl) s0 Try.underlying28 rfl sizeFrm
  rotate_left
  · simp only [Act.put, List.setIfInBounds_toArray, List.set_cons_zero, List.set_cons_succ]
    rfl
  obtain ⟨wd, hwd⟩ : ∃ wd, w1.drew = wd := ⟨_, rfl⟩
  have hBd : Below w1.heap.size w1 wd := by rw [← hwd]; exact (Below.refl _ _).drew
  have hsd : wd.heap.size = w1.heap.size := by rw [← hwd]; rfl
  rw [hwd] at hHeld ⊢
  obtain ⟨b5, hb5⟩ : ∃ b5, wd.heap.size = b5 := ⟨_, rfl⟩
  obtain ⟨w2, hw2⟩ : ∃ w2, wd.alloc (.cells #[.int .i64 0, .int .i64 0, .slice none 0 0] 28) = w2 := ⟨_, rfl⟩
  have hB2 : Below wd.heap.size wd w2 := by rw [← hw2]; exact (Below.refl _ _).alloc (Nat.le_refl _) _
  have g5 : w2.heap[b5]? = some (.cells #[.int .i64 0, .int .i64 0, .slice none 0 0] 28 (0, 0)) := by rw [← hw2, ← hb5]; exact heap_alloc_new _ _
  have hr2 : w2.rangeAt g (off + m * 3) e.cells := ((hfa1.below hBd).below hB2).range
  refine one_val (i := 11) (N := some 5) (v := .pointer (some ⟨wd.heap.size, 0, none⟩)) (w' := wd.alloc (.cells #[.int .i64 0, .int .i64 0, .slice none 0 0] 28)) (a' := ?_) #[true, true, true, true, true, true, true, true, true, true, true, true, false, false] rfl rfl (by kernel_rfl) (by decide) (by rfl) (by go_simp) ((by rw [hw2]; exact hr2)) ?_ ?_
  rotate_left
  · simp only [Act.put, List.setIfInBounds_toArray, List.set_cons_zero, List.set_cons_succ]
    rfl
  rw [hw2, hb5]
  obtain ⟨w3, z1, -, z3, z4⟩ := Rw.put_row (P := Try.prog) (cs := e.cells) g5 rfl (by simp [Fm.cells, Value.oneCell']) Try.underlying28 rfl sizeFrm
  refine pure_ (i := 12) (N := some 4) (v := ?_) (a' := ?_) #[true, true, true, true, true, true, true, true, true, true, true, true, true, false] rfl rfl (by kernel_rfl) (fun _ _ _ h => h) (Or.inl ⟨by rfl, ?_⟩) ?_ ?_
  rotate_left
  · intro w'
    go_simp
    with_reducible rfl
  rotate_left
  · simp only [Act.put, List.setIfInBounds_toArray, List.set_cons_zero, List.set_cons_succ]
    rfl
  refine last_skip (i := 13) (w' := w3) #[true, true, true, true, true, true, true, true, true, true, true, true, true, true] rfl rfl (by kernel_rfl) (by decide) (by rfl) (Rw.exec_put 28 (.tmp 5) (.tmp 25) rfl (by rfl) (by rfl) z1) ?_
  refine done_ (by kernel_rfl) ?_
  have hB3 : Below w1.heap.size w1 w3 := by
    have h2 := hBd.trans (hB2.mono hBd.size)
    exact h2.trans (z3.below (B := w1.heap.size) h2.size (fun i hi e => by omega))
  have hs5 : w1.heap.size ≤ b5 := by omega
  have h53 : b5 < w3.heap.size := lt_of_heap z4
  have hfb := FmAt.of_blk z4
  obtain ⟨bl, hbl⟩ : ∃ bl, e.l.length = bl := ⟨_, rfl⟩
  have d0_ := hfb.c0
  have d1_ := hfb.c1
  have d2_ := hfb.c2
  rw [hbl] at d2_
  rw [Nat.zero_add] at d1_ d2_
  have HBL := Sh.mk hbl
  have HB3 := Sh.mk hB3
  have HS5 := Sh.mk hs5
  have H53 := Sh.mk h53
  have hok3 := hok1.kept (Kept.of_below (S := fun _ => False) hB3) (fun _ e => e.elim)
  have HOK3 := Sh.mk hok3
  have HL3 := Sh.mk (HL1.out.below hB3)
  clear hbl hB3 hs5 h53 hfb z1 z3 z4 hr2 g5 hB2 hw2 hb5 hsd hBd hwd hHeld hok1 hok3 hfa1 m0_ HL1 m1_ m1b_
  by_cases c1 : e.kind = 3
  rotate_left
  · have b1_ : (e.kind != 3) = true := by simpa using c1
    obtain ⟨wz, z1, z2, hBz⟩ := FIN.out w3 none (HB3.out)
    go_wp2_with ((with_reducible refine Rw.at_store 2 45 ?_); refine Rw.wpList_put rfl 53 (.tmp 2) (.tmp 45) rfl rfl rfl z1 ?_)
    (try simp only [Exit.inBlock, Exit.then]); refine bodyPost_ret (Rw.ret_cell rfl rfl rfl z2) rfl ?_
    exact ⟨by rw [ge_kind c1]; rfl, hBz⟩
  have b1_ : (e.kind != 3) = false := by simpa using c1
  by_cases c2 : bl = 6
  rotate_left
  · have b2_ : ((bl : Int) != 6) = true := by simp; omega
    obtain ⟨wz, z1, z2, hBz⟩ := FIN.out w3 none (HB3.out)
    go_wp2_with ((with_reducible refine Rw.at_store 2 45 ?_); refine Rw.wpList_put rfl 53 (.tmp 2) (.tmp 45) rfl rfl rfl z1 ?_)
    (try simp only [Exit.inBlock, Exit.then]); refine bodyPost_ret (Rw.ret_cell rfl rfl rfl z2) rfl ?_
    exact ⟨by rw [ge_len (C := C) (e := e) (by rw [HBL.out]; exact c2)]; rfl, hBz⟩
  subst c2
  by_cases c3 : e.id < 0
  · skip
    obtain ⟨wz, z1, z2, hBz⟩ := FIN.out w3 none (HB3.out)
    go_wp2_with ((with_reducible refine Rw.at_store 2 45 ?_); refine Rw.wpList_put rfl 53 (.tmp 2) (.tmp 45) rfl rfl rfl z1 ?_)
    (try simp only [Exit.inBlock, Exit.then]); refine bodyPost_ret (Rw.ret_cell rfl rfl rfl z2) rfl ?_
    exact ⟨by rw [ge_low (C := C) (e := e) c3]; rfl, hBz⟩
  by_cases c4 : 65535 < e.id
  · skip
    obtain ⟨wz, z1, z2, hBz⟩ := FIN.out w3 none (HB3.out)
    go_wp2_with ((with_reducible refine Rw.at_store 2 45 ?_); refine Rw.wpList_put rfl 53 (.tmp 2) (.tmp 45) rfl rfl rfl z1 ?_)
    (try simp only [Exit.inBlock, Exit.then]); refine bodyPost_ret (Rw.ret_cell rfl rfl rfl z2) rfl ?_
    exact ⟨by rw [ge_high (C := C) (e := e) c4]; rfl, hBz⟩
  go_upto_region 7 with (fail)
  obtain ⟨b6, hb6⟩ : ∃ b6, w3.heap.size = b6 := ⟨_, rfl⟩
  obtain ⟨w4, hw4⟩ : ∃ w4, w3.alloc (.cells #[.pointer none, .slice none 0 0] 89) = w4 := ⟨_, rfl⟩
  have hbu : Lib.IsBuilder 89 5 b6 b6 [] w4 := by rw [← hw4, ← hb6]; exact Lib.fresh_isBuilder _ _ _
  have hB4 : Below w3.heap.size w3 w4 := by rw [← hw4]; exact (Below.refl _ _).alloc (Nat.le_refl _) _
  have hs4 : b6 < w4.heap.size := by rw [← hw4, ← hb6]; simp
  have hb56 : b5 < b6 := by have := H53.out; omega
  have H56 := Sh.mk hb56
  have hB14 : Below w1.heap.size w1 w4 := HB3.out.trans (hB4.mono HB3.out.size)
  have HB14 := Sh.mk hB14
  have HL4 := Sh.mk (HL3.out.below hB4)
  have hok4 := HOK3.out.below hB4
  have HOK4 := Sh.mk hok4
  have HS16 := Sh.mk (show w1.heap.size ≤ b6 by have := HS5.out; omega)
  have e0_ : w4.cell? ⟨b5, 0, none⟩ = some (.int .i64 e.id) := (hB4.cell (p := ⟨b5, 0, none⟩) (by rw [hb6]; exact hb56)).trans d0_
  have e2_ : w4.cell? ⟨b5, 2, none⟩ = some (.slice e.A 6 e.c) := (hB4.cell (p := ⟨b5, 2, none⟩) (by rw [hb6]; exact hb56)).trans d2_
  have E0 := Sh.mk e0_
  have E2 := Sh.mk e2_
  have HS4 := Sh.mk hs4
  rw [hw4, hb6]
  clear hw4 hb6 hB4 hs4 hb56 hB14 hok4 d0_ d1_ d2_ e0_ e2_ b1_ HOK3 HL3
  go_wp2_with fail
  go_loopg [48] m (fun kq v48 w' => ∃ (i : Nat) (acc : List Int), i + kq = m ∧ v48 = .int .i64 (i : Int) ∧ Sh (gl e.id (C.drop i) acc = gl e.id C [] ∧ acc.length ≤ 2000 * i ∧ (∀ x ∈ acc, 0 ≤ x ∧ x ≤ 255) ∧ Lib.IsBuilder 89 5 b6 b6 (acc.map (Value.int .u8)) w' ∧ Below b6 w4 w'))
  case atStart => exact ⟨0, [], by omega, rfl, ⟨rfl, by simp, by simp, hbu, Below.refl _ _⟩⟩
  case round =>
    obtain ⟨i, acc, hik, rfl, ⟨hgl, hacc, hby, hbu, hB⟩⟩ := hrel
    have HGL := Sh.mk hgl
    have HAC := Sh.mk hacc
    have HB := Sh.mk hB
    have HI := Sh.mk hik
    have HBU := Sh.mk hbu
    have HBY := Sh.mk hby
    have n12 := HN.out
    have hrs : b6 < wr.heap.size := Nat.lt_of_lt_of_le HS4.out hB.size
    have x0_ : wr.cell? ⟨b5, 0, none⟩ = some (.int .i64 e.id) := (hB.cell (p := ⟨b5, 0, none⟩) H56.out).trans E0.out
    have HX0 := Sh.mk x0_
    clear hgl hacc hbu hby
    cases gk with
    | zero =>
      obtain rfl : i = m := by omega
      have kk : ¬ (i : Int) < (i : Int) := by omega
      obtain ⟨n0, n1, n2, n3, n4, n5, hel⟩ := ends_six HBL.out
      have hokr : FmOk wr w.heap.size e := HOK4.out.kept (S := fun k => b6 ≤ k) (kept_below hB) (fun k hk => by have := HS16.out; have := HS1.out; omega)
      obtain ⟨ea, hea, -⟩ := hokr.byt (by rw [HBL.out]; decide)
      have hc6 : 6 ≤ e.c := by have := hokr.len; rw [HBL.out] at this; exact this
      have hnum := hokr.num
      have hn' := hnum
      rw [hel] at hn'
      have HNUM := Sh.mk hn'
      have y2_ : wr.cell? ⟨b5, 2, none⟩ = some (.slice (some ea) 6 e.c) := by
        rw [← hea]
        exact (hB.cell (p := ⟨b5, 2, none⟩) H56.out).trans E2.out
      have hby2 : Bytes wr (some ea) e.l := hea ▸ hokr.byt
      have hgl2 : gl e.id C [] = some acc := by
        rw [← HGL.out]
        have := gl_all (id := e.id) (C := C) acc
        rw [HM.out] at this
        exact this
      have HGE := Sh.mk (ge_good (e := e) c1 (by omega) (by omega) hel hgl2)
      have hwd : Below wr.heap.size wr wr.drew := (Below.refl _ _).drew
      have part : ∀ (W : World) (j : Nat) (x y : Int) (r : List Int), Below wr.heap.size wr W → j ≤ 4 → e.l.drop j = x :: y :: r → Calls Try.prog 41 #[.int .i64 (j : Int), .pointer (some ⟨b5, 0, none⟩)] W fun x2 w' => x2 = .returned (.float .f64 (FloatKind.f64.nearest (256 * x + y))) ∧ Below wr.heap.size wr w' ∧ w'.cell? ⟨b5, 0, none⟩ = some (.int .i64 e.id) := fun W j x y r hW hj hd => by
        refine (part_ok W b5 e.c j ea e.l x y r ((hW.cell (p := ⟨b5, 2, none⟩) (by have := H56.out; show b5 < wr.heap.size; omega)).trans y2_) (hby2.below hW) HBL.out hnum hc6 hj hd).mono ?_
        rintro e2 w' ⟨rfl, hb⟩
        have hb2 := hW.trans (hb.mono hW.size)
        exact ⟨rfl, hb2, (hb2.cell (p := ⟨b5, 0, none⟩) (by have := H56.out; show b5 < wr.heap.size; omega)).trans x0_⟩
      have PART := Sh.mk part
      have HHEL := Sh.mk hel
      have hte : ∀ (W : World), Sem.run Try.prog (convert 67 24 (.float .f64 (FloatKind.f64.nearest (256 * n0 + n1)))) W = .ok (.int .i64 (256 * n0 + n1)) W := fun W => toErrI W _ (by have := hn' n0 (by simp); have := hn' n1 (by simp); omega) (by have := hn' n0 (by simp); have := hn' n1 (by simp); omega)
      have hcx := fun (W : World) (x y : Nat) => toCx W x y
      clear part hel hnum hn' hea hby2 hgl2 hokr y2_ hc6
      go_upto_region 16 with (fail)
      refine start_ (n := 14) (S := fun w' => w'.cell? ⟨b5, 0, none⟩ = some (.int .i64 e.id)) (ds := [12]) #[false, false, false, false, false, false, false, false, false, false, false, false, false, false] (by kernel_rfl) rfl rfl (x0_) (fun hHeld => ?_)
      have HWD := Sh.mk hwd
      generalize wr.drew = wa at HWD hHeld ⊢
      clear hwd
      refine pure_ (i := 0) (N := some 91) (v := ?_) (a' := ?_) #[true, false, false, false, false, false, false, false, false, false, false, false, false, false] rfl rfl (by kernel_rfl) (fun _ _ _ h => h) (Or.inl ⟨by rfl, ?_⟩) ?_ ?_
      rotate_left
      · intro w'
        go_simp
        with_reducible rfl
      rotate_left
      · simp only [Act.put, List.setIfInBounds_toArray, List.set_cons_zero, List.set_cons_succ]
        rfl
      refine take_ (i := 1) (N := some 92) (v := ?_) (a' := ?_) #[true, true, false, false, false, false, false, false, false, false, false, false, false, false] rfl rfl (by kernel_rfl) (fun _ _ _ h => h) (Or.inl ⟨by rfl, ?_⟩) hHeld ?_ ?_
      rotate_left
      · rintro w' s0
        go_simp
        with_reducible rfl
      rotate_left
      · simp only [Act.put, List.setIfInBounds_toArray, List.set_cons_zero, List.set_cons_succ]
        rfl
      refine pure_ (i := 2) (N := some 93) (v := ?_) (a' := ?_) #[true, true, true, false, false, false, false, false, false, false, false, false, false, false] rfl rfl (by kernel_rfl) (fun _ _ _ h => h) (Or.inl ⟨by rfl, ?_⟩) ?_ ?_
      rotate_left
      · intro w'
        go_simp
        with_reducible rfl
      rotate_left
      · simp only [Act.put, List.setIfInBounds_toArray, List.set_cons_zero, List.set_cons_succ]
        rfl
      refine pure_ (i := 5) (N := some 96) (v := ?_) (a' := ?_) #[true, true, true, false, false, true, false, false, false, false, false, false, false, false] rfl rfl (by kernel_rfl) (fun _ _ _ h => h) (Or.inl ⟨by rfl, ?_⟩) ?_ ?_
      rotate_left
      · intro w'
        go_simp
        with_reducible rfl
      rotate_left
      · simp only [Act.put, List.setIfInBounds_toArray, List.set_cons_zero, List.set_cons_succ]
        rfl
      refine pure_ (i := 7) (N := some 98) (v := ?_) (a' := ?_) #[true, true, true, false, false, true, false, true, false, false, false, false, false, false] rfl rfl (by kernel_rfl) (fun _ _ _ h => h) (Or.inl ⟨by rfl, ?_⟩) ?_ ?_
      rotate_left
      · intro w'
        go_simp
        with_reducible rfl
      rotate_left
      · simp only [Act.put, List.setIfInBounds_toArray, List.set_cons_zero, List.set_cons_succ]
        rfl
      refine one_call (i := 3) (N := some 94) 41 #[.int .i64 0, .pointer (some ⟨b5, 0, none⟩)] #[true, true, true, true, false, true, false, true, false, false, false, false, false, false] rfl rfl (by kernel_rfl) (by decide) (by rfl) (by go_simp) ?_
      refine (PART.out wa 0 n0 n1 [n2, n3, n4, n5] HWD.out (by decide) (by rw [HHEL.out]; rfl)).mono ?_
      rintro e2 wb ⟨rfl, hb, hs⟩
      refine ⟨_, rfl, hs, ?_⟩
      simp only [Act.put, List.setIfInBounds_toArray, List.set_cons_zero, List.set_cons_succ]
      have HWB := Sh.mk hb
      clear hb HWD hHeld hs
      refine pure_ (i := 4) (N := some 95) (v := ?_) (a' := ?_) #[true, true, true, true, true, true, false, true, false, false, false, false, false, false] rfl rfl (by kernel_rfl) (fun _ _ _ h => h) (Or.inl ⟨by rfl, ?_⟩) ?_ ?_
      rotate_left
      · intro w'
        go_simp
        with_reducible rfl
      rotate_left
      · simp only [Act.put, List.setIfInBounds_toArray, List.set_cons_zero, List.set_cons_succ]
        rfl
      refine one_call (i := 6) (N := some 97) 41 #[.int .i64 2, .pointer (some ⟨b5, 0, none⟩)] #[true, true, true, true, true, true, true, true, false, false, false, false, false, false] rfl rfl (by kernel_rfl) (by decide) (by rfl) (by go_simp) ?_
      refine (PART.out wb 2 n2 n3 [n4, n5] HWB.out (by decide) (by rw [HHEL.out]; rfl)).mono ?_
      rintro e2 wc ⟨rfl, hb, hs⟩
      refine ⟨_, rfl, hs, ?_⟩
      simp only [Act.put, List.setIfInBounds_toArray, List.set_cons_zero, List.set_cons_succ]
      have HWC := Sh.mk hb
      clear hb HWB hs
      refine one_call (i := 8) (N := some 99) 41 #[.int .i64 4, .pointer (some ⟨b5, 0, none⟩)] #[true, true, true, true, true, true, true, true, true, false, false, false, false, false] rfl rfl (by kernel_rfl) (by decide) (by rfl) (by go_simp) ?_
      refine (PART.out wc 4 n4 n5 [] HWC.out (by decide) (by rw [HHEL.out]; rfl)).mono ?_
      rintro e2 we ⟨rfl, hb, hs⟩
      refine ⟨_, rfl, hs, ?_⟩
      simp only [Act.put, List.setIfInBounds_toArray, List.set_cons_zero, List.set_cons_succ]
      have HWE := Sh.mk hb
      clear hb HWC hs
      refine pure_ (i := 9) (N := some 100) (v := ?_) (a' := ?_) #[true, true, true, true, true, true, true, true, true, true, false, false, false, false] rfl rfl (by kernel_rfl) (fun _ _ _ h => h) (Or.inl ⟨by rfl, ?_⟩) ?_ ?_
      rotate_left
      · intro w'
        go_simp
        with_reducible rfl
      rotate_left
      · simp only [Act.put, List.setIfInBounds_toArray, List.set_cons_zero, List.set_cons_succ]
        rfl
      refine one_call (i := 10) (N := some 101) 42 #[.pointer (some ⟨b6, 0, none⟩)] #[true, true, true, true, true, true, true, true, true, true, true, false, false, false] rfl rfl (by kernel_rfl) (by decide) (by rfl) (by go_simp) ?_
      refine (Try.Builder_String_any b6 b6 (acc.map fun n => UInt8.ofNat n.toNat) we (cells_acc HBY.out ▸ bld_kept HBU.out (Kept.of_below (S := fun _ => False) HWE.out) (fun _ e => e.elim)) (by have := HWE.out.size; omega)).mono ?_
      rintro e2 wf ⟨rfl, hb⟩
      refine ⟨_, rfl, (hb.cell (p := ⟨b5, 0, none⟩) H56.out).trans ((HWE.out.cell (p := ⟨b5, 0, none⟩) (by have := H56.out; show b5 < wr.heap.size; omega)).trans x0_), ?_⟩
      simp only [Act.put, List.setIfInBounds_toArray, List.set_cons_zero, List.set_cons_succ]
      have HWF := Sh.mk (HB14.out.trans (((HB.out.trans (HWE.out.mono (by omega))).trans hb).mono HS16.out))
      clear hb HWE
      refine pure_ (i := 11) (N := some 102) (v := ?_) (a' := ?_) #[true, true, true, true, true, true, true, true, true, true, true, true, false, false] rfl rfl (by kernel_rfl) (fun _ _ _ h => h) (Or.inl ⟨by rfl, ?_⟩) ?_ ?_
      rotate_left
      · intro w'
        go_simp
        with_reducible rfl
      rotate_left
      · simp only [Act.put, List.setIfInBounds_toArray, List.set_cons_zero, List.set_cons_succ]
        rfl
      obtain ⟨wz, z1, z2, hBz⟩ := FIN.out wf (ge C e) HWF.out
      have hv : RV (ge C e) = .agg #[.int .i64 e.id, .int .i64 (256 * n0 + n1), .complex .f64 (FloatKind.f64.nearest (256 * n2 + n3)) (FloatKind.f64.nearest (256 * n4 + n5)), .string ⟨(acc.map fun n => UInt8.ofNat n.toNat).toArray⟩] := by
        have k0 := HNUM.out n0 (by simp)
        have k1 := HNUM.out n1 (by simp)
        have k2 := HNUM.out n2 (by simp)
        have k3 := HNUM.out n3 (by simp)
        have k4 := HNUM.out n4 (by simp)
        have k5 := HNUM.out n5 (by simp)
        rw [HGE.out, near_fl (256 * n2 + n3) (by omega), near_fl (256 * n4 + n5) (by omega)]
        show Value.agg #[_, .int .i64 ((256 * n0 + n1).toNat : Int), _, _] = _
        rw [Int.toNat_of_nonneg (by omega)]
        rfl
      rw [hv] at z1
      refine last_skip (i := 12) (w' := wz) #[true, true, true, true, true, true, true, true, true, true, true, true, true, false] rfl rfl (by kernel_rfl) (by decide) (by rfl) (Rw.exec_put 53 (.tmp 2) (.tmp 102) rfl (by rfl) (by rfl) z1) ?_
      refine pure_ (i := 13) (N := some 3) (v := ?_) (a' := ?_) #[true, true, true, true, true, true, true, true, true, true, true, true, true, true] rfl rfl (by kernel_rfl) (fun _ _ _ h => h) (Or.inl ⟨by rfl, ?_⟩) ?_ ?_
      rotate_left
      · intro w'
        go_simp
        with_reducible rfl
      rotate_left
      · simp only [Act.put, List.setIfInBounds_toArray, List.set_cons_zero, List.set_cons_succ]
        rfl
      refine done_ (by kernel_rfl) ?_
      clear z1 hv hte hcx x0_
      go_wp2_with fail
      (try simp only [Exit.inBlock, Exit.then]); refine bodyPost_ret (Rw.ret_cell rfl rfl rfl z2) rfl ?_
      exact ⟨by rw [HGE.out]; rfl, hBz⟩
    | succ g1_ =>
      have him : i < m := by omega
      obtain ⟨f, hf⟩ : ∃ f, C[i]? = some f := ⟨_, List.getElem?_eq_getElem (by rw [HM.out]; exact him)⟩
      have hfL : (C ++ [e])[i]? = some f := by rw [List.getElem?_append_left (by rw [HM.out]; exact him)]; exact hf
      have hLr : FmsAt wr w.heap.size (some ⟨g, off, none⟩) (C ++ [e]) := HL4.out.kept (S := fun k => b6 ≤ k) (kept_below hB) (fun k hk => by have := HS16.out; have := HS1.out; omega)
      obtain ⟨g', off', hgg, -, hfa⟩ := hLr.at_ i f hfL
      cases hgg
      have hok := hLr.ok f (List.mem_of_getElem? hfL)
      have hb2 := HLL.out f (List.mem_of_getElem? hfL)
      have hld := run_loadAt_mid (P := Try.prog) wr g (off + i * 3) 28 f.cells _ hfa.range Try.underlying28 rfl sizeFrm
      obtain ⟨b8, hb8⟩ : ∃ b8, wr.heap.size = b8 := ⟨_, rfl⟩
      obtain ⟨w5, hw5⟩ : ∃ w5, wr.alloc (.cells #[.int .i64 0, .int .i64 0, .slice none 0 0] 28) = w5 := ⟨_, rfl⟩
      have h5 : w5.heap[b8]? = some (.cells #[.int .i64 0, .int .i64 0, .slice none 0 0] 28 (0, 0)) := by rw [← hw5, ← hb8]; exact heap_alloc_new _ _
      have hB5 : Below wr.heap.size wr w5 := by rw [← hw5]; exact (Below.refl _ _).alloc (Nat.le_refl _) _
      obtain ⟨w6, z1, -, z3, z4⟩ := Rw.put_row (P := Try.prog) (cs := f.cells) h5 rfl (by simp [Fm.cells, Value.oneCell']) Try.underlying28 rfl sizeFrm
      have hB6 : Below wr.heap.size wr w6 := hB5.trans (z3.below (B := wr.heap.size) hB5.size (fun k hk e => by omega))
      have HBU6 := Sh.mk (bld_kept HBU.out (Kept.of_below (S := fun _ => False) hB6) (fun _ e => e.elim))
      have HB6 := Sh.mk (hB.trans (hB6.mono (by omega)))
      have HOK6 := Sh.mk (hok.below hB6)
      have hs6 : b6 < w6.heap.size := Nat.lt_of_lt_of_le hrs hB6.size
      have HS6 := Sh.mk hs6
      have kk : (i : Int) < (m : Int) := by omega
      have w6_ := wrap_one i m him (by omega)
      have y0_ : w6.cell? ⟨b5, 0, none⟩ = some (.int .i64 e.id) := (hB6.cell (p := ⟨b5, 0, none⟩) (by have := H56.out; show b5 < wr.heap.size; omega)).trans x0_
      clear hfL hLr hfa hok hB5 h5 z3 x0_ HBU HX0
      have hfb := FmAt.of_blk z4
      obtain ⟨bf, hbf⟩ : ∃ bf, f.l.length = bf := ⟨_, rfl⟩
      have p0_ := hfb.c0
      have p1_ := hfb.c1
      have p2_ := hfb.c2
      rw [hbf] at p2_ hb2
      rw [Nat.zero_add] at p1_ p2_
      have HBF := Sh.mk hbf
      have HF := Sh.mk hf
      clear hfb hbf hf z4 hB hB6 hrs
      go_upto_region 10 with (first | ((with_reducible refine Rw.at_slot 52 ?_); refine Rw.wpList_get rfl 28 (.tmp 51) rfl rfl hld ?_) | ((with_reducible refine Rw.at_store 8 52 ?_); (try simp only [hw5, hb8]); refine Rw.wpList_put rfl 28 (.tmp 8) (.tmp 52) rfl rfl rfl z1 ?_))
      clear hld z1 hw5 hb8 hs6
      by_cases k1 : f.kind = 2
      rotate_left
      · have q1_ : (f.kind != 2) = true := by simpa using k1
        have HST := Sh.mk (ge_bad (C := C) (e := e) (HGL.out.symm.trans (gl_stop HF.out acc (by rw [HBF.out, HM.out]; omega))))
        obtain ⟨wz, z1, z2, hBz⟩ := FIN.out w6 none (HB14.out.trans (HB6.out.mono HS16.out))
        go_wp2_with ((with_reducible refine Rw.at_store 2 85 ?_); refine Rw.wpList_put rfl 53 (.tmp 2) (.tmp 85) rfl rfl rfl z1 ?_)
        (try simp only [Exit.inBlock, Exit.then]); refine bodyPost_ret (Rw.ret_cell rfl rfl rfl z2) rfl ?_
        exact ⟨by rw [HST.out]; rfl, hBz⟩
      have q1_ : (f.kind != 2) = false := by simpa using k1
      by_cases k2 : f.id = e.id
      rotate_left
      · have q2_ : (f.id != e.id) = true := by simpa using k2
        have HST := Sh.mk (ge_bad (C := C) (e := e) (HGL.out.symm.trans (gl_stop HF.out acc (by rw [HBF.out, HM.out]; omega))))
        obtain ⟨wz, z1, z2, hBz⟩ := FIN.out w6 none (HB14.out.trans (HB6.out.mono HS16.out))
        go_wp2_with ((with_reducible refine Rw.at_store 2 85 ?_); refine Rw.wpList_put rfl 53 (.tmp 2) (.tmp 85) rfl rfl rfl z1 ?_)
        (try simp only [Exit.inBlock, Exit.then]); refine bodyPost_ret (Rw.ret_cell rfl rfl rfl z2) rfl ?_
        exact ⟨by rw [HST.out]; rfl, hBz⟩
      have q2_ : (f.id != e.id) = false := by simpa using k2
      by_cases k3 : bf = 0
      · subst k3
        have HST := Sh.mk (ge_bad (C := C) (e := e) (HGL.out.symm.trans (gl_stop HF.out acc (by rw [HBF.out, HM.out]; omega))))
        obtain ⟨wz, z1, z2, hBz⟩ := FIN.out w6 none (HB14.out.trans (HB6.out.mono HS16.out))
        go_wp2_with ((with_reducible refine Rw.at_store 2 85 ?_); refine Rw.wpList_put rfl 53 (.tmp 2) (.tmp 85) rfl rfl rfl z1 ?_)
        (try simp only [Exit.inBlock, Exit.then]); refine bodyPost_ret (Rw.ret_cell rfl rfl rfl z2) rfl ?_
        exact ⟨by rw [HST.out]; rfl, hBz⟩
      have q3_ : ((bf : Int) == 0) = false := by simp; omega
      by_cases k4 : (1000 : Int) < (bf : Int)
      · skip
        have HST := Sh.mk (ge_bad (C := C) (e := e) (HGL.out.symm.trans (gl_stop HF.out acc (by rw [HBF.out, HM.out]; omega))))
        obtain ⟨wz, z1, z2, hBz⟩ := FIN.out w6 none (HB14.out.trans (HB6.out.mono HS16.out))
        go_wp2_with ((with_reducible refine Rw.at_store 2 85 ?_); refine Rw.wpList_put rfl 53 (.tmp 2) (.tmp 85) rfl rfl rfl z1 ?_)
        (try simp only [Exit.inBlock, Exit.then]); refine bodyPost_ret (Rw.ret_cell rfl rfl rfl z2) rfl ?_
        exact ⟨by rw [HST.out]; rfl, hBz⟩
      by_cases k5 : (i : Int) < (m : Int) - 1 ∧ (bf : Int) < 1000
      · obtain ⟨k5, k6⟩ := k5
        have HST := Sh.mk (ge_bad (C := C) (e := e) (HGL.out.symm.trans (gl_stop HF.out acc (by rw [HBF.out, HM.out]; omega))))
        obtain ⟨wz, z1, z2, hBz⟩ := FIN.out w6 none (HB14.out.trans (HB6.out.mono HS16.out))
        go_wp2_with ((with_reducible refine Rw.at_store 2 85 ?_); refine Rw.wpList_put rfl 53 (.tmp 2) (.tmp 85) rfl rfl rfl z1 ?_)
        (try simp only [Exit.inBlock, Exit.then]); refine bodyPost_ret (Rw.ret_cell rfl rfl rfl z2) rfl ?_
        exact ⟨by rw [HST.out]; rfl, hBz⟩
      by_cases k6 : (bf : Int) < 1000
      · have k7 : ¬ (i : Int) < (m : Int) - 1 := fun h => k5 ⟨h, k6⟩
        have HST := Sh.mk ((gl_step HF.out acc k1 k2 (by rw [HBF.out]; omega) (by rw [HBF.out]; omega) (by rw [HBF.out, HM.out]; omega)).symm.trans HGL.out)
        obtain ⟨ad, hA, -⟩ := HOK6.out.byt (by rw [HBF.out]; omega)
        rw [hA] at p2_
        have hwr := write_ok b6 b6 (acc.map (Value.int .u8)) w6 HBU6.out ad f.l f.c (by rw [HBF.out]; omega) (hA ▸ HOK6.out.byt) (by have := HOK6.out.low (by rw [HBF.out]; omega) ad hA; have := HS16.out; have := HS1.out; omega) (by have := HAC.out; rw [List.length_map, HBF.out]; omega) (Nat.le_of_lt HS6.out)
        rw [HBF.out] at hwr
        have HWR := Sh.mk hwr
        clear hA hwr k3 k4 q1_ q2_ hb2
        go_wp2_with fail
        refine HWR.out.mono ?_
        rintro e2 w7 ⟨rfl, hbw, hB7⟩
        have HBW := Sh.mk hbw
        have HB7 := Sh.mk (HB6.out.trans hB7)
        clear hbw hB7 p0_ p1_ p2_ y0_
        go_wp2_with fail
        go_roundg g1_
        case measure => have := HI.out; omega
        case rel => exact ⟨i + 1, acc ++ f.l, by have := HI.out; omega, (by first | rfl | (rw [w6_]) | simp), ⟨HST.out, by have := HAC.out; rw [List.length_append, HBF.out]; omega, (fun x hx => (List.mem_append.1 hx).elim (HBY.out x) (HOK6.out.num x)), by rw [List.map_append]; exact Or.inr HBW.out, HB7.out⟩⟩
      · clear k5
        have HST := Sh.mk ((gl_step HF.out acc k1 k2 (by rw [HBF.out]; omega) (by rw [HBF.out]; omega) (by rw [HBF.out, HM.out]; omega)).symm.trans HGL.out)
        obtain ⟨ad, hA, -⟩ := HOK6.out.byt (by rw [HBF.out]; omega)
        rw [hA] at p2_
        have hwr := write_ok b6 b6 (acc.map (Value.int .u8)) w6 HBU6.out ad f.l f.c (by rw [HBF.out]; omega) (hA ▸ HOK6.out.byt) (by have := HOK6.out.low (by rw [HBF.out]; omega) ad hA; have := HS16.out; have := HS1.out; omega) (by have := HAC.out; rw [List.length_map, HBF.out]; omega) (Nat.le_of_lt HS6.out)
        rw [HBF.out] at hwr
        have HWR := Sh.mk hwr
        clear hA hwr k3 q1_ q2_ hb2
        go_wp2_with fail
        refine HWR.out.mono ?_
        rintro e2 w7 ⟨rfl, hbw, hB7⟩
        have HBW := Sh.mk hbw
        have HB7 := Sh.mk (HB6.out.trans hB7)
        clear hbw hB7 p0_ p1_ p2_ y0_
        go_wp2_with fail
        go_roundg g1_
        case measure => have := HI.out; omega
        case rel => exact ⟨i + 1, acc ++ f.l, by have := HI.out; omega, (by first | rfl | (rw [w6_]) | simp), ⟨HST.out, by have := HAC.out; rw [List.length_append, HBF.out]; omega, (fun x hx => (List.mem_append.1 hx).elim (HBY.out x) (HOK6.out.num x)), by rw [List.map_append]; exact Or.inr HBW.out, HB7.out⟩⟩
end Go.Proofs.Ytgnepppncmjagaa.Gt
