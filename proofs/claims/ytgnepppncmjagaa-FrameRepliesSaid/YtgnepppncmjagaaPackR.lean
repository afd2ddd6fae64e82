/- The law. -/
import Derived.Test.YtgnepppncmjagaaReplyF
import Derived.Test.YtgnepppncmjagaaPackG
import Derived.Test.YtgnepppncmjagaaPackH
import Derived.Test.YtgnepppncmjagaaRefRep
namespace Go.Proofs.Ytgnepppncmjagaa.Gt
open Go Go.RowKit Hp Rd Go.Proofs.Ytgnepppncmjagaa.Fr Go.Proofs.Ytgnepppncmjagaa.Ck Go.Proofs.YtgnepppncmjagaaW.PrintWords Go.Proofs.YtgnepppncmjagaaW.PrintLast Go.Proofs.Ytgnepppncmjagaa.Print
theorem below_drewN' {B : Nat} {a w : World} (h : Below B a w) (n : Nat) : Below B a (w.drewN n) := ⟨h.os, h.tape, h.output, h.size, h.block⟩
set_option maxHeartbeats 4000000 in
set_option maxRecDepth 100000 in
theorem same_ok (w : World) (A B : Option Addr) (c d : Nat) (L M : List Fm) (hL : FmsAt w w.heap.size A L) (hM : FmsAt w w.heap.size B M) (h : L.map tr = M.map tr) (hn : L.length ≤ 100) (hl : ∀ f ∈ L, f.l.length ≤ 2000) :
    Calls Try.prog 29 #[.slice A L.length c, .slice B M.length d] w fun e w' => e = .returned (.bool true) ∧ Below w.heap.size w w' := by
  have hlen : M.length = L.length := by have := congrArg List.length h; simpa using this.symm
  rw [hlen]
  have HLEN := Sh.mk hlen
  clear hlen
  have hat : ∀ (i : Nat) (f : Fm), L[i]? = some f → ∃ f2, M[i]? = some f2 ∧ f2.id = f.id ∧ f2.kind = f.kind ∧ f2.l = f.l := fun i f hf => by
    have h1 : (L.map tr)[i]? = some (tr f) := by rw [List.getElem?_map, hf]; rfl
    rw [h, List.getElem?_map] at h1
    obtain ⟨f2, h2, h3⟩ := Option.map_eq_some_iff.1 h1
    unfold tr at h3
    simp at h3
    exact ⟨f2, h2, h3.1, h3.2.1, h3.2.2⟩
  have HAT := Sh.mk hat
  have HN := Sh.mk hn
  have HLL := Sh.mk hl
  clear hat h hn hl
  go_enter Try.func29, Try.ntmps29
  go_wp2
  go_loopg [5] L.length (fun kq v5 w' => ∃ i : Nat, i + kq = L.length ∧ v5 = .int .i64 (i : Int) ∧ Sh (Below w.heap.size w w'))
  case atStart => exact ⟨0, by omega, rfl, ⟨Below.refl _ _⟩⟩
  case round =>
    obtain ⟨i, hik, rfl, ⟨hB⟩⟩ := hrel
    cases gk with
    | zero =>
      obtain rfl : i = L.length := by omega
      have kk : ¬ (L.length : Int) < (L.length : Int) := by omega
      go_wp2_with fail
      go_ret
      exact ⟨rfl, hB⟩
    | succ g1_ =>
      have kk : (i : Int) < (L.length : Int) := by omega
      have hil : i < L.length := by omega
      obtain ⟨f, hf⟩ : ∃ f, L[i]? = some f := ⟨_, List.getElem?_eq_getElem hil⟩
      obtain ⟨f2, hf2, e1, e2, e3⟩ := HAT.out i f hf
      obtain ⟨g, off, rfl, -, hfa⟩ := (hL.below hB).at_ i f hf
      obtain ⟨g2, off2, rfl, -, hfb⟩ := (hM.below hB).at_ i f2 hf2
      have hok1 := (hL.below hB).ok f (List.mem_of_getElem? hf)
      have hok2 := (hM.below hB).ok f2 (List.mem_of_getElem? hf2)
      have hfl := HLL.out f (List.mem_of_getElem? hf)
      have p0_ := hfa.c0
      have p1_ := hfa.c1
      have p2_ := hfa.c2
      have q0_ := hfb.c0
      have q1_ := hfb.c1
      have q2_ := hfb.c2
      rw [e1] at q0_
      rw [e2] at q1_
      rw [e3] at q2_
      have hc1 : ∀ n, Sem.run Try.prog (convert 22 9 (.slice f.A f.l.length f.c)) (wr.drewN n) = .ok (.string (strOfNums f.l)) (wr.drewN n) := fun n => Bytes.str (hok1.below (below_drewN' (Below.refl _ _) n)).byt (by omega) f.c
      have hc2 : ∀ n, Sem.run Try.prog (convert 22 9 (.slice f2.A f.l.length f2.c)) (wr.drewN n) = .ok (.string (strOfNums f.l)) (wr.drewN n) := fun n => by
        have := Bytes.str (hok2.below (below_drewN' (Below.refl _ _) n)).byt (by rw [e3]; omega) f2.c
        rw [e3] at this
        exact this
      have HI := Sh.mk hik
      have HB := Sh.mk hB
      have w5_ := wrap_one i L.length hil (by have := HN.out; omega)
      clear hf hf2 e1 e2 e3 hfa hfb hok1 hok2 hfl hB hik hil
      go_upto_region 6 with (fail)
      go_quiet (fail)
      have HB2 := Sh.mk (below_drewN' HB.out nq)
      generalize wr.drewN nq = wn at HB2 ⊢
      clear hc1 hc2 p0_ p1_ p2_ q0_ q1_ q2_ HB
      go_wp2_with fail
      go_roundg g1_
      case measure => have := HI.out; omega
      case rel => exact ⟨i + 1, by have := HI.out; omega, (by first | rfl | (rw [w5_])), ⟨HB2.out⟩⟩
end Go.Proofs.Ytgnepppncmjagaa.Gt

namespace Go.Proofs.Ytgnepppncmjagaa.Gt
open Go Go.RowKit Hp Rd Go.Proofs.Ytgnepppncmjagaa.Fr Go.Proofs.Ytgnepppncmjagaa.Ck Go.Proofs.YtgnepppncmjagaaW.PrintWords Go.Proofs.YtgnepppncmjagaaW.PrintLast Go.Proofs.Ytgnepppncmjagaa.Print
theorem frs_length (id : Int) (s : ByteArray) (E : List Int) : (frs id s E).length = count s.size + 1 := by simp [frs]
theorem frs_split {L : List Fm} {id : Int} {s : ByteArray} {E : List Int} (h : L.map tr = frs id s E) : ∃ C e, L = C ++ [e] ∧ C.map tr = (List.range (count s.size)).map (fun k => (id, 2, pb s k)) ∧ e.id = id ∧ e.kind = 3 ∧ e.l = E := by
  rcases List.eq_nil_or_concat L with rfl | ⟨C, e, h2⟩
  · have := congrArg List.length h
    rw [frs_length] at this
    simp at this
  · have h3 : L = C ++ [e] := by simpa using h2
    subst h3
    unfold frs at h
    rw [List.map_append] at h
    obtain ⟨h4, h5⟩ := List.append_inj' h rfl
    unfold tr at h5
    simp at h5
    exact ⟨C, e, rfl, h4, h5.1, h5.2.1, h5.2.2⟩
theorem frs_bodies {L : List Fm} {id : Int} {s : ByteArray} {E : List Int} (h : L.map tr = frs id s E) (hE : E.length = 6) : ∀ f ∈ L, f.l.length ≤ 2000 := fun f hf => by
  have h1 : tr f ∈ L.map tr := List.mem_map.2 ⟨f, hf, rfl⟩
  rw [h] at h1
  unfold frs at h1
  rcases List.mem_append.1 h1 with h2 | h2
  · obtain ⟨k, _, h3⟩ := List.mem_map.1 h2
    have h4 : pb s k = f.l := by unfold tr at h3; simp at h3; exact h3.2.2
    rw [← h4]
    unfold pb
    rw [List.length_take]
    omega
  · have h4 : f.l = E := by unfold tr at h2; simp at h2; exact h2.2.2
    rw [h4, hE]
    decide
theorem gl_frs {C : List Fm} {id : Int} {s : ByteArray} (h : C.map tr = (List.range (count s.size)).map (fun k => (id, 2, pb s k))) : ∀ (j i : Nat), i + j = count s.size → gl id (C.drop i) ((Ch.nums s).take (1000 * i)) = some (Ch.nums s) := by
  have hlen : C.length = count s.size := by have := congrArg List.length h; simpa using this
  intro j
  induction j with
  | zero =>
    intro i hi
    obtain rfl : i = C.length := by omega
    rw [gl_all, List.take_of_length_le]
    rw [Ch.nums_length, hlen]
    unfold count
    omega
  | succ j ih =>
    intro i hi
    obtain ⟨f, hf⟩ : ∃ f, C[i]? = some f := ⟨_, List.getElem?_eq_getElem (by omega)⟩
    have h1 : (C.map tr)[i]? = some (tr f) := by rw [List.getElem?_map, hf]; rfl
    rw [h, List.getElem?_map, List.getElem?_range (by omega)] at h1
    unfold tr at h1
    simp at h1
    obtain ⟨e1, e2, e3⟩ := h1
    have hp : (pb s i).length = min 1000 (s.size - 1000 * i) := Ch.piece_len s i
    have hc : count s.size = (s.size + 999) / 1000 := rfl
    rw [gl_step hf _ e2.symm e1.symm (by rw [← e3, hp]; omega) (by rw [← e3, hp]; omega) (by rw [← e3, hp, hlen]; omega), ← e3, show (Ch.nums s).take (1000 * i) ++ pb s i = (Ch.nums s).take (1000 * (i + 1)) by unfold pb; rw [show 1000 * (i + 1) = 1000 * i + 1000 by omega, List.take_add]]
    exact ih (i + 1) (by omega)
theorem ge_frs {C : List Fm} {e : Fm} {id er : Int} {n m : Nat} {s : ByteArray} (h : C.map tr = (List.range (count s.size)).map (fun k => (id, 2, pb s k))) (hid : e.id = id) (hk : e.kind = 3) (hl : e.l = six er n m) (h0 : 0 ≤ id) (h1 : id ≤ 65535) (he0 : 0 ≤ er) (he1 : er ≤ 65535) (hn : n ≤ 65535) (hm : m ≤ 65535) :
    RV (ge C e) = .agg #[.int .i64 id, .int .i64 er, .complex .f64 (fl n) (fl m), .string s] ∧ RE (ge C e) = 0 := by
  have hg : gl e.id C [] = some (Ch.nums s) := by
    have := gl_frs h (count s.size) 0 (by omega)
    rw [hid]
    exact this
  have e6 : e.l = [Ev.hi er, Ev.lo er, Ev.hi n, Ev.lo n, Ev.hi m, Ev.lo m] := hl
  rw [ge_good hk (by rw [hid]; exact h0) (by rw [hid]; exact h1) e6 hg]
  have hb : ∀ v : Int, 0 ≤ v → v ≤ 65535 → 256 * Ev.hi v + Ev.lo v = v := fun v a b => by unfold Ev.hi Ev.lo; omega
  rw [hb er he0 he1, hb n (by omega) (by omega), hb m (by omega) (by omega), Int.toNat_natCast, Int.toNat_natCast]
  refine ⟨?_, rfl⟩
  show Value.agg #[.int .i64 e.id, .int .i64 ((er.toNat : Nat) : Int), .complex .f64 (fl n) (fl m), .string (strOfNums (Ch.nums s))] = _
  rw [hid, Int.toNat_of_nonneg he0, Ch.str_back]
theorem wh_eq {x : Nat} (h : wh x = true) : FloatKind.f64.format.order (fl (wi x)) x = some Ordering.eq := by
  unfold wh at h
  rw [Bool.and_eq_true] at h
  simpa using h.2
theorem sz2 : Try.prog.cellsOf 66 = 2 ∧ Try.prog.cellsOf 68 = 2 ∧ Try.prog.cellsOf 3 = 1 ∧ Try.prog.cellsOf 67 = 1 := ⟨by kernel_rfl, by kernel_rfl, by kernel_rfl, by kernel_rfl⟩
theorem arg_ints2 {w : World} {v : Value} (h : Arg Try.prog w 66 v) : ∃ a b, v = .agg #[.int .i64 a, .int .i64 b] := by
  obtain ⟨z1, -, z3, -⟩ := sz2
  obtain ⟨cs, rfl, hl, hr⟩ := arg_array Try.underlying66 h
  rw [z1] at hl
  obtain ⟨v0, v1, hcs⟩ : ∃ v0 v1, cs.toList = [v0, v1] := by
    match cs.toList, hl with
    | [v0, v1], _ => exact ⟨_, _, rfl⟩
  have hcs' : cs = #[v0, v1] := by rw [← Array.toArray_toList (xs := cs), hcs]
  subst hcs'
  have g0 := hr 0 (by decide)
  have g1 := hr 1 (by decide)
  rw [z3] at g0 g1
  obtain ⟨a, h0, -⟩ := rd_int Try.underlying3 g0
  obtain ⟨b, h1, -⟩ := rd_int Try.underlying3 g1
  simp at h0 h1
  subst h0 h1
  exact ⟨_, _, rfl⟩
theorem arg_floats2 {w : World} {v : Value} (h : Arg Try.prog w 68 v) : ∃ a b, v = .agg #[.float .f64 a, .float .f64 b] := by
  obtain ⟨-, z1, -, z3⟩ := sz2
  obtain ⟨cs, rfl, hl, hr⟩ := arg_array Try.underlying68 h
  rw [z1] at hl
  obtain ⟨v0, v1, hcs⟩ : ∃ v0 v1, cs.toList = [v0, v1] := by
    match cs.toList, hl with
    | [v0, v1], _ => exact ⟨_, _, rfl⟩
  have hcs' : cs = #[v0, v1] := by rw [← Array.toArray_toList (xs := cs), hcs]
  subst hcs'
  have g0 := hr 0 (by decide)
  have g1 := hr 1 (by decide)
  rw [z3] at g0 g1
  obtain ⟨a, h0, -⟩ := rd_float Try.underlying67 g0
  obtain ⟨b, h1, -⟩ := rd_float Try.underlying67 g1
  simp at h0 h1
  subst h0 h1
  exact ⟨_, _, rfl⟩
set_option maxHeartbeats 4000000 in
set_option maxRecDepth 100000 in
theorem frameReplies_calls (v0 v1 v2 : Value) (W : World) (a0 : Arg Try.prog W 66 v0) (a1 : Arg Try.prog W 68 v1) (a2 : Arg Try.prog W 9 v2) : Calls Try.prog 9 #[v0, v1, v2] W fun e w' => e = .returned (.bool true) ∧ Below W.heap.size W w' := by
  obtain ⟨id, er, rfl⟩ := arg_ints2 a0
  obtain ⟨x, y, rfl⟩ := arg_floats2 a1
  obtain ⟨s, rfl, -⟩ := arg_string Try.underlying9 a2
  clear a0 a1 a2
  have quit : ∀ (w2 : World), Below W.heap.size W w2 → Calls Try.prog 10 #[] w2 fun e w' => e = .returned (.bool true) ∧ Below w2.heap.size w2 w' ∧ Below W.heap.size W w' := fun w2 hb => by
    refine (headgatelaw23_alive.calls 8 true w2 Go.Proofs.Ytgnepppncmjagaa.Ev.alive_f).mono ?_
    rintro e w' ⟨rfl, h⟩
    exact ⟨rfl, h, hb.trans (h.mono hb.size)⟩
  have QUIT := Sh.mk quit
  clear quit
  go_enter Try.func9, Try.ntmps9
  go_upto_region 1 with (fail)
  obtain ⟨wA, hwA⟩ : ∃ wA, ((W.alloc (.cells #[.int .i64 id, .int .i64 er] 66)).alloc (.cells #[.float .f64 x, .float .f64 y] 68)) = wA := ⟨_, rfl⟩
  obtain ⟨fb, hfb⟩ : ∃ fb, W.heap.size = fb := ⟨_, rfl⟩
  have g1 : wA.heap[fb]? = some (.cells #[.int .i64 id, .int .i64 er] 66 (0, 0)) := by
    rw [← hwA, ← hfb]
    exact (Below.heap_alloc _ _ _ (by simp)).trans (heap_alloc_new W _)
  have g2 : wA.heap[fb + 1]? = some (.cells #[.float .f64 x, .float .f64 y] 68 (0, 0)) := by
    rw [← hwA, ← hfb]
    have := heap_alloc_new (W.alloc (.cells #[.int .i64 id, .int .i64 er] 66)) (.cells #[.float .f64 x, .float .f64 y] 68)
    rw [World.size_alloc] at this
    exact this
  have hBA : Below W.heap.size W wA := by rw [← hwA]; exact ((Below.refl _ _).alloc (Nat.le_refl _) _).alloc (by simp) _
  rw [hwA, hfb]
  clear hwA hfb
  by_cases hlong : (20000 : Int) < (s.size : Int)
  · go_wp2_with fail
    refine (QUIT.out wA hBA).mono ?_
    rintro e w' ⟨rfl, -, h⟩
    go_wp2_with fail
    go_ret
    exact ⟨rfl, h⟩
  have hs : s.size ≤ 20000 := by omega
  have c0_ : wA.cell? ⟨fb, 0, none⟩ = some (.int .i64 id) := (blk_cell g1 0).trans rfl
  have c1_ : wA.cell? ⟨fb, 1, none⟩ = some (.int .i64 er) := (blk_cell g1 1).trans rfl
  have f0_ : wA.cell? ⟨fb + 1, 0, none⟩ = some (.float .f64 x) := (blk_cell g2 0).trans rfl
  have f1_ : wA.cell? ⟨fb + 1, 1, none⟩ = some (.float .f64 y) := (blk_cell g2 1).trans rfl
  have hcx := fun W => toCx W x y
  obtain ⟨b7, hb7⟩ : ∃ b7, wA.heap.size = b7 := ⟨_, rfl⟩
  obtain ⟨wB, hwB⟩ : ∃ wB, wA.alloc (.cells #[.int .i64 0, .int .i64 0, .complex .f64 0 0, .string ⟨#[]⟩] 53) = wB := ⟨_, rfl⟩
  have g7 : wB.heap[b7]? = some (.cells #[.int .i64 0, .int .i64 0, .complex .f64 0 0, .string ⟨#[]⟩] 53 (0, 0)) := by rw [← hwB, ← hb7]; exact heap_alloc_new _ _
  have hBB : Below wA.heap.size wA wB := by rw [← hwB]; exact (Below.refl _ _).alloc (Nat.le_refl _) _
  obtain ⟨w1, z1, -, z3, z4⟩ := Rw.put_row (P := Try.prog) (cs := [.int .i64 id, .int .i64 er, .complex .f64 x y, .string s]) g7 rfl (by simp [Value.oneCell']) Try.underlying53 rfl sizeRep
  have hB1 : Below W.heap.size W w1 := by
    have h2 := hBA.trans (hBB.mono hBA.size)
    refine h2.trans (z3.below (B := W.heap.size) h2.size (fun i hi e => ?_))
    have := hBA.size
    omega
  have hb71 : b7 < w1.heap.size := lt_of_heap z4
  have hld : ∀ W', Below w1.heap.size w1 W' → (Instr.loadAt 53 (.pointer (some ⟨b7, 0, none⟩))).run Try.prog W' = .ok (.agg #[.int .i64 id, .int .i64 er, .complex .f64 x y, .string s]) W' := fun W' hW => run_loadAt_mid (P := Try.prog) W' b7 0 53 [.int .i64 id, .int .i64 er, .complex .f64 x y, .string s] _ (Rw.blk_range ((hW.block _ hb71).trans z4)) Try.underlying53 rfl sizeRep
  have HLD := Sh.mk hld
  have HZ4 := Sh.mk z4
  have HB1 := Sh.mk hB1
  have HB71 := Sh.mk hb71
  clear hld z3 z4 hB1 hBB g7 g1 g2 hBA hb71
  go_upto_region 4 with ((with_reducible refine Rw.at_store 7 29 ?_); (try simp only [hb7, hwB]); refine Rw.wpList_put rfl 53 (.tmp 7) (.tmp 29) rfl rfl rfl z1 ?_)
  clear z1 hb7 hwB c0_ c1_ f0_ f1_ hcx
  have l1_ := HLD.out w1 (Below.refl _ _)
  go_wp2_with ((with_reducible refine Rw.at_slot 31 ?_); refine Rw.wpList_get rfl 53 (.tmp 7) rfl rfl l1_ ?_)
  by_cases hgood : 0 ≤ id ∧ id ≤ 65535 ∧ 0 ≤ er ∧ er ≤ 65535 ∧ wh x = true ∧ wh y = true
  rotate_left
  · refine (replyg_bad w1 id er x y s hgood).mono ?_
    rintro e w2 ⟨rfl, hb12⟩
    have l2_ := HLD.out w2 hb12
    clear l1_
    go_wp2_with ((with_reducible refine Rw.at_slot 36 ?_); refine Rw.wpList_get rfl 53 (.tmp 7) rfl rfl l2_ ?_)
    refine (refreply_bad w2 id er x y s hgood).mono ?_
    rintro e w3 ⟨rfl, hb23⟩
    clear l2_
    go_wp2_with fail
    refine (told_ok w3 none 0 [] (FmsAt.nil _ _ _) (by decide)).mono ?_
    rintro e w4 ⟨a4, c4, rfl, -, hb34⟩
    go_wp2_with fail
    refine (same_ok w4 a4 none c4 0 [] [] (FmsAt.nil _ _ _) (FmsAt.nil _ _ _) rfl (by decide) (by simp)).mono ?_
    rintro e w5 ⟨rfl, hb45⟩
    have h13 := hb12.trans (hb23.mono hb12.size)
    have h14 := h13.trans (hb34.mono h13.size)
    have h15 := h14.trans (hb45.mono h14.size)
    have HB5 := Sh.mk (HB1.out.trans (h15.mono HB1.out.size))
    clear h13 h14 h15 hb12 hb23 hb34 hb45
    go_wp2_with fail
    refine (QUIT.out w5 HB5.out).mono ?_
    rintro e w' ⟨rfl, -, h⟩
    go_wp2_with fail
    go_ret
    exact ⟨rfl, h⟩
  obtain ⟨h0, h1, he0, he1, hx, hy⟩ := hgood
  refine (replyg_ok w1 id er x y s h0 h1 he0 he1 hx hy hs).mono ?_
  rintro e w2 ⟨a, c, L, rfl, hcap, hF, hL, hb12⟩
  have l2_ := HLD.out w2 hb12
  clear l1_
  go_wp2_with ((with_reducible refine Rw.at_slot 36 ?_); refine Rw.wpList_get rfl 53 (.tmp 7) rfl rfl l2_ ?_)
  refine (refreply_ok w2 id er x y s h0 h1 he0 he1 hx hy hs).mono ?_
  rintro e w3 ⟨a2, c2, M, rfl, -, hG, hM, hb23⟩
  clear l2_
  have hlen : L.length ≤ 100 := by
    have := congrArg List.length hL
    rw [frs_length, List.length_map] at this
    unfold count at this
    omega
  have hbod := frs_bodies hL rfl
  have hF3 : FmsAt w3 w3.heap.size a L := (hF.below hb23).mono hb23.size
  have HTOLD := Sh.mk (told_ok w3 a c L hF3 hlen)
  have HF3 := Sh.mk hF3
  have HG := Sh.mk hG
  have HLM := Sh.mk (hL.trans hM.symm)
  have HL := Sh.mk hL
  have HLEN := Sh.mk hlen
  have HBOD := Sh.mk hbod
  have HCAP := Sh.mk hcap
  have HB13 := Sh.mk (hb12.trans (hb23.mono hb12.size))
  clear hF hF3 hG hL hM hlen hbod hcap hb12 hb23
  go_wp2_with fail
  refine HTOLD.out.mono ?_
  rintro e w4 ⟨a4, c4, rfl, hrow4, hb34⟩
  have HSAME := Sh.mk (same_ok w4 a4 a2 c4 c2 L M (fms_own hrow4 rfl (fun f hf => (((HF3.out.ok f hf).below hb34).mono hb34.size)) (Nat.le_refl _)) ((HG.out.below hb34).mono hb34.size) HLM.out HLEN.out HBOD.out)
  have HB34 := Sh.mk hb34
  clear hrow4 hb34 HTOLD HG
  go_wp2_with fail
  refine HSAME.out.mono ?_
  rintro e w5 ⟨rfl, hb45⟩
  have HB35 := Sh.mk (HB34.out.trans (hb45.mono HB34.out.size))
  obtain ⟨C, e2, hLC, hC, hid, hk3, hl6⟩ := frs_split HL.out
  have hwx := (inr_int (inr_of hx)).2.1
  have hwy := (inr_int (inr_of hy)).2.1
  have hF5 : FmsAt w5 w5.heap.size a L := (HF3.out.below HB35.out).mono HB35.out.size
  have hgat := gather_some w5 a c C e2 (hLC ▸ hF5) (by have := HLEN.out; rw [hLC] at this; simp at this; omega) (by have := HCAP.out; rw [hLC] at this; simpa using this) (hLC ▸ HBOD.out)
  obtain ⟨hrv, hre⟩ := ge_frs hC hid hk3 hl6 h0 h1 he0 he1 hwx hwy
  rw [hrv, hre, show C.length + 1 = L.length by rw [hLC]; simp] at hgat
  have HGAT := Sh.mk hgat
  clear hgat hrv hre hF5 hLC hC hid hk3 hl6 hb45 HSAME hwx hwy
  go_wp2_with fail
  refine HGAT.out.mono ?_
  rintro e w6 ⟨rfl, hb56⟩
  obtain ⟨b13, hb13⟩ : ∃ b13, w6.heap.size = b13 := ⟨_, rfl⟩
  obtain ⟨w7, hw7⟩ : ∃ w7, w6.alloc (.cells #[.int .i64 0, .int .i64 0, .complex .f64 0 0, .string ⟨#[]⟩] 53) = w7 := ⟨_, rfl⟩
  have g13 : w7.heap[b13]? = some (.cells #[.int .i64 0, .int .i64 0, .complex .f64 0 0, .string ⟨#[]⟩] 53 (0, 0)) := by rw [← hw7, ← hb13]; exact heap_alloc_new _ _
  have hB67 : Below w6.heap.size w6 w7 := by rw [← hw7]; exact (Below.refl _ _).alloc (Nat.le_refl _) _
  obtain ⟨w8, z1, -, z3, z4⟩ := Rw.put_row (P := Try.prog) (cs := [.int .i64 id, .int .i64 er, .complex .f64 (fl (wi x)) (fl (wi y)), .string s]) g13 rfl (by simp [Value.oneCell']) Try.underlying53 rfl sizeRep
  have hB68 : Below w6.heap.size w6 w8 := hB67.trans (z3.below (B := w6.heap.size) hB67.size (fun i hi e => by omega))
  have hB18 : Below w1.heap.size w1 w8 := by
    have h3 := HB13.out.trans (HB35.out.mono HB13.out.size)
    have h4 := h3.trans (hb56.mono h3.size)
    exact h4.trans (hB68.mono h4.size)
  have HB18 := Sh.mk hB18
  have HZ8 := Sh.mk z4
  clear g13 hB67 z3 z4 hB68 hB18 hb56
  go_upto_region 12 with ((with_reducible refine Rw.at_store 13 57 ?_); (try simp only [hb13, hw7]); refine Rw.wpList_put rfl 53 (.tmp 13) (.tmp 57) rfl rfl rfl z1 ?_)
  clear z1 hb13 hw7
  go_wp2_with fail
  refine (QUIT.out w8 (HB1.out.trans (HB18.out.mono HB1.out.size))).mono ?_
  rintro e w9 ⟨rfl, hb89, h9⟩
  have y13 := (hb89.block b13 (lt_of_heap HZ8.out)).trans HZ8.out
  have hb19 := HB18.out.trans (hb89.mono HB18.out.size)
  have y7 := (hb19.block b7 HB71.out).trans HZ4.out
  have r0_ : w9.cell? ⟨b13, 0, none⟩ = some (.int .i64 id) := (blk_cell y13 0).trans rfl
  have r1_ : w9.cell? ⟨b13, 1, none⟩ = some (.int .i64 er) := (blk_cell y13 1).trans rfl
  have r2_ : w9.cell? ⟨b13, 2, none⟩ = some (.complex .f64 (fl (wi x)) (fl (wi y))) := (blk_cell y13 2).trans rfl
  have r3_ : w9.cell? ⟨b13, 3, none⟩ = some (.string s) := (blk_cell y13 3).trans rfl
  have s0_ : w9.cell? ⟨b7, 0, none⟩ = some (.int .i64 id) := (blk_cell y7 0).trans rfl
  have s1_ : w9.cell? ⟨b7, 1, none⟩ = some (.int .i64 er) := (blk_cell y7 1).trans rfl
  have s2_ : w9.cell? ⟨b7, 2, none⟩ = some (.complex .f64 x y) := (blk_cell y7 2).trans rfl
  obtain ⟨ix, iy⟩ := And.intro (inr_int (inr_of hx)) (inr_int (inr_of hy))
  have HS01 := Sh.mk (same01_calls (fl (wi x)) (fl (wi y)) x y w9 (fl_self _ (by have := ix.2.1; omega)) (fl_self _ (by have := iy.2.1; omega)) ix.2.2 iy.2.2 (wh_eq hx) (wh_eq hy))
  clear y13 y7 hb19 hb89 ix iy hx hy
  go_wp2_with fail
  refine HS01.out.mono ?_
  rintro e w10 ⟨rfl, hw10⟩
  rw [hw10]
  clear hw10
  go_wp2_with fail
  go_ret
  exact ⟨rfl, h9⟩
end Go.Proofs.Ytgnepppncmjagaa.Gt
