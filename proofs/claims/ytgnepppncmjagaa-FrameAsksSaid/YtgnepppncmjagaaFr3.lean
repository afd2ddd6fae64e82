/- headgateref23.Asked. -/
import Derived.Test.YtgnepppncmjagaaPureAsks
namespace Go.Proofs.Ytgnepppncmjagaa.Fr
open Go Go.RowKit Hp Rd Go.Proofs.YtgnepppncmjagaaW.PrintWords Go.Proofs.YtgnepppncmjagaaW.PrintLast Go.Proofs.Ytgnepppncmjagaa.Print
abbrev GO (id kind : Int) (A0 : Option Addr) (n c : Nat) : Obj := .cells #[.int .i64 id, .int .i64 kind, .slice A0 n c] 29 (0, 0)
theorem div_bits (b : Int) (h0 : 0 ≤ b) (h7 : b ≤ 7) : (Int.tmod b 2 == 1) = (b % 2 == 1) ∧ ((IntKind.u8.wrap (Int.tdiv b 2)).tmod 2 == 1) = (b / 2 % 2 == 1) ∧ (IntKind.u8.wrap (Int.tdiv b 4) == 1) = (b / 4 == 1) := by
  obtain ⟨n, rfl⟩ := Int.eq_ofNat_of_zero_le h0
  have : ∀ n : Fin 8, (Int.tmod ((n.val : Nat) : Int) 2 == 1) = (((n.val : Nat) : Int) % 2 == 1) ∧ ((IntKind.u8.wrap (Int.tdiv ((n.val : Nat) : Int) 2)).tmod 2 == 1) = (((n.val : Nat) : Int) / 2 % 2 == 1) ∧ (IntKind.u8.wrap (Int.tdiv ((n.val : Nat) : Int) 4) == 1) = (((n.val : Nat) : Int) / 4 == 1) := by decide +kernel
  exact this ⟨n, by omega⟩
theorem nums4 (n L : Nat) (hn : n ≤ 65535) (h : n + 4 ≤ L) : ∃ m4 : Int, 4 + (n : Int) = m4 ∧ IntKind.i64.wrap (4 + (n : Int)) = m4 ∧ wrap64 (4 + (n : Int)) = m4 ∧ 0 ≤ m4 ∧ m4 ≤ (L : Int) ∧ m4.toNat = 4 + n :=
  ⟨_, rfl, by rw [IntKind.wrap_i64]; omega, by unfold wrap64; omega, by omega, by omega, by omega⟩
theorem wrap_byte (k : Nat) (h : (k : Int) ≤ 255) : wrap64 (k : Int) = (k : Int) := by unfold wrap64; omega
theorem toNat3 {n : Nat} {m : Int} (h : 3 + (n : Int) = m) : m.toNat = 3 + n := by omega
theorem lt3 {n L : Nat} {m m4 : Int} (h : 3 + (n : Int) = m) (h4 : 4 + (n : Int) = m4) (hl : m4 ≤ (L : Int)) : m < (L : Int) := by omega
theorem nums1 (n L c : Nat) (hn : n ≤ 255) (h : n + 1 ≤ L) (hc : L ≤ c) : ∃ m : Int, 1 + (n : Int) = m ∧ IntKind.i64.wrap (1 + (n : Int)) = m ∧ wrap64 (1 + (n : Int)) = m ∧ (0 : Int) ≤ m ∧ m ≤ (L : Int) ∧ m.toNat = 1 + n ∧ (1 : Int) ≤ m ∧ m ≤ (c : Int) ∧ max m 0 = m ∧ m.toNat - 1 = n :=
  ⟨_, rfl, by rw [IntKind.wrap_i64]; omega, by unfold wrap64; omega, by omega, by omega, by omega, by omega, by omega, by omega, by omega⟩
theorem rl_cons (k : Nat) (x : Int) (l : List Int) (fs : List (List Int)) : rl (k + 1) (x :: l) fs = if l.length < x.toNat then none else rl k (l.drop x.toNat) (fs ++ [l.take x.toNat]) := rfl
theorem wrap_up (i k : Nat) {g : Nat} (h : (k : Int) ≤ 255) (hi : i + (g + 1) = k) : wrap64 ((i : Int) + 1) = ((i + 1 : Nat) : Int) := by unfold wrap64; omega
theorem sub_up {L m n : Nat} (h : L = n + 1) : L - (1 + m) = n - m := by omega
theorem sub_all {c m : Nat} (h : c = m) : c - m = 0 := by omega
theorem refd_four (id x0 x1 x2 x3 : Int) (rs : List Int) : refd id 1 (x0 :: x1 :: x2 :: x3 :: rs) = if x0 > 7 ∨ id < 0 ∨ id > 65535 ∨ (x0 :: x1 :: x2 :: x3 :: rs).length > 4096 then none else if rs.length < (256 * x1 + x2).toNat then none else match (x3 :: rs).drop (256 * x1 + x2).toNat with
      | [] => none
      | c :: s => (rl c.toNat s []).map fun fs => ((x3 :: rs).take (256 * x1 + x2).toNat, x0, fs) := by
  show (if (1 : Int) ≠ 1 ∨ x0 > 7 ∨ id < 0 ∨ id > 65535 ∨ rs.length + 4 > 4096 then none else _) = _
  by_cases h : x0 > 7 ∨ id < 0 ∨ id > 65535 ∨ rs.length + 4 > 4096
  · rw [if_pos (Or.inr h)]
    exact (if_pos h).symm
  · rw [if_neg (fun e => e.elim (fun e => e rfl) h)]
    exact (if_neg h).symm
set_option maxHeartbeats 4000000 in
set_option maxRecDepth 100000 in
theorem refasked_ok {w : World} {A0 : Option Addr} {c0 : Nat} {l : List Int} (id kind : Int) (hB : Bytes w A0 l) (hbl : bytes l) (hc : l.length ≤ c0) (hA : 0 < l.length → ∀ ad, A0 = some ad → ad.block < w.heap.size) (hl : l.length ≤ 1000000000) :
    Calls Try.prog 19 #[.agg #[.int .i64 id, .int .i64 kind, .slice A0 l.length c0]] w fun e w' => ReqIs id (refd id kind l) e w' ∧ Below w.heap.size w w' := by
  have mixed : Try.prog.follows Departure.mixedOrders = true := by kernel_rfl
  obtain ⟨r, hr⟩ : ∃ r, refd id kind l = r := ⟨_, rfl⟩
  rw [hr]
  have HR := Sh.mk hr
  clear hr
  go_enter Try.func19, Try.ntmps19
  obtain ⟨fb, hfb⟩ : ∃ fb, w.heap.size = fb := ⟨_, rfl⟩
  go_upto_region 1 with (fail)
  obtain ⟨wA, hwA⟩ : ∃ wA, ((w.alloc (.cells #[.int .i64 id, .int .i64 kind, .slice A0 l.length c0] 29)).alloc (.cells #[.int .i64 0, .string ⟨#[]⟩, .bool false, .bool false, .bool false, .slice none 0 0] 36)) = wA := ⟨_, rfl⟩
  have hb1 : wA.heap[fb]? = some (GO id kind A0 l.length c0) := by
    rw [← hwA, ← hfb]
    exact (Below.heap_alloc _ _ _ (by simp)).trans (heap_alloc_new w _)
  have hb2 : wA.heap[fb + 1]? = some ZO := by
    rw [← hwA, ← hfb]
    have := heap_alloc_new (w.alloc (.cells #[.int .i64 id, .int .i64 kind, .slice A0 l.length c0] 29)) (.cells #[.int .i64 0, .string ⟨#[]⟩, .bool false, .bool false, .bool false, .slice none 0 0] 36)
    rw [World.size_alloc] at this
    exact this
  have hBw : Below w.heap.size w wA := by rw [← hwA]; exact ((Below.refl _ _).alloc (Nat.le_refl _) _).alloc (by simp) _
  have hsA : wA.heap.size = fb + 2 := by rw [← hwA, ← hfb]; simp
  rw [hwA]
  clear hwA
  have HSA := Sh.mk hsA
  have HFB := Sh.mk hfb
  have hBA := hB.below hBw
  clear hsA hfb
  obtain ⟨wz, z1, z2, z3, -⟩ := Rw.put_row (P := Try.prog) (cs := [.int .i64 0, .string ⟨#[]⟩, .bool false, .bool false, .bool false, .slice none 0 0]) hb2 rfl (by decide) Try.underlying36 rfl sizeReq
  have hBz := hBw.trans (z3.below (B := w.heap.size) hBw.size (fun i hi e => by have := HFB.out; omega))
  have c0_ : wA.cell? ⟨fb, 0, none⟩ = some (.int .i64 id) := (blk_cell hb1 0).trans rfl
  have c1_ : wA.cell? ⟨fb, 1, none⟩ = some (.int .i64 kind) := (blk_cell hb1 1).trans rfl
  have c2_ : wA.cell? ⟨fb, 2, none⟩ = some (.slice A0 l.length c0) := (blk_cell hb1 2).trans rfl
  by_cases hk : kind = 1
  rotate_left
  · have hk' : (kind == 1) = false := by simpa using hk
    have hr : r = none := by
      rw [← HR.out]
      unfold refd
      split
      · rw [if_pos (.inl hk)]
      · rfl
    subst hr
    go_wp2_with ((with_reducible refine Rw.at_store 2 41 ?_); refine Rw.wpList_put rfl 36 (.tmp 2) (.tmp 41) rfl rfl rfl z1 ?_)
    (try simp only [Exit.inBlock, Exit.then]); refine bodyPost_ret (Rw.ret_cell rfl rfl rfl z2) rfl ?_
    exact ⟨rfl, hBz⟩
  subst hk
  by_cases h4 : (l.length : Int) < 4
  · have hr : r = none := by
      rw [← HR.out]
      match l, h4 with
      | [], _ => rfl
      | [_], _ => rfl
      | [_, _], _ => rfl
      | [_, _, _], _ => rfl
      | _ :: _ :: _ :: _ :: r, h => simp at h; omega
    subst hr
    go_wp2_with ((with_reducible refine Rw.at_store 2 41 ?_); refine Rw.wpList_put rfl 36 (.tmp 2) (.tmp 41) rfl rfl rfl z1 ?_)
    (try simp only [Exit.inBlock, Exit.then]); refine bodyPost_ret (Rw.ret_cell rfl rfl rfl z2) rfl ?_
    exact ⟨rfl, hBz⟩
  obtain ⟨x0, x1, x2, x3, rs, hls⟩ : ∃ x0 x1 x2 x3 rs, l = x0 :: x1 :: x2 :: x3 :: rs := by
    match l, h4 with
    | [], h => simp at h
    | [_], h => simp at h
    | [_, _], h => simp at h
    | [_, _, _], h => simp at h
    | x0 :: x1 :: x2 :: x3 :: r, h => exact ⟨_, _, _, _, _, rfl⟩
  obtain ⟨ad, rfl, hcs⟩ := hBA (by omega)
  have d0_ : wA.cell? ad = some (.int .u8 x0) := hcs 0 x0 (by rw [hls]; rfl)
  have d1_ : wA.cell? ⟨ad.block, ad.off + 1, none⟩ = some (.int .u8 x1) := hcs 1 x1 (by rw [hls]; rfl)
  have d2_ : wA.cell? ⟨ad.block, ad.off + 2, none⟩ = some (.int .u8 x2) := hcs 2 x2 (by rw [hls]; rfl)
  have q0 : 0 < l.length := by omega
  have q1 : (1 : Int) < (l.length : Int) := by omega
  have q2 : (2 : Int) < (l.length : Int) := by omega
  have HLS := Sh.mk hls
  have hx0 := hbl x0 (by rw [hls]; simp)
  have hx1 := hbl x1 (by rw [hls]; simp)
  have hx2 := hbl x2 (by rw [hls]; simp)
  have hrl := refd_four id x0 x1 x2 x3 rs
  rw [← hls] at hrl
  clear hls
  by_cases h7 : (7 : Int) < x0
  · have hr : r = none := by rw [← HR.out, hrl, if_pos (.inl h7)]
    subst hr
    clear d1_ d2_ hcs
    go_wp2_with ((with_reducible refine Rw.at_store 2 41 ?_); refine Rw.wpList_put rfl 36 (.tmp 2) (.tmp 41) rfl rfl rfl z1 ?_)
    (try simp only [Exit.inBlock, Exit.then]); refine bodyPost_ret (Rw.ret_cell rfl rfl rfl z2) rfl ?_
    exact ⟨rfl, hBz⟩
  by_cases h0 : id < 0
  · have hr : r = none := by rw [← HR.out, hrl, if_pos (.inr (.inl h0))]
    subst hr
    clear d1_ d2_ hcs
    go_wp2_with ((with_reducible refine Rw.at_store 2 41 ?_); refine Rw.wpList_put rfl 36 (.tmp 2) (.tmp 41) rfl rfl rfl z1 ?_)
    (try simp only [Exit.inBlock, Exit.then]); refine bodyPost_ret (Rw.ret_cell rfl rfl rfl z2) rfl ?_
    exact ⟨rfl, hBz⟩
  by_cases h5 : (65535 : Int) < id
  · have hr : r = none := by rw [← HR.out, hrl, if_pos (.inr (.inr (.inl h5)))]
    subst hr
    clear d1_ d2_ hcs
    go_wp2_with ((with_reducible refine Rw.at_store 2 41 ?_); refine Rw.wpList_put rfl 36 (.tmp 2) (.tmp 41) rfl rfl rfl z1 ?_)
    (try simp only [Exit.inBlock, Exit.then]); refine bodyPost_ret (Rw.ret_cell rfl rfl rfl z2) rfl ?_
    exact ⟨rfl, hBz⟩
  by_cases h6 : (4096 : Int) < (l.length : Int)
  · have hr : r = none := by rw [← HR.out, hrl, if_pos (.inr (.inr (.inr (by omega))))]
    subst hr
    clear d1_ d2_ hcs
    go_wp2_with ((with_reducible refine Rw.at_store 2 41 ?_); refine Rw.wpList_put rfl 36 (.tmp 2) (.tmp 41) rfl rfl rfl z1 ?_)
    (try simp only [Exit.inBlock, Exit.then]); refine bodyPost_ret (Rw.ret_cell rfl rfl rfl z2) rfl ?_
    exact ⟨rfl, hBz⟩
  rw [if_neg (by omega)] at hrl
  obtain ⟨n, hn⟩ := Int.eq_ofNat_of_zero_le (show 0 ≤ 256 * x1 + x2 by omega)
  rw [hn, Int.toNat_natCast] at hrl
  have HN := Sh.mk (show n ≤ 65535 by omega)
  have e1_ : wrap64 x1 = x1 := by unfold wrap64; omega
  have e2_ : wrap64 x2 = x2 := by unfold wrap64; omega
  have e3_ : wrap64 (256 * x1) = 256 * x1 := by unfold wrap64; omega
  have e4_ : wrap64 (256 * x1 + x2) = (n : Int) := by unfold wrap64; omega
  have e5_ : wrap64 ((l.length : Int) - 4) = (l.length : Int) - 4 := by unfold wrap64; omega
  have HX := Sh.mk hn
  clear hn
  go_upto_region 4 with (fail)
  go_quiet (fail)
  obtain ⟨wB, hwB⟩ : ∃ wB, wA.drewN nq = wB := ⟨_, rfl⟩
  have gb1 : wB.heap[fb]? = some (GO id 1 (some ad) l.length c0) := by rw [← hwB]; exact hb1
  have gb2 : wB.heap[fb + 1]? = some ZO := by rw [← hwB]; exact hb2
  have gBw : Below w.heap.size w wB := by rw [← hwB]; exact ⟨hBw.os, hBw.tape, hBw.output, hBw.size, hBw.block⟩
  have gcs : ∀ (j : Nat) (x : Int), l[j]? = some x → wB.cell? (ad.add j) = some (.int .u8 x) := by rw [← hwB]; exact hcs
  have gsA : wB.heap.size = fb + 2 := by rw [← hwB]; exact HSA.out
  have HSB := Sh.mk gsA
  rw [hwB, HX.out]
  clear hwB hb1 hb2 hBw hcs z1 z2 z3 hBz c0_ c1_ c2_ d0_ d1_ d2_ gsA hBA wz HSA wA e1_ e2_ e3_ e4_ hx1 hx2
  obtain ⟨wz, z1, z2, z3, -⟩ := Rw.put_row (P := Try.prog) (cs := [.int .i64 0, .string ⟨#[]⟩, .bool false, .bool false, .bool false, .slice none 0 0]) gb2 rfl (by decide) Try.underlying36 rfl sizeReq
  have hBz := gBw.trans (z3.below (B := w.heap.size) gBw.size (fun i hi e => by have := HFB.out; omega))
  by_cases hs : (l.length : Int) - 4 < (n : Int)
  · have hr : r = none := by
      rw [← HR.out, hrl, if_pos]
      have := congrArg List.length HLS.out
      simp at this
      omega
    subst hr
    clear gcs
    go_wp2_with ((with_reducible refine Rw.at_store 2 57 ?_); refine Rw.wpList_put rfl 36 (.tmp 2) (.tmp 57) rfl rfl rfl z1 ?_)
    (try simp only [Exit.inBlock, Exit.then]); refine bodyPost_ret (Rw.ret_cell rfl rfl rfl z2) rfl ?_
    exact ⟨rfl, hBz⟩
  clear z1 z2 z3 hBz
  have hlen : l.length = rs.length + 4 := by rw [HLS.out]; rfl
  rw [if_neg (by omega)] at hrl
  go_upto_region 7 with (fail)
  obtain ⟨m3, hm3⟩ : ∃ m3 : Int, 3 + (n : Int) = m3 := ⟨_, rfl⟩
  have e6_ : IntKind.i64.wrap (3 + (n : Int)) = m3 := by rw [IntKind.wrap_i64]; have := HN.out; omega
  have k3_ : (3 : Int) ≤ m3 := by omega
  have k5_ : (0 : Int) ≤ m3 := by omega
  have k6_ : m3 ≤ (c0 : Int) := by omega
  have k7_ : max m3 0 = m3 := by omega
  have k8_ : m3.toNat - 3 = n := by omega
  have k9_ : ¬ (c0 = 3) := by omega
  obtain ⟨sc, hsc⟩ : ∃ sc, strOfNums ((x3 :: rs).take n) = sc := ⟨_, rfl⟩
  have hcvt : ∀ W, Bytes W (some ad) l → Sem.run Try.prog (convert 22 9 (.slice (some ⟨ad.block, ad.off + 3, none⟩) n (c0 - 3))) W = .ok (.string sc) W := fun W gB => by
    have hdr : Bytes W (some (ad.add 3)) ((x3 :: rs).take n) := fun h0 => ⟨_, rfl, fun j x hj => by
      obtain ⟨a, e, hcs⟩ := gB (by omega)
      cases e
      rw [add_add]
      refine hcs (3 + j) x ?_
      rw [List.getElem?_take] at hj
      split at hj
      · rw [HLS.out, Nat.add_comm]; exact hj
      · cases hj⟩
    have hstr := hdr.str (by rw [List.length_take]; have := HN.out; omega) (c0 - 3)
    rw [List.length_take, Nat.min_eq_left (by simp; omega), hsc] at hstr
    exact hstr
  have HLEN := Sh.mk hlen
  have HSC := Sh.mk hsc
  have HM3 := Sh.mk hm3
  have c0_ : wB.drew.cell? ⟨fb, 0, none⟩ = some (.int .i64 id) := (blk_cell gb1 0).trans rfl
  have d0_ : wB.drew.cell? ad = some (.int .u8 x0) := gcs 0 x0 (by rw [HLS.out]; rfl)
  have HCV := Sh.mk hcvt
  clear hm3 hsc hlen hcvt
  refine start_ (n := 26) (S := fun w' => w'.cell? ⟨fb, 0, none⟩ = some (.int .i64 id) ∧ w'.cell? ad = some (.int .u8 x0) ∧ Sem.run Try.prog (convert 22 9 (.slice (some ⟨ad.block, ad.off + 3, none⟩) n (c0 - 3))) w' = .ok (.string sc) w') (ds := [25]) #[false, false, false, false, false, false, false, false, false, false, false, false, false, false, false, false, false, false, false, false, false, false, false, false, false, false] (by kernel_rfl) rfl rfl (⟨c0_, d0_, HCV.out _ (fun _ => ⟨ad, rfl, gcs⟩)⟩) (fun hHeld => ?_)
  have gd1 : wB.drew.heap[fb]? = some (GO id 1 (some ad) l.length c0) := gb1
  have gd2 : wB.drew.heap[fb + 1]? = some ZO := gb2
  have gBd : Below w.heap.size w wB.drew := ⟨gBw.os, gBw.tape, gBw.output, gBw.size, gBw.block⟩
  have gcd : ∀ (j : Nat) (x : Int), l[j]? = some x → wB.drew.cell? (ad.add j) = some (.int .u8 x) := gcs
  have HSD : Sh (wB.drew.heap.size = fb + 2) := HSB
  generalize wB.drew = wd at gd1 gd2 gBd gcd HSD hHeld ⊢
  clear d0_ gb1 gb2 gBw gcs HSB
  refine pure_ (i := 0) (N := some 58) (v := ?_) (a' := ?_) #[true, false, false, false, false, false, false, false, false, false, false, false, false, false, false, false, false, false, false, false, false, false, false, false, false, false] rfl rfl (by kernel_rfl) (fun _ _ _ h => h) (Or.inl ⟨by rfl, ?_⟩) ?_ ?_
  rotate_left
  · intro w'
    go_simp
    with_reducible rfl
  rotate_left
  · simp only [Act.put, List.setIfInBounds_toArray, List.set_cons_zero, List.set_cons_succ]
    rfl
  refine take_ (i := 1) (N := some 59) (v := ?_) (a' := ?_) #[true, true, false, false, false, false, false, false, false, false, false, false, false, false, false, false, false, false, false, false, false, false, false, false, false, false] rfl rfl (by kernel_rfl) (fun _ _ _ h => h) (Or.inl ⟨by rfl, ?_⟩) hHeld ?_ ?_
  rotate_left
  · rintro w' ⟨s0, s1, s2⟩
    go_simp
    with_reducible rfl
  rotate_left
  · simp only [Act.put, List.setIfInBounds_toArray, List.set_cons_zero, List.set_cons_succ]
    rfl
  refine pure_ (i := 2) (N := some 60) (v := ?_) (a' := ?_) #[true, true, true, false, false, false, false, false, false, false, false, false, false, false, false, false, false, false, false, false, false, false, false, false, false, false] rfl rfl (by kernel_rfl) (fun _ _ _ h => h) (Or.inl ⟨by rfl, ?_⟩) ?_ ?_
  rotate_left
  · intro w'
    go_simp
    with_reducible rfl
  rotate_left
  · simp only [Act.put, List.setIfInBounds_toArray, List.set_cons_zero, List.set_cons_succ]
    rfl
  refine pure_ (i := 3) (N := some 61) (v := ?_) (a' := ?_) #[true, true, true, true, false, false, false, false, false, false, false, false, false, false, false, false, false, false, false, false, false, false, false, false, false, false] rfl rfl (by kernel_rfl) (fun _ _ _ h => h) (Or.inl ⟨by rfl, ?_⟩) ?_ ?_
  rotate_left
  · intro w'
    go_simp
    with_reducible rfl
  rotate_left
  · simp only [Act.put, List.setIfInBounds_toArray, List.set_cons_zero, List.set_cons_succ]
    rfl
  refine pure_ (i := 4) (N := some 62) (v := ?_) (a' := ?_) #[true, true, true, true, true, false, false, false, false, false, false, false, false, false, false, false, false, false, false, false, false, false, false, false, false, false] rfl rfl (by kernel_rfl) (fun _ _ _ h => h) (Or.inl ⟨by rfl, ?_⟩) ?_ ?_
  rotate_left
  · intro w'
    go_simp
    with_reducible rfl
  rotate_left
  · simp only [Act.put, List.setIfInBounds_toArray, List.set_cons_zero, List.set_cons_succ]
    rfl
  refine pure_ (i := 5) (N := some 63) (v := ?_) (a' := ?_) #[true, true, true, true, true, true, false, false, false, false, false, false, false, false, false, false, false, false, false, false, false, false, false, false, false, false] rfl rfl (by kernel_rfl) (fun _ _ _ h => h) (Or.inl ⟨by rfl, ?_⟩) ?_ ?_
  rotate_left
  · intro w'
    go_simp
    with_reducible rfl
  rotate_left
  · simp only [Act.put, List.setIfInBounds_toArray, List.set_cons_zero, List.set_cons_succ]
    rfl
  refine take_ (i := 6) (N := some 64) (v := ?_) (a' := ?_) #[true, true, true, true, true, true, true, false, false, false, false, false, false, false, false, false, false, false, false, false, false, false, false, false, false, false] rfl rfl (by kernel_rfl) (fun _ _ _ h => h) (Or.inl ⟨by rfl, ?_⟩) hHeld ?_ ?_
  rotate_left
  · rintro w' ⟨s0, s1, s2⟩
    go_simp
    with_reducible rfl
  rotate_left
  · simp only [Act.put, List.setIfInBounds_toArray, List.set_cons_zero, List.set_cons_succ]
    rfl
  refine pure_ (i := 7) (N := some 65) (v := ?_) (a' := ?_) #[true, true, true, true, true, true, true, true, false, false, false, false, false, false, false, false, false, false, false, false, false, false, false, false, false, false] rfl rfl (by kernel_rfl) (fun _ _ _ h => h) (Or.inl ⟨by rfl, ?_⟩) ?_ ?_
  rotate_left
  · intro w'
    go_simp
    with_reducible rfl
  rotate_left
  · simp only [Act.put, List.setIfInBounds_toArray, List.set_cons_zero, List.set_cons_succ]
    rfl
  refine pure_ (i := 8) (N := some 66) (v := ?_) (a' := ?_) #[true, true, true, true, true, true, true, true, true, false, false, false, false, false, false, false, false, false, false, false, false, false, false, false, false, false] rfl rfl (by kernel_rfl) (fun _ _ _ h => h) (Or.inl ⟨by rfl, ?_⟩) ?_ ?_
  rotate_left
  · intro w'
    go_simp
    with_reducible rfl
  rotate_left
  · simp only [Act.put, List.setIfInBounds_toArray, List.set_cons_zero, List.set_cons_succ]
    rfl
  refine take_ (i := 9) (N := some 67) (v := ?_) (a' := ?_) #[true, true, true, true, true, true, true, true, true, true, false, false, false, false, false, false, false, false, false, false, false, false, false, false, false, false] rfl rfl (by kernel_rfl) (fun _ _ _ h => h) (Or.inl ⟨by rfl, ?_⟩) hHeld ?_ ?_
  rotate_left
  · rintro w' ⟨s0, s1, s2⟩
    go_simp
    with_reducible rfl
  rotate_left
  · simp only [Act.put, List.setIfInBounds_toArray, List.set_cons_zero, List.set_cons_succ]
    rfl
  refine pure_ (i := 10) (N := some 68) (v := ?_) (a' := ?_) #[true, true, true, true, true, true, true, true, true, true, true, false, false, false, false, false, false, false, false, false, false, false, false, false, false, false] rfl rfl (by kernel_rfl) (fun _ _ _ h => h) (Or.inl ⟨by rfl, ?_⟩) ?_ ?_
  rotate_left
  · intro w'
    go_simp
    with_reducible rfl
  rotate_left
  · simp only [Act.put, List.setIfInBounds_toArray, List.set_cons_zero, List.set_cons_succ]
    rfl
  refine pure_ (i := 11) (N := some 69) (v := ?_) (a' := ?_) #[true, true, true, true, true, true, true, true, true, true, true, true, false, false, false, false, false, false, false, false, false, false, false, false, false, false] rfl rfl (by kernel_rfl) (fun _ _ _ h => h) (Or.inl ⟨by rfl, ?_⟩) ?_ ?_
  rotate_left
  · intro w'
    go_simp
    with_reducible rfl
  rotate_left
  · simp only [Act.put, List.setIfInBounds_toArray, List.set_cons_zero, List.set_cons_succ]
    rfl
  refine pure_ (i := 12) (N := some 70) (v := ?_) (a' := ?_) #[true, true, true, true, true, true, true, true, true, true, true, true, true, false, false, false, false, false, false, false, false, false, false, false, false, false] rfl rfl (by kernel_rfl) (fun _ _ _ h => h) (Or.inl ⟨by rfl, ?_⟩) ?_ ?_
  rotate_left
  · intro w'
    go_simp
    with_reducible rfl
  rotate_left
  · simp only [Act.put, List.setIfInBounds_toArray, List.set_cons_zero, List.set_cons_succ]
    rfl
  refine pure_ (i := 13) (N := some 71) (v := ?_) (a' := ?_) #[true, true, true, true, true, true, true, true, true, true, true, true, true, true, false, false, false, false, false, false, false, false, false, false, false, false] rfl rfl (by kernel_rfl) (fun _ _ _ h => h) (Or.inl ⟨by rfl, ?_⟩) ?_ ?_
  rotate_left
  · intro w'
    go_simp
    with_reducible rfl
  rotate_left
  · simp only [Act.put, List.setIfInBounds_toArray, List.set_cons_zero, List.set_cons_succ]
    rfl
  refine take_ (i := 14) (N := some 72) (v := ?_) (a' := ?_) #[true, true, true, true, true, true, true, true, true, true, true, true, true, true, true, false, false, false, false, false, false, false, false, false, false, false] rfl rfl (by kernel_rfl) (fun _ _ _ h => h) (Or.inl ⟨by rfl, ?_⟩) hHeld ?_ ?_
  rotate_left
  · rintro w' ⟨s0, s1, s2⟩
    go_simp
    with_reducible rfl
  rotate_left
  · simp only [Act.put, List.setIfInBounds_toArray, List.set_cons_zero, List.set_cons_succ]
    rfl
  refine pure_ (i := 15) (N := some 73) (v := ?_) (a' := ?_) #[true, true, true, true, true, true, true, true, true, true, true, true, true, true, true, true, false, false, false, false, false, false, false, false, false, false] rfl rfl (by kernel_rfl) (fun _ _ _ h => h) (Or.inl ⟨by rfl, ?_⟩) ?_ ?_
  rotate_left
  · intro w'
    go_simp
    with_reducible rfl
  rotate_left
  · simp only [Act.put, List.setIfInBounds_toArray, List.set_cons_zero, List.set_cons_succ]
    rfl
  refine pure_ (i := 16) (N := some 74) (v := ?_) (a' := ?_) #[true, true, true, true, true, true, true, true, true, true, true, true, true, true, true, true, true, false, false, false, false, false, false, false, false, false] rfl rfl (by kernel_rfl) (fun _ _ _ h => h) (Or.inl ⟨by rfl, ?_⟩) ?_ ?_
  rotate_left
  · intro w'
    go_simp
    with_reducible rfl
  rotate_left
  · simp only [Act.put, List.setIfInBounds_toArray, List.set_cons_zero, List.set_cons_succ]
    rfl
  refine pure_ (i := 17) (N := some 75) (v := ?_) (a' := ?_) #[true, true, true, true, true, true, true, true, true, true, true, true, true, true, true, true, true, true, false, false, false, false, false, false, false, false] rfl rfl (by kernel_rfl) (fun _ _ _ h => h) (Or.inl ⟨by rfl, ?_⟩) ?_ ?_
  rotate_left
  · intro w'
    go_simp
    with_reducible rfl
  rotate_left
  · simp only [Act.put, List.setIfInBounds_toArray, List.set_cons_zero, List.set_cons_succ]
    rfl
  refine pure_ (i := 18) (N := some 76) (v := ?_) (a' := ?_) #[true, true, true, true, true, true, true, true, true, true, true, true, true, true, true, true, true, true, true, false, false, false, false, false, false, false] rfl rfl (by kernel_rfl) (fun _ _ _ h => h) (Or.inl ⟨by rfl, ?_⟩) ?_ ?_
  rotate_left
  · intro w'
    go_simp
    with_reducible rfl
  rotate_left
  · simp only [Act.put, List.setIfInBounds_toArray, List.set_cons_zero, List.set_cons_succ]
    rfl
  refine pure_ (i := 19) (N := some 77) (v := ?_) (a' := ?_) #[true, true, true, true, true, true, true, true, true, true, true, true, true, true, true, true, true, true, true, true, false, false, false, false, false, false] rfl rfl (by kernel_rfl) (fun _ _ _ h => h) (Or.inl ⟨by rfl, ?_⟩) ?_ ?_
  rotate_left
  · intro w'
    go_simp
    with_reducible rfl
  rotate_left
  · simp only [Act.put, List.setIfInBounds_toArray, List.set_cons_zero, List.set_cons_succ]
    rfl
  refine take_ (i := 20) (N := some 78) (v := ?_) (a' := ?_) #[true, true, true, true, true, true, true, true, true, true, true, true, true, true, true, true, true, true, true, true, true, false, false, false, false, false] rfl rfl (by kernel_rfl) (fun _ _ _ h => h) (Or.inl ⟨by rfl, ?_⟩) hHeld ?_ ?_
  rotate_left
  · rintro w' ⟨s0, s1, s2⟩
    go_simp
    with_reducible rfl
  rotate_left
  · simp only [Act.put, List.setIfInBounds_toArray, List.set_cons_zero, List.set_cons_succ]
    rfl
  refine pure_ (i := 21) (N := some 79) (v := ?_) (a' := ?_) #[true, true, true, true, true, true, true, true, true, true, true, true, true, true, true, true, true, true, true, true, true, true, false, false, false, false] rfl rfl (by kernel_rfl) (fun _ _ _ h => h) (Or.inl ⟨by rfl, ?_⟩) ?_ ?_
  rotate_left
  · intro w'
    go_simp
    with_reducible rfl
  rotate_left
  · simp only [Act.put, List.setIfInBounds_toArray, List.set_cons_zero, List.set_cons_succ]
    rfl
  refine pure_ (i := 22) (N := some 80) (v := ?_) (a' := ?_) #[true, true, true, true, true, true, true, true, true, true, true, true, true, true, true, true, true, true, true, true, true, true, true, false, false, false] rfl rfl (by kernel_rfl) (fun _ _ _ h => h) (Or.inl ⟨by rfl, ?_⟩) ?_ ?_
  rotate_left
  · intro w'
    go_simp
    with_reducible rfl
  rotate_left
  · simp only [Act.put, List.setIfInBounds_toArray, List.set_cons_zero, List.set_cons_succ]
    rfl
  refine pure_ (i := 23) (N := some 81) (v := ?_) (a' := ?_) #[true, true, true, true, true, true, true, true, true, true, true, true, true, true, true, true, true, true, true, true, true, true, true, true, false, false] rfl rfl (by kernel_rfl) (fun _ _ _ h => h) (Or.inl ⟨by rfl, ?_⟩) ?_ ?_
  rotate_left
  · intro w'
    go_simp
    with_reducible rfl
  rotate_left
  · simp only [Act.put, List.setIfInBounds_toArray, List.set_cons_zero, List.set_cons_succ]
    rfl
  have hsd : wd.heap.size = fb + 2 := HSD.out
  have hK24 : Below wd.heap.size wd (wd.alloc ZO) := (Below.refl _ _).alloc (Nat.le_refl _) _
  have gB24 : Bytes (wd.alloc ZO) (some ad) l := Bytes.below (fun _ => ⟨ad, rfl, gcd⟩) hK24
  have gr24 : (wd.alloc ZO).heap[fb + 2]? = some ZO := by rw [← hsd]; exact heap_alloc_new _ _
  have gf24 := alloc_old (rfl : wd.alloc ZO = _) gd1
  have gz24 := alloc_old (rfl : wd.alloc ZO = _) gd2
  have gcell24 : (wd.alloc ZO).cell? ad = some (.int .u8 x0) := by
    obtain ⟨a, e, hcs⟩ := gB24 (by omega)
    cases e
    exact hcs 0 x0 (by rw [HLS.out]; rfl)
  refine one_val (i := 24) (N := some 6) (v := .pointer (some ⟨fb + 2, 0, none⟩)) (w' := wd.alloc ZO) (a' := ?_) #[true, true, true, true, true, true, true, true, true, true, true, true, true, true, true, true, true, true, true, true, true, true, true, true, true, false] rfl rfl (by kernel_rfl) (by decide) (by rfl) (by go_simp) (⟨(blk_cell gf24 0).trans rfl, gcell24, HCV.out _ gB24⟩) ?_ ?_
  rotate_left
  · simp only [Act.put, List.setIfInBounds_toArray, List.set_cons_zero, List.set_cons_succ]
    rfl
  obtain ⟨wy, y1, -, y3, y4⟩ := Rw.put_row (P := Try.prog) (cs := [.int .i64 id, .string sc, .bool (Int.tmod x0 2 == 1), .bool ((IntKind.u8.wrap (Int.tdiv x0 2)).tmod 2 == 1), .bool (IntKind.u8.wrap (Int.tdiv x0 4) == 1), .slice none 0 0]) gr24 rfl (by simp [Value.oneCell']) Try.underlying36 rfl sizeReq
  refine last_skip (i := 25) (w' := wy) #[true, true, true, true, true, true, true, true, true, true, true, true, true, true, true, true, true, true, true, true, true, true, true, true, true, true] rfl rfl (by kernel_rfl) (by decide) (by rfl) (Rw.exec_put 36 (.tmp 6) (.tmp 81) rfl (by rfl) (by rfl) y1) ?_
  refine done_ (by kernel_rfl) ?_
  obtain ⟨v1, v2, v4⟩ := div_bits x0 hx0.1 (by omega)
  rw [v1, v2, v4] at y4
  have hKy : Below wd.heap.size wd wy := hK24.trans (y3.below (B := wd.heap.size) (by simp) (fun i hi e => by omega))
  have gB := Bytes.below (fun _ => ⟨ad, rfl, gcd⟩) hKy
  have gBy := gBd.trans (hKy.mono gBd.size)
  have gz := below_old hKy gd2
  have hsy : wy.heap.size ≥ fb + 3 := by have := y3.size; simp at this; omega
  obtain ⟨b1, b2, b4, hbits⟩ : ∃ b1 b2 b4, (x0 % 2 == 1) = b1 ∧ (x0 / 2 % 2 == 1) = b2 ∧ (x0 / 4 == 1) = b4 := ⟨_, _, _, rfl, rfl, rfl⟩
  rw [hbits.1, hbits.2.1, hbits.2.2] at y4
  have HBT := Sh.mk hbits
  clear hK24 gB24 gr24 gf24 gz24 gcell24 y1 y3 gd1 gd2 gBd gcd hKy hbits v1 v2 v4 hsd hHeld
  obtain ⟨c, s, hcs⟩ : ∃ c s, (x3 :: rs).drop n = c :: s := by
    cases hd : (x3 :: rs).drop n with
    | nil => rw [List.drop_eq_nil_iff] at hd; have := HLEN.out; simp at hd; omega
    | cons c s => exact ⟨c, s, rfl⟩
  rw [hcs] at hrl
  have hd3 : l.drop (3 + n) = c :: s := by
    rw [← List.drop_drop, HLS.out]
    exact hcs
  have hd4 : l.drop (4 + n) = s := by
    have := congrArg (List.drop 1) hd3
    rw [List.drop_drop] at this
    rw [show 4 + n = 3 + n + 1 by omega]
    exact this
  have hslen : s.length = l.length - (4 + n) := by rw [← hd4, List.length_drop]
  have hcmem : c ∈ l := List.mem_of_mem_drop (i := 3 + n) (by rw [hd3]; simp)
  obtain ⟨k, rfl⟩ := Int.eq_ofNat_of_zero_le (hbl c hcmem).1
  have hk255 := (hbl (k : Int) hcmem).2
  have hbs : bytes s := fun y hy => hbl y (List.mem_of_mem_drop (i := 4 + n) (by rw [hd4]; exact hy))
  have hB4 : Bytes wy (if c0 = 4 + n then some ad else some (ad.add (4 + n))) s := by
    have := gB.drop (4 + n) hc
    rw [hd4] at this
    simpa using this
  obtain ⟨m4, hm4, e7_, e8_, k1_, k2_, hm4'⟩ := nums4 n l.length HN.out (by have := HLEN.out; clear e5_ e6_ hs hx0 HM3; omega)
  have hm3' := toNat3 HM3.out
  have k4_ : m3 < (l.length : Int) := lt3 HM3.out hm4 k2_
  have dk_ : wy.cell? (ad.add m3.toNat) = some (.int .u8 (k : Int)) := by
    obtain ⟨a, e, hcs⟩ := gB (by omega)
    cases e
    rw [hm3']
    exact hcs (3 + n) k (by
      have := congrArg (fun x => x[0]?) hd3
      simpa using this)
  have HCS := Sh.mk hd4
  have HSL := Sh.mk hslen
  have HM4 := Sh.mk hm4
  clear hcs hd3 hd4 hslen hm4 hm3' k6_ k7_ k8_ k9_ gB q1 q2
  have E7 := Sh.mk e7_
  have E8 := Sh.mk e8_
  have K12 := Sh.mk (And.intro k1_ k2_)
  have HM4' := Sh.mk hm4'
  clear e7_ e8_ k1_ k2_ hm4'
  go_upto_region 9 with (fail)
  have e7_ := E7.out
  have e8_ := E8.out
  have k1_ := K12.out.1
  have k2_ := K12.out.2
  clear e6_ k3_ k4_ dk_
  have HRR : Sh (((rl k s []).map fun fs => ((x3 :: rs).take n, x0, fs)) = r) := ⟨by rw [← HR.out, hrl]; rfl⟩
  have hsc4 : s.length ≤ c0 - (4 + n) := by have := HSL.out; have := HLEN.out; clear e7_ e8_ e5_ hs hx0 HM3; omega
  go_upto_region 10 with (fail)
  rw [HM4'.out, ← HSL.out]
  obtain ⟨A4, hA4⟩ : ∃ A4, (if c0 = 4 + n then some ad else some (ad.add (4 + n))) = A4 := ⟨_, rfl⟩
  obtain ⟨c4, hc4⟩ : ∃ c4, c0 - (4 + n) = c4 := ⟨_, rfl⟩
  rw [hA4, hc4]
  rw [hA4] at hB4
  rw [hc4] at hsc4
  have hAb4 : ∀ a, A4 = some a → a.block < w.heap.size := fun a e => by
    rw [← hA4] at e
    have h0 := hA q0 ad rfl
    split at e
    · cases e; exact h0
    · cases e
      rw [show (ad.add (4 + n)).block = ad.block by unfold Addr.add; split <;> rfl]
      exact h0
  clear hA4 hc4 e7_ e8_ k1_ k2_ e5_ hs hrl hx0 E7 E8 K12 HM4 HM4' HSL
  go_upto_block 0 with (fail)
  obtain ⟨bs, hbs⟩ : ∃ bs, wy.heap.size = bs := ⟨_, rfl⟩
  have HBS := Sh.mk (show fb + 3 ≤ bs from by rw [← hbs]; exact hsy)
  have HWS := Sh.mk hbs
  have HK := Sh.mk hk255
  clear hbs hsy hk255
  have hsl : s.length ≤ l.length := by have := congrArg List.length HCS.out; rw [List.length_drop] at this; omega
  go_wp2_with fail
  go_loopg [4, 8, 9] k (fun kq v4 v8 v9 w' => ∃ (lk : List Int) (A : Option Addr) (c : Nat) (fs : List (List Int)) (fv : Value) (i : Nat), v4 = .slice A lk.length c ∧ v8 = .int .i64 (i : Int) ∧ Sh (i + kq = k ∧ rl k s [] = rl kq lk fs ∧ Bytes w' A lk ∧ lk.length ≤ c ∧ (∀ a, A = some a → a.block < w.heap.size) ∧ bytes lk ∧ lk.length ≤ l.length ∧ fs.length = i ∧ w'.heap[fb + 2]? = some (RO id sc b1 b2 b4 fv) ∧ w'.ownsRow bs 9 1 fv fs.length (fs.map fun x => .string (strOfNums x)) ∧ Kept (fun i => i = fb + 2) wy w'))
  case atStart => exact ⟨s, A4, c4, [], .slice none 0 0, 0, rfl, rfl, ⟨by omega, rfl, hB4, hsc4, hAb4, hbs, hsl, rfl, y4, World.ownsRow_nil _ _ _ _, Hp.Kept.refl _ _⟩⟩
  case round =>
    obtain ⟨lk, A, c, fs, fv, i, rfl, rfl, ⟨hik, hrl2, hBk, hcc, hAb, hblk, hll, hcnt, hRO, hOw, hKw⟩⟩ := hrel
    subst hcnt
    have gzw := kept_old hKw gz (by omega)
    have gBw := gBy.trans (hKw.below (B := w.heap.size) gBy.size (fun i hi e => by have := HFB.out; omega))
    clear gBy gz y4 hB4 hbs
    obtain ⟨wz, z1, z2, z3, -⟩ := Rw.put_row (P := Try.prog) (cs := [.int .i64 0, .string ⟨#[]⟩, .bool false, .bool false, .bool false, .slice none 0 0]) gzw rfl (by decide) Try.underlying36 rfl sizeReq
    have hBz := gBw.trans (z3.below (B := w.heap.size) gBw.size (fun i hi e => by have := HFB.out; omega))
    cases gk with
    | zero =>
      have k0_ : ¬ ((fs.length : Int) < (k : Int)) := by omega
      by_cases hlk : lk.length > 0
      · have kl_ : (0 : Int) < (lk.length : Int) := by omega
        have hr : r = none := by
          rw [← HRR.out, hrl2]
          unfold rl
          rw [if_pos hlk]
          rfl
        subst hr
        clear hRO hOw hBk
        go_wp2_with ((with_reducible refine Rw.at_store 2 132 ?_); refine Rw.wpList_put rfl 36 (.tmp 2) (.tmp 132) rfl rfl rfl z1 ?_)
        (try simp only [Exit.inBlock, Exit.then]); refine bodyPost_ret (Rw.ret_cell rfl rfl rfl z2) rfl ?_
        exact ⟨rfl, hBz⟩
      · have kl_ : ¬ (0 : Int) < (lk.length : Int) := by omega
        have hr : r = some ((x3 :: rs).take n, x0, fs) := by
          rw [← HRR.out, hrl2]
          unfold rl
          rw [if_neg hlk]
          rfl
        subst hr
        clear z1 z2 z3 hBz
        have hv1 : fv.oneCell' = true := by
          rcases hOw.2 with ⟨e, _⟩ | ⟨g, cap, cur, e, _⟩ <;> (rw [e]; rfl)
        obtain ⟨wy2, z1, z2, z3, -⟩ := Rw.put_row (P := Try.prog) (cs := [.int .i64 id, .string sc, .bool b1, .bool b2, .bool b4, fv]) gzw rfl (fun v hv => by simp at hv; rcases hv with rfl | rfl | rfl | rfl | rfl | rfl <;> first | rfl | exact hv1) Try.underlying36 rfl sizeReq
        have hld := run_loadAt_mid (P := Try.prog) wr (fb + 2) 0 36 [.int .i64 id, .string sc, .bool b1, .bool b2, .bool b4, fv] _ (Rw.blk_range hRO) Try.underlying36 rfl sizeReq
        have hBy := gBw.trans (z3.below (B := w.heap.size) gBw.size (fun i hi e => by have := HFB.out; omega))
        have hfin : ReqIs id (some ((x3 :: rs).take n, x0, fs)) (.returned (.tuple #[.agg #[.int .i64 id, .string sc, .bool b1, .bool b2, .bool b4, fv], .int .i64 0])) wy2 := by
          obtain ⟨g1, g2, g4⟩ := HBT.out
          have hOy := own_kept hOw z3 (fun i hi e => by
            have := (hOw.lt i hi).1
            have := HBS.out
            omega)
          rcases hOw.2 with ⟨e, h0⟩ | ⟨g, cap, cur, e, _, _, hnc, _, _⟩
          · subst e
            have hf0 : fs = [] := List.eq_nil_of_length_eq_zero h0
            subst hf0
            refine ⟨none, 0, ?_, Nat.le_refl _, fun h => absurd h (by simp)⟩
            rw [← g1, ← g2, ← g4, HSC.out]
            rfl
          · subst e
            refine ⟨some ⟨g, 0, none⟩, cap, ?_, hnc, fun _ => ⟨_, rfl, fun j x hj => ?_⟩⟩
            · rw [← g1, ← g2, ← g4, HSC.out]
            · refine hOy.cells (g := g) rfl j _ ?_
              rw [List.getElem?_map] at hj ⊢
              cases hq : fs[j]? with
              | none => rw [hq] at hj; cases hj
              | some y => rw [hq] at hj; cases hj; rfl
        clear hRO hOw hBk z3 gzw
        go_wp2_with (first | ((with_reducible refine Rw.at_store 2 133 ?_); refine Rw.wpList_put rfl 36 (.tmp 2) (.tmp 133) rfl rfl rfl z1 ?_) | ((with_reducible refine Rw.at_slot 133 ?_); refine Rw.wpList_get rfl 36 (.tmp 6) rfl rfl hld ?_))
        (try simp only [Exit.inBlock, Exit.then]); refine bodyPost_ret (Rw.ret_cell rfl rfl rfl z2) rfl ?_
        exact ⟨hfin, hBy⟩
    | succ g1_ =>
      have k0_ : (fs.length : Int) < (k : Int) := by omega
      have HIK := Sh.mk hik
      clear hik
      cases lk with
      | nil =>
        have hr : r = none := by
          rw [← HRR.out, hrl2]
          rfl
        subst hr
        clear hRO hOw hBk
        go_wp2_with ((with_reducible refine Rw.at_store 2 110 ?_); refine Rw.wpList_put rfl 36 (.tmp 2) (.tmp 110) rfl rfl rfl z1 ?_)
        (try simp only [Exit.inBlock, Exit.then]); refine bodyPost_ret (Rw.ret_cell rfl rfl rfl z2) rfl ?_
        exact ⟨rfl, hBz⟩
      | cons x t =>
        obtain ⟨a, rfl, hx_⟩ := hBk.head
        obtain ⟨m5, rfl⟩ := Int.eq_ofNat_of_zero_le (hblk x (by simp)).1
        have hm5 := (hblk (m5 : Int) (by simp)).2
        obtain ⟨L, hL⟩ : ∃ L, ((m5 : Int) :: t).length = L := ⟨_, rfl⟩
        have hL' : L = t.length + 1 := hL ▸ rfl
        rw [hL] at hcc hll ⊢
        have kz_ : ((L : Int) == 0) = false := by simp; omega
        have kq_ : 0 < L := by omega
        have kw_ : wrap64 ((L : Int) - 1) = (L : Int) - 1 := by unfold wrap64; omega
        by_cases hlt : (L : Int) - 1 < (m5 : Int)
        · have hr : r = none := by
            rw [← HRR.out, hrl2]
            unfold rl
            rw [Int.toNat_natCast, if_pos (by omega)]
            rfl
          subst hr
          clear hRO hOw hBk
          go_wp2_with ((with_reducible refine Rw.at_store 2 110 ?_); refine Rw.wpList_put rfl 36 (.tmp 2) (.tmp 110) rfl rfl rfl z1 ?_)
          (try simp only [Exit.inBlock, Exit.then]); refine bodyPost_ret (Rw.ret_cell rfl rfl rfl z2) rfl ?_
          exact ⟨rfl, hBz⟩
        · have hrl3 : rl k s [] = rl g1_ (t.drop m5) (fs ++ [t.take m5]) := by
            rw [hrl2, rl_cons, Int.toNat_natCast, if_neg (by omega)]
          have hmt : m5 ≤ t.length := by omega
          obtain ⟨m6, hm6, j1_, j2_, j3_, j4_, hm6', j5_⟩ := nums1 m5 L c (by omega) (by omega) hcc
          have HL := Sh.mk hL'
          have HMT := Sh.mk hmt
          have HM6 := Sh.mk hm6'
          have HM5 := Sh.mk hm5
          have HJ := Sh.mk (And.intro j1_ (And.intro j2_ (And.intro j3_ (And.intro j4_ j5_))))
          clear z1 z2 z3 hBz hL' hrl2 hmt hm6 hm6' hm5 j1_ j2_ j3_ j4_ j5_
          go_upto_region 16 with (fail)
          have HF := Sh.mk hrl3
          clear hrl3
          obtain ⟨A1, hA1⟩ : ∃ A1, (if c = 1 then some a else some ⟨a.block, a.off + 1, none⟩) = A1 := ⟨_, rfl⟩
          have hdrop : ∀ W, Bytes W (some a) ((m5 : Int) :: t) → Bytes W A1 t := fun W gB => by
            have := gB.drop (c := c) 1 (by rw [hL]; exact hcc)
            rw [← hA1]
            exact this
          have hcvt : ∀ W, Bytes W (some a) ((m5 : Int) :: t) → Sem.run Try.prog (convert 22 9 (.slice A1 m5 (c - 1))) W = .ok (.string (strOfNums (t.take m5))) W := fun W gB => by
            have hstr := ((hdrop W gB).take m5).str (by rw [List.length_take]; have := HM5.out; omega) (c - 1)
            rw [List.length_take, Nat.min_eq_left HMT.out] at hstr
            exact hstr
          have HDR := Sh.mk hdrop
          have HCV2 := Sh.mk hcvt
          have HKW := Sh.mk hKw
          have HOW := Sh.mk hOw
          have tR : wr.drew.heap[fb + 2]? = some (RO id sc b1 b2 b4 fv) := hRO
          have tB : Bytes wr.drew (some a) ((m5 : Int) :: t) := hBk
          have tO : wr.drew.ownsRow bs 9 1 fv fs.length (fs.map fun x => .string (strOfNums x)) := hOw
          have tK := hKw.drew
          have tG : Below w.heap.size w wr.drew := ⟨gBw.os, gBw.tape, gBw.output, gBw.size, gBw.block⟩
          have j1_ := HJ.out.1
          have j3_ := HJ.out.2.2.1
          have j4_ := HJ.out.2.2.2.1
          have j5_ := HJ.out.2.2.2.2.1
          have j6_ := HJ.out.2.2.2.2.2.1
          have j7_ := HJ.out.2.2.2.2.2.2.1
          have j8_ := HJ.out.2.2.2.2.2.2.2
          clear hdrop hcvt hL HKW HOW
          refine start_ (n := 11) (S := fun w' => w'.cell? ⟨fb + 2, 5, none⟩ = some fv ∧ Sem.run Try.prog (convert 22 9 (.slice A1 m5 (c - 1))) w' = .ok (.string (strOfNums (t.take m5))) w') (ds := [10]) #[false, false, false, false, false, false, false, false, false, false, false] (by kernel_rfl) rfl rfl (⟨(blk_cell tR 5).trans rfl, HCV2.out _ tB⟩) (fun hHeld => ?_)
          generalize wr.drew = wd16 at tR tB tO tK tG hHeld ⊢
          clear hBk hRO hOw hKw gzw gBw hx_
          refine pure_ (i := 0) (N := some 115) (v := ?_) (a' := ?_) #[true, false, false, false, false, false, false, false, false, false, false] rfl rfl (by kernel_rfl) (fun _ _ _ h => h) (Or.inl ⟨by rfl, ?_⟩) ?_ ?_
          rotate_left
          · intro w'
            go_simp
            with_reducible rfl
          rotate_left
          · simp only [Act.put, List.setIfInBounds_toArray, List.set_cons_zero, List.set_cons_succ]
            rfl
          refine take_ (i := 1) (N := some 116) (v := ?_) (a' := ?_) #[true, true, false, false, false, false, false, false, false, false, false] rfl rfl (by kernel_rfl) (fun _ _ _ h => h) (Or.inl ⟨by rfl, ?_⟩) hHeld ?_ ?_
          rotate_left
          · rintro w' ⟨s0, s1⟩
            go_simp
            with_reducible rfl
          rotate_left
          · simp only [Act.put, List.setIfInBounds_toArray, List.set_cons_zero, List.set_cons_succ]
            rfl
          refine pure_ (i := 2) (N := some 117) (v := ?_) (a' := ?_) #[true, true, true, false, false, false, false, false, false, false, false] rfl rfl (by kernel_rfl) (fun _ _ _ h => h) (Or.inl ⟨by rfl, ?_⟩) ?_ ?_
          rotate_left
          · intro w'
            go_simp
            with_reducible rfl
          rotate_left
          · simp only [Act.put, List.setIfInBounds_toArray, List.set_cons_zero, List.set_cons_succ]
            rfl
          refine pure_ (i := 3) (N := some 118) (v := ?_) (a' := ?_) #[true, true, true, true, false, false, false, false, false, false, false] rfl rfl (by kernel_rfl) (fun _ _ _ h => h) (Or.inl ⟨by rfl, ?_⟩) ?_ ?_
          rotate_left
          · intro w'
            go_simp
            with_reducible rfl
          rotate_left
          · simp only [Act.put, List.setIfInBounds_toArray, List.set_cons_zero, List.set_cons_succ]
            rfl
          refine pure_ (i := 4) (N := some 119) (v := ?_) (a' := ?_) #[true, true, true, true, true, false, false, false, false, false, false] rfl rfl (by kernel_rfl) (fun _ _ _ h => h) (Or.inl ⟨by rfl, ?_⟩) ?_ ?_
          rotate_left
          · intro w'
            go_simp
            with_reducible rfl
          rotate_left
          · simp only [Act.put, List.setIfInBounds_toArray, List.set_cons_zero, List.set_cons_succ]
            rfl
          refine pure_ (i := 5) (N := some 120) (v := ?_) (a' := ?_) #[true, true, true, true, true, true, false, false, false, false, false] rfl rfl (by kernel_rfl) (fun _ _ _ h => h) (Or.inl ⟨by rfl, ?_⟩) ?_ ?_
          rotate_left
          · intro w'
            go_simp
            with_reducible rfl
          rotate_left
          · simp only [Act.put, List.setIfInBounds_toArray, List.set_cons_zero, List.set_cons_succ]
            rfl
          refine take_ (i := 6) (N := some 121) (v := ?_) (a' := ?_) #[true, true, true, true, true, true, true, false, false, false, false] rfl rfl (by kernel_rfl) (fun _ _ _ h => h) (Or.inl ⟨by rfl, ?_⟩) hHeld ?_ ?_
          rotate_left
          · rintro w' ⟨s0, s1⟩
            go_simp
            with_reducible rfl
          rotate_left
          · simp only [Act.put, List.setIfInBounds_toArray, List.set_cons_zero, List.set_cons_succ]
            rfl
          have hAl : Below wd16.heap.size wd16 (wd16.alloc (.cells #[.string (strOfNums (t.take m5))] 9)) := (Below.refl _ _).alloc (Nat.le_refl _) _
          have tR7 := below_old hAl tR
          have tB7 := tB.below hAl
          refine one_val (i := 7) (N := some 122) (v := .slice (some ⟨wd16.heap.size, 0, none⟩) 1 1) (w' := wd16.alloc (.cells #[.string (strOfNums (t.take m5))] 9)) (a' := ?_) #[true, true, true, true, true, true, true, true, false, false, false] rfl rfl (by kernel_rfl) (by decide) (by rfl) (by go_simp) (⟨(blk_cell tR7 5).trans rfl, HCV2.out _ tB7⟩) ?_ ?_
          rotate_left
          · simp only [Act.put, List.setIfInBounds_toArray, List.set_cons_zero, List.set_cons_succ]
            rfl
          have hbb : bs ≤ wd16.heap.size := by have := tK.size; have := HWS.out; omega
          obtain ⟨i0, hi0, hz0, hz1, hz2⟩ := info_parts info_str
          obtain ⟨v', we, hra, hOe, hge, -, hnew⟩ := Go.Proofs.Ytgnepppncmjagaa.Ow.run_append (P := Try.prog) (wd16.alloc (.cells #[.string (strOfNums (t.take m5))] 9)) bs 34 34 9 i0 (.string ⟨#[]⟩) 1 16 Try.underlying34 hi0 hz0 hz1 hz2 rfl (by decide) fv fs.length _ (tO.alloc _) ⟨wd16.heap.size, 0, none⟩ 1 1 [.string (strOfNums (t.take m5))] rfl (cell_one_new _ _ _) (by simp [Value.oneCell']) (by unfold maxLen; have := HK.out; have := HIK.out; omega) (by have := HK.out; have := HIK.out; omega) (by simp; omega)
          obtain ⟨g', cap', rfl⟩ := own_succ hOe
          have hrb' : ∀ k, fv.ownBlock = some k → bs ≤ k := fun k hk => (tO.lt k hk).1
          have hKe : Kept (fun i => fv.ownBlock = some i) (wd16.alloc (.cells #[.string (strOfNums (t.take m5))] 9)) we := (Hp.Kept.refl _ _).grown hge (fun k e => .inr e)
          have tRe : we.heap[fb + 2]? = some (RO id sc b1 b2 b4 fv) := kept_old hKe tR7 (fun e => by have := hrb' _ e; have := HBS.out; omega)
          have tBe : Bytes we (some a) ((m5 : Int) :: t) := tB7.kept hKe (fun _ ad2 e hs => by have := hAb ad2 e; have := hrb' _ hs; have := HBS.out; have := HFB.out; omega)
          refine one_val (i := 8) (N := some 123) (v := .slice (some ⟨g', 0, none⟩) (fs.length + 1) cap') (w' := we) (a' := ?_) #[true, true, true, true, true, true, true, true, true, false, false] rfl rfl (by kernel_rfl) (by decide) (by rfl) (exec_append rfl (by rfl) (by rfl) hra) (⟨(blk_cell tRe 5).trans rfl, HCV2.out _ tBe⟩) ?_ ?_
          rotate_left
          · simp only [Act.put, List.setIfInBounds_toArray, List.set_cons_zero, List.set_cons_succ]
            rfl
          refine pure_ (i := 9) (N := some 124) (v := ?_) (a' := ?_) #[true, true, true, true, true, true, true, true, true, true, false] rfl rfl (by kernel_rfl) (fun _ _ _ h => h) (Or.inl ⟨by rfl, ?_⟩) ?_ ?_
          rotate_left
          · intro w'
            go_simp
            with_reducible rfl
          rotate_left
          · simp only [Act.put, List.setIfInBounds_toArray, List.set_cons_zero, List.set_cons_succ]
            rfl
          have k5x_ : we.cell? ⟨fb + 2, 5, none⟩ = some fv := (blk_cell tRe 5).trans rfl
          have k5f_ := blk_frozen tRe 5
          refine last_skip (i := 10) (w' := we.setCell ⟨fb + 2, 5, none⟩ (.slice (some ⟨g', 0, none⟩) (fs.length + 1) cap')) #[true, true, true, true, true, true, true, true, true, true, true] rfl rfl (by kernel_rfl) (by decide) (by rfl) (by go_simp) ?_
          refine done_ (by kernel_rfl) ?_
          have hKs : Kept (fun i => i = fb + 2) we (we.setCell ⟨fb + 2, 5, none⟩ (.slice (some ⟨g', 0, none⟩) (fs.length + 1) cap')) := (Hp.Kept.refl (fun i => i = fb + 2) we).setCell (p := ⟨fb + 2, 5, none⟩) (.inr rfl) _
          have hK1 : Kept (fun i => fv.ownBlock = some i) wd16 we := (Hp.Kept.of_below hAl).trans hKe (fun i _ e => e)
          have hKt : Kept (fun i => i = fb + 2 ∨ bs ≤ i) wd16 (we.setCell ⟨fb + 2, 5, none⟩ (.slice (some ⟨g', 0, none⟩) (fs.length + 1) cap')) := (hK1.mono (S' := fun i => i = fb + 2 ∨ bs ≤ i) (fun i _ e => .inr (hrb' i e))).trans hKs (fun i _ e => .inl e)
          have hBt := tB.kept hKt (fun _ ad2 e hs => by have := hAb ad2 e; have := HBS.out; have := HFB.out; omega)
          have hB2 : Bytes (we.setCell ⟨fb + 2, 5, none⟩ (.slice (some ⟨g', 0, none⟩) (fs.length + 1) cap')) (if c = 1 + m5 then some a else some (a.add (1 + m5))) (t.drop m5) := by
            have := hBt.drop (c := c) (1 + m5) (by have := HL.out; simp; omega)
            rw [Nat.add_comm 1 m5, List.drop_succ_cons, Nat.add_comm m5 1] at this
            simpa using this
          have hKf : Kept (fun i => i = fb + 2) wy (we.setCell ⟨fb + 2, 5, none⟩ (.slice (some ⟨g', 0, none⟩) (fs.length + 1) cap')) := tK.trans hKt (fun i hi e => e.elim (fun e => e) (fun e => by have := HWS.out; omega))
          have hOf := own_kept hOe hKs (fun i hi e => by
            subst e
            have := (hOe.lt _ hi).1
            have := HBS.out
            omega)
          have hAb2 : ∀ a2, (if c = 1 + m5 then some a else some (a.add (1 + m5))) = some a2 → a2.block < w.heap.size := fun a2 e => by
            have h0 := hAb a rfl
            split at e
            · cases e; exact h0
            · cases e
              rw [show (a.add (1 + m5)).block = a.block by unfold Addr.add; split <;> rfl]
              exact h0
          have hblk2 : bytes (t.drop m5) := fun y hy => hblk y (List.mem_cons_of_mem _ (List.mem_of_mem_drop hy))
          have fin : Sh ((fs.length + 1) + g1_ = k ∧ rl k s [] = rl g1_ (t.drop m5) (fs ++ [t.take m5]) ∧ Bytes (we.setCell ⟨fb + 2, 5, none⟩ (.slice (some ⟨g', 0, none⟩) (fs.length + 1) cap')) (if c = 1 + m5 then some a else some (a.add (1 + m5))) (t.drop m5) ∧ (t.drop m5).length ≤ c - (1 + m5) ∧ (∀ a2, (if c = 1 + m5 then some a else some (a.add (1 + m5))) = some a2 → a2.block < w.heap.size) ∧ bytes (t.drop m5) ∧ (t.drop m5).length ≤ l.length ∧ (fs ++ [t.take m5]).length = fs.length + 1 ∧ (we.setCell ⟨fb + 2, 5, none⟩ (.slice (some ⟨g', 0, none⟩) (fs.length + 1) cap')).heap[fb + 2]? = some (RO id sc b1 b2 b4 (.slice (some ⟨g', 0, none⟩) (fs.length + 1) cap')) ∧ (we.setCell ⟨fb + 2, 5, none⟩ (.slice (some ⟨g', 0, none⟩) (fs.length + 1) cap')).ownsRow bs 9 1 (.slice (some ⟨g', 0, none⟩) (fs.length + 1) cap') (fs ++ [t.take m5]).length ((fs ++ [t.take m5]).map fun x => .string (strOfNums x)) ∧ Kept (fun i => i = fb + 2) wy (we.setCell ⟨fb + 2, 5, none⟩ (.slice (some ⟨g', 0, none⟩) (fs.length + 1) cap'))) :=
            ⟨by have := HIK.out; omega, HF.out, hB2, by have := HL.out; rw [List.length_drop]; omega, hAb2, hblk2, by have := HL.out; rw [List.length_drop]; omega, by simp, heap_set we (fb + 2) 5 _ tRe, by simpa using hOf, hKf⟩
          have w8_ : wrap64 ((fs.length : Int) + 1) = ((fs.length + 1 : Nat) : Int) := wrap_up fs.length k HK.out HIK.out
          have j2_ := HJ.out.2.1
          clear hKs hK1 hKt hBt hB2 hKf hOf hAb2 hblk2 tRe tBe tB tR tO tK tG k5x_ k5f_ hOe hge hra hnew hrb' hKe tR7 tB7 hAl hi0 hz0 hz1 hz2 hHeld hA1
          have hLm : L - m6.toNat = (t.drop m5).length := by rw [List.length_drop, HM6.out]; exact sub_up HL.out
          have hcm6 : c - m6.toNat = c - (1 + m5) := by rw [HM6.out]
          have HLM := Sh.mk hLm
          have HCM := Sh.mk hcm6
          clear hLm hcm6
          by_cases hcm : c = m6.toNat
          · rw [if_pos (by rw [← HM6.out]; exact hcm)] at fin
            have hc0 : c - (1 + m5) = 0 := sub_all (hcm.trans HM6.out)
            have HC0 := Sh.mk hc0
            clear hc0
            go_wp2_with fail
            rw [HLM.out]
            go_roundg g1_
            case measure => omega
            case rel => exact ⟨_, _, c - (1 + m5), _, _, fs.length + 1, by rw [HC0.out], by simp, fin⟩
          · rw [if_neg (by rw [← HM6.out]; exact hcm)] at fin
            go_wp2_with fail
            rw [HLM.out, HCM.out, HM6.out]
            go_roundg g1_
            case measure => omega
            case rel => exact ⟨_, _, _, _, _, fs.length + 1, rfl, by simp, fin⟩
end Go.Proofs.Ytgnepppncmjagaa.Fr
