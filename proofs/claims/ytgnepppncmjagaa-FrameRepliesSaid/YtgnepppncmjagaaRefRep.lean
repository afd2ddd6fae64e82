/- The document's Reply. -/
import Derived.Test.YtgnepppncmjagaaReplyF
import Derived.Test.YtgnepppncmjagaaPackG
import Derived.Test.YtgnepppncmjagaaStr
import Derived.Test.YtgnepppncmjagaaPrintF33
namespace Go.Proofs.Ytgnepppncmjagaa.Gt
open Go Go.RowKit Hp Rd Go.Proofs.Ytgnepppncmjagaa.Fr Go.Proofs.Ytgnepppncmjagaa.Ck Go.Proofs.YtgnepppncmjagaaW.PrintWords Go.Proofs.YtgnepppncmjagaaW.PrintLast Go.Proofs.Ytgnepppncmjagaa.Print
theorem extract_take (l : List Int) (p : Nat) : (strOfNums l).extract 0 p = strOfNums (l.take p) := by
  apply ByteArray.ext
  apply Array.toList_inj.1
  rw [ByteArray.data_extract]
  simp [strOfNums, List.map_take]
theorem extract_drop (l : List Int) (p : Nat) : (strOfNums l).extract p (strOfNums l).size = strOfNums (l.drop p) := by
  apply ByteArray.ext
  apply Array.toList_inj.1
  rw [ByteArray.data_extract, strOfNums_size]
  simp [strOfNums, List.map_drop]
  exact List.take_of_length_le (by simp)
theorem nums_str {l : List Int} (h : ∀ x ∈ l, 0 ≤ x ∧ x ≤ 255) : Ch.nums (strOfNums l) = l := by
  unfold Ch.nums strOfNums
  rw [List.toList_toArray, List.map_map]
  conv => rhs; rw [← List.map_id l]
  refine List.map_congr_left fun x hx => ?_
  have := h x hx
  simp
  omega
/-- A frame whose body is the call's own bytes. -/
structure FmOw (w : World) (f : Fm) : Prop where
  ok : FmOk w w.heap.size f
  ty : ∀ ad, f.A = some ad → ∃ cur fr, w.heap[ad.block]? = some (.cells cur 5 fr)
theorem FmOw.kept {S : Nat → Prop} {w w' : World} {f : Fm} (h : FmOw w f) (k : Kept S w w') (hS : ∀ ad, f.A = some ad → ¬ S ad.block) : FmOw w' f :=
  ⟨⟨h.ok.len, h.ok.byt.kept k (fun _ ad e => hS ad e), h.ok.num, fun h0 ad e => Nat.lt_of_lt_of_le (h.ok.low h0 ad e) k.size⟩, fun ad e => by
    obtain ⟨cur, fr, hh⟩ := h.ty ad e
    exact ⟨cur, fr, k.heap hh (hS ad e)⟩⟩
theorem own_ne {w : World} {base n : Nat} {v : Value} {xs : List Value} {f : Fm} (hrow : w.ownsRow base 29 3 v n xs) (h : FmOw w f) (ad : Addr) (e : f.A = some ad) : ¬ v.ownBlock = some ad.block := fun hv => by
  obtain ⟨cur, fr, hh⟩ := h.ty ad e
  rcases hrow.2 with ⟨e2, _⟩ | ⟨g2, cap2, cur2, e2, _, hg2, _⟩
  · rw [e2] at hv; cases hv
  · rw [e2] at hv
    have e3 : g2 = ad.block := by simpa [Value.ownBlock] using hv
    subst e3
    have := hg2.symm.trans hh
    simp at this
/-- A frame is put behind a row of one's own; what may turn. -/
theorem push2 {w : World} {B n : Nat} {v : Value} {xs : List Value} (hrow : w.ownsRow B 29 3 v n xs) (hB : B ≤ w.heap.size) (hn : n ≤ 1000) (id kind : Int) (A : Option Addr) (l c : Nat) :
    ∃ v' w', (Builtin.append_ #[62, 62] 62 #[v, .slice (some ⟨w.heap.size, 0, none⟩) 1 1]).run Try.prog (w.alloc (.cells #[.int .i64 id, .int .i64 kind, .slice A l c] 29)) = .ok v' w' ∧ w'.ownsRow B 29 3 v' (n + 1) (xs ++ [.int .i64 id, .int .i64 kind, .slice A l c]) ∧
      Below B w w' ∧ Kept (fun i => v.ownBlock = some i) w w' := by
  obtain ⟨i0, hi, hz0, hz1, hz2⟩ := info_parts infoRf
  have hN := heap_alloc_new w (.cells #[.int .i64 id, .int .i64 kind, .slice A l c] 29)
  obtain ⟨v', w8, hra, hO8, hge, -, -⟩ := Go.Proofs.Ytgnepppncmjagaa.Ow.run_append (P := Try.prog) (w.alloc (.cells #[.int .i64 id, .int .i64 kind, .slice A l c] 29)) B 62 62 29 i0 _ 3 40 Try.underlying62 hi hz0 hz1 hz2 rfl (by decide) v n xs (hrow.alloc _) ⟨w.heap.size, 0, none⟩ 1 1 [.int .i64 id, .int .i64 kind, .slice A l c] rfl (fun j u hj => by
    rw [Addr.add_mid, Nat.zero_add, blk_cell hN j]
    simpa using hj) (by simp [Value.oneCell']) (by unfold maxLen; omega) (by omega) (by simp; omega)
  refine ⟨v', w8, hra, hO8, ?_, ((Kept.refl (fun i => v.ownBlock = some i) w).alloc _).grown hge (fun k e => .inr e)⟩
  have h1 : Below B w (w.alloc (.cells #[.int .i64 id, .int .i64 kind, .slice A l c] 29)) := (Below.refl B w).alloc hB _
  exact h1.grown hge (Nat.le_trans hB (by simp)) (fun k hk => (hrow.lt k hk).1)
theorem conv_bytes (w : World) (l : List Int) (hl : ∀ x ∈ l, 0 ≤ x ∧ x ≤ 255) (cg : Nat) (fr : Nat × Nat) : Bytes (w.alloc (.cells (bytesRow (strOfNums l) cg) 5 fr)) (some ⟨w.heap.size, 0, none⟩) l := fun _ => by
  refine ⟨_, rfl, fun j x hj => ?_⟩
  have hN := heap_alloc_new w (.cells (bytesRow (strOfNums l) cg) 5 fr)
  rw [Addr.add_mid, Nat.zero_add, Rw.blk_cell hN j]
  have hnum := nums_str hl
  have hj2 : (Ch.nums (strOfNums l))[j]? = some x := by rw [hnum]; exact hj
  unfold Ch.nums at hj2
  rw [List.getElem?_map] at hj2
  obtain ⟨b, hb, rfl⟩ := Option.map_eq_some_iff.1 hj2
  rw [Array.getElem?_toList] at hb
  obtain ⟨hlt, he⟩ := Array.getElem?_eq_some_iff.1 hb
  rw [bytesRow_at _ cg j hlt, he]
theorem infoU8' : (Try.prog.info? 5).map (fun i => (i.zero, i.size, i.bytes)) = some (some (.int .u8 0), 1, 1) := by kernel_rfl
theorem kept_below' {w w' : World} {B : Nat} (h : Below B w w') : Kept (fun k => B ≤ k) w w' := ⟨h.os, h.tape, h.output, h.size, fun k _ hn => h.block k (by omega)⟩
theorem own_cap' {w : World} {base n : Nat} {e : TypeId} {size : Nat} {a : Option Addr} {c : Nat} {xs : List Value} (h : w.ownsRow base e size (.slice a n c) n xs) : n ≤ c := by
  rcases h.2 with ⟨_, h2⟩ | ⟨g, cap, cur, e, _, _, hn, _⟩
  · omega
  · cases e
    exact hn
theorem own_end {w : World} {base : Nat} {v : Value} {l : List Int} (ho : w.ownsRow base 5 1 v 6 (l.map (Value.int .u8))) (h6 : l.length = 6) : ∃ A c, v = .slice (some A) 6 c ∧ 6 ≤ c ∧ Bytes w (some A) l ∧ ∃ cur, w.heap[A.block]? = some (.cells cur 5 (0, 0)) := by
  rcases ho.2 with ⟨e, h0⟩ | ⟨g, cap, cur, e, hg, hh, hn, _⟩
  · omega
  · subst e
    have hb := Bytes.own (l := l) (h6.symm ▸ ho)
    exact ⟨_, _, rfl, hn, hb, cur, hh⟩
theorem three_newR (w : World) (x y z : Value) : ∀ j u, [x, y, z][j]? = some u → (w.alloc (.cells #[x, y, z] 29)).cell? ((⟨w.heap.size, 0, none⟩ : Addr).add j) = some u := by
  intro j u hj
  rw [Addr.add_mid, Nat.zero_add, Rw.blk_cell (heap_alloc_new w _) j]
  simpa using hj
theorem R_two {w : World} {base : Nat} {ok : Nat → Prop} {v : Value} {l : List Int} (h : Kd.R (Kd.int .u8) 5 w base ok v l) (h2 : l.length = 2) : ∃ A c, v = .slice (some A) 2 c ∧ 2 ≤ c ∧ Bytes w (some A) l := by
  obtain ⟨ho, -⟩ := R_row h
  rcases ho.2 with ⟨e, h0⟩ | ⟨g, cap, cur, e, hg, hh, hn, _⟩
  · omega
  · subst e
    rw [h2] at hn ⊢
    rw [h2] at ho
    exact ⟨_, _, rfl, hn, Bytes.own (l := l) (h2.symm ▸ ho)⟩
set_option maxHeartbeats 4000000 in
set_option maxRecDepth 100000 in
theorem refreply_bad (w : World) (id er : Int) (x y : Nat) (s : ByteArray) (hbad : ¬ (0 ≤ id ∧ id ≤ 65535 ∧ 0 ≤ er ∧ er ≤ 65535 ∧ wh x = true ∧ wh y = true)) :
    Calls Try.prog 28 #[.agg #[.int .i64 id, .int .i64 er, .complex .f64 x y, .string s]] w fun e w' => e = .returned (.tuple #[.slice none 0 0, .int .i64 231]) ∧ Below w.heap.size w w' := by
  have hal : ∀ o, Below w.heap.size w (w.alloc o) := fun o => (Below.refl _ _).alloc (Nat.le_refl _) o
  have HAL := Sh.mk hal
  clear hal
  have rl0 := fun W => toRe W x y
  have im0 := fun W => toIm W x y
  obtain ⟨li, hli⟩ : ∃ li : Int, (if wh x = true then (wi x : Int) else -1) = li := ⟨_, rfl⟩
  obtain ⟨co, hco⟩ : ∃ co : Int, (if wh y = true then (wi y : Int) else -1) = co := ⟨_, rfl⟩
  have HWX : Sh (∀ W : World, Calls Try.prog 43 #[.float .f64 x] W fun e w' => e = .returned (.int .i64 li) ∧ w' = W) := ⟨fun W => hli ▸ refwhole_calls x W⟩
  have HWY : Sh (∀ W : World, Calls Try.prog 43 #[.float .f64 y] W fun e w' => e = .returned (.int .i64 co) ∧ w' = W) := ⟨fun W => hco ▸ refwhole_calls y W⟩
  have hl : ¬ li < 0 → wh x = true := fun h => by
    by_cases hw : wh x = true
    · exact hw
    · rw [if_neg hw] at hli; omega
  have hc : ¬ co < 0 → wh y = true := fun h => by
    by_cases hw : wh y = true
    · exact hw
    · rw [if_neg hw] at hco; omega
  have HL := Sh.mk hl
  have HC := Sh.mk hc
  clear hli hco hl hc
  go_enter Try.func28, Try.ntmps28
  go_wp2_with fail
  refine (HWX.out _).mono ?_
  rintro e w1 ⟨rfl, rfl⟩
  go_wp2_with fail
  refine (HWY.out _).mono ?_
  rintro e w1 ⟨rfl, rfl⟩
  by_cases k1 : id < 0
  · go_wp2_with fail
    go_ret2
    exact ⟨rfl, HAL.out _⟩
  by_cases k2 : (65535 : Int) < id
  · go_wp2_with fail
    go_ret2
    exact ⟨rfl, HAL.out _⟩
  by_cases k3 : er < 0
  · go_wp2_with fail
    go_ret2
    exact ⟨rfl, HAL.out _⟩
  by_cases k4 : (65535 : Int) < er
  · go_wp2_with fail
    go_ret2
    exact ⟨rfl, HAL.out _⟩
  by_cases k5 : li < 0
  · go_wp2_with fail
    go_ret2
    exact ⟨rfl, HAL.out _⟩
  by_cases k6 : co < 0
  · go_wp2_with fail
    go_ret2
    exact ⟨rfl, HAL.out _⟩
  exact absurd ⟨by omega, by omega, by omega, by omega, HL.out (by omega), HC.out (by omega)⟩ hbad
set_option maxHeartbeats 4000000 in
set_option maxRecDepth 100000 in
theorem refreply_ok (w : World) (id er : Int) (x y : Nat) (s : ByteArray) (h0 : 0 ≤ id) (h1 : id ≤ 65535) (he0 : 0 ≤ er) (he1 : er ≤ 65535) (hx : wh x = true) (hy : wh y = true) (hs : s.size ≤ 20000) :
    Calls Try.prog 28 #[.agg #[.int .i64 id, .int .i64 er, .complex .f64 x y, .string s]] w fun e w' => ∃ (a : Option Addr) (c' : Nat) (L : List Fm), e = .returned (.tuple #[.slice a L.length c', .int .i64 0]) ∧ L.length ≤ c' ∧ FmsAt w' w'.heap.size a L ∧
      L.map tr = frs id s (six er (wi x) (wi y)) ∧ Below w.heap.size w w' := by
  have mixed : Try.prog.follows Departure.mixedOrders = true := by kernel_rfl
  have rl0 := fun W => toRe W x y
  have im0 := fun W => toIm W x y
  have HWX : Sh (∀ W : World, Calls Try.prog 43 #[.float .f64 x] W fun e w' => e = .returned (.int .i64 (wi x : Int)) ∧ w' = W) := ⟨fun W => by have := refwhole_calls x W; rwa [if_pos hx] at this⟩
  have HWY : Sh (∀ W : World, Calls Try.prog 43 #[.float .f64 y] W fun e w' => e = .returned (.int .i64 (wi y : Int)) ∧ w' = W) := ⟨fun W => by have := refwhole_calls y W; rwa [if_pos hy] at this⟩
  have hwx := (inr_int (inr_of hx)).2.1
  have hwy := (inr_int (inr_of hy)).2.1
  obtain ⟨n, hn⟩ : ∃ n, wi x = n := ⟨_, rfl⟩
  obtain ⟨m, hm⟩ : ∃ m, wi y = m := ⟨_, rfl⟩
  rw [hn] at HWX hwx ⊢
  rw [hm] at HWY hwy ⊢
  clear hn hm hx hy
  go_enter Try.func28, Try.ntmps28
  go_upto_region 1 with (fail)
  obtain ⟨w1, hw1⟩ : ∃ w1, w.alloc (.cells #[.int .i64 id, .int .i64 er, .complex .f64 x y, .string s] 53) = w1 := ⟨_, rfl⟩
  obtain ⟨b0, hb0⟩ : ∃ b0, w.heap.size = b0 := ⟨_, rfl⟩
  have hB1 : Below w.heap.size w w1 := by rw [← hw1]; exact (Below.refl _ _).alloc (Nat.le_refl _) _
  have g0 : w1.heap[b0]? = some (.cells #[.int .i64 id, .int .i64 er, .complex .f64 x y, .string s] 53 (0, 0)) := by rw [← hw1, ← hb0]; exact heap_alloc_new _ _
  rw [hw1, hb0]
  have HB0 := Sh.mk hb0
  have HB1 := Sh.mk hB1
  clear hw1 hb0 hB1
  have hb1 : b0 < w1.heap.size := lt_of_heap g0
  have d0_ : w1.cell? ⟨b0, 0, none⟩ = some (.int .i64 id) := (blk_cell g0 0).trans rfl
  have d1_ : w1.cell? ⟨b0, 1, none⟩ = some (.int .i64 er) := (blk_cell g0 1).trans rfl
  have d2_ : w1.cell? ⟨b0, 2, none⟩ = some (.complex .f64 x y) := (blk_cell g0 2).trans rfl
  have d3_ : w1.cell? ⟨b0, 3, none⟩ = some (.string s) := (blk_cell g0 3).trans rfl
  have G0 := Sh.mk g0
  have HS1 := Sh.mk hb1
  clear g0 hb1
  have k1 : ¬ id < 0 := by omega
  have k2 : ¬ (65535 : Int) < id := by omega
  have k3 : ¬ er < 0 := by omega
  have k4 : ¬ (65535 : Int) < er := by omega
  have k5 : ¬ (n : Int) < 0 := by omega
  have k6 : ¬ (m : Int) < 0 := by omega
  go_wp2_with fail
  refine (HWX.out _).mono ?_
  rintro e w' ⟨rfl, hw'⟩
  rw [hw']
  clear hw' w'
  go_wp2_with fail
  refine (HWY.out _).mono ?_
  rintro e w'' ⟨rfl, hw'⟩
  rw [hw']
  clear hw' w''
  go_wp2_with fail
  clear k1 k2 k3 k4 k5 k6 d1_ d2_ d3_ rl0 im0
  go_loopg [6, 7] (count s.size) (fun kq v6 v7 w' => ∃ (k : Nat) (L : List Fm) (r : ByteArray), k + kq = count s.size ∧ v7 = .string r ∧ Sh (r = strOfNums ((Ch.nums s).drop (1000 * k)) ∧ L.map tr = (List.range k).map (fun k => (id, 2, pb s k)) ∧ w'.ownsRow w1.heap.size 29 3 v6 L.length (fcells L) ∧ (∀ f ∈ L, FmOw w' f) ∧ Below w1.heap.size w1 w'))
  case atStart => exact ⟨0, [], s, by omega, rfl, ⟨(Ch.str_back s).symm, rfl, World.ownsRow_nil _ _ _ _, by simp, Below.refl _ _⟩⟩
  case round =>
    obtain ⟨k, L, r, hk, rfl, ⟨hr, hmap, hrow, hok, hB⟩⟩ := hrel
    have hrs : r.size = s.size - 1000 * k := by rw [hr, strOfNums_size, List.length_drop, Ch.nums_length]
    have HR := Sh.mk hr
    have HRS := Sh.mk hrs
    have HMAP := Sh.mk hmap
    have HOK := Sh.mk hok
    have HB := Sh.mk hB
    have HK := Sh.mk hk
    have e0_ : wr.cell? ⟨b0, 0, none⟩ = some (.int .i64 id) := (hB.cell (p := ⟨b0, 0, none⟩) HS1.out).trans d0_
    clear hr hmap hok hB
    cases gk with
    | zero =>
      have kk : ¬ (0 : Int) < (r.size : Int) := by unfold count at hk; omega
      clear hrs hk
      have d1r : wr.cell? ⟨b0, 1, none⟩ = some (.int .i64 er) := ((HB.out).cell (p := ⟨b0, 1, none⟩) HS1.out).trans ((blk_cell G0.out 1).trans rfl)
      obtain ⟨wa, hwa⟩ : ∃ wa, wr.alloc (.cells #[] 5) = wa := ⟨_, rfl⟩
      obtain ⟨ba, hba⟩ : ∃ ba, wr.heap.size = ba := ⟨_, rfl⟩
      have hBa : Below wr.heap.size wr wa := by rw [← hwa]; exact (Below.refl _ _).alloc (Nat.le_refl _) _
      have hha : wa.heap[ba]? = some (.cells #[] 5 (0, 0)) := by rw [← hwa, ← hba]; exact heap_alloc_new _ _
      have hb0r : b0 < ba := by rw [← hba]; exact Nat.lt_of_lt_of_le HS1.out HB.out.size
      have d1a : wa.cell? ⟨b0, 1, none⟩ = some (.int .i64 er) := (hBa.cell (p := ⟨b0, 1, none⟩) (by rw [hba]; exact hb0r)).trans d1r
      have hrow0 : wa.ownsRow ba 5 1 (.slice (some ⟨ba, 0, none⟩) 0 0) 0 ((upto er n m 0).map (Value.int .u8)) := ⟨rfl, .inr ⟨ba, 0, #[], rfl, Nat.le_refl _, hha, Nat.le_refl _, by unfold maxLen; decide, rfl, rfl⟩⟩
      obtain ⟨i0, hi, hz0, hz1, hz2⟩ := info_parts infoU8'
      obtain ⟨j0, hj, hy0, hy1, hy2⟩ := info_parts infoRf
      rw [hba] at hBa
      have HROW := Sh.mk hrow
      have HROW0 := Sh.mk hrow0
      have HBA0 := Sh.mk hBa
      have HB0R := Sh.mk hb0r
      have HBAE := Sh.mk hba
      have HSA0 := Sh.mk (lt_of_heap hha)
      have sz2 : (2 : Nat) * 0 = 0 := rfl
      clear hrow hrow0 hBa hb0r hha d1r e0_ sz2
      go_wp2_with fail
      clear hwa hba d1a
      refine (headgateref23_two.calls er (tb er) _ (Ev.rtwo_f er (by omega) (by omega))).mono ?_
      rintro e y0 ⟨v0, rfl, hR, hb⟩
      obtain ⟨A0, c0, rfl, hc0, hby0⟩ := R_two hR rfl
      have HBA1 := Sh.mk (HBA0.out.trans (hb.mono (Nat.le_of_lt HSA0.out)))
      have HS0 := Nat.lt_of_lt_of_le HSA0.out hb.size
      have hown : y0.ownsRow ba 5 1 (.slice (some ⟨ba, 0, none⟩) 0 0) 0 ((upto er n m 0).map (Value.int .u8)) := row_kept HROW0.out (Kept.of_below (S := fun _ => False) hb) (fun _ _ e => e)
      have hnews : ∀ j u, ((tb er).map (Value.int .u8))[j]? = some u → y0.cell? (A0.add j) = some u := fun j u hu => by
        obtain ⟨a, e, hcs⟩ := hby0 (by show 0 < 2; decide)
        cases e
        rw [List.getElem?_map] at hu
        obtain ⟨z, hz, rfl⟩ := Option.map_eq_some_iff.1 hu
        exact hcs j z hz
      clear hR hb hc0 hby0 HROW0 HBA0
      go_wp2_with (at_builtin; refine wpList_append_own _ rfl _ _ 22 rfl ba 5 i0 (.int .u8 0) 1 1 Try.underlying22 hi hz0 hz1 hz2 rfl (by decide) _ _ _ rfl hown A0 2 c0 ((tb er).map (Value.int .u8)) rfl rfl hnews (by simp [Value.oneCell']) (by unfold maxLen; decide) (by decide) (by have := HS0; omega) ?_)
      intro u0_ x0 hown' hgrow _
      have HBA1' := Sh.mk (HBA1.out.grown hgrow (by have := HS0; omega) (fun k e => (hown.lt k e).1))
      have HROW1 := Sh.mk (show x0.ownsRow ba 5 1 u0_ 2 ((upto er n m 1).map (Value.int .u8)) from by
        have e : (upto er n m 1).map (Value.int .u8) = (upto er n m 0).map (Value.int .u8) ++ (tb er).map (Value.int .u8) := by rw [← List.map_append]; rfl
        rw [e]
        exact hown')
      have HSA1 := Sh.mk (Nat.lt_of_lt_of_le HS0 hgrow.size)
      clear hown hown' hnews hgrow HS0 HBA1
      have HBA1 := HBA1'
      clear HBA1'
      go_wp2_with fail
      refine (headgateref23_two.calls (n : Int) (tb (n : Int)) _ (Ev.rtwo_f (n : Int) (by omega) (by omega))).mono ?_
      rintro e y1 ⟨v1, rfl, hR, hb⟩
      obtain ⟨A1, c1, rfl, hc1, hby1⟩ := R_two hR rfl
      have HBA2 := Sh.mk (HBA1.out.trans (hb.mono (Nat.le_of_lt HSA1.out)))
      have HS1 := Nat.lt_of_lt_of_le HSA1.out hb.size
      have hown : y1.ownsRow ba 5 1 (u0_) 2 ((upto er n m 1).map (Value.int .u8)) := row_kept HROW1.out (Kept.of_below (S := fun _ => False) hb) (fun _ _ e => e)
      have hnews : ∀ j u, ((tb (n : Int)).map (Value.int .u8))[j]? = some u → y1.cell? (A1.add j) = some u := fun j u hu => by
        obtain ⟨a, e, hcs⟩ := hby1 (by show 0 < 2; decide)
        cases e
        rw [List.getElem?_map] at hu
        obtain ⟨z, hz, rfl⟩ := Option.map_eq_some_iff.1 hu
        exact hcs j z hz
      clear hR hb hc1 hby1 HROW1 HBA1
      go_wp2_with (at_builtin; refine wpList_append_own _ rfl _ _ 22 rfl ba 5 i0 (.int .u8 0) 1 1 Try.underlying22 hi hz0 hz1 hz2 rfl (by decide) _ _ _ rfl hown A1 2 c1 ((tb (n : Int)).map (Value.int .u8)) rfl rfl hnews (by simp [Value.oneCell']) (by unfold maxLen; decide) (by decide) (by have := HS1; omega) ?_)
      intro u1_ x1 hown' hgrow _
      have HBA2' := Sh.mk (HBA2.out.grown hgrow (by have := HS1; omega) (fun k e => (hown.lt k e).1))
      have HROW2 := Sh.mk (show x1.ownsRow ba 5 1 u1_ 4 ((upto er n m 2).map (Value.int .u8)) from by
        have e : (upto er n m 2).map (Value.int .u8) = (upto er n m 1).map (Value.int .u8) ++ (tb (n : Int)).map (Value.int .u8) := by rw [← List.map_append]; rfl
        rw [e]
        exact hown')
      have HSA2 := Sh.mk (Nat.lt_of_lt_of_le HS1 hgrow.size)
      clear hown hown' hnews hgrow HS1 HBA2
      have HBA2 := HBA2'
      clear HBA2'
      go_wp2_with fail
      refine (headgateref23_two.calls (m : Int) (tb (m : Int)) _ (Ev.rtwo_f (m : Int) (by omega) (by omega))).mono ?_
      rintro e y2 ⟨v2, rfl, hR, hb⟩
      obtain ⟨A2, c2, rfl, hc2, hby2⟩ := R_two hR rfl
      have HBA3 := Sh.mk (HBA2.out.trans (hb.mono (Nat.le_of_lt HSA2.out)))
      have HS2 := Nat.lt_of_lt_of_le HSA2.out hb.size
      have hown : y2.ownsRow ba 5 1 (u1_) 4 ((upto er n m 2).map (Value.int .u8)) := row_kept HROW2.out (Kept.of_below (S := fun _ => False) hb) (fun _ _ e => e)
      have hnews : ∀ j u, ((tb (m : Int)).map (Value.int .u8))[j]? = some u → y2.cell? (A2.add j) = some u := fun j u hu => by
        obtain ⟨a, e, hcs⟩ := hby2 (by show 0 < 2; decide)
        cases e
        rw [List.getElem?_map] at hu
        obtain ⟨z, hz, rfl⟩ := Option.map_eq_some_iff.1 hu
        exact hcs j z hz
      clear hR hb hc2 hby2 HROW2 HBA2
      go_wp2_with (at_builtin; refine wpList_append_own _ rfl _ _ 22 rfl ba 5 i0 (.int .u8 0) 1 1 Try.underlying22 hi hz0 hz1 hz2 rfl (by decide) _ _ _ rfl hown A2 2 c2 ((tb (m : Int)).map (Value.int .u8)) rfl rfl hnews (by simp [Value.oneCell']) (by unfold maxLen; decide) (by decide) (by have := HS2; omega) ?_)
      intro u2_ x2 hown' hgrow _
      have HBA3' := Sh.mk (HBA3.out.grown hgrow (by have := HS2; omega) (fun k e => (hown.lt k e).1))
      have HROW3 := Sh.mk (show x2.ownsRow ba 5 1 u2_ 6 ((upto er n m 3).map (Value.int .u8)) from by
        have e : (upto er n m 3).map (Value.int .u8) = (upto er n m 2).map (Value.int .u8) ++ (tb (m : Int)).map (Value.int .u8) := by rw [← List.map_append]; rfl
        rw [e]
        exact hown')
      have HSA3 := Sh.mk (Nat.lt_of_lt_of_le HS2 hgrow.size)
      clear hown hown' hnews hgrow HS2 HBA3
      have HBA3 := HBA3'
      clear HBA3'
      have hBx := HBA3.out
      have e0x : x2.cell? ⟨b0, 0, none⟩ = some (.int .i64 id) := (hBx.cell (p := ⟨b0, 0, none⟩) HB0R.out).trans (((HB.out).cell (p := ⟨b0, 0, none⟩) HS1.out).trans d0_)
      have hrowx : x2.ownsRow w1.heap.size 29 3 u6 L.length (fcells L) := row_kept HROW.out (kept_below' hBx) (fun k e hk => by have := (HROW.out.lt k e).2; have := HBAE.out; omega)
      obtain ⟨A6, c6, rfl, hc6, hb6, cur6, hh6⟩ := own_end HROW3.out (upto_len er n m 3 (by decide))
      have hokx : ∀ f ∈ L ++ [⟨id, 3, some A6, six er n m, c6⟩], FmOw x2 f := fun f hf => by
        rcases List.mem_append.1 hf with h | h
        · refine (HOK.out f h).kept (kept_below' hBx) (fun ad e hk => ?_)
          obtain ⟨cur, fr, hh⟩ := (HOK.out f h).ty ad e
          have := lt_of_heap hh
          have := HBAE.out
          omega
        · obtain rfl : f = _ := by simpa using h
          exact ⟨⟨hc6, hb6, six_byte _ _ _, fun _ ad e => by cases e; exact lt_of_heap hh6⟩, fun ad e => by cases e; exact ⟨_, _, hh6⟩⟩
      have HOKX := Sh.mk hokx
      have hl21 : L.length ≤ 30 := by
        have := congrArg List.length HMAP.out
        simp at this
        have := HK.out
        unfold count at this
        omega
      have hsx : w1.heap.size ≤ x2.heap.size := by have := hBx.size; have := HB.out.size; have := HBAE.out; have := HSA3.out; omega
      have HBX := Sh.mk (show Below w1.heap.size w1 x2 from HB.out.trans (hBx.mono (by have := HB.out.size; have := HBAE.out; omega)))
      have HROWX := Sh.mk hrowx
      clear hBx hokx hc6 hb6 hh6 HROW3 HROW d0_
      go_wp2_with (at_builtin; refine wpList_append_own _ rfl _ _ 62 rfl w1.heap.size 29 j0 (.agg #[.int .i64 0, .int .i64 0, .slice none 0 0]) 3 40 Try.underlying62 hj hy0 hy1 hy2 rfl (by decide) _ _ _ rfl (hrowx.alloc _) ⟨x2.heap.size, 0, none⟩ 1 1 [.int .i64 id, .int .i64 3, .slice (some A6) 6 c6] rfl rfl (Gt.three_newR _ _ _ _) (by simp [Value.oneCell']) (by unfold maxLen; omega) (by omega) (by simp; omega) ?_)
      intro v' wz hown' hgrow _
      obtain ⟨a', c', rfl⟩ := own_slice hown'
      have hKz : Kept (fun i => u6.ownBlock = some i) x2 wz := ((Kept.refl (fun i => u6.ownBlock = some i) x2).alloc _).grown hgrow (fun k e => .inr e)
      have hBz : Below w1.heap.size w1 wz := ((HBX.out.alloc hsx _)).grown hgrow (by simp; omega) (fun k e => ((hrowx.lt k e).1))
      have HKZ := Sh.mk hKz
      have HBZ := Sh.mk hBz
      have HOWN := Sh.mk hown'
      clear hown' hgrow hKz hBz hrowx hsx e0x hl21 hi hz0 hz1 hz2 hj hy0 hy1 hy2
      go_wp2_with fail
      go_ret2
      have hlen : (L ++ [⟨id, 3, some A6, six er n m, c6⟩] : List Fm).length = L.length + 1 := by simp
      have hown2 : wz.ownsRow w1.heap.size 29 3 (.slice a' (L.length + 1) c') (L.length + 1) (fcells (L ++ [⟨id, 3, some A6, six er n m, c6⟩])) := by
        rw [fcells_snoc]
        exact HOWN.out
      refine ⟨a', c', L ++ [⟨id, 3, some A6, six er n m, c6⟩], by rw [hlen]; rfl, by rw [hlen]; exact own_cap' hown2, fms_own hown2 hlen (fun f hf => ((HOKX.out f hf).kept HKZ.out (fun ad e => own_ne HROWX.out (HOKX.out f hf) ad e)).ok) (Nat.le_refl _), ?_, HB1.out.trans (HBZ.out.mono HB1.out.size)⟩
      rw [List.map_append, HMAP.out]
      have hkc : k = count s.size := by have := HK.out; omega
      unfold frs
      rw [hkc]
      rfl
    | succ g1_ =>
      have hks : 1000 * k < s.size := by unfold count at hk; omega
      have kk : (0 : Int) < (r.size : Int) := by omega
      have HKS := Sh.mk hks
      clear hrs hk hks
      obtain ⟨p, hp⟩ : ∃ p, min 1000 r.size = p := ⟨_, rfl⟩
      have hmn : (if (1000 : Int) < (r.size : Int) then 1000 else (r.size : Int)) = (p : Int) := by split <;> omega
      have hp0 : (0 : Int) ≤ (p : Int) := by omega
      have hpr : (p : Int) ≤ (r.size : Int) := by omega
      have HP := Sh.mk hp
      clear hp
      go_upto_region 9 with (fail)
      clear hmn
      obtain ⟨q, hq⟩ : ∃ q, r.extract 0 p = q := ⟨_, rfl⟩
      have hlk : 1000 * k ≤ s.size := Nat.le_of_lt HKS.out
      have hq2 : q = strOfNums (pb s k) := by
        rw [← hq, HR.out, extract_take, ← HP.out, HR.out, strOfNums_size]
        unfold pb
        congr 1
        rcases Nat.lt_or_ge 1000 ((Ch.nums s).drop (1000 * k)).length with h | h
        · rw [Nat.min_eq_left (by omega)]
        · rw [Nat.min_eq_right h, List.take_of_length_le (Nat.le_refl _), List.take_of_length_le h]
      have hpbb : ∀ z ∈ pb s k, 0 ≤ z ∧ z ≤ 255 := fun z hz => nums_byte s z (List.mem_of_mem_drop (List.mem_of_mem_take hz))
      have hrem : r.extract p r.size = strOfNums ((Ch.nums s).drop (1000 * (k + 1))) := by
        rw [HR.out, extract_drop, List.drop_drop]
        congr 1
        have h2 := HP.out
        have h3 := HRS.out
        rcases Nat.lt_or_ge p 1000 with h | h
        · rw [List.drop_eq_nil_of_le (by rw [Ch.nums_length]; omega), List.drop_eq_nil_of_le (by rw [Ch.nums_length]; omega)]
        · rw [show 1000 * k + p = 1000 * (k + 1) by omega]
      have HQ2 := Sh.mk hq2
      have HREM := Sh.mk hrem
      have HQ := Sh.mk hq
      clear hq2 hrem hlk
      refine start_ (n := 11) (S := fun w' => w'.cell? ⟨b0, 0, none⟩ = some (.int .i64 id)) (ds := []) #[false, false, false, false, false, false, false, false, false, false, false] (by kernel_rfl) rfl rfl (e0_) (fun hHeld => ?_)
      refine pure_ (i := 0) (N := some 52) (v := ?_) (a' := ?_) #[true, false, false, false, false, false, false, false, false, false, false] rfl rfl (by kernel_rfl) (fun _ _ _ h => h) (Or.inl ⟨by rfl, ?_⟩) ?_ ?_
      rotate_left
      · intro w'
        go_simp
        with_reducible rfl
      rotate_left
      · simp only [Act.put, List.setIfInBounds_toArray, List.set_cons_zero, List.set_cons_succ]
        rfl
      refine pure_ (i := 1) (N := some 53) (v := ?_) (a' := ?_) #[true, true, false, false, false, false, false, false, false, false, false] rfl rfl (by kernel_rfl) (fun _ _ _ h => h) (Or.inl ⟨by rfl, ?_⟩) ?_ ?_
      rotate_left
      · intro w'
        go_simp
        with_reducible rfl
      rotate_left
      · simp only [Act.put, List.setIfInBounds_toArray, List.set_cons_zero, List.set_cons_succ]
        rfl
      refine take_ (i := 2) (N := some 54) (v := ?_) (a' := ?_) #[true, true, true, false, false, false, false, false, false, false, false] rfl rfl (by kernel_rfl) (fun _ _ _ h => h) (Or.inl ⟨by rfl, ?_⟩) hHeld ?_ ?_
      rotate_left
      · rintro w' s0
        go_simp
        with_reducible rfl
      rotate_left
      · simp only [Act.put, List.setIfInBounds_toArray, List.set_cons_zero, List.set_cons_succ]
        rfl
      refine pure_ (i := 3) (N := some 55) (v := ?_) (a' := ?_) #[true, true, true, true, false, false, false, false, false, false, false] rfl rfl (by kernel_rfl) (fun _ _ _ h => h) (Or.inl ⟨by rfl, ?_⟩) ?_ ?_
      rotate_left
      · intro w'
        go_simp
        with_reducible rfl
      rotate_left
      · simp only [Act.put, List.setIfInBounds_toArray, List.set_cons_zero, List.set_cons_succ]
        rfl
      refine pure_ (i := 4) (N := some 56) (v := ?_) (a' := ?_) #[true, true, true, true, true, false, false, false, false, false, false] rfl rfl (by kernel_rfl) (fun _ _ _ h => h) (Or.inl ⟨by rfl, ?_⟩) ?_ ?_
      rotate_left
      · intro w'
        go_simp
        with_reducible rfl
      rotate_left
      · simp only [Act.put, List.setIfInBounds_toArray, List.set_cons_zero, List.set_cons_succ]
        rfl
      refine pure_ (i := 5) (N := some 57) (v := ?_) (a' := ?_) #[true, true, true, true, true, true, false, false, false, false, false] rfl rfl (by kernel_rfl) (fun _ _ _ h => h) (Or.inl ⟨by rfl, ?_⟩) ?_ ?_
      rotate_left
      · intro w'
        go_simp
        with_reducible rfl
      rotate_left
      · simp only [Act.put, List.setIfInBounds_toArray, List.set_cons_zero, List.set_cons_succ]
        rfl
      obtain ⟨wd, hwd⟩ : ∃ wd, wr.drew = wd := ⟨_, rfl⟩
      have hrd : wd.ownsRow w1.heap.size 29 3 u6 L.length (fcells L) := by rw [← hwd]; exact hrow
      have hBd : Below w1.heap.size w1 wd := by rw [← hwd]; exact HB.out.drew
      have hokd : ∀ f ∈ L, FmOw wd f := fun f hf => by rw [← hwd]; exact (HOK.out f hf).kept (Kept.of_below (S := fun _ => False) ((Below.refl _ _).drew)) (fun _ _ e => e)
      rw [hwd] at hHeld ⊢
      have hqs : q.size = (pb s k).length := by rw [HQ2.out, strOfNums_size]
      have hcv := Go.run_bytes_of_string (P := Try.prog) wd 9 22 5 q Try.underlying9 Try.underlying22 Try.underlying5
      have hcge : q.size ≤ grownCap wd q.size 0 5 := grownCap_ge _ _ _ _
      generalize grownCap wd q.size 0 5 = cg at hcv hcge
      obtain ⟨fr, hfr⟩ : ∃ fr : Nat × Nat, ((bytesRow q cg).size, (bytesRow q cg).size + 1) = fr := ⟨_, rfl⟩
      rw [hfr] at hcv
      obtain ⟨wc, hwc⟩ : ∃ wc, wd.drew.alloc (.cells (bytesRow q cg) 5 fr) = wc := ⟨_, rfl⟩
      rw [hwc] at hcv
      obtain ⟨bq, hbq⟩ : ∃ bq, wd.heap.size = bq := ⟨_, rfl⟩
      rw [hbq] at hcv
      have hBc : Below wd.heap.size wd wc := by rw [← hwc]; exact ((Below.refl _ _).drew).alloc (Nat.le_refl _) _
      have hbyc : Bytes wc (some ⟨bq, 0, none⟩) (pb s k) := by
        rw [← hwc, ← hbq, HQ2.out]
        exact conv_bytes wd.drew (pb s k) hpbb cg fr
      have hhc : wc.heap[bq]? = some (.cells (bytesRow q cg) 5 fr) := by rw [← hwc, ← hbq]; exact heap_alloc_new wd.drew _
      have hrc : wc.ownsRow w1.heap.size 29 3 u6 L.length (fcells L) := row_kept hrd (Kept.of_below (S := fun _ => False) hBc) (fun _ _ e => e)
      have hSc : wc.cell? ⟨b0, 0, none⟩ = some (.int .i64 id) := (hBc.cell (p := ⟨b0, 0, none⟩) (by have := HS1.out; have := hBd.size; show b0 < wd.heap.size; omega)).trans hHeld
      have hFow : FmOw wc ⟨id, 2, some ⟨bq, 0, none⟩, pb s k, cg⟩ := ⟨⟨by rw [← hqs]; exact hcge, hbyc, hpbb, fun _ ad e => by cases e; exact lt_of_heap hhc⟩, fun ad e => by cases e; exact ⟨_, _, hhc⟩⟩
      have hokc : ∀ f ∈ L ++ [⟨id, 2, some ⟨bq, 0, none⟩, pb s k, cg⟩], FmOw wc f := fun f hf => by
        rcases List.mem_append.1 hf with h | h
        · exact (hokd f h).kept (Kept.of_below (S := fun _ => False) hBc) (fun _ _ e => e)
        · obtain rfl : f = _ := by simpa using h
          exact hFow
      have hl21 : L.length ≤ 1000 := by
        have := congrArg List.length HMAP.out
        simp at this
        have := HK.out
        unfold count at this
        omega
      refine one_val (i := 6) (N := some 58) (v := .slice (some ⟨bq, 0, none⟩) q.size cg) (w' := wc) (a' := ?_) #[true, true, true, true, true, true, true, false, false, false, false] rfl rfl (by kernel_rfl) (by decide) (by rfl) (by go_simp) (hSc) ?_ ?_
      rotate_left
      · simp only [Act.put, List.setIfInBounds_toArray, List.set_cons_zero, List.set_cons_succ]
        rfl
      refine pure_ (i := 7) (N := some 59) (v := ?_) (a' := ?_) #[true, true, true, true, true, true, true, true, false, false, false] rfl rfl (by kernel_rfl) (fun _ _ _ h => h) (Or.inl ⟨by rfl, ?_⟩) ?_ ?_
      rotate_left
      · intro w'
        go_simp
        with_reducible rfl
      rotate_left
      · simp only [Act.put, List.setIfInBounds_toArray, List.set_cons_zero, List.set_cons_succ]
        rfl
      obtain ⟨v', w8, hra, hO8, hb8, hk8⟩ := push2 hrc (Nat.le_trans hBd.size hBc.size) hl21 id 2 (some ⟨bq, 0, none⟩) q.size cg
      have hal : Below w1.heap.size wc (wc.alloc (.cells #[.int .i64 id, .int .i64 2, .slice (some ⟨bq, 0, none⟩) q.size cg] 29)) := (Below.refl _ _).alloc (Nat.le_trans hBd.size hBc.size) _
      refine one_val (i := 8) (N := some 60) (v := .slice (some ⟨wc.heap.size, 0, none⟩) 1 1) (w' := wc.alloc (.cells #[.int .i64 id, .int .i64 2, .slice (some ⟨bq, 0, none⟩) q.size cg] 29)) (a' := ?_) #[true, true, true, true, true, true, true, true, true, false, false] rfl rfl (by kernel_rfl) (by decide) (by rfl) (by go_simp) (cell_below hal HS1.out hSc) ?_ ?_
      rotate_left
      · simp only [Act.put, List.setIfInBounds_toArray, List.set_cons_zero, List.set_cons_succ]
        rfl
      refine one_val (i := 9) (N := some 61) (v := v') (w' := w8) (a' := ?_) #[true, true, true, true, true, true, true, true, true, true, false] rfl rfl (by kernel_rfl) (by decide) (by rfl) (Gt.exec_append rfl (by rfl) (by rfl) hra) (cell_below hb8 HS1.out hSc) ?_ ?_
      rotate_left
      · simp only [Act.put, List.setIfInBounds_toArray, List.set_cons_zero, List.set_cons_succ]
        rfl
      refine pure_ (i := 10) (N := some 6) (v := ?_) (a' := ?_) #[true, true, true, true, true, true, true, true, true, true, true] rfl rfl (by kernel_rfl) (fun _ _ _ h => h) (Or.inl ⟨by rfl, ?_⟩) ?_ ?_
      rotate_left
      · intro w'
        go_simp
        with_reducible rfl
      rotate_left
      · simp only [Act.put, List.setIfInBounds_toArray, List.set_cons_zero, List.set_cons_succ]
        rfl
      refine done_ (by kernel_rfl) ?_
      have HO8 := Sh.mk (show w8.ownsRow w1.heap.size 29 3 v' (L.length + 1) (fcells (L ++ [⟨id, 2, some ⟨bq, 0, none⟩, pb s k, cg⟩])) by
        rw [fcells_snoc]
        show w8.ownsRow _ _ _ _ _ (_ ++ [.int .i64 id, .int .i64 2, .slice (some ⟨bq, 0, none⟩) (pb s k).length cg])
        rw [← hqs]
        exact hO8)
      have HB8 := Sh.mk ((hBd.trans (hBc.mono hBd.size)).trans hb8)
      have HOK8 := Sh.mk (show ∀ f ∈ L ++ [⟨id, 2, some ⟨bq, 0, none⟩, pb s k, cg⟩], FmOw w8 f from fun f hf => (hokc f hf).kept hk8 (fun ad e => own_ne hrc (hokc f hf) ad e))
      clear hokc hk8 hO8 hb8 hra hal hl21 hFow hSc hrc hhc hbyc hBc hcv hcge hqs hokd hBd hrd hHeld hwd hwc hbq hfr hpbb e0_ hrow
      have hrem := HREM.out
      go_wp2_with fail
      go_roundg g1_
      case measure => have := HK.out; omega
      case rel => exact ⟨k + 1, L ++ [⟨id, 2, some ⟨bq, 0, none⟩, pb s k, cg⟩], _, by have := HK.out; omega, rfl, ⟨(by first | rfl | exact HREM.out), by rw [List.map_append, HMAP.out, List.range_succ, List.map_append]; rfl, by rw [List.length_append]; exact HO8.out, HOK8.out, HB8.out⟩⟩
end Go.Proofs.Ytgnepppncmjagaa.Gt
