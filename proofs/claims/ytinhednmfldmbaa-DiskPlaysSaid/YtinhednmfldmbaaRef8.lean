/- The reference disk: Cut. -/
import Derived.Test.YtinhednmfldmbaaRefA
namespace Go.Proofs.Ytinhednmfldmbaa.Dk
open Go Go.RowKit Hp Rd

/-- The list of what is kept, in the making. -/
structure DoneSt (w1 w : World) (F : Nat → Prop) (rb gf : Nat) (vc v12 : Value) (kept : List Wr) (kvs : List Value) (cs : List Wr) : Prop where
  row : w.ownsRow w1.heap.size 83 2 v12 kept.length (ccells kept kvs)
  len : kvs.length = kept.length
  src : ∀ (j : Nat) (c : Wr) (v : Value), kept[j]? = some c → kvs[j]? = some v → 0 ≤ c.1 ∧ c ∈ cs ∧ Kin w1 F rb gf vc v c.2
  below : Below w1.heap.size w1 w
theorem DoneSt.nil (w1 : World) (F : Nat → Prop) (rb gf : Nat) (vc : Value) (cs : List Wr) : DoneSt w1 w1 F rb gf vc (.slice none 0 0) [] [] cs :=
  ⟨World.ownsRow_nil _ _ _ _, rfl, fun j c v hc => by simp at hc, Below.refl _ _⟩
theorem DoneSt.at {w1 w : World} {F : Nat → Prop} {rb gf : Nat} {vc : Value} {a : Option Addr} {c : Nat} {kept : List Wr} {kvs : List Value} {cs : List Wr} (h : DoneSt w1 w F rb gf vc (.slice a kept.length c) kept kvs cs) {j : Nat} {x : Wr} (hj : kept[j]? = some x) :
    ∃ g v, a = some ⟨g, 0, none⟩ ∧ kvs[j]? = some v ∧ w.cell? ⟨g, j * 2, none⟩ = some (.int .i64 x.1) ∧ w.cell? ⟨g, j * 2 + 1, none⟩ = some v := by
  have hlt := (List.getElem?_eq_some_iff.1 hj).1
  obtain ⟨v, hv⟩ : ∃ v, kvs[j]? = some v := ⟨_, List.getElem?_eq_getElem (by rw [h.len]; exact hlt)⟩
  obtain ⟨p1, p2⟩ := pair_at _ _ j x v hj hv
  rcases h.row.2 with ⟨_, h2⟩ | ⟨g, cap, cur, hvc, _⟩
  · omega
  · obtain ⟨rfl, rfl⟩ : a = some ⟨g, 0, none⟩ ∧ c = cap := by simpa using hvc
    have q1 := h.row.cells (g := g) rfl _ _ p1
    have q2 := h.row.cells (g := g) rfl _ _ p2
    rw [Addr.add_mid, Nat.zero_add] at q1 q2
    rw [Nat.mul_comm j 2]
    exact ⟨g, v, rfl, hv, q1, q2⟩
theorem fold_zip {α : Type} {f : α → Wr × Nat → α} {s : α} {cs : List Wr} {i : Nat} {c : Wr} (h : cs[i]? = some c) : (cs.zipIdx.take (i + 1)).foldl f s = f ((cs.zipIdx.take i).foldl f s) (c, i) := by
  obtain ⟨hl, he⟩ := List.getElem?_eq_some_iff.1 h
  rw [List.take_succ_eq_append_getElem (by simpa using hl), List.foldl_append]
  simp [he]
theorem DoneSt.add {w1 w w' : World} {F : Nat → Prop} {rb gf : Nat} {vc v12 v' : Value} {kept : List Wr} {kvs : List Value} {cs : List Wr} (h : DoneSt w1 w F rb gf vc v12 kept kvs cs) {c : Wr} {v : Value} (h0 : 0 ≤ c.1) (hm : c ∈ cs) (hk : Kin w1 F rb gf vc v c.2)
    (O : w'.ownsRow w1.heap.size 83 2 v' (kept.length + 1) (ccells kept kvs ++ [.int .i64 c.1, v])) (K : Below w1.heap.size w1 w') : DoneSt w1 w' F rb gf vc v' (kept ++ [c]) (kvs ++ [v]) cs := by
  refine ⟨?_, by simp [h.len], fun j c' u hc hu => ?_, K⟩
  · rw [List.length_append, ccells_snoc h.len c.1 c.2 v]
    exact O
  · rcases Nat.lt_or_ge j kept.length with hj | hj
    · rw [List.getElem?_append_left hj] at hc
      rw [List.getElem?_append_left (by rw [h.len]; exact hj)] at hu
      exact h.src j c' u hc hu
    · rw [List.getElem?_append_right hj] at hc
      rw [List.getElem?_append_right (by rw [h.len]; exact hj), h.len] at hu
      have hj0 : j - kept.length = 0 := by
        have := (List.getElem?_eq_some_iff.1 hc).1
        simp at this
        omega
      rw [hj0] at hc hu
      obtain rfl : c = c' := by simpa using hc
      obtain rfl : v = u := by simpa using hu
      exact ⟨h0, hm, hk⟩
theorem size_call : (Try.prog.info? 83).map (·.size) = some 2 := by kernel_rfl
theorem range2 {w : World} {g o : Nat} {a b : Value} (h1 : w.cell? ⟨g, o, none⟩ = some a) (h2 : w.cell? ⟨g, o + 1, none⟩ = some b) : w.rangeAt g o [a, b] := fun j u hu => by
  match j, hu with
  | 0, hu => simp at hu; subst hu; exact h1
  | 1, hu => simp at hu; subst hu; exact h2
theorem new_cells (w : World) (cs : List Value) (t : TypeId) : ∀ (j : Nat) (u : Value), cs[j]? = some u → (w.alloc (.cells cs.toArray t)).cell? ((⟨w.heap.size, 0, none⟩ : Addr).add j) = some u := by
  intro j u hu
  rw [Addr.add_mid, Nat.zero_add]
  simp only [World.cell?, heap_alloc_new]
  simpa using hu
theorem one2 {n : Int} {v : Value} (h : v.oneCell' = true) : ∀ u ∈ [Value.int .i64 n, v], u.oneCell' = true := fun u hu => by
  rcases List.mem_cons.1 hu with rfl | hu
  · rfl
  · rw [List.mem_singleton.1 hu]; exact h
theorem Kin.one {w : World} {F : Nat → Prop} {rb gf : Nat} {vc v : Value} {l : List Int} (h : Kin w F rb gf vc v l) : v.oneCell' = true := by
  obtain ⟨-, g, off, cap, rfl, -⟩ := h.1
  rfl
set_option maxHeartbeats 4000000 in
set_option maxRecDepth 100000 in
theorem refCut_ok {F : Nat → Prop} {w : World} {rb gf cf : Nat} {vc : Value} {fs vs : List Value} {R : RSt} (h : RefIs w F rb gf cf vc fs vs R) (at_ torn : Int) (keep : List Bool) (vk : Value) (hat : (Lit.int .i64 at_).wf = true) (htn : (Lit.int .i64 torn).wf = true) (hk : Row1 w Value.bool vk keep) (hl : R.calls.length < 1000000000000) (h1 : 1 ≤ R.size) (h2 : R.size ≤ 65536) (hcs : ∀ c ∈ R.calls, c.1 < R.size) :
    Calls Try.prog 19 #[.pointer (some ⟨rb, 0, none⟩), .int .i64 at_, vk, .int .i64 torn] w fun e w' => ∃ (rb' gf' cf' : Nat) (fs' : List Value), e = .returned (.pointer (some ⟨rb', 0, none⟩)) ∧ Below w.heap.size w w' ∧
      RefIs w' (fun i => F i ∨ (w.heap.size ≤ i ∧ i < w'.heap.size)) rb' gf' cf' (.slice none 0 0) fs' [] ⟨R.size, (xdisk (pick torn 33).toNat (doneOf keep (R.calls.take (pick at_ (R.calls.length + 1)).toNat)).2.2 (doneOf keep (R.calls.take (pick at_ (R.calls.length + 1)).toNat)).1 ⟨R.size, R.first, []⟩ (doneOf keep (R.calls.take (pick at_ (R.calls.length + 1)).toNat)).1.length).at, []⟩ := by
  have mixed : Try.prog.follows Departure.mixedOrders = true := by kernel_rfl
  have hh := h.head
  have c0 : w.cell? ⟨rb, 0, none⟩ = some (.int .i64 R.size) := by simp [World.cell?, hh]
  have c2 : w.cell? ⟨rb, 2, none⟩ = some vc := by simp [World.cell?, hh]
  obtain ⟨a, c, rfl⟩ := own_len h.crow
  clear hh
  have hcap : R.calls.length ≤ c := by
    rcases h.crow.2 with ⟨hv, h0⟩ | ⟨g, cap, cur, hv, _, _, hle, _⟩
    · omega
    · cases hv; exact hle
  obtain ⟨hp0, hp1⟩ := pick_lt at_ (R.calls.length + 1) (by omega)
  obtain ⟨p, hp⟩ : ∃ p : Nat, pick at_ (R.calls.length + 1) = (p : Int) := Int.eq_ofNat_of_zero_le hp0
  have hpl : p ≤ R.calls.length := by omega
  have hpn : (pick at_ (R.calls.length + 1)).toNat = p := by omega
  rw [hpn]
  obtain ⟨⟨dn, on, ln⟩, hdl⟩ : ∃ d, doneOf keep (R.calls.take p) = d := ⟨_, rfl⟩
  rw [hdl]
  dsimp only
  obtain ⟨ht0, ht1⟩ := pick_lt torn 33 (by omega)
  obtain ⟨tn, htnp⟩ : ∃ tn : Nat, pick torn 33 = (tn : Int) := Int.eq_ofNat_of_zero_le ht0
  have htn_ : (pick torn 33).toNat = tn := by omega
  have htn32 : tn ≤ 32 := by omega
  rw [htn_]
  clear htn_
  obtain ⟨X, hX⟩ : ∃ X : Nat → RSt, xdisk tn ln dn ⟨R.size, R.first, []⟩ = X := ⟨_, rfl⟩
  have hX0 : X 0 = ⟨R.size, R.first, []⟩ := by rw [← hX]; rfl
  have hXs : ∀ j, (X j).size = R.size := fun j => by rw [← hX]; exact xdisk_size _ _ _ _ _
  have hXl : ∀ j, (X j).calls.length ≤ j := fun j => by have := xdisk_len tn ln dn ⟨R.size, R.first, []⟩ j; rw [← hX]; simpa using this
  have hXn : ∀ (j : Nat) (c : Wr), dn[j]? = some c → X (j + 1) = (X j).add c.1 (if (j : Int) = ln then c.2.take tn ++ ((X j).at c.1).drop tn else c.2) := fun j c hc => by rw [← hX]; exact xdisk_succ _ _ _ _ _ _ hc
  rw [hX]
  clear hX
  go_enter Try.func19, Try.ntmps19
  go_upto_region 1 with (fail)
  refine Mo.region 13 [0, 1, 3, 7, 0, 0, 32, 96, 224, 480, 992, 2032, 4095, 8191] (fun w' => w' = w.drew) (fun _ => Eq) (fun _ _ => True) (fun k _ v _ => k = 11 → v = .int .i64 p) rfl (fun _ => trivial) (fun _ _ _ h k => k ▸ h) (fun _ _ _ _ _ _ _ _ _ h => h) (fun _ _ _ _ _ _ _ _ _ => trivial) mixed (by kernel_rfl) ?_
  simp only [List.take_succ_cons, List.take_zero, List.drop_succ_cons, List.drop_zero]
  refine Mo.val (v := ?_) (fun _ => rfl) (by rfl) (fun _ _ _ hk_ => (by cases hk_)) ?_ ?_
  rotate_left
  · (intro w' hT hP hF; cases hT; go_simp; with_reducible rfl)
  simp only [Act.put, List.setIfInBounds_toArray, List.set_cons_zero, List.set_cons_succ]
  refine Mo.val (v := ?_) (fun _ => rfl) (by rfl) (fun _ _ _ hk_ => (by cases hk_)) ?_ ?_
  rotate_left
  · (intro w' hT hP hF; cases hT; go_simp; with_reducible rfl)
  simp only [Act.put, List.setIfInBounds_toArray, List.set_cons_zero, List.set_cons_succ]
  refine Mo.val (v := ?_) (fun _ => rfl) (by rfl) (fun _ _ _ hk_ => (by cases hk_)) ?_ ?_
  rotate_left
  · (intro w' hT hP hF; cases hT; go_simp; with_reducible rfl)
  simp only [Act.put, List.setIfInBounds_toArray, List.set_cons_zero, List.set_cons_succ]
  refine Mo.val (v := ?_) (fun _ => rfl) (by rfl) (fun _ _ _ hk_ => (by cases hk_)) ?_ ?_
  rotate_left
  · (intro w' hT hP hF; cases hT; go_simp; with_reducible rfl)
  simp only [Act.put, List.setIfInBounds_toArray, List.set_cons_zero, List.set_cons_succ]
  refine Mo.val (v := ?_) (fun _ => rfl) (by rfl) (fun _ _ _ hk_ => (by cases hk_)) ?_ ?_
  rotate_left
  · (intro w' hT hP hF; cases hT; go_simp; with_reducible rfl)
  simp only [Act.put, List.setIfInBounds_toArray, List.set_cons_zero, List.set_cons_succ]
  refine Mo.val (v := ?_) (fun _ => rfl) (by rfl) (fun _ _ _ hk_ => (by cases hk_)) ?_ ?_
  rotate_left
  · (intro w' hT hP hF; cases hT; go_simp; with_reducible rfl)
  simp only [Act.put, List.setIfInBounds_toArray, List.set_cons_zero, List.set_cons_succ]
  refine Mo.val (v := ?_) (fun _ => rfl) (by rfl) (fun _ _ _ hk_ => (by cases hk_)) ?_ ?_
  rotate_left
  · (intro w' hT hP hF; cases hT; go_simp; with_reducible rfl)
  simp only [Act.put, List.setIfInBounds_toArray, List.set_cons_zero, List.set_cons_succ]
  refine Mo.val (v := ?_) (fun _ => rfl) (by rfl) (fun _ _ _ hk_ => (by cases hk_)) ?_ ?_
  rotate_left
  · (intro w' hT hP hF; cases hT; go_simp; with_reducible rfl)
  simp only [Act.put, List.setIfInBounds_toArray, List.set_cons_zero, List.set_cons_succ]
  refine Mo.val (v := ?_) (fun _ => rfl) (by rfl) (fun _ _ _ hk_ => (by cases hk_)) ?_ ?_
  rotate_left
  · (intro w' hT hP hF; cases hT; go_simp; with_reducible rfl)
  simp only [Act.put, List.setIfInBounds_toArray, List.set_cons_zero, List.set_cons_succ]
  refine Mo.val (v := ?_) (fun _ => rfl) (by rfl) (fun _ _ _ hk_ => (by cases hk_)) ?_ ?_
  rotate_left
  · (intro w' hT hP hF; cases hT; go_simp; with_reducible rfl)
  simp only [Act.put, List.setIfInBounds_toArray, List.set_cons_zero, List.set_cons_succ]
  refine Mo.val (v := ?_) (fun _ => rfl) (by rfl) (fun _ _ _ hk_ => (by cases hk_)) ?_ ?_
  rotate_left
  · (intro w' hT hP hF; cases hT; go_simp; with_reducible rfl)
  simp only [Act.put, List.setIfInBounds_toArray, List.set_cons_zero, List.set_cons_succ]
  (try rw [IntWalk.i64_in ((R.calls.length : Int) + 1) (by omega)])
  refine Mo.any (by rfl) ?_ ?_
  · intro w' hT hP hF
    cases hT
    go_simp
    show Calls _ _ _ _ _
    refine (refPick_calls at_ (R.calls.length + 1) w.drew hat (by omega) (by omega)).mono ?_
    rintro e w1 ⟨rfl, rfl⟩
    exact ⟨_, rfl, rfl, by rw [hp]⟩
  simp only [Act.put, List.setIfInBounds_toArray, List.set_cons_zero, List.set_cons_succ]
  rintro v37 ⟨_, _, hv37⟩
  obtain rfl := hv37 trivial
  have g1 : (p : Int) ≤ (c : Int) := by omega
  have g0 : (0 : Int) ≤ (p : Int) := by omega
  refine Mo.val (v := ?_) (fun _ => rfl) (by rfl) (fun _ _ _ hk_ => (by cases hk_)) ?_ ?_
  rotate_left
  · (intro w' hT hP hF; cases hT; go_simp; with_reducible rfl)
  simp only [Act.put, List.setIfInBounds_toArray, List.set_cons_zero, List.set_cons_succ]
  refine Mo.done ?_
  rintro w' rfl - -
  go_upto_block 0 with (fail)
  obtain ⟨w1, hw1⟩ : ∃ w1, w.drew = w1 := ⟨_, rfl⟩
  have hb1 : Below w.heap.size w w1 := by rw [← hw1]; exact (Below.refl _ _).drew
  have hR1 := h.kept (S := fun _ => False) (Kept.refl _ w).drew (fun _ _ e => e)
  rw [hw1] at hR1 ⊢
  go_cut [10] (fun v10 wx => wx = w1 ∧ v10 = .int .i64 (lastOf (R.calls.take p) : Nat))
  case first =>
    go_wp2_with fail
    go_loopg [10, 11] p (fun kq v10 v11 w' => ∃ i : Nat, v11 = .int .i64 (i : Int) ∧ i + kq = p ∧ w' = w1 ∧ v10 = .int .i64 (lastOf (R.calls.take i) : Nat))
    case atStart => exact ⟨0, rfl, by omega, rfl, rfl⟩
    case round =>
      obtain ⟨i, rfl, hi, rfl, rfl⟩ := hrel
      cases gk with
      | zero =>
        have q : ¬ ((i : Int) < (p : Int)) := by omega
        obtain rfl : i = p := by omega
        go_wp2_with fail
        go_meet
        case rel => exact ⟨rfl, rfl⟩
      | succ g1_ =>
        have q : (i : Int) < (p : Int) := by omega
        have q0 : (0 : Int) ≤ (i : Int) := by omega
        obtain ⟨cc, hcc⟩ : ∃ cc, R.calls[i]? = some cc := ⟨_, List.getElem?_eq_getElem (by omega)⟩
        obtain ⟨g, cap, v, hvc, hv, hc1, hc2⟩ := hR1.call hcc
        obtain ⟨rfl, rfl⟩ : a = some ⟨g, 0, none⟩ ∧ c = cap := by simpa using hvc
        have hlo : lastOf (R.calls.take (i + 1)) = if cc.1 < 0 then i else lastOf (R.calls.take i) := by
          obtain ⟨hl_, he_⟩ := List.getElem?_eq_some_iff.1 hcc
          rw [List.take_succ_eq_append_getElem hl_, he_, lastOf_snoc, List.length_take, Nat.min_eq_left (Nat.le_of_lt hl_)]
        by_cases hn : cc.1 < 0
        · rw [if_pos hn] at hlo
          go_wp2_with fail
          go_roundg g1_
          case measure => omega
          case rel => exact ⟨i + 1, by go_num, by omega, rfl, by rw [hlo]⟩
        · rw [if_neg hn] at hlo
          go_wp2_with fail
          go_roundg g1_
          case measure => omega
          case rel => exact ⟨i + 1, by go_num, by omega, rfl, by rw [hlo]⟩
  case rest =>
    obtain ⟨rfl, rfl⟩ := hcut
    obtain ⟨w1, hw1_⟩ : ∃ w1, w1 = wc := ⟨_, rfl⟩
    subst hw1_
    obtain ⟨ak, ck, rfl, hk0, hk1⟩ := hk
    obtain ⟨L, hL⟩ : ∃ L, lastOf (R.calls.take p) = L := ⟨_, rfl⟩
    have hdone : ∀ d, ((R.calls.take p).zipIdx.take p).foldl (step2 keep L) ([], 0, -1) = d → doneOf keep (R.calls.take p) = d := fun d hd => by
      unfold doneOf
      have hz : (R.calls.take p).zipIdx.take p = (R.calls.take p).zipIdx := List.take_of_length_le (by simp; omega)
      rw [hL, ← hd, hz]
    rw [hL]
    go_upto_block 2 with (fail)
    go_cut [12, 14] (fun v12 v14 wx => ∃ kvs, v14 = .int .i64 ln ∧ Sh (DoneSt w1 wx F rb gf (.slice a R.calls.length c) v12 dn kvs R.calls) ∧ dn.length ≤ p)
    case first =>
      go_wp2_with fail
      go_loopg [12, 13, 14, 15] p (fun kq v12 v13 v14 v15 w' => ∃ (i o : Nat) (l : Int) (kept : List Wr) (kvs : List Value), v13 = .int .i64 (o : Int) ∧ v14 = .int .i64 l ∧ v15 = .int .i64 (i : Int) ∧ i + kq = p ∧ o ≤ i ∧ kept.length ≤ i ∧ Sh (((R.calls.take p).zipIdx.take i).foldl (step2 keep L) ([], 0, -1) = (kept, o, l) ∧ DoneSt w1 w' F rb gf (.slice a R.calls.length c) v12 kept kvs R.calls))
      case atStart => exact ⟨0, 0, -1, [], [], rfl, rfl, rfl, by omega, Nat.le_refl _, Nat.le_refl _, ⟨rfl, DoneSt.nil _ _ _ _ _ _⟩⟩
      case round =>
        obtain ⟨i, o, l, kept, kvs, rfl, rfl, rfl, hi, hoi, hki, ⟨hdn, hD⟩⟩ := hrel
        obtain ⟨a12, c12, rfl⟩ := own_len hD.row
        cases gk with
        | zero =>
          have q : ¬ ((i : Int) < (p : Int)) := by omega
          obtain rfl : i = p := by omega
          have hd := hdone _ hdn
          rw [hdl] at hd
          obtain ⟨rfl, rfl, rfl⟩ : dn = kept ∧ on = o ∧ ln = l := by simpa using hd
          go_wp2_with fail
          go_meet
          case rel => exact ⟨kvs, rfl, ⟨hD⟩, hki⟩
        | succ g1_ =>
          have q : (i : Int) < (p : Int) := by omega
          have q0 : (0 : Int) ≤ (i : Int) := by omega
          obtain ⟨cc, hcc⟩ : ∃ cc, R.calls[i]? = some cc := ⟨_, List.getElem?_eq_getElem (by omega)⟩
          have hcp : (R.calls.take p)[i]? = some cc := by rw [List.getElem?_take_of_lt (by omega)]; exact hcc
          have hst := fold_zip (f := step2 keep L) (s := ([], 0, -1)) hcp
          rw [hdn] at hst
          obtain ⟨g, cap, v, hvc, hv, hc1, hc2⟩ := hR1.call hcc
          obtain ⟨rfl, rfl⟩ : a = some ⟨g, 0, none⟩ ∧ c = cap := by simpa using hvc
          have hK : Kept (fun _ => False) w1 wr := Kept.of_below hD.below
          replace hc1 := kept_cell' hK hc1 (fun e => e)
          replace hc2 := kept_cell' hK hc2 (fun e => e)
          by_cases hn : cc.1 < 0
          · have hs : step2 keep L (kept, o, l) (cc, i) = (kept, o, l) := by simp [step2, hn]
            rw [hs] at hst
            go_wp2_with fail
            go_roundg g1_
            case measure => omega
            case rel => exact ⟨i + 1, o, l, kept, kvs, rfl, rfl, by go_num, by omega, by omega, by omega, ⟨hst, hD⟩⟩
          · have hn' : ¬ (cc.1 < 0) := hn
            have hkin := hR1.bytes i cc v hcc hv (by omega)
            obtain ⟨i0, hi0, hz⟩ := Option.map_eq_some_iff.1 info_call
            simp only [Prod.mk.injEq] at hz
            obtain ⟨hz0, hz1, hz2⟩ := hz
            by_cases hLi : L ≤ i
            · have q3 : (L : Int) ≤ (i : Int) := by omega
              by_cases hkl : keep.length ≤ o
              · have q4 : (keep.length : Int) < (o : Int) + 1 := by omega
                have hs : step2 keep L (kept, o, l) (cc, i) = (kept, o + 1, l) := by simp [step2, hn, hLi, List.getD_eq_getElem?_getD, List.getElem?_eq_none hkl]
                rw [hs] at hst
                go_wp2_with fail
                go_roundg g1_
                case measure => omega
                case rel => exact ⟨i + 1, o + 1, l, kept, kvs, by go_num, rfl, by go_num, by omega, by omega, by omega, ⟨hst, hD⟩⟩
              · have q4 : ¬ ((keep.length : Int) < (o : Int) + 1) := by omega
                have q5 : (0 : Int) ≤ (o : Int) + 1 - 1 := by omega
                have q6 : (o : Int) + 1 - 1 < (keep.length : Int) := by omega
                obtain ⟨b, hb⟩ : ∃ b, keep[o]? = some b := ⟨_, List.getElem?_eq_getElem (by omega)⟩
                obtain ⟨adk, rfl⟩ : ∃ adk, ak = some adk := by
                  cases ak with
                  | none => have := (hk0 rfl).1; subst this; simp at hb
                  | some x => exact ⟨x, rfl⟩
                obtain ⟨hk2, hk3⟩ := hk1 adk rfl
                have hcb := bcell' hD.below (bcell' hb1 (hk3 o b hb))
                have hoe : ((o : Int) + 1 - 1).toNat = o := by omega
                have hsb : step2 keep L (kept, o, l) (cc, i) = if b = true then (kept ++ [cc], o + 1, (kept.length : Int)) else (kept, o + 1, l) := by
                  simp [step2, hn, hLi, List.getD_eq_getElem?_getD, hb]
                cases b with
                | false =>
                  rw [hsb, if_neg (by decide)] at hst
                  go_wp2_with fail
                  go_roundg g1_
                  case measure => omega
                  case rel => exact ⟨i + 1, o + 1, l, kept, kvs, by go_num, rfl, by go_num, by omega, by omega, by omega, ⟨hst, hD⟩⟩
                | true =>
                  rw [hsb, if_pos rfl] at hst
                  have hrow := hD.row.alloc (.cells #[.int .i64 cc.1, v] 83)
                  have HR : Sh (wr.rangeAt g (i * 2) [.int .i64 cc.1, v]) := ⟨range2 hc1 hc2⟩
                  have hone : v.oneCell' = true := hkin.one
                  have hlb := hD.below.size
                  go_wp2_with (at_builtin; refine Ow.wpList_append _ rfl _ _ 66 rfl w1.heap.size 83 i0 _ 2 32 Try.underlying66 hi0 hz0 hz1 hz2 rfl (by decide) _ kept.length (ccells kept kvs) rfl hrow ⟨wr.heap.size, 0, none⟩ 1 1 [.int .i64 cc.1, v] rfl rfl (new_cells _ _ _) (one2 hone) (by unfold maxLen; omega) (by omega) (Nat.le_trans hlb (by simp)) ?_)
                  intro v' w2 O1 hgr _ O2
                  have hrlt := fun k hk => (hD.row.lt k hk).1
                  have KA : Below w1.heap.size w1 w2 := (hD.below.alloc hlb _).grown hgr (Nat.le_trans hlb (by simp)) hrlt
                  have hD2 := hD.add (w' := w2) (by omega) (List.mem_of_getElem? hcc) hkin O1 KA
                  obtain ⟨a13, c13, rfl⟩ := own_len O1
                  clear hrow HR hgr hrlt O1 O2 hD
                  go_wp2_with fail
                  go_roundg g1_
                  case measure => omega
                  case rel => exact ⟨i + 1, o + 1, (kept.length : Int), kept ++ [cc], kvs ++ [v], by go_num, by go_num, by go_num, by omega, by omega, by simp; omega, ⟨hst, by simpa using hD2⟩⟩
            · have q3 : ¬ ((L : Int) ≤ (i : Int)) := by omega
              have hs : step2 keep L (kept, o, l) (cc, i) = (kept ++ [cc], o, l) := by simp [step2, hn, hLi]
              rw [hs] at hst
              have hrow := hD.row.alloc (.cells #[.int .i64 cc.1, v] 83)
              have HR : Sh (wr.rangeAt g (i * 2) [.int .i64 cc.1, v]) := ⟨range2 hc1 hc2⟩
              have hone : v.oneCell' = true := hkin.one
              have hlb := hD.below.size
              go_wp2_with (at_builtin; refine Ow.wpList_append _ rfl _ _ 66 rfl w1.heap.size 83 i0 _ 2 32 Try.underlying66 hi0 hz0 hz1 hz2 rfl (by decide) _ kept.length (ccells kept kvs) rfl hrow ⟨wr.heap.size, 0, none⟩ 1 1 [.int .i64 cc.1, v] rfl rfl (new_cells _ _ _) (one2 hone) (by unfold maxLen; omega) (by omega) (Nat.le_trans hlb (by simp)) ?_)
              intro v' w2 O1 hgr _ O2
              have hrlt := fun k hk => (hD.row.lt k hk).1
              have KA : Below w1.heap.size w1 w2 := (hD.below.alloc hlb _).grown hgr (Nat.le_trans hlb (by simp)) hrlt
              have hD2 := hD.add (w' := w2) (by omega) (List.mem_of_getElem? hcc) hkin O1 KA
              obtain ⟨a13, c13, rfl⟩ := own_len O1
              clear hrow HR hgr hrlt O1 O2 hD
              go_wp2_with fail
              go_roundg g1_
              case measure => omega
              case rel => exact ⟨i + 1, o, l, kept ++ [cc], kvs ++ [v], rfl, rfl, by go_num, by omega, by omega, by simp; omega, ⟨hst, by simpa using hD2⟩⟩
    case rest =>
      obtain ⟨kvs, rfl, ⟨hD⟩, hdp⟩ := hcut
      obtain ⟨w2, hw2_⟩ : ∃ w2, w2 = wc := ⟨_, rfl⟩
      subst hw2_
      have hb2 : Below w.heap.size w w2 := hb1.trans (hD.below.mono hb1.size)
      have hR2 := hR1.kept (Kept.of_below (S := fun _ => False) hD.below) (fun _ _ e => e)
      have hh2 := hR2.head
      have d0 : w2.cell? ⟨rb, 0, none⟩ = some (.int .i64 R.size) := by simp [World.cell?, hh2]
      have d1 : w2.cell? ⟨rb, 1, none⟩ = some (.slice (some ⟨gf, 0, none⟩) R.size.toNat cf) := by simp [World.cell?, hh2]
      clear hh2
      obtain ⟨a12, c12, rfl⟩ := own_len hD.row
      go_upto_region 20 with (fail)
      refine Mo.region 9 [0, 1, 3, 7, 0, 16, 48, 112, 255, 511] (fun w' => w' = w2.drew) (fun _ => Eq) (fun _ _ => True) (fun _ _ _ _ => True) rfl (fun _ => trivial) (fun _ _ _ h k => k ▸ h) (fun _ _ _ _ _ _ _ _ _ _ => trivial) (fun _ _ _ _ _ _ _ _ _ => trivial) mixed (by kernel_rfl) ?_
      simp only [List.take_succ_cons, List.take_zero, List.drop_succ_cons, List.drop_zero]
      refine Mo.val (v := ?_) (fun _ => rfl) (by rfl) (fun _ _ _ => trivial) ?_ ?_
      rotate_left
      · (intro w' hT hP hF; cases hT; go_simp; with_reducible rfl)
      simp only [Act.put, List.setIfInBounds_toArray, List.set_cons_zero, List.set_cons_succ]
      refine Mo.val (v := ?_) (fun _ => rfl) (by rfl) (fun _ _ _ => trivial) ?_ ?_
      rotate_left
      · (intro w' hT hP hF; cases hT; go_simp; with_reducible rfl)
      simp only [Act.put, List.setIfInBounds_toArray, List.set_cons_zero, List.set_cons_succ]
      refine Mo.val (v := ?_) (fun _ => rfl) (by rfl) (fun _ _ _ => trivial) ?_ ?_
      rotate_left
      · (intro w' hT hP hF; cases hT; go_simp; with_reducible rfl)
      simp only [Act.put, List.setIfInBounds_toArray, List.set_cons_zero, List.set_cons_succ]
      refine Mo.val (v := ?_) (fun _ => rfl) (by rfl) (fun _ _ _ => trivial) ?_ ?_
      rotate_left
      · (intro w' hT hP hF; cases hT; go_simp; with_reducible rfl)
      simp only [Act.put, List.setIfInBounds_toArray, List.set_cons_zero, List.set_cons_succ]
      refine Mo.val (v := ?_) (fun _ => rfl) (by rfl) (fun _ _ _ => trivial) ?_ ?_
      rotate_left
      · (intro w' hT hP hF; cases hT; go_simp; with_reducible rfl)
      simp only [Act.put, List.setIfInBounds_toArray, List.set_cons_zero, List.set_cons_succ]
      refine Mo.val (v := ?_) (fun _ => rfl) (by rfl) (fun _ _ _ => trivial) ?_ ?_
      rotate_left
      · (intro w' hT hP hF; cases hT; go_simp; with_reducible rfl)
      simp only [Act.put, List.setIfInBounds_toArray, List.set_cons_zero, List.set_cons_succ]
      refine Mo.val (v := ?_) (fun _ => rfl) (by rfl) (fun _ _ _ => trivial) ?_ ?_
      rotate_left
      · (intro w' hT hP hF; cases hT; go_simp; with_reducible rfl)
      simp only [Act.put, List.setIfInBounds_toArray, List.set_cons_zero, List.set_cons_succ]
      refine Mo.val (v := ?_) (fun _ => rfl) (by rfl) (fun _ _ _ => trivial) ?_ ?_
      rotate_left
      · (intro w' hT hP hF; cases hT; go_simp; with_reducible rfl)
      simp only [Act.put, List.setIfInBounds_toArray, List.set_cons_zero, List.set_cons_succ]
      refine Mo.val (v := ?_) (fun _ => rfl) (by rfl) (fun _ _ _ => trivial) ?_ ?_
      rotate_left
      · (intro w' hT hP hF; cases hT; go_simp; with_reducible rfl)
      simp only [Act.put, List.setIfInBounds_toArray, List.set_cons_zero, List.set_cons_succ]
      refine Mo.done ?_
      rintro w' rfl - -
      go_upto_block 4 with (fail)
      have hL0 : LaySt F w.heap.size w2 ((w2.alloc (.cells #[.int .i64 R.size, .slice (some ⟨gf, 0, none⟩) R.size.toNat cf, .slice none 0 0] 68)).drew) w2.heap.size gf cf (.slice none 0 0) fs [] ⟨R.size, R.first, []⟩ := hR2.share w.heap.size hb2.size
      obtain ⟨w3, hw3⟩ : ∃ w3, (w2.alloc (.cells #[.int .i64 R.size, .slice (some ⟨gf, 0, none⟩) R.size.toNat cf, .slice none 0 0] 68)).drew = w3 := ⟨_, rfl⟩
      obtain ⟨xb, hxb⟩ : ∃ xb, w2.heap.size = xb := ⟨_, rfl⟩
      rw [hw3, hxb] at hL0
      rw [hw3, hxb]
      clear hw3 hxb d0 d1
      rw [← hX0] at hL0
      go_cut [] (fun wx => ∃ vc' vs', Sh (LaySt F w.heap.size w2 wx xb gf cf vc' fs vs' (X dn.length)))
      case first =>
        go_wp2_with fail
        go_loopg [17] dn.length (fun kq v17 w' => ∃ (j : Nat) (vc' : Value) (vs' : List Value), v17 = .int .i64 (j : Int) ∧ j + kq = dn.length ∧ Sh (LaySt F w.heap.size w2 w' xb gf cf vc' fs vs' (X j)))
        case atStart => exact ⟨0, _, _, rfl, by omega, ⟨hL0⟩⟩
        case round =>
          obtain ⟨j, vc', vs', rfl, hj, ⟨hS⟩⟩ := hrel
          cases gk with
          | zero =>
            have q : ¬ ((j : Int) < (dn.length : Int)) := by omega
            obtain rfl : j = dn.length := by omega
            go_wp2_with fail
            go_meet
            case rel => exact ⟨vc', vs', ⟨hS⟩⟩
          | succ g1_ =>
            have q : (j : Int) < (dn.length : Int) := by omega
            have q0 : (0 : Int) ≤ (j : Int) := by omega
            obtain ⟨cj, hcj⟩ : ∃ cj, dn[j]? = some cj := ⟨_, List.getElem?_eq_getElem (by omega)⟩
            obtain ⟨g12, vj, rfl, hvj, e1, e2⟩ := hD.at hcj
            obtain ⟨h0j, hmj, hkj, hkj2⟩ := hD.src j cj vj hcj hvj
            have hjs := hcs cj hmj
            replace e1 := bcell' hS.below e1
            replace e2 := bcell' hS.below e2
            have hkr : Row32 wr vj cj.2 := (hkj.below hD.below).below hS.below
            have hb12 := hD.below.size
            have hb23 := hS.below.size
            obtain ⟨hlj, g1, o1, cp1, rfl, hr1⟩ := hkr
            obtain ⟨hF1, -, hgf1, -, hcp1⟩ := hkj2 g1 o1 cp1 rfl
            have hl1 : g1 < w2.heap.size := by have := hR1.lt g1 hF1; omega
            obtain ⟨nj, hnj⟩ : ∃ nj : Nat, cj.1 = (nj : Int) := Int.eq_ofNat_of_zero_le h0j
            rw [hnj] at e1 hjs
            have hXs_j := hXs j
            have hXl_j := hXl j
            have hXn_j := hXn j cj hcj
            rw [hnj] at hXn_j
            obtain ⟨bj, hbj⟩ : ∃ bj, (if (j : Int) = ln then cj.2.take tn ++ ((X j).at nj).drop tn else cj.2) = bj := ⟨_, rfl⟩
            rw [hbj] at hXn_j
            go_upto_if 113 with (fail)
            go_cut [18] (fun v18 wx => Sh (Laid F gf w2 wr wx v18 bj))
            case first =>
              by_cases hjl : (j : Int) = ln
              · subst hjl
                rw [if_pos rfl] at hbj
                go_wp2_with fail
                refine (refRead_ok hS.is nj (by omega) (by omega)).mono ?_
                rintro e w5 ⟨vo, rfl, rfl, hvo, hvo2⟩
                obtain ⟨hlo, g2, o2, cp2, rfl, hr2⟩ := hvo
                obtain ⟨-, -, -, -, hcp2⟩ := hvo2 g2 o2 cp2 rfl
                clear hvo2
                go_wp2_with fail
                refine (refPick_calls torn 33 wr htn (by omega) (by omega)).mono ?_
                rintro e w5 ⟨rfl, rfl⟩
                rw [htnp]
                go_upto_region 28 with (fail)
                have t0 : (0 : Int) ≤ (tn : Int) := by omega
                have t1 : (tn : Int) ≤ (cp1 : Int) := by omega
                have t2 : (tn : Int) ≤ (32 : Int) := by omega
                have t3 : (32 : Int) ≤ (cp2 : Int) := by omega
                refine Mo.region 8 [0, 0, 0, 6, 15, 0, 0, 96, 255] (fun w' => Below wr.heap.size wr w') TrC (fun _ _ => True) (PsiC cj.2 tn wr) (Below.refl _ _).drew (fun _ => trivial) (fun k u u' hu ht => hu.trans (ht.below.mono hu.size)) (fun _ _ _ _ _ _ _ _ ht h => psiC_stays ht h) (fun _ _ _ _ _ _ _ _ _ => trivial) mixed (by kernel_rfl) ?_
                simp only [List.take_succ_cons, List.take_zero, List.drop_succ_cons, List.drop_zero]
                refine Mo.any (by rfl) ?_ ?_
                · intro w' hT hP hF
                  have hsz := hT.size
                  go_simp
                  refine ⟨?_, ?_⟩
                  · unfold TrC
                    rw [if_pos (by simp)]
                    exact (Below.refl _ _).alloc (Nat.le_refl _) _
                  · unfold PsiC
                    rw [if_pos rfl]
                    exact ⟨_, rfl, hsz, heap_alloc_new _ _⟩
                simp only [Act.put, List.setIfInBounds_toArray, List.set_cons_zero, List.set_cons_succ]
                rintro v0 ⟨wx, -, hx⟩
                unfold PsiC at hx
                rw [if_pos rfl] at hx
                obtain ⟨x0, rfl, hx0, -⟩ := hx
                refine Mo.val (v := ?_) (fun _ => rfl) (by rfl) (fun _ _ _ => trivial) ?_ ?_
                rotate_left
                · (intro w' hT hP hF; skip; go_simp; with_reducible rfl)
                simp only [Act.put, List.setIfInBounds_toArray, List.set_cons_zero, List.set_cons_succ]
                refine Mo.val (v := ?_) (fun _ => rfl) (by rfl) (fun _ _ _ => trivial) ?_ ?_
                rotate_left
                · (intro w' hT hP hF; skip; go_simp; with_reducible rfl)
                simp only [Act.put, List.setIfInBounds_toArray, List.set_cons_zero, List.set_cons_succ]
                refine Mo.val (v := ?_) (fun _ => rfl) (by rfl) (fun _ _ _ => trivial) ?_ ?_
                rotate_left
                · (intro w' hT hP hF; skip; go_simp; with_reducible rfl)
                simp only [Act.put, List.setIfInBounds_toArray, List.set_cons_zero, List.set_cons_succ]
                refine Mo.any (by rfl) ?_ ?_
                · intro w' hT hP hF
                  have hF0 := hF 0 (by decide)
                  simp (decide := true) only [Mo.upd, if_true, if_false] at hF0
                  unfold PsiC at hF0
                  rw [if_pos rfl] at hF0
                  obtain ⟨x0', he0, -, hh0⟩ := hF0
                  obtain rfl : x0 = x0' := by simpa using he0
                  refine Mo.leaves_of_wp (d := 130) rfl (by simp) fun K Q hK => ?_
                  refine wp_part (.tmp 126) (.tmp 129) rfl rfl x0 hh0 g1 o1 tn cp1 cj.2 rfl rfl (fun i u hu => bcell' hT (hr1 i u hu)) (by omega) (by omega) fun v' W' hb ho => hK _ _ ⟨?_, ?_⟩
                  · unfold TrC
                    rw [if_pos (by simp)]
                    exact hb
                  · unfold PsiC
                    rw [if_neg (by decide), if_pos rfl]
                    exact own_base ho hx0
                simp only [Act.put, List.setIfInBounds_toArray, List.set_cons_zero, List.set_cons_succ]
                rintro v4 ⟨wx, -, hx⟩
                unfold PsiC at hx
                rw [if_neg (by decide), if_pos rfl] at hx
                obtain ⟨a4, c4, rfl⟩ := own_len hx
                refine Mo.val (v := ?_) (fun _ => rfl) (by rfl) (fun _ _ _ => trivial) ?_ ?_
                rotate_left
                · (intro w' hT hP hF; skip; go_simp; with_reducible rfl)
                simp only [Act.put, List.setIfInBounds_toArray, List.set_cons_zero, List.set_cons_succ]
                refine Mo.val (v := ?_) (fun _ => rfl) (by rfl) (fun _ _ _ => trivial) ?_ ?_
                rotate_left
                · (intro w' hT hP hF; skip; go_simp; with_reducible rfl)
                simp only [Act.put, List.setIfInBounds_toArray, List.set_cons_zero, List.set_cons_succ]
                refine Mo.val (v := ?_) (fun _ => rfl) (by rfl) (fun _ _ _ => trivial) ?_ ?_
                rotate_left
                · (intro w' hT hP hF; skip; go_simp; with_reducible rfl)
                simp only [Act.put, List.setIfInBounds_toArray, List.set_cons_zero, List.set_cons_succ]
                refine Mo.done ?_
                intro w' hT hF _
                have hF4 := hF 4
                simp (decide := true) only [Mo.upd, if_true, if_false] at hF4
                unfold PsiC at hF4
                rw [if_neg (by decide), if_pos rfl] at hF4
                obtain ⟨i0, hi0, hz⟩ := Option.map_eq_some_iff.1 info_u8
                simp only [Prod.mk.injEq] at hz
                obtain ⟨hz0, hz1, hz2⟩ := hz
                refine Ow.wpList_append _ rfl _ _ 31 rfl wr.heap.size 5 i0 _ 1 1 Try.underlying31 hi0 hz0 hz1 hz2 rfl (by decide) _ tn ((cj.2.take tn).map (Value.int .u8)) rfl hF4 (if cp2 = tn then ⟨g2, o2, none⟩ else ⟨g2, o2 + tn, none⟩) (32 - tn) (cp2 - tn) ((((X j).at nj).drop tn).map (Value.int .u8)) ?hx ?d1 ?d2 (one_u8 _) (by unfold maxLen; omega) (by omega) hT.size ?_
                case hx =>
                  conv => lhs; whnf
                  split <;> rfl
                case d1 => simp; omega
                case d2 =>
                  intro i u hu
                  have hil := (List.getElem?_eq_some_iff.1 hu).1
                  simp at hil
                  rw [if_neg (by omega), Addr.add_mid, Nat.add_assoc]
                  refine bcell' hT (hr2 (tn + i) u ?_)
                  rw [List.map_drop, List.getElem?_drop] at hu
                  exact hu
                intro v' w5 O1 hgr _ O2
                rw [show tn + (32 - tn) = 32 by omega, ← List.map_append] at O1
                obtain ⟨a5, c5, rfl⟩ := own_len O1
                have hrlt := fun k hk => (hF4.lt k hk).1
                have hb5 : Below wr.heap.size wr w5 := hT.grown hgr hT.size hrlt
                have hlen : (cj.2.take tn ++ ((X j).at nj).drop tn).length = 32 := by simp; omega
                have hlaid : Laid F gf w2 wr w5 (.slice a5 32 c5) bj := by
                  rw [← hbj]
                  refine ⟨Row32.own O1 hlen, hb5, fun g off cap he => ?_⟩
                  obtain ⟨rfl, rfl⟩ : a5 = some ⟨g, off, none⟩ ∧ c5 = cap := by simpa using he
                  refine ⟨.inr (O1.lt g rfl).1, ?_⟩
                  rcases O1.2 with ⟨hv0, h0_⟩ | ⟨g', cap', cur, hv', _, _, hle, _⟩
                  · omega
                  · cases hv'; exact hle
                clear hF O1 O2 hgr hrlt hF4 hx
                go_wp2_with fail
                · go_meet
                  case rel => exact ⟨hlaid⟩
                · go_meet
                  case rel => exact ⟨hlaid⟩
              · rw [if_neg hjl] at hbj
                subst hbj
                have hjl' : ((j : Int) == ln) = false := by simp [hjl]
                go_wp2_with fail
                go_meet
                case rel => exact ⟨⟨hlj, g1, o1, cp1, rfl, hr1⟩, Below.refl _ _, fun g off cap he => by cases he; exact ⟨.inl ⟨hF1, hl1, hgf1⟩, hcp1⟩⟩
            case rest =>
              obtain ⟨hla⟩ := hcut
              obtain ⟨wm, hwm⟩ : ∃ wm, wm = wc := ⟨_, rfl⟩
              subst hwm
              obtain ⟨hlaR, hlaB, hla3⟩ := hla
              have hlaR' := hlaR
              obtain ⟨-, g18, o18, c18, rfl, -⟩ := hlaR'
              have hone : (Value.slice (some ⟨g18, o18, none⟩) 32 c18).oneCell' = true := rfl
              replace e1 := bcell' hlaB e1
              have hI : RefIs wm (fun i => F i ∨ (w.heap.size ≤ i ∧ i < wr.heap.size)) xb gf cf vc' fs vs' (X j) := hS.is.kept (Kept.of_below (S := fun _ => False) hlaB) (fun _ _ e => e)
              have hhI := hI.head
              have f2 : wm.cell? ⟨xb, 2, none⟩ = some vc' := by simp [World.cell?, hhI]
              have hvlt : ∀ i, vc'.ownBlock = some i → i < wm.heap.size := fun i hi => (hI.crow.lt i hi).2
              go_upto_region 29 with (fail)
              refine Mo.region 14 [0, 0, 2, 6, 14, 0, 0, 96, 224, 480, 0, 2016, 4064, 8190, 16383] (fun w' => Kept (fun k => vc'.ownBlock = some k) wm w') (TrL vc') (fun k w' => k = 13 → w'.ownsRow 0 83 2 vc' (X j).calls.length (ccells (X j).calls vs')) (PsiL (X j).calls vs' nj (.slice (some ⟨g18, o18, none⟩) 32 c18) vc' wm) (Kept.refl _ _).drew (fun _ _ => own_kept hI.crow (Kept.refl (fun _ => False) wm).drew (fun _ _ e => e)) (fun k u u' hu ht => hu.trans ht.kept (fun _ _ e => e)) (psiL_stays _ _ _ _ _ _ hvlt) ?hpre mixed (by kernel_rfl) ?_
              case hpre =>
                intro j_ k u u' hjk hb hu ht hp_ e
                subst e
                unfold TrL at ht
                split at ht
                · exact own_kept (hp_ rfl) (Kept.of_below (S := fun _ => False) ht) (fun _ _ e => e)
                · split at ht
                  · rename_i h11
                    exact absurd h11.symm hjk
                  · exact ht ▸ hp_ rfl
              simp only [List.take_succ_cons, List.take_zero, List.drop_succ_cons, List.drop_zero]
              have f2' : ∀ w', Kept (fun k => vc'.ownBlock = some k) wm w' → w'.cell? ⟨xb, 2, none⟩ = some vc' := fun w' k => kept_cell' k f2 hI.apart.2.1
              have e1' : ∀ w', Kept (fun k => vc'.ownBlock = some k) wm w' → w'.cell? ⟨g12, j * 2, none⟩ = some (.int .i64 (nj : Int)) := fun w' k => kept_cell' k e1 (fun e => by
                have h5 := hS.own g12 e
                have h6 := (hD.row.lt g12 rfl).2
                omega)
              refine Mo.val (v := ?_) (fun _ => rfl) (by rfl) (fun _ _ _ => trivial) ?_ ?_
              rotate_left
              · (intro w' hT hP hF; skip; go_simp; with_reducible rfl)
              simp only [Act.put, List.setIfInBounds_toArray, List.set_cons_zero, List.set_cons_succ]
              refine Mo.val (v := ?_) (fun _ => rfl) (by rfl) (fun _ _ _ => trivial) ?_ ?_
              rotate_left
              · (intro w' hT hP hF; skip; go_simp; with_reducible rfl)
              simp only [Act.put, List.setIfInBounds_toArray, List.set_cons_zero, List.set_cons_succ]
              refine Mo.val (v := ?_) (fun _ => rfl) (by rfl) (fun _ _ _ => trivial) ?_ ?_
              rotate_left
              · (intro w' hT hP hF; skip; go_simp; with_reducible rfl)
              simp only [Act.put, List.setIfInBounds_toArray, List.set_cons_zero, List.set_cons_succ]
              refine Mo.val (v := ?_) (fun _ => rfl) (by rfl) (fun _ _ _ => trivial) ?_ ?_
              rotate_left
              · (intro w' hT hP hF; skip; go_simp; with_reducible rfl)
              simp only [Act.put, List.setIfInBounds_toArray, List.set_cons_zero, List.set_cons_succ]
              refine Mo.val (v := ?_) (fun _ => rfl) (by rfl) (fun _ _ _ => trivial) ?_ ?_
              rotate_left
              · (intro w' hT hP hF; have hc := f2' w' hT; go_simp; with_reducible rfl)
              simp only [Act.put, List.setIfInBounds_toArray, List.set_cons_zero, List.set_cons_succ]
              refine Mo.val (v := ?_) (fun _ => rfl) (by rfl) (fun _ _ _ => trivial) ?_ ?_
              rotate_left
              · (intro w' hT hP hF; skip; go_simp; with_reducible rfl)
              simp only [Act.put, List.setIfInBounds_toArray, List.set_cons_zero, List.set_cons_succ]
              refine Mo.val (v := ?_) (fun _ => rfl) (by rfl) (fun _ _ _ => trivial) ?_ ?_
              rotate_left
              · (intro w' hT hP hF; skip; go_simp; with_reducible rfl)
              simp only [Act.put, List.setIfInBounds_toArray, List.set_cons_zero, List.set_cons_succ]
              refine Mo.val (v := ?_) (fun _ => rfl) (by rfl) (fun _ _ _ => trivial) ?_ ?_
              rotate_left
              · (intro w' hT hP hF; skip; go_simp; with_reducible rfl)
              simp only [Act.put, List.setIfInBounds_toArray, List.set_cons_zero, List.set_cons_succ]
              refine Mo.val (v := ?_) (fun _ => rfl) (by rfl) (fun _ _ _ => trivial) ?_ ?_
              rotate_left
              · (intro w' hT hP hF; skip; go_simp; with_reducible rfl)
              simp only [Act.put, List.setIfInBounds_toArray, List.set_cons_zero, List.set_cons_succ]
              refine Mo.val (v := ?_) (fun _ => rfl) (by rfl) (fun _ _ _ => trivial) ?_ ?_
              rotate_left
              · (intro w' hT hP hF; have hc := e1' w' hT; go_simp; with_reducible rfl)
              simp only [Act.put, List.setIfInBounds_toArray, List.set_cons_zero, List.set_cons_succ]
              refine Mo.val (v := ?_) (fun _ => rfl) (by rfl) (fun _ _ _ => trivial) ?_ ?_
              rotate_left
              · (intro w' hT hP hF; skip; go_simp; with_reducible rfl)
              simp only [Act.put, List.setIfInBounds_toArray, List.set_cons_zero, List.set_cons_succ]
              refine Mo.val (v := ?_) (fun _ => rfl) (by rfl) (fun _ _ _ => trivial) ?_ ?_
              rotate_left
              · (intro w' hT hP hF; skip; go_simp; with_reducible rfl)
              simp only [Act.put, List.setIfInBounds_toArray, List.set_cons_zero, List.set_cons_succ]
              refine Mo.any (by rfl) ?_ ?_
              · intro w' hT hP hF
                have hsz := hT.size
                go_simp
                refine ⟨?_, ?_⟩
                · unfold TrL
                  rw [if_pos (by simp)]
                  exact (Below.refl _ _).alloc (Nat.le_refl _) _
                · unfold PsiL
                  rw [if_pos rfl]
                  exact ⟨_, rfl, hsz, heap_alloc_new _ _⟩
              simp only [Act.put, List.setIfInBounds_toArray, List.set_cons_zero, List.set_cons_succ]
              rintro v12 ⟨wx, -, hx⟩
              unfold PsiL at hx
              rw [if_pos rfl] at hx
              obtain ⟨x12, rfl, hx12, -⟩ := hx
              refine Mo.any (by rfl) ?_ ?_
              · intro w' hT hP hF
                have hF12 := hF 12 (by decide)
                simp (decide := true) only [Mo.upd, if_true, if_false] at hF12
                unfold PsiL at hF12
                rw [if_pos rfl] at hF12
                obtain ⟨x12', he12, -, hh12⟩ := hF12
                obtain rfl : x12 = x12' := by simpa using he12
                have hsz := hT.size
                refine Mo.leaves_of_wp (d := 148) rfl (by simp) fun K Q hK => ?_
                obtain ⟨i0, hi0, hz⟩ := Option.map_eq_some_iff.1 info_call
                simp only [Prod.mk.injEq] at hz
                obtain ⟨hz0, hz1, hz2⟩ := hz
                have hrow : w'.ownsRow 0 83 2 vc' (X j).calls.length (ccells (X j).calls vs') := hP rfl
                refine Ow.wp_append (P := Try.prog) w' (.tmp 139) (.tmp 147) 66 rfl 0 83 i0 _ 2 32 Try.underlying66 hi0 hz0 hz1 hz2 rfl (by decide) vc' (X j).calls.length (ccells (X j).calls vs') rfl hrow ⟨x12, 0, none⟩ 1 1 [.int .i64 nj, .slice (some ⟨g18, o18, none⟩) 32 c18] rfl rfl ?_ (one2 hone) (by unfold maxLen; omega) (by omega) (Nat.zero_le _) ?_
                · intro i u hu
                  rw [Addr.add_mid, Nat.zero_add]
                  simp only [World.cell?, hh12]
                  simpa using hu
                · intro v' w2_ hown hgr _ hnb
                  have hK2 : Kept (fun k => vc'.ownBlock = some k) w' w2_ := (Kept.refl (fun k => vc'.ownBlock = some k) w').grown hgr (fun k hk => Or.inr hk)
                  refine hK v' w2_ ⟨?_, ?_⟩
                  · unfold TrL
                    rw [if_neg (by decide), if_pos rfl]
                    exact hK2
                  · unfold PsiL
                    rw [if_neg (by decide), if_pos rfl]
                    refine ⟨fun i hi => ?_, hown⟩
                    rcases hnb i hi with h5 | h5
                    · exact Or.inl h5
                    · exact Or.inr (by omega)
              simp only [Act.put, List.setIfInBounds_toArray, List.set_cons_zero, List.set_cons_succ]
              rintro v13 ⟨wx, -, hx⟩
              unfold PsiL at hx
              rw [if_neg (by decide), if_pos rfl] at hx
              obtain ⟨-, hx⟩ := hx
              obtain ⟨a11, c11, rfl⟩ := own_len hx
              refine Mo.done ?_
              intro w' hT hF _
              have hF13 := hF 13
              rw [Mo.upd_same] at hF13
              unfold PsiL at hF13
              rw [if_neg (by decide), if_pos rfl] at hF13
              obtain ⟨O2, O1⟩ := hF13
              have H2 := hT.heap hI.head hI.apart.2.1
              have f2w := f2' w' hT
              have fzw : w'.frozen? ⟨xb, 2, none⟩ = false := by simp [World.frozen?, H2]
              have hadd := hS.add hb2.size nj bj ⟨hlaR, hlaB, hla3⟩ hT O1 O2
              rw [← hXn_j] at hadd
              clear hF f2' e1' hx H2
              go_wp2_with fail
              go_roundg g1_
              case measure => omega
              case rel => exact ⟨j + 1, _, _, by go_num, by omega, ⟨hadd⟩⟩
      case rest =>
        obtain ⟨vcx, vsx, ⟨hS⟩⟩ := hcut
        obtain ⟨w5, hw5_⟩ : ∃ w5, w5 = wc := ⟨_, rfl⟩
        subst hw5_
        obtain ⟨sz, hsz⟩ : ∃ sz : Nat, R.size = (sz : Int) := Int.eq_ofNat_of_zero_le hR2.pos
        have hR5 := hR2.kept (Kept.of_below (S := fun _ => False) hS.below) (fun _ _ e => e)
        have hh5 := hR5.head
        have k0 : w5.cell? ⟨rb, 0, none⟩ = some (.int .i64 (sz : Int)) := by rw [← hsz]; simp [World.cell?, hh5]
        have hrb5 := hR5.lt rb hR5.inF.1
        have hXs_ := hXs dn.length
        have hXl_ := hXl dn.length
        rw [hsz] at hXs_
        have hsz1 : 1 ≤ sz := by omega
        have hsz2 : sz ≤ 65536 := by omega
        have HSZ := Sh.mk hsz
        clear hh5 hsz
        go_upto_block 6 with (fail)
        have HB : BareSt w5 (w5.alloc (.cells #[.int .i64 (sz : Int), .slice none 0 0, .slice none 0 0] 68)) (fun i => F i ∨ (w.heap.size ≤ i ∧ i < w5.heap.size)) w5.heap.size (.slice none 0 0) [] sz (X dn.length).at :=
          ⟨heap_alloc_new _ _, World.ownsRow_nil _ _ _ _, fun j v hj => by simp at hj, (Below.refl _ _).alloc (Nat.le_refl _) _, Nat.le_refl _, by intro e; cases e⟩
        obtain ⟨w6, hw6⟩ : ∃ w6, w5.alloc (.cells #[.int .i64 (sz : Int), .slice none 0 0, .slice none 0 0] 68) = w6 := ⟨_, rfl⟩
        obtain ⟨yb, hyb⟩ : ∃ yb, w5.heap.size = yb := ⟨_, rfl⟩
        rw [hw6] at HB
        rw [hw6, hyb]
        have HB6 : BareSt w5 w6 (fun i => F i ∨ (w.heap.size ≤ i ∧ i < w5.heap.size)) yb (.slice none 0 0) [] sz (X dn.length).at := by rw [← hyb]; exact HB
        clear HB hw6 hyb
        go_cut [] (fun wx => ∃ vf rows, Sh (BareSt w5 wx (fun i => F i ∨ (w.heap.size ≤ i ∧ i < w5.heap.size)) yb vf rows sz (X dn.length).at ∧ rows.length = sz))
        case first =>
          go_wp2_with fail
          go_loopg [23] sz (fun kq v23 w' => ∃ (i : Nat) (vf : Value) (rows : List Value), v23 = .int .i64 (i : Int) ∧ i + kq = sz ∧ rows.length = i ∧ Sh (BareSt w5 w' (fun i => F i ∨ (w.heap.size ≤ i ∧ i < w5.heap.size)) yb vf rows sz (X dn.length).at))
          case atStart => exact ⟨0, _, [], rfl, by omega, rfl, ⟨HB6⟩⟩
          case round =>
            obtain ⟨i, vf, rows, rfl, hi, hlr, ⟨hN⟩⟩ := hrel
            subst hlr
            have kr0 : wr.cell? ⟨rb, 0, none⟩ = some (.int .i64 (sz : Int)) := bcell' hN.below k0
            cases gk with
            | zero =>
              have q : ¬ ((rows.length : Int) < (sz : Int)) := by omega
              go_wp2_with fail
              go_meet
              case rel => exact ⟨vf, rows, ⟨hN, by omega⟩⟩
            | succ g1_ =>
              have q : (rows.length : Int) < (sz : Int) := by omega
              have q0 : (0 : Int) ≤ (rows.length : Int) := by omega
              have hh := hN.head
              have c1 : wr.cell? ⟨yb, 1, none⟩ = some vf := by simp [World.cell?, hh]
              have hXr := hS.is.kept (Kept.of_below (S := fun _ => False) hN.below) (fun _ _ e => e)
              clear hh
              go_wp2_with fail
              refine (refRead_ok hXr rows.length (by omega) (by omega)).mono ?_
              rintro e w7 ⟨v, rfl, rfl, hv1, hv2⟩
              have hvg : ∀ g off cap, v = .slice (some ⟨g, off, none⟩) 32 cap → (F g ∨ (w.heap.size ≤ g ∧ g < w5.heap.size)) ∧ g < w5.heap.size ∧ 32 ≤ cap := fun g off cap he => ⟨(hv2 g off cap he).1, hS.is.lt g (hv2 g off cap he).1, (hv2 g off cap he).2.2.2.2⟩
              have hv1' := hv1
              obtain ⟨-, gv, ov, cv, rfl, -⟩ := hv1'
              have hone : (Value.slice (some ⟨gv, ov, none⟩) 32 cv).oneCell' = true := rfl
              obtain ⟨i0, hi0, hz⟩ := Option.map_eq_some_iff.1 info_row'
              simp only [Prod.mk.injEq] at hz
              obtain ⟨hz0, hz1, hz2⟩ := hz
              have hrow := hN.row.alloc (.cells #[.slice (some ⟨gv, ov, none⟩) 32 cv] 31)
              have hlb := hN.below.size
              clear hv2
              go_wp2_with (at_builtin; refine Ow.wpList_append _ rfl _ _ 42 rfl w5.heap.size 31 i0 _ 1 24 Try.underlying42 hi0 hz0 hz1 hz2 rfl (by decide) _ rows.length rows rfl hrow ⟨wr.heap.size, 0, none⟩ 1 1 [.slice (some ⟨gv, ov, none⟩) 32 cv] rfl rfl (new_cells _ _ _) (fun u hu => by rw [List.mem_singleton.1 hu]; exact hone) (by unfold maxLen; omega) (by omega) (Nat.le_trans hlb (by simp)) ?_)
              intro v' w8 O1 hgr _ O2
              have KA : Kept (fun k => vf.ownBlock = some k) wr w8 := ((Kept.refl (fun k => vf.ownBlock = some k) wr).alloc _).grown hgr (fun k hk => Or.inr hk)
              have H2 := KA.heap hN.head hN.far
              have c1w : w8.cell? ⟨yb, 1, none⟩ = some vf := by simp [World.cell?, H2]
              have fzw : w8.frozen? ⟨yb, 1, none⟩ = false := by simp [World.frozen?, H2]
              obtain ⟨a11, c11, rfl⟩ := own_len O1
              have O2' : ∀ i, (Value.slice a11 (rows.length + 1) c11).ownBlock = some i → vf.ownBlock = some i ∨ wr.heap.size ≤ i := fun i hi => by
                rcases O2 i hi with h5 | h5
                · exact .inl h5
                · (try simp at h5)
                  exact .inr (by omega)
              have hadd := hN.add hv1 hvg KA O1 O2'
              clear hrow hgr H2 O1 O2
              go_wp2_with fail
              go_roundg g1_
              case measure => omega
              case rel => exact ⟨rows.length + 1, _, _, by go_num, by omega, (by rw [List.length_append]; rfl), ⟨hadd⟩⟩
        case rest =>
          obtain ⟨vf, rows, ⟨hN, hlr⟩⟩ := hcut
          go_wp2_with fail
          go_ret
          have hs2 := hb2.size
          have hs5 := hS.below.size
          have hs6 := hN.below.size
          obtain ⟨gf', cf', hIs⟩ := hN.is hlr (by omega) (fun i => F i ∨ (w.heap.size ≤ i ∧ i < wc.heap.size)) (fun i hi => by
            rcases hi with hi | hi
            · exact .inl hi
            · exact .inr ⟨hi.1, by omega⟩) (fun i hi => by
            rcases hi with hi | hi
            · have := hS.is.lt i (.inl hi)
              omega
            · exact hi.2) (fun i h3 h4 => .inr ⟨by omega, h4⟩)
          rw [HSZ.out]
          exact ⟨yb, rfl, (hb2.trans (hS.below.mono hs2)).trans (hN.below.mono (by omega)), gf', cf', rows, hIs⟩
end Go.Proofs.Ytinhednmfldmbaa.Dk
