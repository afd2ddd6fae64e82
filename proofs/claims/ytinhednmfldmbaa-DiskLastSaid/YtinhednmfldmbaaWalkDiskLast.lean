/- DiskLast, walked. -/
import Derived.Test.YtinhednmfldmbaaDisk6
import Derived.Lib.SliceRun
import Derived.Deep.LoopGhost
import Derived.Deep.CutBlock
import Derived.Deep.DeepCutAuto
namespace Go.Proofs.Ytinhednmfldmbaa.Dk
open Go Go.RowKit Hp Rd
theorem bcell {w w' : World} {p : Addr} {v : Value} (k : Below w.heap.size w w') (h : w.cell? p = some v) : w'.cell? p = some v := (k.cell (World.block_lt_of_cell? w p h)).trans h
theorem make32 (w : World) : (Instr.makeSlice 31 (.int .i64 32) (.int .i64 32)).run Try.prog w = .ok (.slice (some ⟨w.heap.size, 0, none⟩) 32 32) (w.alloc (.cells (zeros.map (Value.int .u8)).toArray 5)) := by
  obtain ⟨i0, hi, hz⟩ := Option.map_eq_some_iff.1 info_u8
  simp only [Prod.mk.injEq] at hz
  obtain ⟨hz0, hz1, hz2⟩ := hz
  have := run_makeSlice (P := Try.prog) w 31 5 i0 (.int .u8 0) Try.underlying31 hi hz0 .i64 .i64 32 32 (by omega) (by omega) (by rw [hz1]; decide) (by rw [hz2]; decide) (by omega)
  have hm : madeCells (Value.int .u8 0).cells ((32 : Int).toNat * 1) = (zeros.map (Value.int .u8)).toArray := by
    apply Array.ext
    · simp [size_madeCells, zeros]
    · intro i h1 h2
      have h3 : i < 32 := by simpa [zeros] using h2
      have : (zeros.map (Value.int .u8)).toArray[i] = .int .u8 0 := by simp only [zeros, List.map_replicate, List.getElem_toArray, List.getElem_replicate]
      refine Eq.trans ?_ this.symm
      simp [madeCells, Value.cells, Nat.mod_one]
  rw [hz1, hm] at this
  exact this
theorem lit_small {x : Int} (h0 : 0 ≤ x) (h1 : x < 1000000000000) : (Lit.int .i64 x).wf = true := by
  simp only [Lit.wf, IntKind.min, IntKind.max, IntKind.bits, IntKind.signed, Bool.and_eq_true]
  simp
  omega
def Wants (w : World) (ws : List Value) (D : St) : Prop := ∀ n : Nat, n < 12 → ∃ v, ws[n]? = some v ∧ ((D.now n = none ∧ v = .slice none 0 0) ∨ ∃ l, D.now n = some l ∧ Row32 w v l)
/-- The first loop's state. -/
structure Lst (w w' : World) (b m1 m2 wb : Nat) (vk : Value) (torn : Int) (sv : Value) (D : St) (ws : List Value) (k : Nat) : Prop where
  disk : DiskIs w' b m1 m2 sv D
  inv : Inv D
  first : D.first = fun _ => none
  size : D.size = 12
  calls : D.calls.length ≤ k
  below : Below w.heap.size w w'
  want : w'.heap[wb]? = some (.cells ws.toArray 47 (0, 0))
  wl : ws.length = 12
  wants : Wants w ws D
  keep : w'.cell? ⟨w.heap.size, 3, none⟩ = some vk
  torn : w'.cell? ⟨w.heap.size, 4, none⟩ = some (.int .i64 torn)
  far : ∀ i, foot b m1 m2 sv i → w.heap.size < i ∧ i ≠ wb
  wfar : w.heap.size < wb
theorem kept_cell {S : Nat → Prop} {w w' : World} {p : Addr} {v : Value} (k : Kept S w w') (h : w.cell? p = some v) (hS : ¬ S p.block) : w'.cell? p = some v := by
  have := k.block p.block (World.block_lt_of_cell? w p h) hS
  unfold World.cell? at h ⊢
  rw [this]
  exact h
theorem Lst.step {S : Nat → Prop} {w w' w'' : World} {b m1 m2 wb : Nat} {vk sv : Value} {torn : Int} {D : St} {ws : List Value} {k : Nat} (h : Lst w w' b m1 m2 wb vk torn sv D ws k) (K : Kept S w' w'') (hS : ∀ i, foot b m1 m2 sv i ∨ i = wb ∨ i ≤ w.heap.size → ¬ S i) : Lst w w'' b m1 m2 wb vk torn sv D ws k :=
  ⟨h.disk.kept K (fun i hi => hS i (.inl hi)), h.inv, h.first, h.size, h.calls, h.below.trans (K.below h.below.size (fun i hi => hS i (.inr (.inr (Nat.le_of_lt hi))))), K.heap h.want (hS _ (.inr (.inl rfl))), h.wl, h.wants, kept_cell K h.keep (hS _ (.inr (.inr (Nat.le_refl _)))), kept_cell K h.torn (hS _ (.inr (.inr (Nat.le_refl _)))), h.far, h.wfar⟩
theorem Lst.le {w w' : World} {b m1 m2 wb : Nat} {vk sv : Value} {torn : Int} {D : St} {ws : List Value} {k k' : Nat} (h : Lst w w' b m1 m2 wb vk torn sv D ws k) (hk : k ≤ k') : Lst w w' b m1 m2 wb vk torn sv D ws k' := ⟨h.disk, h.inv, h.first, h.size, Nat.le_trans h.calls hk, h.below, h.want, h.wl, h.wants, h.keep, h.torn, h.far, h.wfar⟩
theorem Lst.wrote {w w' w'' : World} {b m1 m2 wb : Nat} {vk sv sv' : Value} {torn : Int} {D : St} {ws : List Value} {k : Nat} (h : Lst w w' b m1 m2 wb vk torn sv D ws k) {n : Nat} {l : List Int} {v : Value} (hd : DiskIs w'' b m1 m2 sv' (D.write n l)) (K : Kept (foot b m1 m2 sv) w' w'') (hsv : ∀ i, sv'.ownBlock = some i → sv.ownBlock = some i ∨ w'.heap.size ≤ i) (hn : n < 12) (hv : Row32 w v l) :
    Lst w (w''.setCell ⟨wb, n, none⟩ v) b m1 m2 wb vk torn sv' (D.write n l) (ws.set n v) (k + 1) := by
  have hwl : wb < w'.heap.size := lt_of_heap h.want
  have hwant := K.heap h.want (fun hf => (h.far wb hf).2 rfl)
  have hfar : ∀ i, foot b m1 m2 sv' i → w.heap.size < i ∧ i ≠ wb := fun i hi => by
    have h5 := h.below.size
    have h6 := h.wfar
    rcases hi with hi | hi | hi | hi
    · exact h.far i (.inl hi)
    · exact h.far i (.inr (.inl hi))
    · exact h.far i (.inr (.inr (.inl hi)))
    · rcases hsv i hi with h7 | h7
      · exact h.far i (.inr (.inr (.inr h7)))
      · omega
  have K2 : Kept (fun i => i = wb) w'' (w''.setCell ⟨wb, n, none⟩ v) := (Kept.refl (fun i => i = wb) w'').setCell (p := ⟨wb, n, none⟩) (Or.inr rfl) v
  have hk : ¬ foot b m1 m2 sv w.heap.size := fun hf => by have := (h.far _ hf).1; omega
  have hb2 : Below w.heap.size w w'' := h.below.trans (K.below h.below.size (fun i hi hf => by have := (h.far _ hf).1; omega))
  refine ⟨hd.kept K2 (fun i hi e => (hfar i hi).2 e), inv_write h.inv l (by omega), h.first, h.size, ?_, hb2.trans (K2.below hb2.size (fun i hi e => by have := h.wfar; omega)), ?_, by simp [h.wl], ?_, kept_cell K2 (kept_cell K h.keep hk) (fun e => by have := h.wfar; simp only at e; omega), kept_cell K2 (kept_cell K h.torn hk) (fun e => by have := h.wfar; simp only at e; omega), hfar, h.wfar⟩
  · have := h.calls
    simp [St.write]
    omega
  · rw [setCell_eq_setRow w'' wb n _ _ _ v hwant, setRow_heap w'' wb _ _ _ _ hwant]
    simp
  · intro j hj
    obtain ⟨u, hu, hor⟩ := h.wants j hj
    by_cases hjn : j = n
    · subst hjn
      exact ⟨v, by rw [List.getElem?_set_self (by rw [h.wl]; exact hj)], .inr ⟨l, by simp [St.write, upd], hv⟩⟩
    · refine ⟨u, by rw [List.getElem?_set_ne (fun e => hjn e.symm)]; exact hu, ?_⟩
      have : (D.write n l).now j = D.now j := by
        simp only [St.write, upd]
        rw [if_neg (by omega)]
      rw [this]
      exact hor
set_option maxHeartbeats 4000000 in
set_option maxRecDepth 100000 in
theorem diskLast_calls (v0 v1 : Value) (w : World) (h0 : Arg Try.prog w 22 v0) (h1 : Arg Try.prog w 34 v1) : Calls Try.prog 6 #[v0, v1] w fun e w' => e = .returned (.bool true) ∧ Below w.heap.size w w' := by
  have mixed : Try.prog.follows Departure.mixedOrders = true := by kernel_rfl
  obtain ⟨ops, hlen, a0, c0, rfl, hops⟩ := arg_ops h0
  obtain ⟨o, cs, rfl, hr⟩ := arg_op h1
  obtain ⟨vb, vk, rfl, -, hk⟩ := hr.is
  go_enter Try.func6, Try.ntmps6
  go_wp2_with (fail)
  refine (new_calls 12 _ (by omega) (by omega)).mono ?_
  rintro e w1 ⟨b, m1, m2, rfl, hb1, hft, hD⟩
  go_wp2_with (fail)
  refine (alive_calls _).mono ?_
  rintro e w2 ⟨rfl, hb2⟩
  go_upto_block 0 with (fail)
  have hs1 : w.heap.size + 1 ≤ w1.heap.size := by have := hb1.size; simpa using this
  have hs2 := hb2.size
  have hba : Below (w.heap.size + 1) (w.alloc (.cells #[.int .i64 o.kind, .int .i64 o.n, vb, vk, .int .i64 o.torn] 34)) w2 := by
    have h1 : Below (w.heap.size + 1) (w.alloc (.cells #[.int .i64 o.kind, .int .i64 o.n, vb, vk, .int .i64 o.torn] 34)) w1 := hb1.mono (by simp)
    exact h1.trans (hb2.mono hs1)
  have HL : Lst w (w2.alloc (.cells (List.replicate 12 (Value.slice none 0 0)).toArray 47)) b m1 m2 w2.heap.size vk o.torn (.slice none 0 0) ⟨12, fun _ => none, fun _ => none, []⟩ (List.replicate 12 (Value.slice none 0 0)) 0 := by
    have K : Below w2.heap.size w2 (w2.alloc (.cells (List.replicate 12 (Value.slice none 0 0)).toArray 47)) := (Below.refl _ _).alloc (Nat.le_refl _) _
    have hb3 : Below (w.heap.size + 1) (w.alloc (.cells #[.int .i64 o.kind, .int .i64 o.n, vb, vk, .int .i64 o.torn] 34)) (w2.alloc (.cells (List.replicate 12 (Value.slice none 0 0)).toArray 47)) := hba.trans (K.mono (by omega))
    have hbx : Below w.heap.size w (w.alloc (.cells #[.int .i64 o.kind, .int .i64 o.n, vb, vk, .int .i64 o.torn] 34)) := (Below.refl _ _).alloc (Nat.le_refl _) _
    refine ⟨(hD.below hb2).below K, rfl, rfl, rfl, Nat.le_refl _, hbx.trans (hb3.mono (by omega)), heap_alloc_new _ _, rfl, ?_, ?_, ?_, ?_, by omega⟩
    · intro n hn
      exact ⟨_, List.getElem?_replicate_of_lt hn, .inl ⟨rfl, rfl⟩⟩
    · rw [hb3.cell (p := ⟨w.heap.size, 3, none⟩) (by simp)]
      simp [World.cell?_alloc_new]
    · rw [hb3.cell (p := ⟨w.heap.size, 4, none⟩) (by simp)]
      simp [World.cell?_alloc_new]
    · intro i hi
      have h5 := hft i hi
      have h6 := (hD.below hb2).lt i hi
      simp at h5
      omega
  obtain ⟨w3, hw3⟩ : ∃ w3, w2.alloc (.cells (List.replicate 12 (Value.slice none 0 0)).toArray 47) = w3 := ⟨_, rfl⟩
  have hw3' : w2.alloc (.cells #[.slice none 0 0, .slice none 0 0, .slice none 0 0, .slice none 0 0, .slice none 0 0, .slice none 0 0, .slice none 0 0, .slice none 0 0, .slice none 0 0, .slice none 0 0, .slice none 0 0, .slice none 0 0] 47) = w3 := hw3
  obtain ⟨wb, hwb⟩ : ∃ wb, w2.heap.size = wb := ⟨_, rfl⟩
  rw [hw3, hwb] at HL
  rw [hw3', hwb]
  clear hw3 hw3' hba hs1 hs2 hb1 hb2 hD hwb hft
  go_cut [] (fun wx => ∃ D sv ws, Sh (Lst w wx b m1 m2 wb vk o.torn sv D ws 40))
  case first =>
    go_wp2_with fail
    go_loopg [8] (min ops.length 40) (fun kq v8 w' => ∃ (i : Nat) (D : St) (sv : Value) (ws : List Value), v8 = .int .i64 (i : Int) ∧ i + kq = min ops.length 40 ∧ Sh (Lst w w' b m1 m2 wb vk o.torn sv D ws i))
    case atStart => exact ⟨0, _, _, _, rfl, by omega, ⟨HL⟩⟩
    case round =>
      obtain ⟨i, D, sv, ws, rfl, hi, ⟨hL⟩⟩ := hrel
      cases gk with
      | zero =>
        have hL40 : Lst w wr b m1 m2 wb vk o.torn sv D ws 40 := ⟨hL.disk, hL.inv, hL.first, hL.size, Nat.le_trans hL.calls (by omega), hL.below, hL.want, hL.wl, hL.wants, hL.keep, hL.torn, hL.far, hL.wfar⟩
        by_cases hq : (i : Int) < (ops.length : Int)
        · have hq2 : ¬ ((i : Int) < 40) := by omega
          go_wp2_with fail
          go_meet
          case rel => exact ⟨D, sv, ws, ⟨hL40⟩⟩
        · go_wp2_with fail
          go_meet
          case rel => exact ⟨D, sv, ws, ⟨hL40⟩⟩
      | succ g1_ =>
        have hq : (i : Int) < (ops.length : Int) := by omega
        have hq2 : (i : Int) < 40 := by omega
        have q0 : (0 : Int) ≤ (i : Int) := by omega
        obtain ⟨oi, hoi⟩ : ∃ oi, ops[i]? = some oi := ⟨_, List.getElem?_eq_getElem (by omega)⟩
        obtain ⟨g, off, rfl, hop⟩ := hops i oi hoi
        have hopw := hop.below hL.below
        obtain ⟨vb', hvb, hrb⟩ := hopw.bytes
        have hvn := hopw.n
        obtain ⟨vb0, hvb0, hrb0⟩ := hop.bytes
        have : vb0 = vb' := by
          rw [hL.below.cell (World.block_lt_of_cell? w _ hvb0), hvb0] at hvb
          exact Option.some.inj hvb
        subst this
        go_upto_region 8 with (fail)
        refine Mo.region 11 [0, 0, 0, 6, 14, 30, 0, 0, 192, 448, 960, 2047] (fun w' => w' = wr.drew) (fun _ => Eq) (fun _ _ => True) (fun _ _ _ _ => True) rfl (fun _ => trivial) (fun _ _ _ h k => k ▸ h) (fun _ _ _ _ _ _ _ _ _ _ => trivial) (fun _ _ _ _ _ _ _ _ _ => trivial) mixed (by kernel_rfl) ?_
        simp only [List.take_succ_cons, List.take_zero, List.drop_succ_cons, List.drop_zero]
        refine Mo.val (v := ?_) (fun _ => rfl) (by rfl) (fun _ _ _ => trivial) ?_ ?_
        rotate_left
        · (intro w' hT hP hF; cases hT; go_simp; with_reducible rfl)
        simp only [Act.put, List.setIfInBounds_toArray, List.set_cons_zero, List.set_cons_succ]
        refine Mo.val (v := ?_) (fun _ => rfl) (by rfl) (fun _ _ _ => trivial) ?_ ?_
        rotate_left
        · (intro w' hT hP hF; cases hT; go_simp; with_reducible rfl)
        simp only [Act.put, List.setIfInBounds_toArray, List.set_cons_zero, List.set_cons_succ]
        refine Mo.val (v := ?_) (fun _ => rfl) (by rfl) (fun _ _ _ => trivial) ?_ ?_
        rotate_left
        · (intro w' hT hP hF; cases hT; go_simp; with_reducible rfl)
        simp only [Act.put, List.setIfInBounds_toArray, List.set_cons_zero, List.set_cons_succ]
        refine Mo.val (v := ?_) (fun _ => rfl) (by rfl) (fun _ _ _ => trivial) ?_ ?_
        rotate_left
        · (intro w' hT hP hF; cases hT; go_simp; with_reducible rfl)
        simp only [Act.put, List.setIfInBounds_toArray, List.set_cons_zero, List.set_cons_succ]
        refine Mo.val (v := ?_) (fun _ => rfl) (by rfl) (fun _ _ _ => trivial) ?_ ?_
        rotate_left
        · (intro w' hT hP hF; cases hT; go_simp; with_reducible rfl)
        simp only [Act.put, List.setIfInBounds_toArray, List.set_cons_zero, List.set_cons_succ]
        refine Mo.val (v := ?_) (fun _ => rfl) (by rfl) (fun _ _ _ => trivial) ?_ ?_
        rotate_left
        · (intro w' hT hP hF; cases hT; go_simp; with_reducible rfl)
        simp only [Act.put, List.setIfInBounds_toArray, List.set_cons_zero, List.set_cons_succ]
        refine Mo.val (v := ?_) (fun _ => rfl) (by rfl) (fun _ _ _ => trivial) ?_ ?_
        rotate_left
        · (intro w' hT hP hF; cases hT; go_simp; with_reducible rfl)
        simp only [Act.put, List.setIfInBounds_toArray, List.set_cons_zero, List.set_cons_succ]
        refine Mo.val (v := ?_) (fun _ => rfl) (by rfl) (fun _ _ _ => trivial) ?_ ?_
        rotate_left
        · (intro w' hT hP hF; cases hT; go_simp; with_reducible rfl)
        simp only [Act.put, List.setIfInBounds_toArray, List.set_cons_zero, List.set_cons_succ]
        refine Mo.val (v := ?_) (fun _ => rfl) (by rfl) (fun _ _ _ => trivial) ?_ ?_
        rotate_left
        · (intro w' hT hP hF; cases hT; go_simp; with_reducible rfl)
        simp only [Act.put, List.setIfInBounds_toArray, List.set_cons_zero, List.set_cons_succ]
        refine Mo.val (v := ?_) (fun _ => rfl) (by rfl) (fun _ _ _ => trivial) ?_ ?_
        rotate_left
        · (intro w' hT hP hF; cases hT; go_simp; with_reducible rfl)
        simp only [Act.put, List.setIfInBounds_toArray, List.set_cons_zero, List.set_cons_succ]
        refine Mo.val (v := ?_) (fun _ => rfl) (by rfl) (fun _ _ _ => trivial) ?_ ?_
        rotate_left
        · (intro w' hT hP hF; cases hT; go_simp; with_reducible rfl)
        simp only [Act.put, List.setIfInBounds_toArray, List.set_cons_zero, List.set_cons_succ]
        refine Mo.done ?_
        rintro w' rfl - -
        have hLd := hL.step (S := fun _ => False) (Kept.refl _ wr).drew (fun _ _ e => e)
        obtain ⟨d0, -, -, -⟩ := hLd.disk.cells
        rw [hL.size] at d0
        by_cases hnn : 0 ≤ oi.n
        · by_cases hn12 : oi.n < 12
          · by_cases hbl : oi.b.length = 32
            · have hR0 := Row32.of_row hrb0 hbl
              obtain ⟨g', off', cp, rfl, hg'lt, -⟩ := hR0.block
              obtain ⟨-, g2, o2, cp2, he2, hrg⟩ := hR0.below hL.below
              obtain ⟨⟨rfl, rfl⟩, rfl⟩ : (g' = g2 ∧ off' = o2) ∧ cp = cp2 := by simpa using he2
              go_wp2_with (fail)
              refine (write_ok b m1 m2 sv D oi.n g' off' cp oi.b wr.drew hLd.disk hnn (by rw [hLd.size]; exact hn12) hbl hrg (fun hs => by have := (hL.far g' (.inr (.inr (.inr hs)))).1; omega) (by have := hLd.calls; omega)).mono ?_
              rintro e w4 ⟨sv', rfl, hD', hK, hsv'⟩
              have hb4 : Below w.heap.size w w4 := hLd.below.trans (hK.below hLd.below.size (fun i hi hf => by have := (hL.far _ hf).1; omega))
              have hop4 := hop.below hb4
              have hvn4 := hop4.n
              have hvb4 := hvb0
              rw [← hb4.cell (World.block_lt_of_cell? w _ hvb0)] at hvb4
              have hwant4 := hK.heap hLd.want (fun hf => (hL.far _ hf).2 rfl)
              have hwrote := hLd.wrote (w'' := w4.drew) (n := oi.n.toNat) (l := oi.b) (v := .slice (some ⟨g', off', none⟩) 32 cp) (by rw [Int.toNat_of_nonneg hnn]; exact hD'.kept (S := fun _ => False) (Kept.refl _ _).drew (fun _ _ e => e)) hK.drew hsv' (by omega) hR0
              rw [Int.toNat_of_nonneg hnn] at hwrote
              obtain ⟨n, hon⟩ : ∃ n : Nat, oi.n.toNat = n := ⟨_, rfl⟩
              have hon2 : oi.n = (n : Int) := by omega
              have hn12' : n < 12 := by omega
              rw [hon] at hwrote
              have hcl : w4.cell? ⟨wb, n, none⟩ = some (ws[n]'(by rw [hL.wl]; exact hn12')) := by
                simp only [World.cell?, hwant4]
                simp
              have hfz : w4.frozen? ⟨wb, n, none⟩ = false := by simp [World.frozen?, hwant4]
              go_upto_region 12 with (fail)
              refine Mo.region 10 [0, 0, 3, 7, 15, 0, 0, 96, 224, 480, 1023] (fun w' => w' = w4.drew) (fun _ => Eq) (fun _ _ => True) (fun _ _ _ _ => True) rfl (fun _ => trivial) (fun _ _ _ h k => k ▸ h) (fun _ _ _ _ _ _ _ _ _ _ => trivial) (fun _ _ _ _ _ _ _ _ _ => trivial) mixed (by kernel_rfl) ?_
              simp only [List.take_succ_cons, List.take_zero, List.drop_succ_cons, List.drop_zero]
              refine Mo.val (v := ?_) (fun _ => rfl) (by rfl) (fun _ _ _ => trivial) ?_ ?_
              rotate_left
              · (intro w' hT hP hF; cases hT; go_simp; with_reducible rfl)
              simp only [Act.put, List.setIfInBounds_toArray, List.set_cons_zero, List.set_cons_succ]
              refine Mo.val (v := ?_) (fun _ => rfl) (by rfl) (fun _ _ _ => trivial) ?_ ?_
              rotate_left
              · (intro w' hT hP hF; cases hT; go_simp; with_reducible rfl)
              simp only [Act.put, List.setIfInBounds_toArray, List.set_cons_zero, List.set_cons_succ]
              refine Mo.val (v := ?_) (fun _ => rfl) (by rfl) (fun _ _ _ => trivial) ?_ ?_
              rotate_left
              · (intro w' hT hP hF; cases hT; go_simp; with_reducible rfl)
              simp only [Act.put, List.setIfInBounds_toArray, List.set_cons_zero, List.set_cons_succ]
              refine Mo.val (v := ?_) (fun _ => rfl) (by rfl) (fun _ _ _ => trivial) ?_ ?_
              rotate_left
              · (intro w' hT hP hF; cases hT; go_simp; with_reducible rfl)
              simp only [Act.put, List.setIfInBounds_toArray, List.set_cons_zero, List.set_cons_succ]
              refine Mo.val (v := ?_) (fun _ => rfl) (by rfl) (fun _ _ _ => trivial) ?_ ?_
              rotate_left
              · (intro w' hT hP hF; cases hT; go_simp; with_reducible rfl)
              simp only [Act.put, List.setIfInBounds_toArray, List.set_cons_zero, List.set_cons_succ]
              refine Mo.val (v := ?_) (fun _ => rfl) (by rfl) (fun _ _ _ => trivial) ?_ ?_
              rotate_left
              · (intro w' hT hP hF; cases hT; go_simp; with_reducible rfl)
              simp only [Act.put, List.setIfInBounds_toArray, List.set_cons_zero, List.set_cons_succ]
              refine Mo.val (v := ?_) (fun _ => rfl) (by rfl) (fun _ _ _ => trivial) ?_ ?_
              rotate_left
              · (intro w' hT hP hF; cases hT; go_simp; with_reducible rfl)
              simp only [Act.put, List.setIfInBounds_toArray, List.set_cons_zero, List.set_cons_succ]
              refine Mo.val (v := ?_) (fun _ => rfl) (by rfl) (fun _ _ _ => trivial) ?_ ?_
              rotate_left
              · (intro w' hT hP hF; cases hT; go_simp; with_reducible rfl)
              simp only [Act.put, List.setIfInBounds_toArray, List.set_cons_zero, List.set_cons_succ]
              refine Mo.val (v := ?_) (fun _ => rfl) (by rfl) (fun _ _ _ => trivial) ?_ ?_
              rotate_left
              · (intro w' hT hP hF; cases hT; go_simp; with_reducible rfl)
              simp only [Act.put, List.setIfInBounds_toArray, List.set_cons_zero, List.set_cons_succ]
              refine Mo.val (v := ?_) (fun _ => rfl) (by rfl) (fun _ _ _ => trivial) ?_ ?_
              rotate_left
              · (intro w' hT hP hF; cases hT; go_simp; with_reducible rfl)
              simp only [Act.put, List.setIfInBounds_toArray, List.set_cons_zero, List.set_cons_succ]
              refine Mo.done ?_
              rintro w' rfl - -
              have hn12i : (n : Int) < 12 := by omega
              have hn0i : (0 : Int) ≤ (n : Int) := by omega
              rw [hon2] at *
              go_wp2_with (fail)
              go_roundg g1_
              case measure => omega
              case rel => exact ⟨i + 1, D.write oi.n oi.b, sv', _, by go_num, by omega, ⟨hwrote⟩⟩
            · obtain ⟨ab, cb, rfl, -, -⟩ := hrb0
              have hbl2 : ¬ ((oi.b.length : Int) = 32) := by omega
              go_wp2_with (fail)
              refine (write_short b 12 oi.n ab oi.b.length cb wr.drew d0 hnn hn12 hbl).mono ?_
              rintro e w4 ⟨rfl, rfl⟩
              go_wp2_with (fail)
              go_roundg g1_
              case measure => omega
              case rel => exact ⟨i + 1, D, sv, ws, by go_num, by omega, ⟨hLd.le (Nat.le_succ i)⟩⟩
          · have hn12' : 12 ≤ oi.n := by omega
            go_wp2_with (fail)
            refine (write_bad b 12 oi.n vb0 wr.drew d0 (Or.inr hn12')).mono ?_
            rintro e w4 ⟨rfl, rfl⟩
            go_wp2_with (fail)
            go_roundg g1_
            case measure => omega
            case rel => exact ⟨i + 1, D, sv, ws, by go_num, by omega, ⟨hLd.le (Nat.le_succ i)⟩⟩
        · have hnn' : oi.n < 0 := by omega
          go_wp2_with (fail)
          refine (write_bad b 12 oi.n vb0 wr.drew d0 (Or.inl hnn')).mono ?_
          rintro e w4 ⟨rfl, rfl⟩
          go_wp2_with (fail)
          go_roundg g1_
          case measure => omega
          case rel => exact ⟨i + 1, D, sv, ws, by go_num, by omega, ⟨hLd.le (Nat.le_succ i)⟩⟩
  case rest =>
    obtain ⟨D, sv, ws, ⟨hL⟩⟩ := hcut
    go_wp2_with (fail)
    refine (sync_ok b m1 m2 sv D wc hL.disk (by have := hL.calls; omega)).mono ?_
    rintro e w4 ⟨sv', rfl, hD', hK, hsv'⟩
    have hb4 : Below w.heap.size w w4 := hL.below.trans (hK.below hL.below.size (fun i hi hf => by have := (hL.far _ hf).1; omega))
    have hk4 := kept_cell hK hL.keep (fun hf => by have := (hL.far _ hf).1; simp only at this; omega)
    have ht4 := kept_cell hK hL.torn (fun hf => by have := (hL.far _ hf).1; simp only at this; omega)
    have hw4 := hK.heap hL.want (fun hf => (hL.far _ hf).2 rfl)
    obtain ⟨-, -, -, d3⟩ := hD'.cells
    obtain ⟨a', c', rfl⟩ := own_len hD'.row
    obtain ⟨nc, hnc⟩ : ∃ nc, D.sync.calls.length = nc := ⟨_, rfl⟩
    have hnc41 : nc ≤ 41 := by rw [← hnc]; have := hL.calls; simp [St.sync]; omega
    rw [hnc] at d3
    have hncw : (Lit.int .i64 (nc : Int)).wf = true := lit_small (by omega) (by omega)
    go_upto_region 14 with (fail)
    refine Mo.region 7 [0, 0, 2, 0, 8, 0, 32, 127] (fun w' => w' = w4.drew) (fun _ => Eq) (fun _ _ => True) (fun k _ v _ => k = 2 → v = .int .i64 nc) rfl (fun _ => trivial) (fun _ _ _ h k => k ▸ h) (fun _ _ _ _ _ _ _ _ _ h => h) (fun _ _ _ _ _ _ _ _ _ => trivial) mixed (by kernel_rfl) ?_
    simp only [List.take_succ_cons, List.take_zero, List.drop_succ_cons, List.drop_zero]
    refine Mo.val (v := ?_) (fun _ => rfl) (by rfl) (fun _ _ _ hk_ => (by cases hk_)) ?_ ?_
    rotate_left
    · (intro w' hT hP hF; cases hT; go_simp; with_reducible rfl)
    simp only [Act.put, List.setIfInBounds_toArray, List.set_cons_zero, List.set_cons_succ]
    refine Mo.val (v := ?_) (fun _ => rfl) (by rfl) (fun _ _ _ hk_ => (by cases hk_)) ?_ ?_
    rotate_left
    · (intro w' hT hP hF; cases hT; go_simp; with_reducible rfl)
    simp only [Act.put, List.setIfInBounds_toArray, List.set_cons_zero, List.set_cons_succ]
    refine Mo.any (by rfl) ?_ ?_
    · intro w' hT hP hF
      cases hT
      go_simp
      show Calls _ _ _ _ _
      refine (calls_calls b a' nc c' w4.drew d3).mono ?_
      rintro e w1 ⟨rfl, rfl⟩
      exact ⟨_, rfl, rfl, rfl⟩
    simp only [Act.put, List.setIfInBounds_toArray, List.set_cons_zero, List.set_cons_succ]
    rintro v100 ⟨_, _, hv100⟩
    obtain rfl := hv100 trivial
    refine Mo.val (v := ?_) (fun _ => rfl) (by rfl) (fun _ _ _ hk_ => (by cases hk_)) ?_ ?_
    rotate_left
    · (intro w' hT hP hF; cases hT; go_simp; with_reducible rfl)
    simp only [Act.put, List.setIfInBounds_toArray, List.set_cons_zero, List.set_cons_succ]
    refine Mo.val (v := ?_) (fun _ => rfl) (by rfl) (fun _ _ _ hk_ => (by cases hk_)) ?_ ?_
    rotate_left
    · (intro w' hT hP hF; cases hT; go_simp; with_reducible rfl)
    simp only [Act.put, List.setIfInBounds_toArray, List.set_cons_zero, List.set_cons_succ]
    refine Mo.val (v := ?_) (fun _ => rfl) (by rfl) (fun _ _ _ hk_ => (by cases hk_)) ?_ ?_
    rotate_left
    · (intro w' hT hP hF; cases hT; go_simp; with_reducible rfl)
    simp only [Act.put, List.setIfInBounds_toArray, List.set_cons_zero, List.set_cons_succ]
    refine Mo.val (v := ?_) (fun _ => rfl) (by rfl) (fun _ _ _ hk_ => (by cases hk_)) ?_ ?_
    rotate_left
    · (intro w' hT hP hF; cases hT; go_simp; with_reducible rfl)
    simp only [Act.put, List.setIfInBounds_toArray, List.set_cons_zero, List.set_cons_succ]
    refine Mo.done ?_
    rintro w' rfl - -
    have hD4 := hD'.kept (S := fun _ => False) (Kept.refl _ w4).drew (fun _ _ e => e)
    have hk4d := row1_below hk hb4.drew
    go_wp2_with (fail)
    refine (cut_ok b m1 m2 _ D.sync nc o.torn o.keep vk w4.drew hD4 hncw hr.wt hk4d (by omega)).mono ?_
    rintro e w5 ⟨x, y1, y2, rfl, hX, hb5, hfx⟩
    have hX' := cut_synced hL.inv o.keep o.torn
    rw [hnc] at hX'
    have hk5 := bcell hb5 (show w4.drew.cell? _ = some vk from hk4)
    have ht5 := bcell hb5 (show w4.drew.cell? _ = some (.int .i64 o.torn) from ht4)
    go_wp2_with (fail)
    refine (cut_ok b m1 m2 _ D.sync 0 o.torn o.keep vk w5 (hD4.below hb5) rfl hr.wt (row1_below hk4d hb5) (by omega)).mono ?_
    rintro e w6 ⟨z, z1, z2, rfl, hZ, hb6, hfz⟩
    have hmk := make32 w6
    go_upto_block 2 with (fail)
    obtain ⟨wz, hwz⟩ : ∃ wz, w6.alloc (.cells (zeros.map (Value.int .u8)).toArray 5) = wz := ⟨_, rfl⟩
    have hbz : Below w6.heap.size w6 wz := by rw [← hwz]; exact (Below.refl _ _).alloc (Nat.le_refl _) _
    have hR0 : Row32 wz (.slice (some ⟨w6.heap.size, 0, none⟩) 32 32) zeros := ⟨rfl, _, _, _, rfl, fun j u hu => by
      rw [← hwz, Nat.zero_add]
      simp only [World.cell?, heap_alloc_new]
      simpa using hu⟩
    have hDz := ((hD4.below hb5).below hb6).below hbz
    have hXz := (hX.below hb6).below hbz
    have hZz := hZ.below hbz
    have hb5z : Below w4.heap.size w4.drew wz := (hb5.trans (hb6.mono hb5.size)).trans (hbz.mono (Nat.le_trans hb5.size hb6.size))
    have hbwz : Below w.heap.size w wz := hb4.trans ((((Below.refl w4.heap.size w4).drew).trans hb5z).mono hb4.size)
    have hwz4 : wz.heap[wb]? = some (.cells ws.toArray 47 (0, 0)) := (hb5z.block wb (lt_of_heap hw4)).trans hw4
    have hzf : (D.sync.cut 0 o.keep o.torn).now = fun _ => none := (cut_none D.sync o.keep o.torn).trans hL.first
    have hwants := hL.wants
    have hwl := hL.wl
    have hsz := hL.size
    have hinv := hL.inv
    rw [hwz]
    clear hwz hmk hD4 hX hZ hb5 hb6 hbz hk5 ht5 hk4 ht4 hk4d hw4 hK hsv' d3 hL hb5z
    go_cut [] (fun wx => Sh (Below wz.heap.size wz wx))
    case first =>
      go_wp2_with fail
      go_loopg [13] 12 (fun kq v13 w' => ∃ n : Nat, v13 = .int .i64 (n : Int) ∧ n + kq = 12 ∧ Sh (Below wz.heap.size wz w'))
      case atStart => exact ⟨0, rfl, rfl, ⟨Below.refl _ _⟩⟩
      case round =>
        obtain ⟨n, rfl, hn, ⟨hbr⟩⟩ := hrel
        cases gk with
        | zero =>
          have q : ¬ ((n : Int) < 12) := by omega
          go_wp2_with fail
          go_meet
          case rel => exact ⟨hbr⟩
        | succ g1_ =>
          have q : (n : Int) < 12 := by omega
          have q0 : (0 : Int) ≤ (n : Int) := by omega
          have qnil : ∀ (w : World) (a : Option Addr) (n c n' c' : Nat), (binOp .eql 31 (.slice a n c) (.slice none n' c')).run Try.prog w = .ok (.bool a.isNone) w := fun w a n c n' c' => Lib.run_eql_slice_nil w _ _ a n c n' c' Try.underlying31
          obtain ⟨u, hu, hor⟩ := hwants n (by omega)
          have hDr := hDz.below hbr
          have hXr := hXz.below hbr
          have hZr := hZz.below hbr
          have hcl : wr.cell? ⟨wb, n, none⟩ = some u := by
            have h5 := (hbr.block wb (lt_of_heap hwz4)).trans hwz4
            simp only [World.cell?, h5]
            simpa using hu
          obtain ⟨l, hl⟩ : ∃ l, D.at n = l := ⟨_, rfl⟩
          rcases hor with ⟨hno, rfl⟩ | ⟨l', hl', hrow⟩
          · have hlz : l = zeros := by rw [← hl]; unfold St.at; rw [hno]; rfl
            have hV := hR0.below hbr
            rw [← hlz] at hV
            go_upto_region 25 with (fail)
            go_wp2_with (fail)
            refine (read_ok b m1 m2 _ D.sync n wr hDr (by omega) (by show (n : Int) < D.size; rw [hsz]; omega)).mono ?_
            rintro e w7 ⟨vd, rfl, hb7, how7⟩
            go_wp2_with (fail)
            refine (read_ok x y1 y2 _ _ n w7 (hXr.below hb7) (by omega) (by show (n : Int) < D.size; rw [hsz]; omega)).mono ?_
            rintro e w8 ⟨vx, rfl, hb8, how8⟩
            go_wp2_with (fail)
            refine (read_ok z z1 z2 _ _ n w8 ((hZr.below hb7).below hb8) (by omega) (by show (n : Int) < D.size; rw [hsz]; omega)).mono ?_
            rintro e w9 ⟨vz, rfl, hb9, how9⟩
            rw [show D.sync.at n = l from hl] at how7
            rw [show (D.sync.cut (nc : Int) o.keep o.torn).at n = l by show ((D.sync.cutM nc o.keep o.torn) n).getD zeros = l; rw [hX']; exact hl] at how8
            rw [show (D.sync.cut 0 o.keep o.torn).at n = zeros by unfold St.at; rw [hzf]; rfl] at how9
            have hc1 := (((Row32.own how7 hV.1).below hb8).below hb9).conv
            have hc2 := ((Row32.own how8 hV.1).below hb9).conv
            have hc3 := (Row32.own how9 rfl).conv
            have hc4 := (((hV.below hb7).below hb8).below hb9).conv
            have hc5 := ((((hR0.below hbr).below hb7).below hb8).below hb9).conv
            have hbn : Below wz.heap.size wz w9 := ((hbr.trans (hb7.mono hbr.size)).trans (hb8.mono (Nat.le_trans hbr.size hb7.size))).trans (hb9.mono (Nat.le_trans (Nat.le_trans hbr.size hb7.size) hb8.size))
            clear how7 how8 how9 hb7 hb8 hb9
            go_wp2_with (fail)
            go_roundg g1_
            case measure => omega
            case rel => exact ⟨n + 1, by go_num, by omega, ⟨hbn⟩⟩
          · have hll : l = l' := by rw [← hl]; unfold St.at; rw [hl']; rfl
            subst hll
            have hV := (hrow.below hbwz).below hbr
            obtain ⟨g', off', cp, rfl, -, -⟩ := hrow.block
            go_upto_region 25 with (fail)
            go_wp2_with (fail)
            refine (read_ok b m1 m2 _ D.sync n wr hDr (by omega) (by show (n : Int) < D.size; rw [hsz]; omega)).mono ?_
            rintro e w7 ⟨vd, rfl, hb7, how7⟩
            go_wp2_with (fail)
            refine (read_ok x y1 y2 _ _ n w7 (hXr.below hb7) (by omega) (by show (n : Int) < D.size; rw [hsz]; omega)).mono ?_
            rintro e w8 ⟨vx, rfl, hb8, how8⟩
            go_wp2_with (fail)
            refine (read_ok z z1 z2 _ _ n w8 ((hZr.below hb7).below hb8) (by omega) (by show (n : Int) < D.size; rw [hsz]; omega)).mono ?_
            rintro e w9 ⟨vz, rfl, hb9, how9⟩
            rw [show D.sync.at n = l from hl] at how7
            rw [show (D.sync.cut (nc : Int) o.keep o.torn).at n = l by show ((D.sync.cutM nc o.keep o.torn) n).getD zeros = l; rw [hX']; exact hl] at how8
            rw [show (D.sync.cut 0 o.keep o.torn).at n = zeros by unfold St.at; rw [hzf]; rfl] at how9
            have hc1 := (((Row32.own how7 hV.1).below hb8).below hb9).conv
            have hc2 := ((Row32.own how8 hV.1).below hb9).conv
            have hc3 := (Row32.own how9 rfl).conv
            have hc4 := (((hV.below hb7).below hb8).below hb9).conv
            have hc5 := ((((hR0.below hbr).below hb7).below hb8).below hb9).conv
            have hbn : Below wz.heap.size wz w9 := ((hbr.trans (hb7.mono hbr.size)).trans (hb8.mono (Nat.le_trans hbr.size hb7.size))).trans (hb9.mono (Nat.le_trans (Nat.le_trans hbr.size hb7.size) hb8.size))
            clear how7 how8 how9 hb7 hb8 hb9
            go_wp2_with (fail)
            go_roundg g1_
            case measure => omega
            case rel => exact ⟨n + 1, by go_num, by omega, ⟨hbn⟩⟩
    case rest =>
      go_wp2_with fail
      go_ret
      exact ⟨rfl, hbwz.trans (hcut.out.mono hbwz.size)⟩
end Go.Proofs.Ytinhednmfldmbaa.Dk
