/- DiskSafe, walked. -/
import Derived.Test.YtinhednmfldmbaaPureSafe
import Derived.Lib.SliceRun
import Derived.Deep.LoopGhost
import Derived.Deep.CutBlock
import Derived.Deep.DeepCutAuto
namespace Go.Proofs.Ytinhednmfldmbaa.Dk
open Go Go.RowKit Hp Rd
theorem info_row : (Try.prog.info? 31).map (fun i => (i.zero, i.size, i.bytes)) = some (some (.slice none 0 0), 1, 24) := by kernel_rfl
/-- A row appended to the rows that are the call's own. -/
theorem append_row {w : World} {ops : Array Oper} {rest : List Oper} {o : Oper} {a : Act} {Q : Exit → Act → World → Prop} (hgd : o.guard = none) (s x : Operand)
    (ho : o.op = .call { callee := .builtin .append, args := #[s, x], argTypes := #[42, 42] }) (base : Nat) (v : Value) (n : Nat) (xs : List Value) (hs : a.eval s = v) (hown : w.ownsRow base 31 1 v n xs)
    (g : Nat) (c : Nat) (u : Value) (hx : a.eval x = .slice (some ⟨g, 0, none⟩) 1 c) (hu : w.cell? ⟨g, 0, none⟩ = some u) (h1 : u.oneCell' = true) (hn : n < 2000000000000) (hbase : base ≤ w.heap.size)
    (h : ∀ v' w', w'.ownsRow base 31 1 v' (n + 1) (xs ++ [u]) → w.grownBy w' v.ownBlock → (∀ k, v'.ownBlock = some k → v.ownBlock = some k ∨ w.heap.size ≤ k) → wpList Try.prog ops Q rest (a.put o.dst v') w') : wpList Try.prog ops Q (o :: rest) a w := by
  obtain ⟨i0, hi, hz⟩ := Option.map_eq_some_iff.1 info_row
  simp only [Prod.mk.injEq] at hz
  obtain ⟨hz0, hz1, hz2⟩ := hz
  exact Ow.wpList_append w hgd s x 42 ho base 31 i0 _ 1 24 Try.underlying42 hi hz0 hz1 hz2 rfl (by decide) v n xs hs hown ⟨g, 0, none⟩ 1 c [u] hx rfl (fun j y hy => by
    cases j with
    | zero => simp at hy; subst hy; exact hu
    | succ j => simp at hy) (by intro y hy; rw [List.mem_singleton.1 hy]; exact h1) (by unfold maxLen; omega) (by omega) hbase (fun v' w' k1 k2 _ k4 => h v' w' k1 k2 k4)
/-- A row of 32 bytes, apart from the row of rows. -/
def Away (w : World) (base : Nat) (v11 v : Value) (l : List Int) : Prop := Row32 w v l ∧ ∀ g off cap, v = .slice (some ⟨g, off, none⟩) 32 cap → base ≤ g ∧ v11.ownBlock ≠ some g
set_option maxHeartbeats 4000000 in
set_option maxRecDepth 100000 in
theorem diskSafe_calls (v0 v1 v2 : Value) (w : World) (h0 : Arg Try.prog w 22 v0) (h1 : Arg Try.prog w 22 v1) (h2 : Arg Try.prog w 34 v2) : Calls Try.prog 4 #[v0, v1, v2] w fun e w' => e = .returned (.bool true) ∧ Below w.heap.size w w' := by
  have mixed : Try.prog.follows Departure.mixedOrders = true := by kernel_rfl
  obtain ⟨ops, hlen, a0, c0, rfl, hops⟩ := arg_ops h0
  obtain ⟨ops2, hlen2, a02, c02, rfl, hops2⟩ := arg_ops h1
  obtain ⟨o, cs, rfl, hr⟩ := arg_op h2
  obtain ⟨vb, vk, rfl, -, hk⟩ := hr.is
  clear h0 h1 h2
  go_enter Try.func4, Try.ntmps4
  go_wp2_with (fail)
  refine (new_calls 12 _ (by omega) (by omega)).mono ?_
  rintro e w1 ⟨b, m1, m2, rfl, hb1, hft, hD⟩
  go_wp2_with (fail)
  refine (alive_calls _).mono ?_
  rintro e w2 ⟨rfl, hb2⟩
  go_upto_block 0 with (fail)
  have HL : Sst w w2 b m1 m2 o vk (.slice none 0 0) ⟨12, fun _ => none, fun _ => none, []⟩ := by
    have hs1 : w.heap.size + 1 ≤ w1.heap.size := by have := hb1.size; simpa using this
    have hba : Below (w.heap.size + 1) (w.alloc (.cells #[.int .i64 o.kind, .int .i64 o.n, vb, vk, .int .i64 o.torn] 34)) w2 := by
      have h1 : Below (w.heap.size + 1) (w.alloc (.cells #[.int .i64 o.kind, .int .i64 o.n, vb, vk, .int .i64 o.torn] 34)) w1 := hb1.mono (by simp)
      exact h1.trans (hb2.mono hs1)
    have hbx : Below w.heap.size w (w.alloc (.cells #[.int .i64 o.kind, .int .i64 o.n, vb, vk, .int .i64 o.torn] 34)) := (Below.refl _ _).alloc (Nat.le_refl _) _
    refine ⟨hD.below hb2, rfl, hbx.trans (hba.mono (by omega)), ?_, ?_, ?_, ?_⟩
    · rw [hba.cell (p := ⟨w.heap.size, 1, none⟩) (by simp)]
      simp [World.cell?_alloc_new]
    · rw [hba.cell (p := ⟨w.heap.size, 3, none⟩) (by simp)]
      simp [World.cell?_alloc_new]
    · rw [hba.cell (p := ⟨w.heap.size, 4, none⟩) (by simp)]
      simp [World.cell?_alloc_new]
    · intro i hi
      have h5 := hft i hi
      (try simp at h5)
      omega
  clear hb1 hb2 hft hD
  go_cut [] (fun wx => ∃ D sv, Sh (Sst w wx b m1 m2 o vk sv D ∧ Inv D ∧ D.calls.length ≤ 40))
  case first =>
    go_wp2_with fail
    go_loopg [9] (min ops.length 40) (fun kq v9 w' => ∃ (i : Nat) (D : St) (sv : Value), v9 = .int .i64 (i : Int) ∧ i + kq = min ops.length 40 ∧ D.calls.length ≤ i ∧ Sh (Sst w w' b m1 m2 o vk sv D ∧ Inv D))
    case atStart => exact ⟨0, _, _, rfl, by omega, Nat.le_refl _, ⟨HL, rfl⟩⟩
    case round =>
      obtain ⟨i, D, sv, rfl, hi, hcl, ⟨hL, hI⟩⟩ := hrel
      cases gk with
      | zero =>
        by_cases hq : (i : Int) < (ops.length : Int)
        · have hq2 : ¬ ((i : Int) < 40) := by omega
          go_wp2_with fail
          go_meet
          case rel => exact ⟨D, sv, ⟨hL, hI, by omega⟩⟩
        · go_wp2_with fail
          go_meet
          case rel => exact ⟨D, sv, ⟨hL, hI, by omega⟩⟩
      | succ g1_ =>
        have hq : (i : Int) < (ops.length : Int) := by omega
        have hq2 : (i : Int) < 40 := by omega
        have q0 : (0 : Int) ≤ (i : Int) := by omega
        obtain ⟨oi, hoi⟩ : ∃ oi, ops[i]? = some oi := ⟨_, List.getElem?_eq_getElem (by omega)⟩
        obtain ⟨g, off, rfl, hop⟩ := hops i oi hoi
        have hopw := hop.below hL.below
        obtain ⟨vb', hvb, hrb⟩ := hopw.bytes
        have hvn := hopw.n
        obtain ⟨vb0, hvb0, hrb0⟩ := hop.bytes
        have : vb0 = vb' := by
          rw [hL.below.cell (World.block_lt_of_cell? w _ hvb0), hvb0] at hvb
          exact Option.some.inj hvb
        subst this
        go_upto_region 7 with (fail)
        refine Mo.region 11 [0, 0, 0, 6, 14, 30, 0, 0, 192, 448, 960, 2047] (fun w' => w' = wr.drew) (fun _ => Eq) (fun _ _ => True) (fun _ _ _ _ => True) rfl (fun _ => trivial) (fun _ _ _ h k => k ▸ h) (fun _ _ _ _ _ _ _ _ _ _ => trivial) (fun _ _ _ _ _ _ _ _ _ => trivial) mixed (by kernel_rfl) ?_
        simp only [List.take_succ_cons, List.take_zero, List.drop_succ_cons, List.drop_zero]
        refine Mo.val (v := ?_) (fun _ => rfl) (by rfl) (fun _ _ _ => trivial) ?_ ?_
        rotate_left
        · (intro w' hT hP hF; cases hT; go_simp; with_reducible rfl)
        simp only [Act.put, List.setIfInBounds_toArray, List.set_cons_zero, List.set_cons_succ]
        refine Mo.val (v := ?_) (fun _ => rfl) (by rfl) (fun _ _ _ => trivial) ?_ ?_
        rotate_left
        · (intro w' hT hP hF; cases hT; go_simp; with_reducible rfl)
        simp only [Act.put, List.setIfInBounds_toArray, List.set_cons_zero, List.set_cons_succ]
        refine Mo.val (v := ?_) (fun _ => rfl) (by rfl) (fun _ _ _ => trivial) ?_ ?_
        rotate_left
        · (intro w' hT hP hF; cases hT; go_simp; with_reducible rfl)
        simp only [Act.put, List.setIfInBounds_toArray, List.set_cons_zero, List.set_cons_succ]
        refine Mo.val (v := ?_) (fun _ => rfl) (by rfl) (fun _ _ _ => trivial) ?_ ?_
        rotate_left
        · (intro w' hT hP hF; cases hT; go_simp; with_reducible rfl)
        simp only [Act.put, List.setIfInBounds_toArray, List.set_cons_zero, List.set_cons_succ]
        refine Mo.val (v := ?_) (fun _ => rfl) (by rfl) (fun _ _ _ => trivial) ?_ ?_
        rotate_left
        · (intro w' hT hP hF; cases hT; go_simp; with_reducible rfl)
        simp only [Act.put, List.setIfInBounds_toArray, List.set_cons_zero, List.set_cons_succ]
        refine Mo.val (v := ?_) (fun _ => rfl) (by rfl) (fun _ _ _ => trivial) ?_ ?_
        rotate_left
        · (intro w' hT hP hF; cases hT; go_simp; with_reducible rfl)
        simp only [Act.put, List.setIfInBounds_toArray, List.set_cons_zero, List.set_cons_succ]
        refine Mo.val (v := ?_) (fun _ => rfl) (by rfl) (fun _ _ _ => trivial) ?_ ?_
        rotate_left
        · (intro w' hT hP hF; cases hT; go_simp; with_reducible rfl)
        simp only [Act.put, List.setIfInBounds_toArray, List.set_cons_zero, List.set_cons_succ]
        refine Mo.val (v := ?_) (fun _ => rfl) (by rfl) (fun _ _ _ => trivial) ?_ ?_
        rotate_left
        · (intro w' hT hP hF; cases hT; go_simp; with_reducible rfl)
        simp only [Act.put, List.setIfInBounds_toArray, List.set_cons_zero, List.set_cons_succ]
        refine Mo.val (v := ?_) (fun _ => rfl) (by rfl) (fun _ _ _ => trivial) ?_ ?_
        rotate_left
        · (intro w' hT hP hF; cases hT; go_simp; with_reducible rfl)
        simp only [Act.put, List.setIfInBounds_toArray, List.set_cons_zero, List.set_cons_succ]
        refine Mo.val (v := ?_) (fun _ => rfl) (by rfl) (fun _ _ _ => trivial) ?_ ?_
        rotate_left
        · (intro w' hT hP hF; cases hT; go_simp; with_reducible rfl)
        simp only [Act.put, List.setIfInBounds_toArray, List.set_cons_zero, List.set_cons_succ]
        refine Mo.val (v := ?_) (fun _ => rfl) (by rfl) (fun _ _ _ => trivial) ?_ ?_
        rotate_left
        · (intro w' hT hP hF; cases hT; go_simp; with_reducible rfl)
        simp only [Act.put, List.setIfInBounds_toArray, List.set_cons_zero, List.set_cons_succ]
        refine Mo.done ?_
        rintro w' rfl - -
        have hLd := hL.step (S := fun _ => False) (Kept.refl _ wr).drew (fun _ _ e => e)
        obtain ⟨d0, -, -, -⟩ := hLd.disk.cells
        rw [hL.size] at d0
        by_cases hnn : 0 ≤ oi.n
        · by_cases hn12 : oi.n < 12
          · by_cases hbl : oi.b.length = 32
            · have hR0 := Row32.of_row hrb0 hbl
              obtain ⟨g', off', cp, rfl, hg'lt, -⟩ := hR0.block
              obtain ⟨-, g2, o2, cp2, he2, hrg⟩ := hR0.below hL.below
              obtain ⟨⟨rfl, rfl⟩, rfl⟩ : (g' = g2 ∧ off' = o2) ∧ cp = cp2 := by simpa using he2
              go_wp2_with (fail)
              refine (write_ok b m1 m2 sv D oi.n g' off' cp oi.b wr.drew hLd.disk hnn (by rw [hLd.size]; exact hn12) hbl hrg (fun hs => by have := hL.far g' (.inr (.inr (.inr hs))); omega) (by omega)).mono ?_
              rintro e w4 ⟨sv', rfl, hD', hK, hsv'⟩
              have hnx := hLd.next hD' rfl hK hsv'
              go_wp2_with (fail)
              go_roundg g1_
              case measure => omega
              case rel =>
                exact ⟨i + 1, D.write oi.n oi.b, sv', by go_num, by omega, by simp [St.write]; omega, ⟨hnx, inv_write hI _ hnn⟩⟩
            · obtain ⟨ab, cb, rfl, -, -⟩ := hrb0
              have hbl2 : ¬ ((oi.b.length : Int) = 32) := by omega
              go_wp2_with (fail)
              refine (write_short b 12 oi.n ab oi.b.length cb wr.drew d0 hnn hn12 hbl).mono ?_
              rintro e w4 ⟨rfl, rfl⟩
              go_wp2_with (fail)
              go_roundg g1_
              case measure => omega
              case rel =>
                exact ⟨i + 1, D, sv, by go_num, by omega, by omega, ⟨hLd, hI⟩⟩
          · have hn12' : 12 ≤ oi.n := by omega
            go_wp2_with (fail)
            refine (write_bad b 12 oi.n vb0 wr.drew d0 (Or.inr hn12')).mono ?_
            rintro e w4 ⟨rfl, rfl⟩
            go_wp2_with (fail)
            go_roundg g1_
            case measure => omega
            case rel =>
              exact ⟨i + 1, D, sv, by go_num, by omega, by omega, ⟨hLd, hI⟩⟩
        · have hnn' : oi.n < 0 := by omega
          go_wp2_with (fail)
          refine (write_bad b 12 oi.n vb0 wr.drew d0 (Or.inl hnn')).mono ?_
          rintro e w4 ⟨rfl, rfl⟩
          go_wp2_with (fail)
          go_roundg g1_
          case measure => omega
          case rel =>
            exact ⟨i + 1, D, sv, by go_num, by omega, by omega, ⟨hLd, hI⟩⟩
  case rest =>
    obtain ⟨D0, sv, ⟨hL0, hI0, hcl0⟩⟩ := hcut
    clear HL
    go_wp2_with (fail)
    refine (sync_ok b m1 m2 sv D0 wc hL0.disk (by omega)).mono ?_
    rintro e w4 ⟨sv4, rfl, hD4, hK4, hsv4⟩
    have hL4 := hL0.next hD4 rfl hK4 hsv4
    have hdr := drain_sync hI0
    have hcl4 : D0.sync.calls.length ≤ 41 := by simp [St.sync]; omega
    obtain ⟨D1, hD1⟩ : ∃ D1, D0.sync = D1 := ⟨_, rfl⟩
    have hdr1 : drain D1.calls D1.first = (D1.now, []) := by rw [← hD1]; exact hdr
    rw [hD1] at hL4 hcl4
    clear hL0 hI0 hcl0 hD4 hK4 hsv4 hdr hD1
    obtain ⟨a4, c4, rfl⟩ := own_len hL4.disk.row
    obtain ⟨-, -, -, d3⟩ := hL4.disk.cells
    obtain ⟨nc0, hnc0⟩ : ∃ nc, D1.calls.length = nc := ⟨_, rfl⟩
    rw [hnc0] at d3
    go_wp2_with (fail)
    refine (calls_calls b a4 nc0 c4 w4 d3).mono ?_
    rintro e w5 ⟨rfl, rfl⟩
    go_upto_block 2 with (fail)
    go_cut [11] (fun v11 wx => ∃ vs, Sh (Below w4.heap.size w4 wx ∧ wx.ownsRow w4.heap.size 31 1 v11 12 vs ∧ ∀ j : Nat, j < 12 → ∃ v, vs[j]? = some v ∧ Away wx w4.heap.size v11 v (D1.at j)))
    case first =>
      go_wp2_with fail
      go_loopg [11, 12] 12 (fun kq v11 v12 w' => ∃ (n : Nat) (vs : List Value), v12 = .int .i64 (n : Int) ∧ n + kq = 12 ∧ Sh (Below w4.heap.size w4 w' ∧ w'.ownsRow w4.heap.size 31 1 v11 n vs ∧ ∀ j : Nat, j < n → ∃ v, vs[j]? = some v ∧ Away w' w4.heap.size v11 v (D1.at j)))
      case atStart => exact ⟨0, [], rfl, rfl, ⟨Below.refl _ _, World.ownsRow_nil _ _ _ _, fun j hj => by omega⟩⟩
      case round =>
        obtain ⟨n, vs, rfl, hn, ⟨hbr, how, hvs⟩⟩ := hrel
        cases gk with
        | zero =>
          have q : ¬ ((n : Int) < 12) := by omega
          obtain rfl : n = 12 := by omega
          go_wp2_with fail
          go_meet
          case rel => exact ⟨vs, ⟨hbr, how, hvs⟩⟩
        | succ g1_ =>
          have q : (n : Int) < 12 := by omega
          have q0 : (0 : Int) ≤ (n : Int) := by omega
          go_wp2_with (fail)
          refine (read_ok b m1 m2 _ D1 n wr (hL4.disk.below hbr) (by omega) (by rw [hL4.size]; omega)).mono ?_
          rintro e w5 ⟨vr, rfl, hb5, how5⟩
          have hr5 := Row32.own how5 (D1.at_length hL4.disk.ok n)
          obtain ⟨gr, offr, cpr, rfl, hgr5, -⟩ := hr5.block
          have hgw := (how5.lt gr rfl).1
          have how' := own_kept how (Kept.of_below (S := fun _ => False) hb5) (fun _ _ e => e)
          go_wp2_with (at_builtin; refine append_row rfl (.tmp 74) (.tmp 76) rfl w4.heap.size _ n vs rfl (how'.alloc _) w5.heap.size 1 (.slice (some ⟨gr, offr, none⟩) 32 cpr) rfl ?c1 rfl (by omega) ?c6 ?_)
          case c1 => simp only [World.cell?, heap_alloc_new]; simp
          case c6 => have := hbr.size; have := hb5.size; simp; omega
          intro v' w6 ho6 hgr hnb
          have hK6 : Kept (fun i => u11.ownBlock = some i) w5 w6 := ((Kept.refl (fun i => u11.ownBlock = some i) w5).alloc _).grown hgr (fun i hi => Or.inr hi)
          have hb6 : Below w4.heap.size w4 w6 := (hbr.trans (hb5.mono hbr.size)).trans (hK6.below (Nat.le_trans hbr.size hb5.size) (fun i hi e => by have := (how.lt i e).1; omega))
          have hsz5 := hb5.size
          have hsz4 := hbr.size
          clear hgr
          go_wp2_with (fail)
          go_roundg g1_
          case measure => omega
          case rel =>
            refine ⟨n + 1, vs ++ [.slice (some ⟨gr, offr, none⟩) 32 cpr], by go_num, by omega, ⟨hb6, ho6, fun j hj => ?_⟩⟩
            have hlv : vs.length = n := by have := how.1; omega
            by_cases hjn : j < n
            · obtain ⟨v, hv, hrow, haw⟩ := hvs j hjn
              refine ⟨v, by rw [List.getElem?_append_left (by omega)]; exact hv, (hrow.below hb5).kept hK6 (fun g off cap he => (haw g off cap he).2), fun g off cap he => ⟨(haw g off cap he).1, fun e => ?_⟩⟩
              rcases hnb g e with h5 | h5
              · exact (haw g off cap he).2 h5
              · obtain ⟨g2, off2, cap2, he2, hlt2, -⟩ := hrow.block
                rw [he] at he2
                cases he2
                (try simp at h5)
                omega
            · obtain rfl : j = n := by omega
              refine ⟨_, by rw [List.getElem?_append_right (by omega), hlv, Nat.sub_self]; rfl, hr5.kept hK6 (fun g off cap he e => ?_), fun g off cap he => ⟨?_, fun e => ?_⟩⟩
              · cases he
                have := (how.lt _ e).2
                omega
              · cases he
                omega
              · cases he
                rcases hnb _ e with h5 | h5
                · have := (how.lt _ h5).2
                  omega
                · (try simp at h5)
                  omega
    case rest =>
      obtain ⟨vs, ⟨hbn, hown, hvs⟩⟩ := hcut
      obtain ⟨wn, hwn⟩ : ∃ wn, wn = wc := ⟨_, rfl⟩
      subst hwn
      go_upto_block 4 with (fail)
      have hLn := hL4.step (Kept.of_below (S := fun _ => False) hbn) (fun _ _ e => e)
      go_cut [] (fun wx => ∃ D sv W, Sh (Sst w wx b m1 m2 o vk sv D ∧ D.calls = D1.calls ++ W ∧ D.first = D1.first ∧ (∀ c ∈ W, 0 ≤ c.1 ∧ c.2.length = 32 ∧ ∃ j oj, j < min ops2.length 40 ∧ ops2[j]? = some oj ∧ oj.n = c.1 ∧ oj.b = c.2) ∧ W.length ≤ 40 ∧ Kept (fun i => i < w4.heap.size) wn wx))
      case first =>
        go_wp2_with fail
        go_loopg [15] (min ops2.length 40) (fun kq v15 w' => ∃ (i : Nat) (D : St) (sv : Value) (W : List Wr), v15 = .int .i64 (i : Int) ∧ i + kq = min ops2.length 40 ∧ D.calls.length ≤ nc0 + i ∧ W.length ≤ i ∧ Sh (Sst w w' b m1 m2 o vk sv D ∧ D.calls = D1.calls ++ W ∧ D.first = D1.first ∧ (∀ c ∈ W, 0 ≤ c.1 ∧ c.2.length = 32 ∧ ∃ j oj, j < min ops2.length 40 ∧ ops2[j]? = some oj ∧ oj.n = c.1 ∧ oj.b = c.2) ∧ (∀ i, foot b m1 m2 sv i → i < w4.heap.size ∨ wn.heap.size ≤ i) ∧ Kept (fun i => i < w4.heap.size) wn w'))
        case atStart => exact ⟨0, D1, _, [], rfl, by omega, by omega, Nat.le_refl _, ⟨hLn, by simp, rfl, by simp, fun i hi => .inl (hL4.disk.lt i hi), Kept.refl _ _⟩⟩
        case round =>
          obtain ⟨i, D, sv, W, rfl, hi, hcl, hWl, ⟨hL, hca, hfi, hW, hft, hKn⟩⟩ := hrel
          cases gk with
          | zero =>
            by_cases hq : (i : Int) < (ops2.length : Int)
            · have hq2 : ¬ ((i : Int) < 40) := by omega
              go_wp2_with fail
              go_meet
              case rel => exact ⟨D, sv, W, ⟨hL, hca, hfi, hW, by omega, hKn⟩⟩
            · go_wp2_with fail
              go_meet
              case rel => exact ⟨D, sv, W, ⟨hL, hca, hfi, hW, by omega, hKn⟩⟩
          | succ g1_ =>
            have hq : (i : Int) < (ops2.length : Int) := by omega
            have hq2 : (i : Int) < 40 := by omega
            have q0 : (0 : Int) ≤ (i : Int) := by omega
            obtain ⟨oi, hoi⟩ : ∃ oi, ops2[i]? = some oi := ⟨_, List.getElem?_eq_getElem (by omega)⟩
            obtain ⟨g, off, rfl, hop⟩ := hops2 i oi hoi
            have hopw := hop.below hL.below
            obtain ⟨vb', hvb, hrb⟩ := hopw.bytes
            have hvn := hopw.n
            obtain ⟨vb0, hvb0, hrb0⟩ := hop.bytes
            have : vb0 = vb' := by
              rw [hL.below.cell (World.block_lt_of_cell? w _ hvb0), hvb0] at hvb
              exact Option.some.inj hvb
            subst this
            go_upto_region 19 with (fail)
            refine Mo.region 11 [0, 0, 0, 6, 14, 30, 0, 0, 192, 448, 960, 2047] (fun w' => w' = wr.drew) (fun _ => Eq) (fun _ _ => True) (fun _ _ _ _ => True) rfl (fun _ => trivial) (fun _ _ _ h k => k ▸ h) (fun _ _ _ _ _ _ _ _ _ _ => trivial) (fun _ _ _ _ _ _ _ _ _ => trivial) mixed (by kernel_rfl) ?_
            simp only [List.take_succ_cons, List.take_zero, List.drop_succ_cons, List.drop_zero]
            refine Mo.val (v := ?_) (fun _ => rfl) (by rfl) (fun _ _ _ => trivial) ?_ ?_
            rotate_left
            · (intro w' hT hP hF; cases hT; go_simp; with_reducible rfl)
            simp only [Act.put, List.setIfInBounds_toArray, List.set_cons_zero, List.set_cons_succ]
            refine Mo.val (v := ?_) (fun _ => rfl) (by rfl) (fun _ _ _ => trivial) ?_ ?_
            rotate_left
            · (intro w' hT hP hF; cases hT; go_simp; with_reducible rfl)
            simp only [Act.put, List.setIfInBounds_toArray, List.set_cons_zero, List.set_cons_succ]
            refine Mo.val (v := ?_) (fun _ => rfl) (by rfl) (fun _ _ _ => trivial) ?_ ?_
            rotate_left
            · (intro w' hT hP hF; cases hT; go_simp; with_reducible rfl)
            simp only [Act.put, List.setIfInBounds_toArray, List.set_cons_zero, List.set_cons_succ]
            refine Mo.val (v := ?_) (fun _ => rfl) (by rfl) (fun _ _ _ => trivial) ?_ ?_
            rotate_left
            · (intro w' hT hP hF; cases hT; go_simp; with_reducible rfl)
            simp only [Act.put, List.setIfInBounds_toArray, List.set_cons_zero, List.set_cons_succ]
            refine Mo.val (v := ?_) (fun _ => rfl) (by rfl) (fun _ _ _ => trivial) ?_ ?_
            rotate_left
            · (intro w' hT hP hF; cases hT; go_simp; with_reducible rfl)
            simp only [Act.put, List.setIfInBounds_toArray, List.set_cons_zero, List.set_cons_succ]
            refine Mo.val (v := ?_) (fun _ => rfl) (by rfl) (fun _ _ _ => trivial) ?_ ?_
            rotate_left
            · (intro w' hT hP hF; cases hT; go_simp; with_reducible rfl)
            simp only [Act.put, List.setIfInBounds_toArray, List.set_cons_zero, List.set_cons_succ]
            refine Mo.val (v := ?_) (fun _ => rfl) (by rfl) (fun _ _ _ => trivial) ?_ ?_
            rotate_left
            · (intro w' hT hP hF; cases hT; go_simp; with_reducible rfl)
            simp only [Act.put, List.setIfInBounds_toArray, List.set_cons_zero, List.set_cons_succ]
            refine Mo.val (v := ?_) (fun _ => rfl) (by rfl) (fun _ _ _ => trivial) ?_ ?_
            rotate_left
            · (intro w' hT hP hF; cases hT; go_simp; with_reducible rfl)
            simp only [Act.put, List.setIfInBounds_toArray, List.set_cons_zero, List.set_cons_succ]
            refine Mo.val (v := ?_) (fun _ => rfl) (by rfl) (fun _ _ _ => trivial) ?_ ?_
            rotate_left
            · (intro w' hT hP hF; cases hT; go_simp; with_reducible rfl)
            simp only [Act.put, List.setIfInBounds_toArray, List.set_cons_zero, List.set_cons_succ]
            refine Mo.val (v := ?_) (fun _ => rfl) (by rfl) (fun _ _ _ => trivial) ?_ ?_
            rotate_left
            · (intro w' hT hP hF; cases hT; go_simp; with_reducible rfl)
            simp only [Act.put, List.setIfInBounds_toArray, List.set_cons_zero, List.set_cons_succ]
            refine Mo.val (v := ?_) (fun _ => rfl) (by rfl) (fun _ _ _ => trivial) ?_ ?_
            rotate_left
            · (intro w' hT hP hF; cases hT; go_simp; with_reducible rfl)
            simp only [Act.put, List.setIfInBounds_toArray, List.set_cons_zero, List.set_cons_succ]
            refine Mo.done ?_
            rintro w' rfl - -
            have hLd := hL.step (S := fun _ => False) (Kept.refl _ wr).drew (fun _ _ e => e)
            obtain ⟨d0, -, -, -⟩ := hLd.disk.cells
            rw [hL.size] at d0
            by_cases hnn : 0 ≤ oi.n
            · by_cases hn12 : oi.n < 12
              · by_cases hbl : oi.b.length = 32
                · have hR0 := Row32.of_row hrb0 hbl
                  obtain ⟨g', off', cp, rfl, hg'lt, -⟩ := hR0.block
                  obtain ⟨-, g2, o2, cp2, he2, hrg⟩ := hR0.below hL.below
                  obtain ⟨⟨rfl, rfl⟩, rfl⟩ : (g' = g2 ∧ off' = o2) ∧ cp = cp2 := by simpa using he2
                  go_wp2_with (fail)
                  refine (write_ok b m1 m2 sv D oi.n g' off' cp oi.b wr.drew hLd.disk hnn (by rw [hLd.size]; exact hn12) hbl hrg (fun hs => by have := hL.far g' (.inr (.inr (.inr hs))); omega) (by omega)).mono ?_
                  rintro e w4 ⟨sv', rfl, hD', hK, hsv'⟩
                  have hnx := hLd.next hD' rfl hK hsv'
                  go_wp2_with (fail)
                  go_roundg g1_
                  case measure => omega
                  case rel =>
                    refine ⟨i + 1, D.write oi.n oi.b, sv', W ++ [(oi.n, oi.b)], by go_num, by omega, by simp [St.write]; omega, by simp; omega, ⟨hnx, by simp [St.write, hca], hfi, fun c hc => ?_, fun j hj => ?_, hKn.trans (Kept.after (S := foot b m1 m2 sv) ((Below.refl _ wr).drew) hK) (fun j h1 h2 => (hft j h2).resolve_right (by omega))⟩⟩
                    · rcases List.mem_append.1 hc with hc | hc
                      · exact hW c hc
                      · rw [List.mem_singleton.1 hc]
                        exact ⟨hnn, hbl, i, oi, by omega, hoi, rfl, rfl⟩
                    · rcases hj with hj | hj | hj | hj
                      · exact hft j (.inl hj)
                      · exact hft j (.inr (.inl hj))
                      · exact hft j (.inr (.inr (.inl hj)))
                      · rcases hsv' j hj with h5 | h5
                        · exact hft j (.inr (.inr (.inr h5)))
                        · exact .inr (Nat.le_trans hKn.size h5)
                · obtain ⟨ab, cb, rfl, -, -⟩ := hrb0
                  have hbl2 : ¬ ((oi.b.length : Int) = 32) := by omega
                  go_wp2_with (fail)
                  refine (write_short b 12 oi.n ab oi.b.length cb wr.drew d0 hnn hn12 hbl).mono ?_
                  rintro e w4 ⟨rfl, rfl⟩
                  go_wp2_with (fail)
                  go_roundg g1_
                  case measure => omega
                  case rel =>
                    exact ⟨i + 1, D, sv, W, by go_num, by omega, by omega, by omega, ⟨hLd, hca, hfi, hW, hft, hKn.drew⟩⟩
              · have hn12' : 12 ≤ oi.n := by omega
                go_wp2_with (fail)
                refine (write_bad b 12 oi.n vb0 wr.drew d0 (Or.inr hn12')).mono ?_
                rintro e w4 ⟨rfl, rfl⟩
                go_wp2_with (fail)
                go_roundg g1_
                case measure => omega
                case rel =>
                  exact ⟨i + 1, D, sv, W, by go_num, by omega, by omega, by omega, ⟨hLd, hca, hfi, hW, hft, hKn.drew⟩⟩
            · have hnn' : oi.n < 0 := by omega
              go_wp2_with (fail)
              refine (write_bad b 12 oi.n vb0 wr.drew d0 (Or.inl hnn')).mono ?_
              rintro e w4 ⟨rfl, rfl⟩
              go_wp2_with (fail)
              go_roundg g1_
              case measure => omega
              case rel =>
                exact ⟨i + 1, D, sv, W, by go_num, by omega, by omega, by omega, ⟨hLd, hca, hfi, hW, hft, hKn.drew⟩⟩
      case rest =>
        obtain ⟨D2, sv2, W, ⟨hL2, hca, hfi, hW, hW40, hKn⟩⟩ := hcut
        clear hLn
        obtain ⟨a2, c2, rfl⟩ := own_len hL2.disk.row
        obtain ⟨-, -, -, d32⟩ := hL2.disk.cells
        obtain ⟨d, hd⟩ : ∃ d, W.length = d := ⟨_, rfl⟩
        have hnc1 : D2.calls.length = nc0 + d := by rw [hca, List.length_append, hnc0, hd]
        obtain ⟨nc1, hd1⟩ : ∃ nc1, nc0 + d = nc1 := ⟨_, rfl⟩
        rw [hd1] at hnc1
        rw [hnc1] at d32
        have hnn := hL2.nn
        have hkp := hL2.keep
        have htn := hL2.torn
        obtain ⟨hn1, hn2⟩ := lit_range hr.wn
        obtain ⟨wm, hwm⟩ : ∃ wm, wm = wc := ⟨_, rfl⟩
        subst hwm
        go_upto_if 103 with (fail)
        go_cut [16] (fun v16 wx => wx = wm ∧ ∃ A : Nat, v16 = .int .i64 (A : Int) ∧ (A : Int) ≤ 9223372036854775807)
        case first =>
          by_cases hneg : o.n < 0
          · go_wp2_with (fail)
            go_meet
            case rel => exact ⟨rfl, (-(o.n + 1)).toNat, by rw [Int.toNat_of_nonneg (by omega)], by omega⟩
          · go_wp2_with (fail)
            go_meet
            case rel => exact ⟨rfl, o.n.toNat, by rw [Int.toNat_of_nonneg (by omega)], by omega⟩
        case rest =>
          obtain ⟨hwc, A, rfl, hA2⟩ := hcut
          subst hwc
          go_upto_region 23 with (fail)
          refine Mo.region 14 [0, 0, 0, 0, 8, 0, 56, 120, 252, 510, 0, 1024, 0, 4096, 16383] (fun w' => w' = wc.drew) (fun _ => Eq) (fun _ _ => True) (fun k _ v _ => k = 4 → v = .int .i64 (nc1 : Nat)) rfl (fun _ => trivial) (fun _ _ _ h k => k ▸ h) (fun _ _ _ _ _ _ _ _ _ h => h) (fun _ _ _ _ _ _ _ _ _ => trivial) mixed (by kernel_rfl) ?_
          simp only [List.take_succ_cons, List.take_zero, List.drop_succ_cons, List.drop_zero]
          refine Mo.val (v := ?_) (fun _ => rfl) (by rfl) (fun _ _ _ hk_ => (by cases hk_)) ?_ ?_
          rotate_left
          · (intro w' hT hP hF; cases hT; go_simp; with_reducible rfl)
          simp only [Act.put, List.setIfInBounds_toArray, List.set_cons_zero, List.set_cons_succ]
          refine Mo.val (v := ?_) (fun _ => rfl) (by rfl) (fun _ _ _ hk_ => (by cases hk_)) ?_ ?_
          rotate_left
          · (intro w' hT hP hF; cases hT; go_simp; with_reducible rfl)
          simp only [Act.put, List.setIfInBounds_toArray, List.set_cons_zero, List.set_cons_succ]
          refine Mo.val (v := ?_) (fun _ => rfl) (by rfl) (fun _ _ _ hk_ => (by cases hk_)) ?_ ?_
          rotate_left
          · (intro w' hT hP hF; cases hT; go_simp; with_reducible rfl)
          simp only [Act.put, List.setIfInBounds_toArray, List.set_cons_zero, List.set_cons_succ]
          refine Mo.val (v := ?_) (fun _ => rfl) (by rfl) (fun _ _ _ hk_ => (by cases hk_)) ?_ ?_
          rotate_left
          · (intro w' hT hP hF; cases hT; go_simp; with_reducible rfl)
          simp only [Act.put, List.setIfInBounds_toArray, List.set_cons_zero, List.set_cons_succ]
          refine Mo.any (by rfl) ?_ ?_
          · intro w' hT hP hF
            cases hT
            go_simp
            show Calls _ _ _ _ _
            refine (calls_calls b a2 nc1 c2 wc.drew d32).mono ?_
            rintro e w1 ⟨rfl, rfl⟩
            exact ⟨_, rfl, rfl, rfl⟩
          simp only [Act.put, List.setIfInBounds_toArray, List.set_cons_zero, List.set_cons_succ]
          rintro v111 ⟨_, _, hv111⟩
          obtain rfl := hv111 trivial
          have w1_ : IntKind.i64.wrap ((nc1 : Int) - (nc0 : Int)) = (d : Int) := by rw [IntWalk.i64_in _ (by omega)]; omega
          have w2_ : IntKind.i64.wrap ((d : Int) + 1) = (d : Int) + 1 := IntWalk.i64_in _ (by omega)
          have w3_ : ¬ ((d : Int) + 1 = 0) := by omega
          obtain ⟨rr, hrr⟩ : ∃ rr : Nat, A % (d + 1) = rr := ⟨_, rfl⟩
          have hrl : rr ≤ d := by have := Nat.mod_lt A (show 0 < d + 1 by omega); omega
          have w4_ : (A : Int).tmod ((d : Int) + 1) = (rr : Int) := by rw [Int.tmod_eq_emod_of_nonneg (by omega), ← hrr]; norm_cast
          have w5_ : IntKind.i64.wrap ((nc0 : Int) + (rr : Int)) = ((nc0 + rr : Nat) : Int) := by rw [IntWalk.i64_in _ (by omega)]; omega
          refine Mo.val (v := ?_) (fun _ => rfl) (by rfl) (fun _ _ _ hk_ => (by cases hk_)) ?_ ?_
          rotate_left
          · (intro w' hT hP hF; cases hT; go_simp; with_reducible rfl)
          simp only [Act.put, List.setIfInBounds_toArray, List.set_cons_zero, List.set_cons_succ]
          refine Mo.val (v := ?_) (fun _ => rfl) (by rfl) (fun _ _ _ hk_ => (by cases hk_)) ?_ ?_
          rotate_left
          · (intro w' hT hP hF; cases hT; go_simp; with_reducible rfl)
          simp only [Act.put, List.setIfInBounds_toArray, List.set_cons_zero, List.set_cons_succ]
          (try rw [w1_])
          refine Mo.val (v := ?_) (fun _ => rfl) (by rfl) (fun _ _ _ hk_ => (by cases hk_)) ?_ ?_
          rotate_left
          · (intro w' hT hP hF; cases hT; go_simp; with_reducible rfl)
          simp only [Act.put, List.setIfInBounds_toArray, List.set_cons_zero, List.set_cons_succ]
          (try rw [w2_])
          refine Mo.val (v := ?_) (fun _ => rfl) (by rfl) (fun _ _ _ hk_ => (by cases hk_)) ?_ ?_
          rotate_left
          · (intro w' hT hP hF; cases hT; go_simp; with_reducible rfl)
          simp only [Act.put, List.setIfInBounds_toArray, List.set_cons_zero, List.set_cons_succ]
          (try rw [w4_])
          refine Mo.val (v := ?_) (fun _ => rfl) (by rfl) (fun _ _ _ hk_ => (by cases hk_)) ?_ ?_
          rotate_left
          · (intro w' hT hP hF; cases hT; go_simp; with_reducible rfl)
          simp only [Act.put, List.setIfInBounds_toArray, List.set_cons_zero, List.set_cons_succ]
          (try rw [w5_])
          refine Mo.val (v := ?_) (fun _ => rfl) (by rfl) (fun _ _ _ hk_ => (by cases hk_)) ?_ ?_
          rotate_left
          · (intro w' hT hP hF; cases hT; go_simp; with_reducible rfl)
          simp only [Act.put, List.setIfInBounds_toArray, List.set_cons_zero, List.set_cons_succ]
          refine Mo.val (v := ?_) (fun _ => rfl) (by rfl) (fun _ _ _ hk_ => (by cases hk_)) ?_ ?_
          rotate_left
          · (intro w' hT hP hF; cases hT; go_simp; with_reducible rfl)
          simp only [Act.put, List.setIfInBounds_toArray, List.set_cons_zero, List.set_cons_succ]
          refine Mo.val (v := ?_) (fun _ => rfl) (by rfl) (fun _ _ _ hk_ => (by cases hk_)) ?_ ?_
          rotate_left
          · (intro w' hT hP hF; cases hT; go_simp; with_reducible rfl)
          simp only [Act.put, List.setIfInBounds_toArray, List.set_cons_zero, List.set_cons_succ]
          refine Mo.val (v := ?_) (fun _ => rfl) (by rfl) (fun _ _ _ hk_ => (by cases hk_)) ?_ ?_
          rotate_left
          · (intro w' hT hP hF; cases hT; go_simp; with_reducible rfl)
          simp only [Act.put, List.setIfInBounds_toArray, List.set_cons_zero, List.set_cons_succ]
          refine Mo.done ?_
          rintro w' rfl - -
          obtain ⟨pp, hpp⟩ : ∃ pp, nc0 + rr = pp := ⟨_, rfl⟩
          (try rw [hpp])
          have hD2 := hL2.disk.kept (S := fun _ => False) (Kept.refl _ wc).drew (fun _ _ e => e)
          have hkd := row1_below hk hL2.below.drew
          go_wp2_with (fail)
          rw [show ((nc0 : Int) + (rr : Int)) = (pp : Int) by omega]
          refine (cut_ok b m1 m2 _ D2 pp o.torn o.keep vk wc.drew hD2 (lit_small' (by omega) (by omega)) hr.wt hkd (by omega)).mono ?_
          rintro e w5 ⟨x, y1, y2, rfl, hX, hb5, hfx⟩
          have hsafe := safe_byte (D1 := D1) (D2 := D2) (W := W) hdr1 hL4.disk.ok.now hca hfi (fun c hc => (hW c hc).1) (fun c hc => (hW c hc).2.1) pp (by omega) (by omega) o.keep o.torn
          obtain ⟨FX, hFX⟩ : ∃ FX, D2.cutM pp o.keep o.torn = FX := ⟨_, rfl⟩
          rw [hFX] at hsafe
          have hXn : (D2.cut pp o.keep o.torn).now = FX := hFX
          have hXs : (D2.cut pp o.keep o.torn).size = 12 := hL2.size
          have hXc : (D2.cut pp o.keep o.torn).calls = [] := rfl
          obtain ⟨X, hXX⟩ : ∃ X, D2.cut pp o.keep o.torn = X := ⟨_, rfl⟩
          rw [hXX] at hX hXn hXs hXc
          have hKq : Kept (fun i => i < w4.heap.size) wn w5 := hKn.drew.then hb5
          have hownq := own_kept hown hKq (fun i hi e => by have := (hown.lt i hi).1; omega)
          have hvq : ∀ j : Nat, j < 12 → ∃ v, vs[j]? = some v ∧ Row32 w5 v (D1.at j) := fun j hj => by
            obtain ⟨v, hv, hrow, haw⟩ := hvs j hj
            exact ⟨v, hv, hrow.kept hKq (fun g off cap he e => by have := (haw g off cap he).1; omega)⟩
          have hbq : Below w.heap.size w w5 := hL2.below.trans (((Below.refl wc.heap.size wc).drew.trans hb5).mono hL2.below.size)
          obtain ⟨gb, cb, rfl⟩ : ∃ gb cb, u11 = .slice (some ⟨gb, 0, none⟩) 12 cb := by
            rcases hown.2 with ⟨_, h5⟩ | ⟨g, cap, cur, h5, _⟩
            · omega
            · exact ⟨g, cap, h5⟩
          have hcells := fun (j : Nat) (u : Value) (hu : vs[j]? = some u) => hownq.cells (g := gb) rfl j u hu
          go_upto_block 6 with (fail)
          clear d32 hnn hkp htn hD2 hkd hL2 hKn hL4 hown hvs hb5 hfx hKq hownq hdr1 hbn
          go_cut [] (fun wx => Sh (Below w5.heap.size w5 wx))
          case first =>
            go_wp2_with fail
            go_loopg [18] 12 (fun kq v18 w' => ∃ n : Nat, v18 = .int .i64 (n : Int) ∧ n + kq = 12 ∧ Sh (Below w5.heap.size w5 w'))
            case atStart => exact ⟨0, rfl, rfl, ⟨Below.refl _ _⟩⟩
            case round =>
              obtain ⟨n, rfl, hn, ⟨hbr⟩⟩ := hrel
              cases gk with
              | zero =>
                have q : ¬ ((n : Int) < 12) := by omega
                go_wp2_with fail
                go_meet
                case rel => exact ⟨hbr⟩
              | succ g1_ =>
                have q : (n : Int) < 12 := by omega
                have q0 : (0 : Int) ≤ (n : Int) := by omega
                go_wp2_with (fail)
                refine (read_ok x y1 y2 _ X n wr (hX.below hbr) (by omega) (by rw [hXs]; omega)).mono ?_
                rintro e w6 ⟨vg, rfl, hb6, how6⟩
                obtain ⟨G, hG⟩ : ∃ G, X.at n = G := ⟨_, rfl⟩
                have hGF : (FX (n : Int)).getD zeros = G := by rw [← hG]; unfold St.at; rw [hXn]
                rw [hG] at how6
                have hG32 : G.length = 32 := by rw [← hG]; exact X.at_length hX.ok n
                have hg6 := Row32.own how6 hG32
                obtain ⟨gg, og, cg, rfl, hgl, hgr⟩ := hg6.block
                obtain ⟨vbf, hvbf, hrb⟩ := hvq n (by omega)
                have hcb := bcell' hb6 (bcell' hbr (hcells n vbf hvbf))
                rw [Addr.add_mid, Nat.zero_add] at hcb
                have hrb6 := (hrb.below hbr).below hb6
                obtain ⟨B, hB⟩ : ∃ B, D1.at n = B := ⟨_, rfl⟩
                rw [hB] at hrb6
                obtain ⟨gv, ov, cv, rfl, hgvl, hvr⟩ := hrb6.block
                have hB32 := hrb6.1
                have hbr6 : Below w5.heap.size w5 w6 := hbr.trans (hb6.mono hbr.size)
                clear how6 hg6 hrb6 hgl hgvl hrb
                go_upto_block 8 with (fail)
                go_wp2_with fail
                go_loopg [21] 32 (fun kq v21 w' => ∃ k : Nat, v21 = .int .i64 (k : Int) ∧ k + kq = 32 ∧ Sh (Below w6.heap.size w6 w'))
                case atStart => exact ⟨0, rfl, rfl, ⟨Below.refl _ _⟩⟩
                case round =>
                  obtain ⟨k, rfl, hk32, ⟨hbk⟩⟩ := hrel
                  cases gk with
                  | zero =>
                    have qk : ¬ ((k : Int) < 32) := by omega
                    go_wp2_with fail
                    go_roundg g1_
                    case measure => omega
                    case rel => exact ⟨n + 1, by go_num, by omega, ⟨hbr6.trans (hbk.mono hbr6.size)⟩⟩
                  | succ g2_ =>
                    have qk : (k : Int) < 32 := by omega
                    have qk0 : (0 : Int) ≤ (k : Int) := by omega
                    obtain ⟨xb, hxb⟩ : ∃ y, G.getD k 0 = y := ⟨_, rfl⟩
                    obtain ⟨ob, hob⟩ : ∃ y, B.getD k 0 = y := ⟨_, rfl⟩
                    have hcg0 : w6.cell? ⟨gg, og + k, none⟩ = some (.int .u8 xb) := hgr k _ (by rw [List.getElem?_map, List.getElem?_eq_getElem (by omega), ← hxb, List.getD_eq_getElem?_getD, List.getElem?_eq_getElem (by omega)]; rfl)
                    have hcg := bcell' hbk hcg0
                    have hcv : wr.cell? ⟨gv, ov + k, none⟩ = some (.int .u8 ob) := bcell' hbk (hvr k _ (by rw [List.getElem?_map, List.getElem?_eq_getElem (by omega), ← hob, List.getD_eq_getElem?_getD, List.getElem?_eq_getElem (by omega)]; rfl))
                    have hcbk := bcell' hbk hcb
                    go_upto_region 35 with (fail)
                    refine Mo.region 12 [0, 0, 3, 7, 0, 0, 48, 112, 0, 496, 1008, 2047, 4095] (fun w' => w' = wr.drew) (fun _ => Eq) (fun _ _ => True) (fun _ _ _ _ => True) rfl (fun _ => trivial) (fun _ _ _ h k => k ▸ h) (fun _ _ _ _ _ _ _ _ _ _ => trivial) (fun _ _ _ _ _ _ _ _ _ => trivial) mixed (by kernel_rfl) ?_
                    simp only [List.take_succ_cons, List.take_zero, List.drop_succ_cons, List.drop_zero]
                    refine Mo.val (v := ?_) (fun _ => rfl) (by rfl) (fun _ _ _ => trivial) ?_ ?_
                    rotate_left
                    · (intro w' hT hP hF; cases hT; go_simp; with_reducible rfl)
                    simp only [Act.put, List.setIfInBounds_toArray, List.set_cons_zero, List.set_cons_succ]
                    refine Mo.val (v := ?_) (fun _ => rfl) (by rfl) (fun _ _ _ => trivial) ?_ ?_
                    rotate_left
                    · (intro w' hT hP hF; cases hT; go_simp; with_reducible rfl)
                    simp only [Act.put, List.setIfInBounds_toArray, List.set_cons_zero, List.set_cons_succ]
                    refine Mo.val (v := ?_) (fun _ => rfl) (by rfl) (fun _ _ _ => trivial) ?_ ?_
                    rotate_left
                    · (intro w' hT hP hF; cases hT; go_simp; with_reducible rfl)
                    simp only [Act.put, List.setIfInBounds_toArray, List.set_cons_zero, List.set_cons_succ]
                    refine Mo.val (v := ?_) (fun _ => rfl) (by rfl) (fun _ _ _ => trivial) ?_ ?_
                    rotate_left
                    · (intro w' hT hP hF; cases hT; go_simp; with_reducible rfl)
                    simp only [Act.put, List.setIfInBounds_toArray, List.set_cons_zero, List.set_cons_succ]
                    refine Mo.val (v := ?_) (fun _ => rfl) (by rfl) (fun _ _ _ => trivial) ?_ ?_
                    rotate_left
                    · (intro w' hT hP hF; cases hT; go_simp; with_reducible rfl)
                    simp only [Act.put, List.setIfInBounds_toArray, List.set_cons_zero, List.set_cons_succ]
                    refine Mo.val (v := ?_) (fun _ => rfl) (by rfl) (fun _ _ _ => trivial) ?_ ?_
                    rotate_left
                    · (intro w' hT hP hF; cases hT; go_simp; with_reducible rfl)
                    simp only [Act.put, List.setIfInBounds_toArray, List.set_cons_zero, List.set_cons_succ]
                    refine Mo.val (v := ?_) (fun _ => rfl) (by rfl) (fun _ _ _ => trivial) ?_ ?_
                    rotate_left
                    · (intro w' hT hP hF; cases hT; go_simp; with_reducible rfl)
                    simp only [Act.put, List.setIfInBounds_toArray, List.set_cons_zero, List.set_cons_succ]
                    refine Mo.val (v := ?_) (fun _ => rfl) (by rfl) (fun _ _ _ => trivial) ?_ ?_
                    rotate_left
                    · (intro w' hT hP hF; cases hT; go_simp; with_reducible rfl)
                    simp only [Act.put, List.setIfInBounds_toArray, List.set_cons_zero, List.set_cons_succ]
                    refine Mo.val (v := ?_) (fun _ => rfl) (by rfl) (fun _ _ _ => trivial) ?_ ?_
                    rotate_left
                    · (intro w' hT hP hF; cases hT; go_simp; with_reducible rfl)
                    simp only [Act.put, List.setIfInBounds_toArray, List.set_cons_zero, List.set_cons_succ]
                    refine Mo.val (v := ?_) (fun _ => rfl) (by rfl) (fun _ _ _ => trivial) ?_ ?_
                    rotate_left
                    · (intro w' hT hP hF; cases hT; go_simp; with_reducible rfl)
                    simp only [Act.put, List.setIfInBounds_toArray, List.set_cons_zero, List.set_cons_succ]
                    refine Mo.val (v := ?_) (fun _ => rfl) (by rfl) (fun _ _ _ => trivial) ?_ ?_
                    rotate_left
                    · (intro w' hT hP hF; cases hT; go_simp; with_reducible rfl)
                    simp only [Act.put, List.setIfInBounds_toArray, List.set_cons_zero, List.set_cons_succ]
                    refine Mo.val (v := ?_) (fun _ => rfl) (by rfl) (fun _ _ _ => trivial) ?_ ?_
                    rotate_left
                    · (intro w' hT hP hF; cases hT; go_simp; with_reducible rfl)
                    simp only [Act.put, List.setIfInBounds_toArray, List.set_cons_zero, List.set_cons_succ]
                    refine Mo.done ?_
                    rintro w' rfl - -
                    go_upto_block 10 with (fail)
                    go_wp2_with fail
                    go_loopg [22, 23] (min ops2.length 40) (fun kq v22 v23 w' => ∃ (j : Nat) (bb : Bool), v22 = .bool bb ∧ v23 = .int .i64 (j : Int) ∧ j + kq = min ops2.length 40 ∧ Sh ((bb = false → xb ≠ ob ∧ ∀ j' oj, j' < j → ops2[j']? = some oj → oj.n = (n : Int) → oj.b.length = 32 → oj.b.getD k 0 ≠ xb) ∧ Below w6.heap.size w6 w'))
                    case atStart => exact ⟨0, _, rfl, rfl, by omega, ⟨fun h => ⟨by simpa using h, fun j' _ hj => by omega⟩, hbk.drew⟩⟩
                    case round =>
                      obtain ⟨j, bb, rfl, rfl, hj, ⟨hno, hbj⟩⟩ := hrel
                      cases gk with
                      | zero =>
                        have hbb : bb = true := by
                          cases bb with
                          | true => rfl
                          | false =>
                            exfalso
                            obtain ⟨hne, hall⟩ := hno rfl
                            have hs := hsafe n k (by omega)
                            rw [hGF, show (D1.now (n : Int)).getD zeros = B from hB] at hs
                            rcases hs with hs | ⟨c, hc, hcn, hcx⟩
                            · exact hne (by rw [← hxb, ← hob]; exact hs)
                            · obtain ⟨_, h32, j', oj, hj', hoj, hn', hb'⟩ := hW c hc
                              exact hall j' oj (by omega) hoj (hn'.trans hcn) (by rw [hb']; exact h32) (by rw [hb', hcx, hxb])
                        subst hbb
                        by_cases hq : (j : Int) < (ops2.length : Int)
                        · have hq2 : ¬ ((j : Int) < 40) := by omega
                          go_wp2_with fail
                          go_roundg g2_
                          case measure => omega
                          case rel => exact ⟨k + 1, by go_num, by omega, ⟨hbj⟩⟩
                        · go_wp2_with fail
                          go_roundg g2_
                          case measure => omega
                          case rel => exact ⟨k + 1, by go_num, by omega, ⟨hbj⟩⟩
                      | succ g3_ =>
                        have hq : (j : Int) < (ops2.length : Int) := by omega
                        have hq2 : (j : Int) < 40 := by omega
                        have qj0 : (0 : Int) ≤ (j : Int) := by omega
                        obtain ⟨oj, hoj⟩ : ∃ oj, ops2[j]? = some oj := ⟨_, List.getElem?_eq_getElem (by omega)⟩
                        obtain ⟨gO, oO, rfl, hop⟩ := hops2 j oj hoj
                        have hopw := ((hop.below hbq).below hbr6).below hbj
                        obtain ⟨vb0, hvb0, hrb0⟩ := hopw.bytes
                        have hvn := hopw.n
                        have hcgj : wr.cell? ⟨gg, og + k, none⟩ = some (.int .u8 xb) := bcell' hbj hcg0
                        go_upto_region 39 with (fail)
                        cases bb with
                        | true =>
                          refine Mo.region 34 [0, 1, 3, 3, 15, 31, 63, 3, 255, 511, 1023, 1023, 4095, 8191, 16383, 32767, 65535, 131071, 262143, 524287, 524287, 2097151, 4194303, 8388607, 524287, 33554431, 67108863, 524287, 524287, 403177471, 940048383, 2147483647, 4294967295, 8589934591, 17179869183] (fun w' => w' = wr.drew) (fun _ => Eq) (fun _ _ => True) (fun _ _ _ _ => True) rfl (fun _ => trivial) (fun _ _ _ h k => k ▸ h) (fun _ _ _ _ _ _ _ _ _ _ => trivial) (fun _ _ _ _ _ _ _ _ _ => trivial) mixed (by kernel_rfl) ?_
                          simp only [List.take_succ_cons, List.take_zero, List.drop_succ_cons, List.drop_zero]
                          refine Mo.val (v := ?_) (fun _ => rfl) (by rfl) (fun _ _ _ => trivial) ?_ ?_
                          rotate_left
                          · (intro w' hT hP hF; cases hT; go_simp; with_reducible rfl)
                          simp only [Act.put, List.setIfInBounds_toArray, List.set_cons_zero, List.set_cons_succ]
                          refine Mo.val (v := ?_) (fun _ => rfl) (by rfl) (fun _ _ _ => trivial) ?_ ?_
                          rotate_left
                          · (intro w' hT hP hF; cases hT; go_simp; with_reducible rfl)
                          simp only [Act.put, List.setIfInBounds_toArray, List.set_cons_zero, List.set_cons_succ]
                          refine Mo.skip (by rfl) ?_
                          simp only [Act.put, List.setIfInBounds_toArray, List.set_cons_zero, List.set_cons_succ]
                          refine Mo.skip (by rfl) ?_
                          simp only [Act.put, List.setIfInBounds_toArray, List.set_cons_zero, List.set_cons_succ]
                          refine Mo.skip (by rfl) ?_
                          simp only [Act.put, List.setIfInBounds_toArray, List.set_cons_zero, List.set_cons_succ]
                          refine Mo.skip (by rfl) ?_
                          simp only [Act.put, List.setIfInBounds_toArray, List.set_cons_zero, List.set_cons_succ]
                          refine Mo.skip (by rfl) ?_
                          simp only [Act.put, List.setIfInBounds_toArray, List.set_cons_zero, List.set_cons_succ]
                          refine Mo.skip (by rfl) ?_
                          simp only [Act.put, List.setIfInBounds_toArray, List.set_cons_zero, List.set_cons_succ]
                          refine Mo.skip (by rfl) ?_
                          simp only [Act.put, List.setIfInBounds_toArray, List.set_cons_zero, List.set_cons_succ]
                          refine Mo.skip (by rfl) ?_
                          simp only [Act.put, List.setIfInBounds_toArray, List.set_cons_zero, List.set_cons_succ]
                          refine Mo.skip (by rfl) ?_
                          simp only [Act.put, List.setIfInBounds_toArray, List.set_cons_zero, List.set_cons_succ]
                          refine Mo.skip (by rfl) ?_
                          simp only [Act.put, List.setIfInBounds_toArray, List.set_cons_zero, List.set_cons_succ]
                          refine Mo.skip (by rfl) ?_
                          simp only [Act.put, List.setIfInBounds_toArray, List.set_cons_zero, List.set_cons_succ]
                          refine Mo.skip (by rfl) ?_
                          simp only [Act.put, List.setIfInBounds_toArray, List.set_cons_zero, List.set_cons_succ]
                          refine Mo.skip (by rfl) ?_
                          simp only [Act.put, List.setIfInBounds_toArray, List.set_cons_zero, List.set_cons_succ]
                          refine Mo.skip (by rfl) ?_
                          simp only [Act.put, List.setIfInBounds_toArray, List.set_cons_zero, List.set_cons_succ]
                          refine Mo.skip (by rfl) ?_
                          simp only [Act.put, List.setIfInBounds_toArray, List.set_cons_zero, List.set_cons_succ]
                          refine Mo.skip (by rfl) ?_
                          simp only [Act.put, List.setIfInBounds_toArray, List.set_cons_zero, List.set_cons_succ]
                          refine Mo.skip (by rfl) ?_
                          simp only [Act.put, List.setIfInBounds_toArray, List.set_cons_zero, List.set_cons_succ]
                          refine Mo.skip (by rfl) ?_
                          simp only [Act.put, List.setIfInBounds_toArray, List.set_cons_zero, List.set_cons_succ]
                          refine Mo.skip (by rfl) ?_
                          simp only [Act.put, List.setIfInBounds_toArray, List.set_cons_zero, List.set_cons_succ]
                          refine Mo.skip (by rfl) ?_
                          simp only [Act.put, List.setIfInBounds_toArray, List.set_cons_zero, List.set_cons_succ]
                          refine Mo.skip (by rfl) ?_
                          simp only [Act.put, List.setIfInBounds_toArray, List.set_cons_zero, List.set_cons_succ]
                          refine Mo.skip (by rfl) ?_
                          simp only [Act.put, List.setIfInBounds_toArray, List.set_cons_zero, List.set_cons_succ]
                          refine Mo.skip (by rfl) ?_
                          simp only [Act.put, List.setIfInBounds_toArray, List.set_cons_zero, List.set_cons_succ]
                          refine Mo.skip (by rfl) ?_
                          simp only [Act.put, List.setIfInBounds_toArray, List.set_cons_zero, List.set_cons_succ]
                          refine Mo.skip (by rfl) ?_
                          simp only [Act.put, List.setIfInBounds_toArray, List.set_cons_zero, List.set_cons_succ]
                          refine Mo.skip (by rfl) ?_
                          simp only [Act.put, List.setIfInBounds_toArray, List.set_cons_zero, List.set_cons_succ]
                          refine Mo.skip (by rfl) ?_
                          simp only [Act.put, List.setIfInBounds_toArray, List.set_cons_zero, List.set_cons_succ]
                          refine Mo.skip (by rfl) ?_
                          simp only [Act.put, List.setIfInBounds_toArray, List.set_cons_zero, List.set_cons_succ]
                          refine Mo.skip (by rfl) ?_
                          simp only [Act.put, List.setIfInBounds_toArray, List.set_cons_zero, List.set_cons_succ]
                          refine Mo.skip (by rfl) ?_
                          simp only [Act.put, List.setIfInBounds_toArray, List.set_cons_zero, List.set_cons_succ]
                          refine Mo.skip (by rfl) ?_
                          simp only [Act.put, List.setIfInBounds_toArray, List.set_cons_zero, List.set_cons_succ]
                          refine Mo.val (v := ?_) (fun _ => rfl) (by rfl) (fun _ _ _ => trivial) ?_ ?_
                          rotate_left
                          · (intro w' hT hP hF; cases hT; go_simp; with_reducible rfl)
                          simp only [Act.put, List.setIfInBounds_toArray, List.set_cons_zero, List.set_cons_succ]
                          refine Mo.done ?_
                          rintro w' rfl - -
                          go_wp2_with (fail)
                          go_roundg g3_
                          case measure => omega
                          case rel => exact ⟨j + 1, true, rfl, by go_num, by omega, ⟨fun h => (by cases h), hbj.drew⟩⟩
                        | false =>
                          have hno2 := hno (by simp)
                          by_cases hnj : oj.n = (n : Int)
                          · by_cases hbl : oj.b.length = 32
                            · have hR := Row32.of_row hrb0 hbl
                              obtain ⟨g', o', c', rfl, -, hrg'⟩ := hR.block
                              obtain ⟨yb, hyb⟩ : ∃ yb, oj.b.getD k 0 = yb := ⟨_, rfl⟩
                              have hcy : wr.cell? ⟨g', o' + k, none⟩ = some (.int .u8 yb) := hrg' k _ (by rw [List.getElem?_map, List.getElem?_eq_getElem (by omega), ← hyb, List.getD_eq_getElem?_getD, List.getElem?_eq_getElem (by omega)]; rfl)
                              refine Mo.region 34 [0, 1, 3, 3, 15, 31, 63, 3, 255, 511, 1023, 1023, 4095, 8191, 16383, 32767, 65535, 131071, 262143, 524287, 524287, 2097151, 4194303, 8388607, 524287, 33554431, 67108863, 524287, 524287, 403177471, 940048383, 2147483647, 4294967295, 8589934591, 17179869183] (fun w' => w' = wr.drew) (fun _ => Eq) (fun _ _ => True) (fun _ _ _ _ => True) rfl (fun _ => trivial) (fun _ _ _ h k => k ▸ h) (fun _ _ _ _ _ _ _ _ _ _ => trivial) (fun _ _ _ _ _ _ _ _ _ => trivial) mixed (by kernel_rfl) ?_
                              simp only [List.take_succ_cons, List.take_zero, List.drop_succ_cons, List.drop_zero]
                              refine Mo.val (v := ?_) (fun _ => rfl) (by rfl) (fun _ _ _ => trivial) ?_ ?_
                              rotate_left
                              · (intro w' hT hP hF; cases hT; go_simp; with_reducible rfl)
                              simp only [Act.put, List.setIfInBounds_toArray, List.set_cons_zero, List.set_cons_succ]
                              refine Mo.val (v := ?_) (fun _ => rfl) (by rfl) (fun _ _ _ => trivial) ?_ ?_
                              rotate_left
                              · (intro w' hT hP hF; cases hT; go_simp; with_reducible rfl)
                              simp only [Act.put, List.setIfInBounds_toArray, List.set_cons_zero, List.set_cons_succ]
                              refine Mo.val (v := ?_) (fun _ => rfl) (by rfl) (fun _ _ _ => trivial) ?_ ?_
                              rotate_left
                              · (intro w' hT hP hF; cases hT; go_simp; with_reducible rfl)
                              simp only [Act.put, List.setIfInBounds_toArray, List.set_cons_zero, List.set_cons_succ]
                              refine Mo.val (v := ?_) (fun _ => rfl) (by rfl) (fun _ _ _ => trivial) ?_ ?_
                              rotate_left
                              · (intro w' hT hP hF; cases hT; go_simp; with_reducible rfl)
                              simp only [Act.put, List.setIfInBounds_toArray, List.set_cons_zero, List.set_cons_succ]
                              refine Mo.val (v := ?_) (fun _ => rfl) (by rfl) (fun _ _ _ => trivial) ?_ ?_
                              rotate_left
                              · (intro w' hT hP hF; cases hT; go_simp; with_reducible rfl)
                              simp only [Act.put, List.setIfInBounds_toArray, List.set_cons_zero, List.set_cons_succ]
                              refine Mo.val (v := ?_) (fun _ => rfl) (by rfl) (fun _ _ _ => trivial) ?_ ?_
                              rotate_left
                              · (intro w' hT hP hF; cases hT; go_simp; with_reducible rfl)
                              simp only [Act.put, List.setIfInBounds_toArray, List.set_cons_zero, List.set_cons_succ]
                              refine Mo.val (v := ?_) (fun _ => rfl) (by rfl) (fun _ _ _ => trivial) ?_ ?_
                              rotate_left
                              · (intro w' hT hP hF; cases hT; go_simp; with_reducible rfl)
                              simp only [Act.put, List.setIfInBounds_toArray, List.set_cons_zero, List.set_cons_succ]
                              refine Mo.val (v := ?_) (fun _ => rfl) (by rfl) (fun _ _ _ => trivial) ?_ ?_
                              rotate_left
                              · (intro w' hT hP hF; cases hT; go_simp; with_reducible rfl)
                              simp only [Act.put, List.setIfInBounds_toArray, List.set_cons_zero, List.set_cons_succ]
                              refine Mo.val (v := ?_) (fun _ => rfl) (by rfl) (fun _ _ _ => trivial) ?_ ?_
                              rotate_left
                              · (intro w' hT hP hF; cases hT; go_simp; with_reducible rfl)
                              simp only [Act.put, List.setIfInBounds_toArray, List.set_cons_zero, List.set_cons_succ]
                              refine Mo.val (v := ?_) (fun _ => rfl) (by rfl) (fun _ _ _ => trivial) ?_ ?_
                              rotate_left
                              · (intro w' hT hP hF; cases hT; go_simp; with_reducible rfl)
                              simp only [Act.put, List.setIfInBounds_toArray, List.set_cons_zero, List.set_cons_succ]
                              refine Mo.val (v := ?_) (fun _ => rfl) (by rfl) (fun _ _ _ => trivial) ?_ ?_
                              rotate_left
                              · (intro w' hT hP hF; cases hT; go_simp; with_reducible rfl)
                              simp only [Act.put, List.setIfInBounds_toArray, List.set_cons_zero, List.set_cons_succ]
                              refine Mo.val (v := ?_) (fun _ => rfl) (by rfl) (fun _ _ _ => trivial) ?_ ?_
                              rotate_left
                              · (intro w' hT hP hF; cases hT; go_simp; with_reducible rfl)
                              simp only [Act.put, List.setIfInBounds_toArray, List.set_cons_zero, List.set_cons_succ]
                              refine Mo.val (v := ?_) (fun _ => rfl) (by rfl) (fun _ _ _ => trivial) ?_ ?_
                              rotate_left
                              · (intro w' hT hP hF; cases hT; go_simp; with_reducible rfl)
                              simp only [Act.put, List.setIfInBounds_toArray, List.set_cons_zero, List.set_cons_succ]
                              refine Mo.val (v := ?_) (fun _ => rfl) (by rfl) (fun _ _ _ => trivial) ?_ ?_
                              rotate_left
                              · (intro w' hT hP hF; cases hT; go_simp; with_reducible rfl)
                              simp only [Act.put, List.setIfInBounds_toArray, List.set_cons_zero, List.set_cons_succ]
                              refine Mo.val (v := ?_) (fun _ => rfl) (by rfl) (fun _ _ _ => trivial) ?_ ?_
                              rotate_left
                              · (intro w' hT hP hF; cases hT; go_simp; with_reducible rfl)
                              simp only [Act.put, List.setIfInBounds_toArray, List.set_cons_zero, List.set_cons_succ]
                              refine Mo.val (v := ?_) (fun _ => rfl) (by rfl) (fun _ _ _ => trivial) ?_ ?_
                              rotate_left
                              · (intro w' hT hP hF; cases hT; go_simp; with_reducible rfl)
                              simp only [Act.put, List.setIfInBounds_toArray, List.set_cons_zero, List.set_cons_succ]
                              refine Mo.val (v := ?_) (fun _ => rfl) (by rfl) (fun _ _ _ => trivial) ?_ ?_
                              rotate_left
                              · (intro w' hT hP hF; cases hT; go_simp; with_reducible rfl)
                              simp only [Act.put, List.setIfInBounds_toArray, List.set_cons_zero, List.set_cons_succ]
                              refine Mo.val (v := ?_) (fun _ => rfl) (by rfl) (fun _ _ _ => trivial) ?_ ?_
                              rotate_left
                              · (intro w' hT hP hF; cases hT; go_simp; with_reducible rfl)
                              simp only [Act.put, List.setIfInBounds_toArray, List.set_cons_zero, List.set_cons_succ]
                              refine Mo.val (v := ?_) (fun _ => rfl) (by rfl) (fun _ _ _ => trivial) ?_ ?_
                              rotate_left
                              · (intro w' hT hP hF; cases hT; go_simp; with_reducible rfl)
                              simp only [Act.put, List.setIfInBounds_toArray, List.set_cons_zero, List.set_cons_succ]
                              refine Mo.val (v := ?_) (fun _ => rfl) (by rfl) (fun _ _ _ => trivial) ?_ ?_
                              rotate_left
                              · (intro w' hT hP hF; cases hT; go_simp; with_reducible rfl)
                              simp only [Act.put, List.setIfInBounds_toArray, List.set_cons_zero, List.set_cons_succ]
                              refine Mo.val (v := ?_) (fun _ => rfl) (by rfl) (fun _ _ _ => trivial) ?_ ?_
                              rotate_left
                              · (intro w' hT hP hF; cases hT; go_simp; with_reducible rfl)
                              simp only [Act.put, List.setIfInBounds_toArray, List.set_cons_zero, List.set_cons_succ]
                              refine Mo.val (v := ?_) (fun _ => rfl) (by rfl) (fun _ _ _ => trivial) ?_ ?_
                              rotate_left
                              · (intro w' hT hP hF; cases hT; go_simp; with_reducible rfl)
                              simp only [Act.put, List.setIfInBounds_toArray, List.set_cons_zero, List.set_cons_succ]
                              refine Mo.val (v := ?_) (fun _ => rfl) (by rfl) (fun _ _ _ => trivial) ?_ ?_
                              rotate_left
                              · (intro w' hT hP hF; cases hT; go_simp; with_reducible rfl)
                              simp only [Act.put, List.setIfInBounds_toArray, List.set_cons_zero, List.set_cons_succ]
                              refine Mo.val (v := ?_) (fun _ => rfl) (by rfl) (fun _ _ _ => trivial) ?_ ?_
                              rotate_left
                              · (intro w' hT hP hF; cases hT; go_simp; with_reducible rfl)
                              simp only [Act.put, List.setIfInBounds_toArray, List.set_cons_zero, List.set_cons_succ]
                              refine Mo.val (v := ?_) (fun _ => rfl) (by rfl) (fun _ _ _ => trivial) ?_ ?_
                              rotate_left
                              · (intro w' hT hP hF; cases hT; go_simp; with_reducible rfl)
                              simp only [Act.put, List.setIfInBounds_toArray, List.set_cons_zero, List.set_cons_succ]
                              refine Mo.val (v := ?_) (fun _ => rfl) (by rfl) (fun _ _ _ => trivial) ?_ ?_
                              rotate_left
                              · (intro w' hT hP hF; cases hT; go_simp; with_reducible rfl)
                              simp only [Act.put, List.setIfInBounds_toArray, List.set_cons_zero, List.set_cons_succ]
                              refine Mo.val (v := ?_) (fun _ => rfl) (by rfl) (fun _ _ _ => trivial) ?_ ?_
                              rotate_left
                              · (intro w' hT hP hF; cases hT; go_simp; with_reducible rfl)
                              simp only [Act.put, List.setIfInBounds_toArray, List.set_cons_zero, List.set_cons_succ]
                              refine Mo.val (v := ?_) (fun _ => rfl) (by rfl) (fun _ _ _ => trivial) ?_ ?_
                              rotate_left
                              · (intro w' hT hP hF; cases hT; go_simp; with_reducible rfl)
                              simp only [Act.put, List.setIfInBounds_toArray, List.set_cons_zero, List.set_cons_succ]
                              refine Mo.val (v := ?_) (fun _ => rfl) (by rfl) (fun _ _ _ => trivial) ?_ ?_
                              rotate_left
                              · (intro w' hT hP hF; cases hT; go_simp; with_reducible rfl)
                              simp only [Act.put, List.setIfInBounds_toArray, List.set_cons_zero, List.set_cons_succ]
                              refine Mo.val (v := ?_) (fun _ => rfl) (by rfl) (fun _ _ _ => trivial) ?_ ?_
                              rotate_left
                              · (intro w' hT hP hF; cases hT; go_simp; with_reducible rfl)
                              simp only [Act.put, List.setIfInBounds_toArray, List.set_cons_zero, List.set_cons_succ]
                              refine Mo.val (v := ?_) (fun _ => rfl) (by rfl) (fun _ _ _ => trivial) ?_ ?_
                              rotate_left
                              · (intro w' hT hP hF; cases hT; go_simp; with_reducible rfl)
                              simp only [Act.put, List.setIfInBounds_toArray, List.set_cons_zero, List.set_cons_succ]
                              refine Mo.val (v := ?_) (fun _ => rfl) (by rfl) (fun _ _ _ => trivial) ?_ ?_
                              rotate_left
                              · (intro w' hT hP hF; cases hT; go_simp; with_reducible rfl)
                              simp only [Act.put, List.setIfInBounds_toArray, List.set_cons_zero, List.set_cons_succ]
                              refine Mo.val (v := ?_) (fun _ => rfl) (by rfl) (fun _ _ _ => trivial) ?_ ?_
                              rotate_left
                              · (intro w' hT hP hF; cases hT; go_simp; with_reducible rfl)
                              simp only [Act.put, List.setIfInBounds_toArray, List.set_cons_zero, List.set_cons_succ]
                              refine Mo.val (v := ?_) (fun _ => rfl) (by rfl) (fun _ _ _ => trivial) ?_ ?_
                              rotate_left
                              · (intro w' hT hP hF; cases hT; go_simp; with_reducible rfl)
                              simp only [Act.put, List.setIfInBounds_toArray, List.set_cons_zero, List.set_cons_succ]
                              refine Mo.done ?_
                              rintro w' rfl - -
                              go_wp2_with (fail)
                              go_roundg g3_
                              case measure => omega
                              case rel => exact ⟨j + 1, _, rfl, by go_num, by omega, ⟨fun h => ⟨hno2.1, fun j' oj' hj' ho' h1 h2 => by
                                rcases Nat.lt_or_ge j' j with h5 | h5
                                · exact hno2.2 j' oj' h5 ho' h1 h2
                                · obtain rfl : j' = j := by omega
                                  obtain rfl : oj = oj' := Option.some.inj (hoj.symm.trans ho')
                                  rw [hyb]
                                  simpa using h⟩, hbj.drew⟩⟩
                            · obtain ⟨ab, cb0, rfl, -, -⟩ := hrb0
                              have hbl2 : ¬ ((oj.b.length : Int) = 32) := by omega
                              have hbl3 : ((oj.b.length : Int) == 32) = false := by simpa using hbl2
                              have hbl4 : (oj.b.length == 32) = false := by simpa using hbl
                              refine Mo.region 34 [0, 1, 3, 3, 15, 31, 63, 3, 255, 511, 1023, 1023, 4095, 8191, 16383, 32767, 65535, 131071, 262143, 524287, 524287, 2097151, 4194303, 8388607, 524287, 33554431, 67108863, 524287, 524287, 403177471, 940048383, 2147483647, 4294967295, 8589934591, 17179869183] (fun w' => w' = wr.drew) (fun _ => Eq) (fun _ _ => True) (fun _ _ _ _ => True) rfl (fun _ => trivial) (fun _ _ _ h k => k ▸ h) (fun _ _ _ _ _ _ _ _ _ _ => trivial) (fun _ _ _ _ _ _ _ _ _ => trivial) mixed (by kernel_rfl) ?_
                              simp only [List.take_succ_cons, List.take_zero, List.drop_succ_cons, List.drop_zero]
                              refine Mo.val (v := ?_) (fun _ => rfl) (by rfl) (fun _ _ _ => trivial) ?_ ?_
                              rotate_left
                              · (intro w' hT hP hF; cases hT; go_simp; with_reducible rfl)
                              simp only [Act.put, List.setIfInBounds_toArray, List.set_cons_zero, List.set_cons_succ]
                              refine Mo.val (v := ?_) (fun _ => rfl) (by rfl) (fun _ _ _ => trivial) ?_ ?_
                              rotate_left
                              · (intro w' hT hP hF; cases hT; go_simp; with_reducible rfl)
                              simp only [Act.put, List.setIfInBounds_toArray, List.set_cons_zero, List.set_cons_succ]
                              refine Mo.val (v := ?_) (fun _ => rfl) (by rfl) (fun _ _ _ => trivial) ?_ ?_
                              rotate_left
                              · (intro w' hT hP hF; cases hT; go_simp; with_reducible rfl)
                              simp only [Act.put, List.setIfInBounds_toArray, List.set_cons_zero, List.set_cons_succ]
                              refine Mo.val (v := ?_) (fun _ => rfl) (by rfl) (fun _ _ _ => trivial) ?_ ?_
                              rotate_left
                              · (intro w' hT hP hF; cases hT; go_simp; with_reducible rfl)
                              simp only [Act.put, List.setIfInBounds_toArray, List.set_cons_zero, List.set_cons_succ]
                              refine Mo.val (v := ?_) (fun _ => rfl) (by rfl) (fun _ _ _ => trivial) ?_ ?_
                              rotate_left
                              · (intro w' hT hP hF; cases hT; go_simp; with_reducible rfl)
                              simp only [Act.put, List.setIfInBounds_toArray, List.set_cons_zero, List.set_cons_succ]
                              refine Mo.val (v := ?_) (fun _ => rfl) (by rfl) (fun _ _ _ => trivial) ?_ ?_
                              rotate_left
                              · (intro w' hT hP hF; cases hT; go_simp; with_reducible rfl)
                              simp only [Act.put, List.setIfInBounds_toArray, List.set_cons_zero, List.set_cons_succ]
                              refine Mo.val (v := ?_) (fun _ => rfl) (by rfl) (fun _ _ _ => trivial) ?_ ?_
                              rotate_left
                              · (intro w' hT hP hF; cases hT; go_simp; with_reducible rfl)
                              simp only [Act.put, List.setIfInBounds_toArray, List.set_cons_zero, List.set_cons_succ]
                              refine Mo.val (v := ?_) (fun _ => rfl) (by rfl) (fun _ _ _ => trivial) ?_ ?_
                              rotate_left
                              · (intro w' hT hP hF; cases hT; go_simp; with_reducible rfl)
                              simp only [Act.put, List.setIfInBounds_toArray, List.set_cons_zero, List.set_cons_succ]
                              refine Mo.val (v := ?_) (fun _ => rfl) (by rfl) (fun _ _ _ => trivial) ?_ ?_
                              rotate_left
                              · (intro w' hT hP hF; cases hT; go_simp; with_reducible rfl)
                              simp only [Act.put, List.setIfInBounds_toArray, List.set_cons_zero, List.set_cons_succ]
                              refine Mo.val (v := ?_) (fun _ => rfl) (by rfl) (fun _ _ _ => trivial) ?_ ?_
                              rotate_left
                              · (intro w' hT hP hF; cases hT; go_simp; with_reducible rfl)
                              simp only [Act.put, List.setIfInBounds_toArray, List.set_cons_zero, List.set_cons_succ]
                              refine Mo.val (v := ?_) (fun _ => rfl) (by rfl) (fun _ _ _ => trivial) ?_ ?_
                              rotate_left
                              · (intro w' hT hP hF; cases hT; go_simp; with_reducible rfl)
                              simp only [Act.put, List.setIfInBounds_toArray, List.set_cons_zero, List.set_cons_succ]
                              refine Mo.val (v := ?_) (fun _ => rfl) (by rfl) (fun _ _ _ => trivial) ?_ ?_
                              rotate_left
                              · (intro w' hT hP hF; cases hT; go_simp; with_reducible rfl)
                              simp only [Act.put, List.setIfInBounds_toArray, List.set_cons_zero, List.set_cons_succ]
                              refine Mo.val (v := ?_) (fun _ => rfl) (by rfl) (fun _ _ _ => trivial) ?_ ?_
                              rotate_left
                              · (intro w' hT hP hF; cases hT; go_simp; with_reducible rfl)
                              simp only [Act.put, List.setIfInBounds_toArray, List.set_cons_zero, List.set_cons_succ]
                              refine Mo.val (v := ?_) (fun _ => rfl) (by rfl) (fun _ _ _ => trivial) ?_ ?_
                              rotate_left
                              · (intro w' hT hP hF; cases hT; go_simp; with_reducible rfl)
                              simp only [Act.put, List.setIfInBounds_toArray, List.set_cons_zero, List.set_cons_succ]
                              refine Mo.val (v := ?_) (fun _ => rfl) (by rfl) (fun _ _ _ => trivial) ?_ ?_
                              rotate_left
                              · (intro w' hT hP hF; cases hT; go_simp; with_reducible rfl)
                              simp only [Act.put, List.setIfInBounds_toArray, List.set_cons_zero, List.set_cons_succ]
                              refine Mo.val (v := ?_) (fun _ => rfl) (by rfl) (fun _ _ _ => trivial) ?_ ?_
                              rotate_left
                              · (intro w' hT hP hF; cases hT; go_simp; with_reducible rfl)
                              simp only [Act.put, List.setIfInBounds_toArray, List.set_cons_zero, List.set_cons_succ]
                              refine Mo.val (v := ?_) (fun _ => rfl) (by rfl) (fun _ _ _ => trivial) ?_ ?_
                              rotate_left
                              · (intro w' hT hP hF; cases hT; go_simp; with_reducible rfl)
                              simp only [Act.put, List.setIfInBounds_toArray, List.set_cons_zero, List.set_cons_succ]
                              refine Mo.val (v := ?_) (fun _ => rfl) (by rfl) (fun _ _ _ => trivial) ?_ ?_
                              rotate_left
                              · (intro w' hT hP hF; cases hT; go_simp; with_reducible rfl)
                              simp only [Act.put, List.setIfInBounds_toArray, List.set_cons_zero, List.set_cons_succ]
                              refine Mo.val (v := ?_) (fun _ => rfl) (by rfl) (fun _ _ _ => trivial) ?_ ?_
                              rotate_left
                              · (intro w' hT hP hF; cases hT; go_simp; with_reducible rfl)
                              simp only [Act.put, List.setIfInBounds_toArray, List.set_cons_zero, List.set_cons_succ]
                              refine Mo.skip (by rfl) ?_
                              simp only [Act.put, List.setIfInBounds_toArray, List.set_cons_zero, List.set_cons_succ]
                              refine Mo.skip (by rfl) ?_
                              simp only [Act.put, List.setIfInBounds_toArray, List.set_cons_zero, List.set_cons_succ]
                              refine Mo.skip (by rfl) ?_
                              simp only [Act.put, List.setIfInBounds_toArray, List.set_cons_zero, List.set_cons_succ]
                              refine Mo.skip (by rfl) ?_
                              simp only [Act.put, List.setIfInBounds_toArray, List.set_cons_zero, List.set_cons_succ]
                              refine Mo.skip (by rfl) ?_
                              simp only [Act.put, List.setIfInBounds_toArray, List.set_cons_zero, List.set_cons_succ]
                              refine Mo.skip (by rfl) ?_
                              simp only [Act.put, List.setIfInBounds_toArray, List.set_cons_zero, List.set_cons_succ]
                              refine Mo.skip (by rfl) ?_
                              simp only [Act.put, List.setIfInBounds_toArray, List.set_cons_zero, List.set_cons_succ]
                              refine Mo.skip (by rfl) ?_
                              simp only [Act.put, List.setIfInBounds_toArray, List.set_cons_zero, List.set_cons_succ]
                              refine Mo.skip (by rfl) ?_
                              simp only [Act.put, List.setIfInBounds_toArray, List.set_cons_zero, List.set_cons_succ]
                              refine Mo.skip (by rfl) ?_
                              simp only [Act.put, List.setIfInBounds_toArray, List.set_cons_zero, List.set_cons_succ]
                              refine Mo.skip (by rfl) ?_
                              simp only [Act.put, List.setIfInBounds_toArray, List.set_cons_zero, List.set_cons_succ]
                              refine Mo.skip (by rfl) ?_
                              simp only [Act.put, List.setIfInBounds_toArray, List.set_cons_zero, List.set_cons_succ]
                              refine Mo.skip (by rfl) ?_
                              simp only [Act.put, List.setIfInBounds_toArray, List.set_cons_zero, List.set_cons_succ]
                              refine Mo.val (v := ?_) (fun _ => rfl) (by rfl) (fun _ _ _ => trivial) ?_ ?_
                              rotate_left
                              · (intro w' hT hP hF; cases hT; go_simp; with_reducible rfl)
                              simp only [Act.put, List.setIfInBounds_toArray, List.set_cons_zero, List.set_cons_succ]
                              refine Mo.val (v := ?_) (fun _ => rfl) (by rfl) (fun _ _ _ => trivial) ?_ ?_
                              rotate_left
                              · (intro w' hT hP hF; cases hT; go_simp; with_reducible rfl)
                              simp only [Act.put, List.setIfInBounds_toArray, List.set_cons_zero, List.set_cons_succ]
                              refine Mo.done ?_
                              rintro w' rfl - -
                              go_wp2_with (fail)
                              go_roundg g3_
                              case measure => omega
                              case rel => exact ⟨j + 1, false, rfl, by go_num, by omega, ⟨fun h => ⟨hno2.1, fun j' oj' hj' ho' h1 h2 => by
                                rcases Nat.lt_or_ge j' j with h5 | h5
                                · exact hno2.2 j' oj' h5 ho' h1 h2
                                · obtain rfl : j' = j := by omega
                                  obtain rfl : oj = oj' := Option.some.inj (hoj.symm.trans ho')
                                  exact absurd h2 hbl⟩, hbj.drew⟩⟩
                          · have hnj3 : (oj.n == (n : Int)) = false := by simpa using hnj
                            refine Mo.region 34 [0, 1, 3, 3, 15, 31, 63, 3, 255, 511, 1023, 1023, 4095, 8191, 16383, 32767, 65535, 131071, 262143, 524287, 524287, 2097151, 4194303, 8388607, 524287, 33554431, 67108863, 524287, 524287, 403177471, 940048383, 2147483647, 4294967295, 8589934591, 17179869183] (fun w' => w' = wr.drew) (fun _ => Eq) (fun _ _ => True) (fun _ _ _ _ => True) rfl (fun _ => trivial) (fun _ _ _ h k => k ▸ h) (fun _ _ _ _ _ _ _ _ _ _ => trivial) (fun _ _ _ _ _ _ _ _ _ => trivial) mixed (by kernel_rfl) ?_
                            simp only [List.take_succ_cons, List.take_zero, List.drop_succ_cons, List.drop_zero]
                            refine Mo.val (v := ?_) (fun _ => rfl) (by rfl) (fun _ _ _ => trivial) ?_ ?_
                            rotate_left
                            · (intro w' hT hP hF; cases hT; go_simp; with_reducible rfl)
                            simp only [Act.put, List.setIfInBounds_toArray, List.set_cons_zero, List.set_cons_succ]
                            refine Mo.val (v := ?_) (fun _ => rfl) (by rfl) (fun _ _ _ => trivial) ?_ ?_
                            rotate_left
                            · (intro w' hT hP hF; cases hT; go_simp; with_reducible rfl)
                            simp only [Act.put, List.setIfInBounds_toArray, List.set_cons_zero, List.set_cons_succ]
                            refine Mo.val (v := ?_) (fun _ => rfl) (by rfl) (fun _ _ _ => trivial) ?_ ?_
                            rotate_left
                            · (intro w' hT hP hF; cases hT; go_simp; with_reducible rfl)
                            simp only [Act.put, List.setIfInBounds_toArray, List.set_cons_zero, List.set_cons_succ]
                            refine Mo.val (v := ?_) (fun _ => rfl) (by rfl) (fun _ _ _ => trivial) ?_ ?_
                            rotate_left
                            · (intro w' hT hP hF; cases hT; go_simp; with_reducible rfl)
                            simp only [Act.put, List.setIfInBounds_toArray, List.set_cons_zero, List.set_cons_succ]
                            refine Mo.val (v := ?_) (fun _ => rfl) (by rfl) (fun _ _ _ => trivial) ?_ ?_
                            rotate_left
                            · (intro w' hT hP hF; cases hT; go_simp; with_reducible rfl)
                            simp only [Act.put, List.setIfInBounds_toArray, List.set_cons_zero, List.set_cons_succ]
                            refine Mo.val (v := ?_) (fun _ => rfl) (by rfl) (fun _ _ _ => trivial) ?_ ?_
                            rotate_left
                            · (intro w' hT hP hF; cases hT; go_simp; with_reducible rfl)
                            simp only [Act.put, List.setIfInBounds_toArray, List.set_cons_zero, List.set_cons_succ]
                            refine Mo.val (v := ?_) (fun _ => rfl) (by rfl) (fun _ _ _ => trivial) ?_ ?_
                            rotate_left
                            · (intro w' hT hP hF; cases hT; go_simp; with_reducible rfl)
                            simp only [Act.put, List.setIfInBounds_toArray, List.set_cons_zero, List.set_cons_succ]
                            refine Mo.val (v := ?_) (fun _ => rfl) (by rfl) (fun _ _ _ => trivial) ?_ ?_
                            rotate_left
                            · (intro w' hT hP hF; cases hT; go_simp; with_reducible rfl)
                            simp only [Act.put, List.setIfInBounds_toArray, List.set_cons_zero, List.set_cons_succ]
                            refine Mo.val (v := ?_) (fun _ => rfl) (by rfl) (fun _ _ _ => trivial) ?_ ?_
                            rotate_left
                            · (intro w' hT hP hF; cases hT; go_simp; with_reducible rfl)
                            simp only [Act.put, List.setIfInBounds_toArray, List.set_cons_zero, List.set_cons_succ]
                            refine Mo.val (v := ?_) (fun _ => rfl) (by rfl) (fun _ _ _ => trivial) ?_ ?_
                            rotate_left
                            · (intro w' hT hP hF; cases hT; go_simp; with_reducible rfl)
                            simp only [Act.put, List.setIfInBounds_toArray, List.set_cons_zero, List.set_cons_succ]
                            refine Mo.skip (by rfl) ?_
                            simp only [Act.put, List.setIfInBounds_toArray, List.set_cons_zero, List.set_cons_succ]
                            refine Mo.skip (by rfl) ?_
                            simp only [Act.put, List.setIfInBounds_toArray, List.set_cons_zero, List.set_cons_succ]
                            refine Mo.skip (by rfl) ?_
                            simp only [Act.put, List.setIfInBounds_toArray, List.set_cons_zero, List.set_cons_succ]
                            refine Mo.skip (by rfl) ?_
                            simp only [Act.put, List.setIfInBounds_toArray, List.set_cons_zero, List.set_cons_succ]
                            refine Mo.skip (by rfl) ?_
                            simp only [Act.put, List.setIfInBounds_toArray, List.set_cons_zero, List.set_cons_succ]
                            refine Mo.skip (by rfl) ?_
                            simp only [Act.put, List.setIfInBounds_toArray, List.set_cons_zero, List.set_cons_succ]
                            refine Mo.skip (by rfl) ?_
                            simp only [Act.put, List.setIfInBounds_toArray, List.set_cons_zero, List.set_cons_succ]
                            refine Mo.val (v := ?_) (fun _ => rfl) (by rfl) (fun _ _ _ => trivial) ?_ ?_
                            rotate_left
                            · (intro w' hT hP hF; cases hT; go_simp; with_reducible rfl)
                            simp only [Act.put, List.setIfInBounds_toArray, List.set_cons_zero, List.set_cons_succ]
                            refine Mo.val (v := ?_) (fun _ => rfl) (by rfl) (fun _ _ _ => trivial) ?_ ?_
                            rotate_left
                            · (intro w' hT hP hF; cases hT; go_simp; with_reducible rfl)
                            simp only [Act.put, List.setIfInBounds_toArray, List.set_cons_zero, List.set_cons_succ]
                            refine Mo.skip (by rfl) ?_
                            simp only [Act.put, List.setIfInBounds_toArray, List.set_cons_zero, List.set_cons_succ]
                            refine Mo.skip (by rfl) ?_
                            simp only [Act.put, List.setIfInBounds_toArray, List.set_cons_zero, List.set_cons_succ]
                            refine Mo.skip (by rfl) ?_
                            simp only [Act.put, List.setIfInBounds_toArray, List.set_cons_zero, List.set_cons_succ]
                            refine Mo.skip (by rfl) ?_
                            simp only [Act.put, List.setIfInBounds_toArray, List.set_cons_zero, List.set_cons_succ]
                            refine Mo.skip (by rfl) ?_
                            simp only [Act.put, List.setIfInBounds_toArray, List.set_cons_zero, List.set_cons_succ]
                            refine Mo.skip (by rfl) ?_
                            simp only [Act.put, List.setIfInBounds_toArray, List.set_cons_zero, List.set_cons_succ]
                            refine Mo.skip (by rfl) ?_
                            simp only [Act.put, List.setIfInBounds_toArray, List.set_cons_zero, List.set_cons_succ]
                            refine Mo.skip (by rfl) ?_
                            simp only [Act.put, List.setIfInBounds_toArray, List.set_cons_zero, List.set_cons_succ]
                            refine Mo.skip (by rfl) ?_
                            simp only [Act.put, List.setIfInBounds_toArray, List.set_cons_zero, List.set_cons_succ]
                            refine Mo.skip (by rfl) ?_
                            simp only [Act.put, List.setIfInBounds_toArray, List.set_cons_zero, List.set_cons_succ]
                            refine Mo.skip (by rfl) ?_
                            simp only [Act.put, List.setIfInBounds_toArray, List.set_cons_zero, List.set_cons_succ]
                            refine Mo.skip (by rfl) ?_
                            simp only [Act.put, List.setIfInBounds_toArray, List.set_cons_zero, List.set_cons_succ]
                            refine Mo.skip (by rfl) ?_
                            simp only [Act.put, List.setIfInBounds_toArray, List.set_cons_zero, List.set_cons_succ]
                            refine Mo.val (v := ?_) (fun _ => rfl) (by rfl) (fun _ _ _ => trivial) ?_ ?_
                            rotate_left
                            · (intro w' hT hP hF; cases hT; go_simp; with_reducible rfl)
                            simp only [Act.put, List.setIfInBounds_toArray, List.set_cons_zero, List.set_cons_succ]
                            refine Mo.val (v := ?_) (fun _ => rfl) (by rfl) (fun _ _ _ => trivial) ?_ ?_
                            rotate_left
                            · (intro w' hT hP hF; cases hT; go_simp; with_reducible rfl)
                            simp only [Act.put, List.setIfInBounds_toArray, List.set_cons_zero, List.set_cons_succ]
                            refine Mo.done ?_
                            rintro w' rfl - -
                            go_wp2_with (fail)
                            go_roundg g3_
                            case measure => omega
                            case rel => exact ⟨j + 1, false, rfl, by go_num, by omega, ⟨fun h => ⟨hno2.1, fun j' oj' hj' ho' h1 h2 => by
                              rcases Nat.lt_or_ge j' j with h5 | h5
                              · exact hno2.2 j' oj' h5 ho' h1 h2
                              · obtain rfl : j' = j := by omega
                                obtain rfl : oj = oj' := Option.some.inj (hoj.symm.trans ho')
                                exact absurd h1 hnj⟩, hbj.drew⟩⟩
          case rest =>
            have hXe := hX.below hcut.out
            obtain ⟨ax, cx, hax⟩ := own_len hXe.row
            obtain ⟨-, -, -, e3⟩ := hXe.cells
            have e3' : wc.cell? ⟨x, 3, none⟩ = some (.slice none 0 0) := e3
            have hbw := hbq.trans (hcut.out.mono hbq.size)
            go_wp2_with (fail)
            refine (calls_calls x none 0 0 wc e3').mono ?_
            rintro e w7 ⟨rfl, rfl⟩
            go_wp2_with (fail)
            go_ret
            exact ⟨rfl, hbw⟩
end Go.Proofs.Ytinhednmfldmbaa.Dk
