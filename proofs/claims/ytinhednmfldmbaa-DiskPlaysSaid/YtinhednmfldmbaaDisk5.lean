/- The disk: Cut. -/
import Derived.Test.YtinhednmfldmbaaPureCut
import Derived.Test.YtinhednmfldmbaaOps
import Derived.Deep.LoopGhost
import Derived.Deep.CutBlock
import Derived.Deep.DeepCutAuto
import Derived.IntWalk
import Derived.Laws.CopyOwn
namespace Go.Proofs.Ytinhednmfldmbaa.Dk
open Go Go.RowKit Hp Rd

theorem size_u8 : (Try.prog.info? 5).map (·.size) = some 1 := by kernel_rfl
/-- A new disk in the making: its blocks are the call's own. -/
structure Making (w0 w : World) (b x1 x2 : Nat) (size : Int) (N : BM) : Prop where
  head : w.heap[b]? = some (.cells #[.int .i64 size, .map (some x1), .map (some x2), .slice none 0 0] 76 (0, 0))
  first : MapIs w x1 (bmap fun _ => none)
  now : MapIs w x2 (bmap N)
  newb : w0.heap.size ≤ b
  new1 : w0.heap.size ≤ x1
  new2 : w0.heap.size ≤ x2
  apart : x1 ≠ x2
  below : Below w0.heap.size w0 w
theorem Making.kept' {S : Nat → Prop} {w0 w w' : World} {b x1 x2 : Nat} {size : Int} {N : BM} (h : Making w0 w b x1 x2 size N) (k : Kept S w w') (hS : ∀ i, (i < w0.heap.size ∨ i = b ∨ i = x1 ∨ i = x2) → ¬ S i) : Making w0 w' b x1 x2 size N :=
  ⟨k.heap h.head (hS _ (.inr (.inl rfl))), h.first.kept k (hS _ (.inr (.inr (.inl rfl)))), h.now.kept k (hS _ (.inr (.inr (.inr rfl)))), h.newb, h.new1, h.new2, h.apart, h.below.trans (k.below h.below.size (fun i hi => hS i (.inl hi)))⟩
theorem Making.lt {w0 w : World} {b x1 x2 : Nat} {size : Int} {N : BM} (h : Making w0 w b x1 x2 size N) : b < w.heap.size ∧ x1 < w.heap.size ∧ x2 < w.heap.size := ⟨lt_of_heap h.head, h.first.lt, h.now.lt⟩
theorem Making.put {w0 w : World} {b x1 x2 : Nat} {size : Int} {N : BM} (h : Making w0 w b x1 x2 size N) {es : Array MapEntry} {ck : Nat} {n : Int} {l : List Int} (he : Ents es ck (put (bmap N) n (blk l))) : Making w0 (ChangeMaps.setBlock w x2 (.map es ck)) b x1 x2 size (upd N n l) := by
  have K : Kept (fun k => k = x2) w (ChangeMaps.setBlock w x2 (.map es ck)) := (Kept.refl (fun k => k = x2) w).setBlock (Or.inr rfl) _
  have hb : b ≠ x2 := fun e => by
    obtain ⟨es, ck, hx, _⟩ := h.now
    rw [← e, h.head] at hx
    cases hx
  refine ⟨K.heap h.head hb, h.first.kept K h.apart, ?_, h.newb, h.new1, h.new2, h.apart, h.below.trans (K.below h.below.size (fun i hi e => by have := h.new2; omega))⟩
  rw [← put_bmap]
  exact h.now.put he
theorem own_not {w0 w : World} {b x1 x2 : Nat} {size : Int} {N : BM} {base : Nat} {v : Value} {n : Nat} {xs : List Value} (h : w.ownsRow base 81 33 v n xs) (hm : Making w0 w b x1 x2 size N) (k : Nat) (hk : v.ownBlock = some k) : base ≤ k ∧ k ≠ b ∧ k ≠ x1 ∧ k ≠ x2 := by
  rcases h.2 with ⟨rfl, _⟩ | ⟨g, cap, cur, rfl, hb, hg, _⟩
  · simp [Value.ownBlock] at hk
  · simp [Value.ownBlock] at hk
    subst hk
    refine ⟨hb, fun e => ?_, fun e => ?_, fun e => ?_⟩
    · rw [e, hm.head] at hg
      cases hg
    · obtain ⟨es, ck, hx, _⟩ := hm.first
      rw [← e, hg] at hx
      cases hx
    · obtain ⟨es, ck, hx, _⟩ := hm.now
      rw [← e, hg] at hx
      cases hx
theorem Making.drew {w0 w : World} {b x1 x2 : Nat} {size : Int} {N : BM} (h : Making w0 w b x1 x2 size N) : Making w0 w.drew b x1 x2 size N := h.kept' (S := fun _ => False) (Kept.refl _ _).drew (fun _ _ e => e)
/-- As Making, the first map filling. -/
structure Filling (w0 w : World) (b x1 x2 : Nat) (size : Int) (F N : BM) : Prop where
  head : w.heap[b]? = some (.cells #[.int .i64 size, .map (some x1), .map (some x2), .slice none 0 0] 76 (0, 0))
  first : MapIs w x1 (bmap F)
  now : MapIs w x2 (bmap N)
  newb : w0.heap.size ≤ b
  new1 : w0.heap.size ≤ x1
  new2 : w0.heap.size ≤ x2
  apart : x1 ≠ x2
  below : Below w0.heap.size w0 w
theorem Making.fill {w0 w : World} {b x1 x2 : Nat} {size : Int} {N : BM} (h : Making w0 w b x1 x2 size N) : Filling w0 w b x1 x2 size (fun _ => none) N := ⟨h.head, h.first, h.now, h.newb, h.new1, h.new2, h.apart, h.below⟩
theorem Filling.kept' {S : Nat → Prop} {w0 w w' : World} {b x1 x2 : Nat} {size : Int} {F N : BM} (h : Filling w0 w b x1 x2 size F N) (k : Kept S w w') (hS : ∀ i, (i < w0.heap.size ∨ i = b ∨ i = x1 ∨ i = x2) → ¬ S i) : Filling w0 w' b x1 x2 size F N :=
  ⟨k.heap h.head (hS _ (.inr (.inl rfl))), h.first.kept k (hS _ (.inr (.inr (.inl rfl)))), h.now.kept k (hS _ (.inr (.inr (.inr rfl)))), h.newb, h.new1, h.new2, h.apart, h.below.trans (k.below h.below.size (fun i hi => hS i (.inl hi)))⟩
theorem Filling.lt {w0 w : World} {b x1 x2 : Nat} {size : Int} {F N : BM} (h : Filling w0 w b x1 x2 size F N) : b < w.heap.size ∧ x1 < w.heap.size ∧ x2 < w.heap.size := ⟨lt_of_heap h.head, h.first.lt, h.now.lt⟩
theorem Filling.put {w0 w : World} {b x1 x2 : Nat} {size : Int} {F N : BM} (h : Filling w0 w b x1 x2 size F N) {es : Array MapEntry} {ck : Nat} {n : Int} {l : List Int} (he : Ents es ck (put (bmap F) n (blk l))) : Filling w0 (ChangeMaps.setBlock w x1 (.map es ck)) b x1 x2 size (upd F n l) N := by
  have K : Kept (fun k => k = x1) w (ChangeMaps.setBlock w x1 (.map es ck)) := (Kept.refl (fun k => k = x1) w).setBlock (Or.inr rfl) _
  have hb : b ≠ x1 := fun e => by
    obtain ⟨es, ck, hx, _⟩ := h.first
    rw [← e, h.head] at hx
    cases hx
  refine ⟨K.heap h.head hb, ?_, h.now.kept K (fun e => h.apart e.symm), h.newb, h.new1, h.new2, h.apart, h.below.trans (K.below h.below.size (fun i hi e => by have := h.new1; omega))⟩
  rw [← put_bmap]
  exact h.first.put he
theorem Filling.drew {w0 w : World} {b x1 x2 : Nat} {size : Int} {F N : BM} (h : Filling w0 w b x1 x2 size F N) : Filling w0 w.drew b x1 x2 size F N := h.kept' (S := fun _ => False) (Kept.refl _ _).drew (fun _ _ e => e)
theorem Filling.made {w0 w : World} {b x1 x2 : Nat} {size : Int} {F : BM} (h : Filling w0 w b x1 x2 size F F) (D : St) (hD : D.Ok) (hs : D.size = size) (hf : D.first = F) (hn : D.now = F) (hc : D.calls = []) : DiskIs w b x1 x2 (.slice none 0 0) D :=
  ⟨by rw [hs]; exact h.head, by rw [hf]; exact h.first, by rw [hn]; exact h.now, h.apart, by rw [hc]; exact World.ownsRow_nil _ _ _ _, (by intro e; cases e), hD⟩
theorem lay_succ (t : Nat) (kept : List Wr) (M : BM) (j : Nat) (c : Wr) (h : kept[j]? = some c) : layN t kept M (j + 1) = upd (layN t kept M j) c.1 (if j + 1 = kept.length then tornOf t (layN t kept M j) c else c.2) := by
  conv => lhs; unfold layN
  rw [h]
set_option maxHeartbeats 4000000 in
set_option maxRecDepth 100000 in
theorem cut_ok (b m1 m2 : Nat) (sv : Value) (D : St) (at_ torn : Int) (keep : List Bool) (vk : Value) (w : World) (h : DiskIs w b m1 m2 sv D) (hat : (Lit.int .i64 at_).wf = true) (htn : (Lit.int .i64 torn).wf = true) (hk : Row1 w Value.bool vk keep) (hn : D.calls.length < 1000000000000) :
    Calls Try.prog 18 #[.pointer (some ⟨b, 0, none⟩), .int .i64 at_, vk, .int .i64 torn] w fun e w' => ∃ b' m1' m2', e = .returned (.pointer (some ⟨b', 0, none⟩)) ∧ DiskIs w' b' m1' m2' (.slice none 0 0) (D.cut at_ keep torn) ∧ Below w.heap.size w w' ∧ ∀ i, foot b' m1' m2' (.slice none 0 0) i → w.heap.size ≤ i := by
  have mixed : Try.prog.follows Departure.mixedOrders = true := by kernel_rfl
  have hmm := @run_makeMap Try.prog
  obtain ⟨c0, c1, c2, c3⟩ := h.cells
  obtain ⟨a, c, rfl⟩ := own_len h.row
  have hcap : D.calls.length ≤ c := by
    rcases h.row.2 with ⟨hv, h0⟩ | ⟨g, cap, cur, hv, _, _, hle, _⟩
    · omega
    · cases hv; exact hle
  obtain ⟨hp0, hp1⟩ := pick_lt at_ (D.calls.length + 1) (by omega)
  obtain ⟨p, hp⟩ : ∃ p : Nat, pick at_ (D.calls.length + 1) = (p : Int) := Int.eq_ofNat_of_zero_le hp0
  have hpl : p ≤ D.calls.length := by omega
  go_enter Try.func18, Try.ntmps18
  go_wp2
  refine Mo.region 13 [0, 1, 3, 7, 0, 0, 32, 96, 224, 480, 992, 2032, 4095] (fun w' => w' = w.drew) (fun _ => Eq) (fun _ _ => True) (fun k _ v _ => k = 11 → v = .int .i64 p) rfl (fun _ => trivial) (fun _ _ _ h k => k ▸ h) (fun _ _ _ _ _ _ _ _ _ h => h) (fun _ _ _ _ _ _ _ _ _ => trivial) mixed (by kernel_rfl) ?_
  simp only [List.take_succ_cons, List.take_zero, List.drop_succ_cons, List.drop_zero]
  refine Mo.val (v := ?_) (fun _ => rfl) (by rfl) (fun _ _ _ hk_ => (by cases hk_)) ?_ ?_
  rotate_left
  · (intro w' hT hP hF; cases hT; go_simp; with_reducible rfl)
  simp only [Act.put, List.setIfInBounds_toArray, List.set_cons_zero, List.set_cons_succ]
  refine Mo.val (v := ?_) (fun _ => rfl) (by rfl) (fun _ _ _ hk_ => (by cases hk_)) ?_ ?_
  rotate_left
  · (intro w' hT hP hF; cases hT; go_simp; with_reducible rfl)
  simp only [Act.put, List.setIfInBounds_toArray, List.set_cons_zero, List.set_cons_succ]
  refine Mo.val (v := ?_) (fun _ => rfl) (by rfl) (fun _ _ _ hk_ => (by cases hk_)) ?_ ?_
  rotate_left
  · (intro w' hT hP hF; cases hT; go_simp; with_reducible rfl)
  simp only [Act.put, List.setIfInBounds_toArray, List.set_cons_zero, List.set_cons_succ]
  refine Mo.val (v := ?_) (fun _ => rfl) (by rfl) (fun _ _ _ hk_ => (by cases hk_)) ?_ ?_
  rotate_left
  · (intro w' hT hP hF; cases hT; go_simp; with_reducible rfl)
  simp only [Act.put, List.setIfInBounds_toArray, List.set_cons_zero, List.set_cons_succ]
  refine Mo.val (v := ?_) (fun _ => rfl) (by rfl) (fun _ _ _ hk_ => (by cases hk_)) ?_ ?_
  rotate_left
  · (intro w' hT hP hF; cases hT; go_simp; with_reducible rfl)
  simp only [Act.put, List.setIfInBounds_toArray, List.set_cons_zero, List.set_cons_succ]
  refine Mo.val (v := ?_) (fun _ => rfl) (by rfl) (fun _ _ _ hk_ => (by cases hk_)) ?_ ?_
  rotate_left
  · (intro w' hT hP hF; cases hT; go_simp; with_reducible rfl)
  simp only [Act.put, List.setIfInBounds_toArray, List.set_cons_zero, List.set_cons_succ]
  refine Mo.val (v := ?_) (fun _ => rfl) (by rfl) (fun _ _ _ hk_ => (by cases hk_)) ?_ ?_
  rotate_left
  · (intro w' hT hP hF; cases hT; go_simp; with_reducible rfl)
  simp only [Act.put, List.setIfInBounds_toArray, List.set_cons_zero, List.set_cons_succ]
  refine Mo.val (v := ?_) (fun _ => rfl) (by rfl) (fun _ _ _ hk_ => (by cases hk_)) ?_ ?_
  rotate_left
  · (intro w' hT hP hF; cases hT; go_simp; with_reducible rfl)
  simp only [Act.put, List.setIfInBounds_toArray, List.set_cons_zero, List.set_cons_succ]
  refine Mo.val (v := ?_) (fun _ => rfl) (by rfl) (fun _ _ _ hk_ => (by cases hk_)) ?_ ?_
  rotate_left
  · (intro w' hT hP hF; cases hT; go_simp; with_reducible rfl)
  simp only [Act.put, List.setIfInBounds_toArray, List.set_cons_zero, List.set_cons_succ]
  refine Mo.val (v := ?_) (fun _ => rfl) (by rfl) (fun _ _ _ hk_ => (by cases hk_)) ?_ ?_
  rotate_left
  · (intro w' hT hP hF; cases hT; go_simp; with_reducible rfl)
  simp only [Act.put, List.setIfInBounds_toArray, List.set_cons_zero, List.set_cons_succ]
  refine Mo.val (v := ?_) (fun _ => rfl) (by rfl) (fun _ _ _ hk_ => (by cases hk_)) ?_ ?_
  rotate_left
  · (intro w' hT hP hF; cases hT; go_simp; with_reducible rfl)
  simp only [Act.put, List.setIfInBounds_toArray, List.set_cons_zero, List.set_cons_succ]
  rw [IntWalk.i64_in ((D.calls.length : Int) + 1) (by omega)]
  refine Mo.any (by rfl) ?_ ?_
  · intro w' hT hP hF
    cases hT
    go_simp
    show Calls _ _ _ _ _
    refine (round_calls at_ (D.calls.length + 1) w.drew hat (by omega) (by omega)).mono ?_
    rintro e w1 ⟨rfl, rfl⟩
    exact ⟨_, rfl, rfl, by rw [hp]⟩
  simp only [Act.put, List.setIfInBounds_toArray, List.set_cons_zero, List.set_cons_succ]
  rintro v11 ⟨_, _, hv11⟩
  obtain rfl := hv11 trivial
  have g1 : (p : Int) ≤ (c : Int) := by omega
  have g0 : (0 : Int) ≤ (p : Int) := by omega
  refine Mo.val (v := ?_) (fun _ => rfl) (by rfl) (fun _ _ _ hk_ => (by cases hk_)) ?_ ?_
  rotate_left
  · (intro w' hT hP hF; cases hT; go_simp; with_reducible rfl)
  simp only [Act.put, List.setIfInBounds_toArray, List.set_cons_zero, List.set_cons_succ]
  refine Mo.done ?_
  rintro w' rfl - -
  go_upto_region 5 with (fail)
  have k1 : Below w.drew.heap.size w.drew (w.drew.alloc (.map #[] 0)) := (Below.refl _ _).alloc (Nat.le_refl _) _
  have k2 : Below (w.drew.alloc (.map #[] 0)).heap.size (w.drew.alloc (.map #[] 0)) ((w.drew.alloc (.map #[] 0)).alloc (.map #[] 0)) := (Below.refl _ _).alloc (Nat.le_refl _) _
  have k3 := fun o => (Below.refl ((w.drew.alloc (.map #[] 0)).alloc (.map #[] 0)).heap.size ((w.drew.alloc (.map #[] 0)).alloc (.map #[] 0))).alloc (Nat.le_refl _) o
  have N1 := (MapIs.new w.drew).kept (Kept.of_below (S := fun _ => False) k2) (fun e => e)
  have N2 := MapIs.new (w.drew.alloc (.map #[] 0))
  have hh := fun o => heap_alloc_new ((w.drew.alloc (.map #[] 0)).alloc (.map #[] 0)) o
  have hs0 : w.drew.heap.size = w.heap.size := rfl
  have hs1 : (w.drew.alloc (.map #[] 0)).heap.size = w.heap.size + 1 := by simp
  have hs2 : ((w.drew.alloc (.map #[] 0)).alloc (.map #[] 0)).heap.size = w.heap.size + 1 + 1 := by simp
  rw [hs1] at N2
  rw [hs2] at hh
  have HM : Making w (((w.drew.alloc (.map #[] 0)).alloc (.map #[] 0)).alloc (.cells #[.int .i64 D.size, .map (some w.heap.size), .map (some (w.heap.size + 1)), .slice none 0 0] 76)) (w.heap.size + 1 + 1) w.heap.size (w.heap.size + 1) D.size (fun _ => none) := by
    refine ⟨hh _, N1.kept (Kept.of_below (S := fun _ => False) (k3 _)) (fun e => e), N2.kept (Kept.of_below (S := fun _ => False) (k3 _)) (fun e => e), by omega, by omega, by omega, by omega, ?_⟩
    exact (((Below.refl w.heap.size w).drew.trans (k1.mono (by simp))).trans (k2.mono (by simp))).trans ((k3 _).mono (by simp; omega))
  have HM' : Making w ((((w.alloc (.map #[] 0)).alloc (.map #[] 0)).alloc (.cells #[.int .i64 D.size, .map (some w.heap.size), .map (some (w.heap.size + 1)), .slice none 0 0] 76)).drew) (w.heap.size + 1 + 1) w.heap.size (w.heap.size + 1) D.size (fun _ => none) := HM
  obtain ⟨w2, hw2⟩ : ∃ w2, (((w.alloc (.map #[] 0)).alloc (.map #[] 0)).alloc (.cells #[.int .i64 D.size, .map (some w.heap.size), .map (some (w.heap.size + 1)), .slice none 0 0] 76)).drew = w2 := ⟨_, rfl⟩
  rw [hw2] at HM' ⊢
  obtain ⟨xb, hxb⟩ : ∃ xb, w.heap.size + 1 + 1 = xb := ⟨_, rfl⟩
  obtain ⟨x2, hx2⟩ : ∃ x2, w.heap.size + 1 = x2 := ⟨_, rfl⟩
  obtain ⟨x1, hx1⟩ : ∃ x1, w.heap.size = x1 := ⟨_, rfl⟩
  clear HM k1 k2 k3 N1 N2 hh hs0 hs1 hs2 hw2
  rw [hxb, hx2, hx1] at HM'
  rw [hxb]
  have hD2 := h.below HM'.below
  obtain ⟨-, c1w, -, -⟩ := hD2.cells
  obtain ⟨o, cnt, hrun, hgo⟩ := run_range (P := Try.prog) hD2.first Try.underlying73
  have hbl := HM'.below.size
  obtain ⟨lt1, lt2, lt3⟩ := HM'.lt
  have hm1l : m1 < w.heap.size := h.first.lt
  have HM3 : Making w (w2.alloc o) xb x1 x2 D.size (fun _ => none) := HM'.kept' (S := fun _ => False) ((Kept.refl _ _).alloc o) (fun _ _ e => e)
  clear c0 c1 c2 c3 HM' hxb hx2 hx1
  go_upto_block 0 with (fail)
  obtain ⟨w3, hw3⟩ : ∃ w3, w2.alloc o = w3 := ⟨_, rfl⟩
  obtain ⟨r, hr⟩ : ∃ r, w2.heap.size = r := ⟨_, rfl⟩
  rw [hr] at hgo ⊢
  rw [hw3] at hgo HM3 ⊢
  have hrw : w.heap.size ≤ r := by omega
  rw [hr] at lt1 lt2 lt3
  clear hrun hw3 hr hD2 c1w hbl
  go_cut [] (fun wx => Making w wx xb x1 x2 D.size D.first)
  case first =>
    go_wp2_with fail
    go_loopg [] cnt (fun kq w' => ∃ left N c, Sh (Goes w' r m1 (bmap D.first) left c ∧ Making w w' xb x1 x2 D.size N ∧ (∀ n, N n = if left n = true then none else D.first n)) ∧ c ≤ kq)
    case atStart => exact ⟨_, _, _, ⟨hgo, HM3, fun n => by cases hn_ : D.first n <;> simp [bmap, hn_]⟩, Nat.le_refl _⟩
    case round =>
      obtain ⟨left, N, c, ⟨hg, hm, hN⟩, hc⟩ := hrel
      rcases run_next (P := Try.prog) hg 0 with ⟨hl, hx⟩ | ⟨n, v, w4, c', hl, hv, hx, he, hg', hc', hk⟩
      · go_wp2_with fail
        go_meet
        case rel =>
          have : N = D.first := by funext k; rw [hN k, hl k]; rfl
          exact this ▸ hm
      · have hmM := hm.kept' hk (fun i hi e => by rcases hi with hi | hi | hi | hi <;> omega)
        obtain ⟨l, hl1, rfl⟩ := Option.map_eq_some_iff.1 hv
        have hl32 := h.ok.first n l hl1
        have hst := fun (W : World) (c : Array Value) (hc : c.size = 32) => run_storeCells_new (P := Try.prog) W 79 c (l.map (Value.int .u8)).toArray (by rw [size_blk]; simp [hl32]) (by simp [hl32, hc]) (all_oneCell_toArray (one_u8 l))
        unfold blk at hx he
        go_upto_region 8 with (fail)
        obtain ⟨w5, hw5⟩ : ∃ w5, w4.alloc (.cells (l.map (Value.int .u8)).toArray 79) = w5 := ⟨_, rfl⟩
        have hb5 : Below w4.heap.size w4 w5 := by rw [← hw5]; exact (Below.refl _ _).alloc (Nat.le_refl _) _
        have hg5 := hg'.kept (Kept.of_below (S := fun _ => False) hb5) (fun e => e) (fun e => e)
        have hm5 := hmM.kept' (Kept.of_below (S := fun _ => False) hb5) (fun _ _ e => e)
        have hr5 : w5.drew.rangeAt w4.heap.size 0 (l.map (.int .u8)) := fun j u hu => by
          rw [← hw5, Nat.zero_add]
          simp only [World.drew, World.cell?, heap_alloc_new]
          simpa using hu
        have c2x : w5.cell? ⟨xb, 2, none⟩ = some (.map (some x2)) := by simp [World.cell?, hm5.head]
        rw [hw5]
        clear hx he hst hw5 hg hm hg' hmM hv
        refine Mo.region 6 [0, 1, 3, 7, 0, 0, 63] (fun w' => w' = w5.drew) (fun _ => Eq) (fun _ _ => True) (fun _ _ _ _ => True) rfl (fun _ => trivial) (fun _ _ _ h k => k ▸ h) (fun _ _ _ _ _ _ _ _ _ _ => trivial) (fun _ _ _ _ _ _ _ _ _ => trivial) mixed (by kernel_rfl) ?_
        simp only [List.take_succ_cons, List.take_zero, List.drop_succ_cons, List.drop_zero]
        refine Mo.val (v := ?_) (fun _ => rfl) (by rfl) (fun _ _ _ => trivial) ?_ ?_
        rotate_left
        · (intro w' hT hP hF; cases hT; go_simp; with_reducible rfl)
        simp only [Act.put, List.setIfInBounds_toArray, List.set_cons_zero, List.set_cons_succ]
        refine Mo.val (v := ?_) (fun _ => rfl) (by rfl) (fun _ _ _ => trivial) ?_ ?_
        rotate_left
        · (intro w' hT hP hF; cases hT; go_simp; with_reducible rfl)
        simp only [Act.put, List.setIfInBounds_toArray, List.set_cons_zero, List.set_cons_succ]
        refine Mo.val (v := ?_) (fun _ => rfl) (by rfl) (fun _ _ _ => trivial) ?_ ?_
        rotate_left
        · (intro w' hT hP hF; cases hT; go_simp; with_reducible rfl)
        simp only [Act.put, List.setIfInBounds_toArray, List.set_cons_zero, List.set_cons_succ]
        refine Mo.val (v := ?_) (fun _ => rfl) (by rfl) (fun _ _ _ => trivial) ?_ ?_
        rotate_left
        · (intro w' hT hP hF; cases hT; go_simp; with_reducible rfl)
        simp only [Act.put, List.setIfInBounds_toArray, List.set_cons_zero, List.set_cons_succ]
        refine Mo.val (v := ?_) (fun _ => rfl) (by rfl) (fun _ _ _ => trivial) ?_ ?_
        rotate_left
        · (intro w' hT hP hF; cases hT; go_simp; with_reducible rfl)
        simp only [Act.put, List.setIfInBounds_toArray, List.set_cons_zero, List.set_cons_succ]
        refine Mo.val (v := ?_) (fun _ => rfl) (by rfl) (fun _ _ _ => trivial) ?_ ?_
        rotate_left
        · (intro w' hT hP hF; refine exec_load_mid (P := Try.prog) 79 (.tmp 12) ?_ ?_ (show w'.rangeAt w4.heap.size 0 (l.map (.int .u8)) by cases hT; exact hr5) Try.underlying79 rfl (by rw [size_blk]; simp [hl32]) <;> rfl)
        simp only [Act.put, List.setIfInBounds_toArray, List.set_cons_zero, List.set_cons_succ]
        refine Mo.done ?_
        rintro w' rfl - -
        obtain ⟨es, ck, hup, hes⟩ := run_put (P := Try.prog) (w := w5.drew) (m := x2) (M := bmap N) hm5.now Try.underlying73 Try.underlying3 n (blk l)
        unfold blk at hup
        go_wp2_with fail
        obtain ⟨g1_, rfl⟩ : ∃ z, gk = z + 1 := ⟨gk - 1, by omega⟩
        go_roundg g1_
        case measure => omega
        case rel =>
          have hm6 := hm5.drew.put (n := n) (l := l) hes
          refine ⟨fun k => if k = n then false else left k, upd N n l, c', ⟨?_, hm6, fun k => ?_⟩, by omega⟩
          · refine hg5.kept (S := fun k => k = x2) ((Kept.refl (fun k => k = x2) w5).drew.setBlock (Or.inr rfl) _) (fun e => ?_) (fun e => by omega)
            have := hm5.new2
            omega
          · show upd N n l k = if (if k = n then false else left k) = true then none else D.first k
            unfold upd
            by_cases hkn : k = n
            · subst hkn
              rw [if_pos rfl, if_pos rfl, hl1]
              rfl
            · rw [if_neg hkn, if_neg hkn]
              exact hN k
  case rest =>
    clear hgo HM3 hrw lt1 lt2 lt3
    go_upto_block 2 with (fail)
    have hDw := h.below hcut.below
    go_cut [13] (fun v13 wx => ∃ N wt, Sh ((N, wt) = drain (D.calls.take p) D.first ∧ Making w wx xb x1 x2 D.size N ∧ wx.ownsRow w.heap.size 81 33 v13 wt.length (wcells wt)))
    case first =>
      go_wp2_with fail
      go_loopg [13, 67] p (fun kq v13 v67 w' => ∃ (j : Nat) (N : BM) (wt : List Wr), v67 = .int .i64 (j : Int) ∧ j + kq = p ∧ Sh ((N, wt) = drain (D.calls.take j) D.first ∧ Making w w' xb x1 x2 D.size N ∧ w'.ownsRow w.heap.size 81 33 v13 wt.length (wcells wt)))
      case atStart => exact ⟨0, D.first, [], rfl, by omega, ⟨rfl, hcut, World.ownsRow_nil _ _ _ _⟩⟩
      case round =>
        obtain ⟨j, N, wt, rfl, hj, ⟨hdr, hm, how⟩⟩ := hrel
        cases gk with
        | zero =>
          have q3 : ¬ ((j : Int) < (p : Int)) := by omega
          obtain rfl : j = p := by omega
          go_wp2_with fail
          go_meet
          case rel => exact ⟨N, wt, ⟨hdr, hm, how⟩⟩
        | succ g1_ =>
          have hjl : j < D.calls.length := by omega
          have q1 : (j : Int) < (p : Int) := by omega
          have q0 : (0 : Int) ≤ (j : Int) := by omega
          obtain ⟨cm, cb, hcj⟩ : ∃ cm cb, D.calls[j]? = some (cm, cb) := ⟨_, _, List.getElem?_eq_getElem hjl⟩
          have hcb : cb.length = 32 := h.ok.calls _ (List.mem_of_getElem? hcj)
          obtain ⟨g, cap, hae, -, hrg⟩ := own_range (own_kept h.row (Kept.of_below (S := fun _ => False) hm.below) (fun _ _ e => e)) h.ok.calls hcj
          obtain ⟨rfl, rfl⟩ : a = some ⟨g, 0, none⟩ ∧ c = cap := by simpa using hae
          obtain ⟨cs, hcs⟩ : ∃ cs, (Value.int .i64 cm :: cb.map (Value.int .u8)) = cs := ⟨_, rfl⟩
          have hcl : cs.length = 33 := by rw [← hcs]; simp [hcb]
          have hone : ∀ u ∈ cs, u.oneCell' = true := by rw [← hcs]; exact one_write cm cb
          have HR : Sh (wr.rangeAt g (j * 33) cs) := ⟨by rw [← hcs]; exact hrg⟩
          have hst := fun (W : World) (c : Array Value) (hc : c.size = 33) => run_storeCells_new (P := Try.prog) W 81 c cs.toArray (by rw [size_write]; simp [hcl]) (by simp [hcl, hc]) (all_oneCell_toArray hone)
          have hc0 : ∀ h, cs[0]'h = .int .i64 cm := by rw [← hcs]; intro h; rfl
          have hca : ∀ i, i < 32 → cs[1 + i]? = some (.int .u8 (cb.getD i 0)) := fun i hi => by
            rw [← hcs, Nat.add_comm, List.getElem?_cons_succ, List.getElem?_map, List.getElem?_eq_getElem (by omega), List.getD_eq_getElem?_getD, List.getElem?_eq_getElem (by omega)]
            rfl
          have HC := Sh.mk hcs
          have HA := Sh.mk hca
          clear hca
          clear hrg hcs
          go_upto_region 12 with (fail)
          go_upto_region 13 with (with_reducible refine Ow.at_slot 70 ?_; refine wpList_load_mid rfl 81 (.tmp 69) rfl g (j * 33) rfl cs _ HR.out Try.underlying81 rfl ?hsz ?_)
          case hsz => exact Option.map_eq_some_iff.1 size_write
          obtain ⟨w5, hw5⟩ : ∃ w5, wr.alloc (.cells cs.toArray 81) = w5 := ⟨_, rfl⟩
          obtain ⟨q, hq⟩ : ∃ q, wr.heap.size = q := ⟨_, rfl⟩
          have hb5 : Below wr.heap.size wr w5 := by rw [← hw5]; exact (Below.refl _ _).alloc (Nat.le_refl _) _
          have hm5 := hm.kept' (Kept.of_below (S := fun _ => False) hb5) (fun _ _ e => e)
          have how5 := own_kept how (Kept.of_below (S := fun _ => False) hb5) (fun _ _ e => e)
          have hq5 : q < w5.heap.size := by rw [← hw5, ← hq]; simp
          have hwq : w.heap.size ≤ q := by rw [← hq]; exact hm.below.size
          have HB5 : Sh (w5.heap[q]? = some (.cells cs.toArray 81 (0, 0))) := ⟨by rw [← hw5, ← hq]; exact heap_alloc_new _ _⟩
          have HR5 : Sh (w5.rangeAt q 0 cs) := ⟨fun i u hu => by rw [Nat.zero_add]; simp only [World.cell?, HB5.out]; simpa using hu⟩
          have hF0 : w5.cell? ⟨q, 0, none⟩ = some (.int .i64 cm) := by have := HR5.out 0 _ (by rw [List.getElem?_eq_getElem (by omega), hc0]); simpa using this
          rw [hw5, hq]
          have hfo := fun (z : Array Value) (hz : z.size = 33) => fold_all cs z hcl hz
          clear hw5 hb5 hst hc0 HR hm how hq
          by_cases hcm : cm = -1
          · subst hcm
            have hne : ((-1 : Int) != -1) = false := by decide
            have hwl : ∀ p ∈ wt, p.2.length = 32 := by
              have := (fine_drain (cs := D.calls.take j) (fun p hp => h.ok.calls p (List.mem_of_mem_take hp)) h.ok.first).2
              rw [← hdr] at this
              exact this
            have hwn : wt.length < 2000000000000 := by
              have := drain_len (D.calls.take j) (D.first, [])
              rw [show (D.calls.take j).foldl step1 (D.first, []) = (N, wt) from hdr.symm] at this
              have := List.length_take_le j D.calls
              simp at *
              omega
            obtain ⟨a13, c13, rfl⟩ := own_len how5
            clear HR5 hfo hone hcl HC HA
            go_upto_block 4 with (fail)
            go_wp2_with fail
            go_loopg [80] wt.length (fun kq v80 w' => ∃ (k : Nat) (N' : BM), v80 = .int .i64 (k : Int) ∧ k + kq = wt.length ∧ Sh (N' = apply N (wt.take k) ∧ Making w w' xb x1 x2 D.size N' ∧ w'.ownsRow w.heap.size 81 33 (.slice a13 wt.length c13) wt.length (wcells wt)))
            case atStart => exact ⟨0, N, rfl, by omega, ⟨rfl, hm5, how5⟩⟩
            case round =>
              obtain ⟨k, N', rfl, hk, ⟨hap, hmk, howk⟩⟩ := hrel
              cases gk with
              | zero =>
                have q3 : ¬ ((k : Int) < (wt.length : Int)) := by omega
                obtain rfl : k = wt.length := by omega
                go_wp2_with fail
                go_roundg g1_
                case measure => omega
                case rel =>
                  refine ⟨j + 1, N', [], by go_num, by omega, ⟨?_, hmk, World.ownsRow_nil _ _ _ _⟩⟩
                  rw [drain_succ _ _ _ _ hcj, ← hdr, hap, List.take_length]
                  rfl
              | succ g2_ =>
                have q2 : (k : Int) < (wt.length : Int) := by omega
                have q3 : (0 : Int) ≤ (k : Int) := by omega
                obtain ⟨dm, db, hck⟩ : ∃ dm db, wt[k]? = some (dm, db) := ⟨_, _, List.getElem?_eq_getElem (by omega)⟩
                have hdb : db.length = 32 := hwl _ (List.mem_of_getElem? hck)
                obtain ⟨g', cap', hae', hg', hrg'⟩ := own_range howk hwl hck
                obtain ⟨rfl, rfl⟩ : a13 = some ⟨g', 0, none⟩ ∧ c13 = cap' := by simpa using hae'
                obtain ⟨cs2, hcs2⟩ : ∃ cs2, (Value.int .i64 dm :: db.map (Value.int .u8)) = cs2 := ⟨_, rfl⟩
                have hcl2 : cs2.length = 33 := by rw [← hcs2]; simp [hdb]
                have hone2 : ∀ u ∈ cs2, u.oneCell' = true := by rw [← hcs2]; exact one_write dm db
                have HR2 : Sh (wr.rangeAt g' (k * 33) cs2) := ⟨by rw [← hcs2]; exact hrg'⟩
                have hst2 := fun (W : World) (c : Array Value) (hc : c.size = 33) => run_storeCells_new (P := Try.prog) W 81 c cs2.toArray (by rw [size_write]; simp [hcl2]) (by simp [hcl2, hc]) (all_oneCell_toArray hone2)
                have HC2 := Sh.mk hcs2
                clear hrg' hcs2
                go_upto_region 17 with (fail)
                go_upto_region 18 with (with_reducible refine Ow.at_slot 83 ?_; refine wpList_load_mid rfl 81 (.tmp 82) rfl g' (k * 33) rfl cs2 _ HR2.out Try.underlying81 rfl ?hsz ?_)
                case hsz => exact Option.map_eq_some_iff.1 size_write
                obtain ⟨w7, hw7⟩ : ∃ w7, wr.alloc (.cells cs2.toArray 81) = w7 := ⟨_, rfl⟩
                obtain ⟨q2, hq2⟩ : ∃ q2, wr.heap.size = q2 := ⟨_, rfl⟩
                have hb7 : Below wr.heap.size wr w7 := by rw [← hw7]; exact (Below.refl _ _).alloc (Nat.le_refl _) _
                have hm7 := hmk.kept' (Kept.of_below (S := fun _ => False) hb7) (fun _ _ e => e)
                have ho7 := own_kept howk (Kept.of_below (S := fun _ => False) hb7) (fun _ _ e => e)
                have HB7 : w7.heap[q2]? = some (.cells cs2.toArray 81 (0, 0)) := by rw [← hw7, ← hq2]; exact heap_alloc_new _ _
                have hF2 : w7.cell? ⟨q2, 0, none⟩ = some (.int .i64 dm) := by rw [← HC2.out] at HB7; simp [World.cell?, HB7]
                have hR7 : w7.drew.rangeAt q2 1 (db.map (.int .u8)) := fun i u hu => by
                  rw [← HC2.out] at HB7
                  simp only [World.drew, World.cell?, HB7]
                  rw [Nat.add_comm]
                  simpa using hu
                have c2x : w7.cell? ⟨xb, 2, none⟩ = some (.map (some x2)) := by simp [World.cell?, hm7.head]
                rw [hw7, hq2]
                clear hw7 hb7 hst2 HR2 hmk howk hq2 HB7
                refine Mo.region 8 [0, 1, 3, 7, 0, 16, 0, 64, 255] (fun w' => w' = w7.drew) (fun _ => Eq) (fun _ _ => True) (fun _ _ _ _ => True) rfl (fun _ => trivial) (fun _ _ _ h k => k ▸ h) (fun _ _ _ _ _ _ _ _ _ _ => trivial) (fun _ _ _ _ _ _ _ _ _ => trivial) mixed (by kernel_rfl) ?_
                simp only [List.take_succ_cons, List.take_zero, List.drop_succ_cons, List.drop_zero]
                refine Mo.val (v := ?_) (fun _ => rfl) (by rfl) (fun _ _ _ => trivial) ?_ ?_
                rotate_left
                · (intro w' hT hP hF; cases hT; go_simp; with_reducible rfl)
                simp only [Act.put, List.setIfInBounds_toArray, List.set_cons_zero, List.set_cons_succ]
                refine Mo.val (v := ?_) (fun _ => rfl) (by rfl) (fun _ _ _ => trivial) ?_ ?_
                rotate_left
                · (intro w' hT hP hF; cases hT; go_simp; with_reducible rfl)
                simp only [Act.put, List.setIfInBounds_toArray, List.set_cons_zero, List.set_cons_succ]
                refine Mo.val (v := ?_) (fun _ => rfl) (by rfl) (fun _ _ _ => trivial) ?_ ?_
                rotate_left
                · (intro w' hT hP hF; cases hT; go_simp; with_reducible rfl)
                simp only [Act.put, List.setIfInBounds_toArray, List.set_cons_zero, List.set_cons_succ]
                refine Mo.val (v := ?_) (fun _ => rfl) (by rfl) (fun _ _ _ => trivial) ?_ ?_
                rotate_left
                · (intro w' hT hP hF; cases hT; go_simp; with_reducible rfl)
                simp only [Act.put, List.setIfInBounds_toArray, List.set_cons_zero, List.set_cons_succ]
                refine Mo.val (v := ?_) (fun _ => rfl) (by rfl) (fun _ _ _ => trivial) ?_ ?_
                rotate_left
                · (intro w' hT hP hF; cases hT; go_simp; with_reducible rfl)
                simp only [Act.put, List.setIfInBounds_toArray, List.set_cons_zero, List.set_cons_succ]
                refine Mo.val (v := ?_) (fun _ => rfl) (by rfl) (fun _ _ _ => trivial) ?_ ?_
                rotate_left
                · (intro w' hT hP hF; cases hT; go_simp; with_reducible rfl)
                simp only [Act.put, List.setIfInBounds_toArray, List.set_cons_zero, List.set_cons_succ]
                refine Mo.val (v := ?_) (fun _ => rfl) (by rfl) (fun _ _ _ => trivial) ?_ ?_
                rotate_left
                · (intro w' hT hP hF; cases hT; go_simp; with_reducible rfl)
                simp only [Act.put, List.setIfInBounds_toArray, List.set_cons_zero, List.set_cons_succ]
                refine Mo.val (v := ?_) (fun _ => rfl) (by rfl) (fun _ _ _ => trivial) ?_ ?_
                rotate_left
                · (intro w' hT hP hF; refine exec_load_mid (P := Try.prog) 79 (.tmp 90) ?_ ?_ (show w'.rangeAt q2 1 (db.map (.int .u8)) by cases hT; exact hR7) Try.underlying79 rfl (by rw [size_blk]; simp [hdb]) <;> rfl)
                simp only [Act.put, List.setIfInBounds_toArray, List.set_cons_zero, List.set_cons_succ]
                refine Mo.done ?_
                rintro w' rfl - -
                obtain ⟨es, ck, hup, hes⟩ := run_put (P := Try.prog) (w := w7.drew) (m := x2) (M := bmap N') hm7.now Try.underlying73 Try.underlying3 dm (blk db)
                unfold blk at hup
                go_wp2_with fail
                go_roundg g2_
                case measure => omega
                case rel =>
                  refine ⟨k + 1, upd N' dm db, by go_num, by omega, ⟨?_, hm7.drew.put (n := dm) (l := db) hes, ?_⟩⟩
                  · rw [apply_succ _ _ _ _ hck, ← hap]
                  · have hK : Kept (fun i => i = x2) w7 (ChangeMaps.setBlock w7.drew x2 (.map es ck)) := (Kept.refl (fun i => i = x2) w7).drew.setBlock (Or.inr rfl) _
                    exact own_kept ho7 hK (fun i hi e => (own_not ho7 hm7 i hi).2.2.2 e)
          · have hne : ((cm : Int) != -1) = true := by simpa using hcm
            go_upto_region 14 with (fail)
            go_wp2_with (first | (with_reducible refine Ow.at_slot 75 ?_; refine wpList_load_mid rfl 81 (.tmp 15) rfl q 0 rfl cs _ HR5.out Try.underlying81 rfl ?hsz ?_) | (at_builtin; refine append_write rfl (.tmp 74) (.tmp 76) rfl w.heap.size _ wt.length (wcells wt) rfl (how5.alloc _) w5.heap.size 1 cs rfl ?c1 ?c2 hone ?c5 ?c6 ?_))
            case hsz => rw [size_write, hcl]
            case c1 => exact hcl
            case c2 =>
              intro i u hu
              rw [Nat.zero_add]
              simp only [World.cell?, heap_alloc_new]
              simpa using hu
            case c5 =>
              have := drain_len (D.calls.take j) (D.first, [])
              rw [show (D.calls.take j).foldl step1 (D.first, []) = (N, wt) from hdr.symm] at this
              have := List.length_take_le j D.calls
              simp at *
              omega
            case c6 => simp; omega
            intro v' w6 ho6 hgr hnb
            have hK6 : Kept (fun k => u13.ownBlock = some k) w5 w6 := ((Kept.refl (fun k => u13.ownBlock = some k) w5).alloc _).grown hgr (fun k hk => Or.inr hk)
            have hm6 := hm5.kept' hK6 (fun i hi e => by
              obtain ⟨n1, n2, n3, n4⟩ := own_not how5 hm5 i e
              rcases hi with hi | hi | hi | hi <;> omega)
            clear hgr hnb
            go_wp2_with fail
            go_roundg g1_
            case measure => omega
            case rel =>
              refine ⟨j + 1, N, wt ++ [(cm, cb)], by go_num, by omega, ⟨?_, hm6, ?_⟩⟩
              · rw [drain_succ _ _ _ _ hcj, ← hdr]
                simp [step1, hcm]
              · rw [wcells_snoc, List.length_append]
                have := HC.out
                rw [this]
                exact ho6
    case rest =>
      obtain ⟨N, wt, ⟨hdr, hm0, how0⟩⟩ := hcut
      have hwl : ∀ p ∈ wt, p.2.length = 32 := by
        have := (fine_drain (cs := D.calls.take p) (fun p hp => h.ok.calls p (List.mem_of_mem_take hp)) h.ok.first).2
        rw [← hdr] at this
        exact this
      have hwn : wt.length < 2000000000000 := by
        have := drain_len (D.calls.take p) (D.first, [])
        rw [show (D.calls.take p).foldl step1 (D.first, []) = (N, wt) from hdr.symm] at this
        have := List.length_take_le p D.calls
        simp at *
        omega
      obtain ⟨a13, c13, rfl⟩ := own_len how0
      obtain ⟨ak, ck, rfl, hk0, hk1⟩ := hk
      go_upto_block 6 with (fail)
      go_cut [18] (fun v18 wx => Sh (Making w wx xb x1 x2 D.size N ∧ wx.ownsRow w.heap.size 81 33 v18 (keepOf keep wt).length (wcells (keepOf keep wt))))
      case first =>
        go_wp2_with fail
        go_loopg [18, 96] wt.length (fun kq v18 v96 w' => ∃ (k : Nat), v96 = .int .i64 (k : Int) ∧ k + kq = wt.length ∧ Sh (Making w w' xb x1 x2 D.size N ∧ w'.ownsRow w.heap.size 81 33 (.slice a13 wt.length c13) wt.length (wcells wt) ∧ w'.ownsRow w.heap.size 81 33 v18 (keepOf keep (wt.take k)).length (wcells (keepOf keep (wt.take k))) ∧ ∀ i, v18.ownBlock = some i → (Value.slice a13 wt.length c13).ownBlock ≠ some i))
        case atStart => exact ⟨0, rfl, by omega, ⟨hm0, how0, World.ownsRow_nil _ _ _ _, fun i hi => by cases hi⟩⟩
        case round =>
          obtain ⟨k, rfl, hkk, ⟨hm, how, hok, hap⟩⟩ := hrel
          cases gk with
          | zero =>
            have q3 : ¬ ((k : Int) < (wt.length : Int)) := by omega
            obtain rfl : k = wt.length := by omega
            rw [List.take_length] at hok
            go_wp2_with fail
            go_meet
            case rel => exact ⟨hm, hok⟩
          | succ g1_ =>
            have q2 : (k : Int) < (wt.length : Int) := by omega
            have q3 : (0 : Int) ≤ (k : Int) := by omega
            obtain ⟨dm, db, hck⟩ : ∃ dm db, wt[k]? = some (dm, db) := ⟨_, _, List.getElem?_eq_getElem (by omega)⟩
            have hdb : db.length = 32 := hwl _ (List.mem_of_getElem? hck)
            obtain ⟨g', cap', hae', hg', hrg'⟩ := own_range how hwl hck
            obtain ⟨rfl, rfl⟩ : a13 = some ⟨g', 0, none⟩ ∧ c13 = cap' := by simpa using hae'
            obtain ⟨cs2, hcs2⟩ : ∃ cs2, (Value.int .i64 dm :: db.map (Value.int .u8)) = cs2 := ⟨_, rfl⟩
            have hcl2 : cs2.length = 33 := by rw [← hcs2]; simp [hdb]
            have hone2 : ∀ u ∈ cs2, u.oneCell' = true := by rw [← hcs2]; exact one_write dm db
            have HR2 : Sh (wr.rangeAt g' (k * 33) cs2) := ⟨by rw [← hcs2]; exact hrg'⟩
            have hst2 := fun (W : World) (c : Array Value) (hc : c.size = 33) => run_storeCells_new (P := Try.prog) W 81 c cs2.toArray (by rw [size_write]; simp [hcl2]) (by simp [hcl2, hc]) (all_oneCell_toArray hone2)
            have HC2 := Sh.mk hcs2
            clear hrg' hcs2
            go_upto_region 25 with (fail)
            go_upto_region 26 with (with_reducible refine Ow.at_slot 100 ?_; refine wpList_load_mid rfl 81 (.tmp 99) rfl g' (k * 33) rfl cs2 _ HR2.out Try.underlying81 rfl ?hsz ?_)
            case hsz => exact Option.map_eq_some_iff.1 size_write
            obtain ⟨w7, hw7⟩ : ∃ w7, wr.alloc (.cells cs2.toArray 81) = w7 := ⟨_, rfl⟩
            obtain ⟨q2', hq2⟩ : ∃ q2, wr.heap.size = q2 := ⟨_, rfl⟩
            have hb7 : Below wr.heap.size wr w7 := by rw [← hw7]; exact (Below.refl _ _).alloc (Nat.le_refl _) _
            have hm7 := hm.kept' (Kept.of_below (S := fun _ => False) hb7) (fun _ _ e => e)
            have ho7 := own_kept how (Kept.of_below (S := fun _ => False) hb7) (fun _ _ e => e)
            have hk7 := own_kept hok (Kept.of_below (S := fun _ => False) hb7) (fun _ _ e => e)
            have hk8 := keep_succ keep wt k _ hck
            have HR7 : Sh (w7.rangeAt q2' 0 cs2) := ⟨fun i u hu => by
              rw [Nat.zero_add, ← hw7, ← hq2]
              simp only [World.cell?, heap_alloc_new]
              simpa using hu⟩
            rw [hw7, hq2]
            have hs7 := hm7.below.size
            clear hw7 hb7 hst2 HR2 hm how hok hq2
            by_cases hkl : k < keep.length
            · have q4 : ((k : Int) < (keep.length : Int)) := by omega
              cases ak with
              | none => have := (hk0 rfl).1; subst this; simp at hkl
              | some ad =>
                obtain ⟨hkc, hkx⟩ := hk1 ad rfl
                obtain ⟨kb, hkb⟩ : ∃ kb, keep[k]? = some kb := ⟨_, List.getElem?_eq_getElem hkl⟩
                have hcell0 := hkx k kb hkb
                have hcell : w7.cell? (ad.add k) = some (.bool kb) := by
                  rw [hm7.below.cell (World.block_lt_of_cell? w _ hcell0)]
                  exact hcell0
                have hgd : keep.getD k false = kb := by rw [List.getD_eq_getElem?_getD, hkb]; rfl
                rw [hgd] at hk8
                clear hcell0 hkx hgd
                cases kb with
                | false =>
                  go_wp2_with fail
                  go_roundg g1_
                  case measure => omega
                  case rel =>
                    refine ⟨k + 1, by go_num, by omega, ⟨hm7, ho7, ?_, hap⟩⟩
                    rw [hk8]
                    simpa using hk7
                | true =>
                  have hfo := fun (z : Array Value) (hz : z.size = 33) => fold_all cs2 z hcl2 hz
                  go_upto_region 27 with (fail)
                  go_wp2_with (first | (with_reducible refine Ow.at_slot 112 ?_; refine wpList_load_mid rfl 81 (.tmp 20) rfl q2' 0 rfl cs2 _ HR7.out Try.underlying81 rfl ?hsz ?_) | (at_builtin; refine append_write rfl (.tmp 111) (.tmp 113) rfl w.heap.size _ (keepOf keep (wt.take k)).length (wcells (keepOf keep (wt.take k))) rfl (hk7.alloc _) w7.heap.size 1 cs2 rfl ?c1 ?c2 hone2 ?c5 ?c6 ?_))
                  case hsz => exact Option.map_eq_some_iff.1 size_write
                  case c2 =>
                    intro i u hu
                    rw [Nat.zero_add]
                    simp only [World.cell?, heap_alloc_new]
                    simpa using hu
                  case c5 =>
                    have h1 : (keepOf keep (wt.take k)).length ≤ (wt.take k).length := by
                      unfold keepOf
                      rw [List.length_map]
                      exact Nat.le_trans (List.length_filter_le _ _) (by simp)
                    have h2 := List.length_take_le k wt
                    omega
                  case c6 => (try simp); omega
                  intro v' w8 ho8 hgr hnb
                  have hK8 : Kept (fun i => u18.ownBlock = some i) w7 w8 := ((Kept.refl (fun i => u18.ownBlock = some i) w7).alloc _).grown hgr (fun i hi => Or.inr hi)
                  have hm8 := hm7.kept' hK8 (fun i hi e => by
                    obtain ⟨n1, n2, n3, n4⟩ := own_not hk7 hm7 i e
                    rcases hi with hi | hi | hi | hi <;> omega)
                  have ho9 := own_kept ho7 hK8 (fun i hi e => hap i e hi)
                  clear hgr
                  go_wp2_with fail
                  go_roundg g1_
                  case measure => omega
                  case rel =>
                    refine ⟨k + 1, by go_num, by omega, ⟨hm8, ho9, ?_, fun i hi e => ?_⟩⟩
                    · rw [hk8]
                      simp only [if_true]
                      rw [wcells_snoc, List.length_append]
                      have := HC2.out
                      rw [this]
                      exact ho8
                    · rcases hnb i hi with h5 | h5
                      · exact hap i h5 e
                      · have := (ho7.lt i e).2
                        (try simp at h5)
                        omega
            · have q4 : ¬ ((k : Int) < (keep.length : Int)) := by omega
              have hkf : keep.getD k false = false := by rw [List.getD_eq_getElem?_getD, List.getElem?_eq_none (by omega)]; rfl
              rw [hkf] at hk8
              go_wp2_with fail
              go_roundg g1_
              case measure => omega
              case rel =>
                refine ⟨k + 1, by go_num, by omega, ⟨hm7, ho7, ?_, hap⟩⟩
                rw [hk8]
                simpa using hk7
      case rest =>
        obtain ⟨hm3, hok3⟩ := hcut
        obtain ⟨kw, hkw⟩ : ∃ kw, keepOf keep wt = kw := ⟨_, rfl⟩
        rw [hkw] at hok3
        have hkl : ∀ p ∈ kw, p.2.length = 32 := fun p hp => hwl p (keep_mem (hkw ▸ hp))
        have hkn : kw.length < 2000000000000 := by
          have h1 : kw.length ≤ wt.length := by
            rw [← hkw]
            unfold keepOf
            rw [List.length_map]
            exact Nat.le_trans (List.length_filter_le _ _) (by simp)
          omega
        obtain ⟨a18, c18, rfl⟩ := own_len hok3
        have hfN : Fine N := by
          have := (fine_drain (cs := D.calls.take p) (fun p hp => h.ok.calls p (List.mem_of_mem_take hp)) h.ok.first).1
          rw [← hdr] at this
          exact this
        clear how0 hm0
        obtain ⟨ht0, ht1⟩ := pick_lt torn 33 (by decide)
        obtain ⟨t, ht⟩ : ∃ t : Nat, pick torn 33 = (t : Int) := Int.eq_ofNat_of_zero_le ht0
        have ht32 : t ≤ 32 := by omega
        go_upto_block 8 with (fail)
        go_cut [] (fun wx => Making w wx xb x1 x2 D.size (layN t kw N kw.length))
        case first =>
          go_wp2_with fail
          go_loopg [118] kw.length (fun kq v118 w' => ∃ k : Nat, v118 = .int .i64 (k : Int) ∧ k + kq = kw.length ∧ Sh (Making w w' xb x1 x2 D.size (layN t kw N k) ∧ w'.ownsRow w.heap.size 81 33 (.slice a18 kw.length c18) kw.length (wcells kw)))
          case atStart => exact ⟨0, rfl, by omega, ⟨hm3, hok3⟩⟩
          case round =>
            obtain ⟨k, rfl, hkk, ⟨hm, how⟩⟩ := hrel
            cases gk with
            | zero =>
              have q3 : ¬ ((k : Int) < (kw.length : Int)) := by omega
              obtain rfl : k = kw.length := by omega
              go_wp2_with fail
              go_meet
              case rel => exact hm
            | succ g1_ =>
              have q2 : (k : Int) < (kw.length : Int) := by omega
              have q3 : (0 : Int) ≤ (k : Int) := by omega
              obtain ⟨dm, db, hck⟩ : ∃ dm db, kw[k]? = some (dm, db) := ⟨_, _, List.getElem?_eq_getElem (by omega)⟩
              have hdb : db.length = 32 := hkl _ (List.mem_of_getElem? hck)
              obtain ⟨g', cap', hae', hg', hrg'⟩ := own_range how hkl hck
              obtain ⟨rfl, rfl⟩ : a18 = some ⟨g', 0, none⟩ ∧ c18 = cap' := by simpa using hae'
              obtain ⟨cs2, hcs2⟩ : ∃ cs2, (Value.int .i64 dm :: db.map (Value.int .u8)) = cs2 := ⟨_, rfl⟩
              have hcl2 : cs2.length = 33 := by rw [← hcs2]; simp [hdb]
              have hone2 : ∀ u ∈ cs2, u.oneCell' = true := by rw [← hcs2]; exact one_write dm db
              have HR2 : Sh (wr.rangeAt g' (k * 33) cs2) := ⟨by rw [← hcs2]; exact hrg'⟩
              have hst2 := fun (W : World) (c : Array Value) (hc : c.size = 33) => run_storeCells_new (P := Try.prog) W 81 c cs2.toArray (by rw [size_write]; simp [hcl2]) (by simp [hcl2, hc]) (all_oneCell_toArray hone2)
              have HC2 := Sh.mk hcs2
              clear hrg' hcs2
              go_upto_region 31 with (fail)
              go_upto_region 32 with (with_reducible refine Ow.at_slot 122 ?_; refine wpList_load_mid rfl 81 (.tmp 121) rfl g' (k * 33) rfl cs2 _ HR2.out Try.underlying81 rfl ?hsz ?_)
              case hsz => exact Option.map_eq_some_iff.1 size_write
              obtain ⟨w7, hw7⟩ : ∃ w7, wr.alloc (.cells cs2.toArray 81) = w7 := ⟨_, rfl⟩
              obtain ⟨q2', hq2⟩ : ∃ q2, wr.heap.size = q2 := ⟨_, rfl⟩
              have hb7 : Below wr.heap.size wr w7 := by rw [← hw7]; exact (Below.refl _ _).alloc (Nat.le_refl _) _
              have hm7 := hm.kept' (Kept.of_below (S := fun _ => False) hb7) (fun _ _ e => e)
              have ho7 := own_kept how (Kept.of_below (S := fun _ => False) hb7) (fun _ _ e => e)
              have HB7 : w7.heap[q2']? = some (.cells cs2.toArray 81 (0, 0)) := by rw [← hw7, ← hq2]; exact heap_alloc_new _ _
              have HF7 : Sh (w7.cell? ⟨q2', 0, none⟩ = some (.int .i64 dm)) := ⟨by rw [← HC2.out] at HB7; simp [World.cell?, HB7]⟩
              have HR7 : Sh (w7.rangeAt q2' 1 (db.map (.int .u8))) := ⟨fun i u hu => by
                rw [← HC2.out] at HB7
                simp only [World.cell?, HB7]
                rw [Nat.add_comm]
                simpa using hu⟩
              rw [hw7, hq2]
              clear hw7 hb7 hst2 HR2 hm how hq2 HB7
              have hst := fun (W : World) (c : Array Value) (hc : c.size = 32) => run_storeCells_new (P := Try.prog) W 79 c (db.map (Value.int .u8)).toArray (by rw [size_blk]; simp [hdb]) (by simp [hdb, hc]) (all_oneCell_toArray (one_u8 db))
              go_upto_region 33 with (with_reducible refine Ow.at_slot 124 ?_; refine wpList_load_mid rfl 79 (.tmp 123) rfl q2' 1 rfl (db.map (.int .u8)) _ HR7.out Try.underlying79 rfl ?hsz ?_)
              case hsz => exact Option.map_eq_some_iff.1 size_blk
              obtain ⟨w8, hw8⟩ : ∃ w8, w7.alloc (.cells (db.map (Value.int .u8)).toArray 79) = w8 := ⟨_, rfl⟩
              obtain ⟨q3', hq3'⟩ : ∃ q3, w7.heap.size = q3 := ⟨_, rfl⟩
              have hb8 : Below q3' w7 w8 := by rw [← hw8, ← hq3']; exact (Below.refl _ _).alloc (Nat.le_refl _) _
              have hH8 : Sh (w8.heap[q3']? = some (.cells (db.map (Value.int .u8)).toArray 79 (0, 0))) := ⟨by rw [← hw8, ← hq3']; exact heap_alloc_new _ _⟩
              have hq23 : q2' < q3' := by
                have := World.block_lt_of_cell? w7 _ HF7.out
                rw [← hq3']
                exact this
              rw [hw8, hq3']
              clear hw8 hst
              by_cases hlast : k + 1 = kw.length
              · have q5 : (k : Int) = (kw.length : Int) - 1 := by omega
                have q6 : IntKind.i64.wrap ((kw.length : Int) - 1) = (k : Int) := by rw [← q5]; exact IntWalk.i64_in (k : Int) (by omega)
                go_upto_region 34 with (fail)
                have hm8 := hm7.kept' (Kept.of_below (S := fun _ => False) (hq3' ▸ hb8)) (fun _ _ e => e)
                obtain ⟨zl, hzl⟩ : ∃ zl, (layN t kw N k dm).getD zeros = zl := ⟨_, rfl⟩
                have hzl32 : zl.length = 32 := by
                  rw [← hzl]
                  cases hc : layN t kw N k dm with
                  | none => rfl
                  | some l => exact fine_lay ht32 hkl hfN k _ _ hc
                have hlk : (Instr.lookup 73 (.map (some x2)) (.int .i64 dm) false).run Try.prog w8.drew = .ok (blk zl) w8.drew := by
                  rw [run_look hm8.drew.now Try.underlying73 Try.underlying3 (zero_blk _) dm, ← hzl]
                  unfold bmap
                  cases layN t kw N k dm <;> rfl
                unfold blk at hlk
                have hF8 : w8.cell? ⟨q2', 0, none⟩ = some (.int .i64 dm) := by rw [hb8.cell hq23]; exact HF7.out
                have c2x : w8.cell? ⟨xb, 2, none⟩ = some (.map (some x2)) := by simp [World.cell?, hm8.head]
                refine Mo.region 7 [0, 1, 3, 7, 0, 16, 63, 127] (fun w' => w' = w8.drew) (fun _ => Eq) (fun _ _ => True) (fun _ _ _ _ => True) rfl (fun _ => trivial) (fun _ _ _ h k => k ▸ h) (fun _ _ _ _ _ _ _ _ _ _ => trivial) (fun _ _ _ _ _ _ _ _ _ => trivial) mixed (by kernel_rfl) ?_
                simp only [List.take_succ_cons, List.take_zero, List.drop_succ_cons, List.drop_zero]
                refine Mo.val (v := ?_) (fun _ => rfl) (by rfl) (fun _ _ _ => trivial) ?_ ?_
                rotate_left
                · (intro w' hT hP hF; cases hT; go_simp; with_reducible rfl)
                simp only [Act.put, List.setIfInBounds_toArray, List.set_cons_zero, List.set_cons_succ]
                refine Mo.val (v := ?_) (fun _ => rfl) (by rfl) (fun _ _ _ => trivial) ?_ ?_
                rotate_left
                · (intro w' hT hP hF; cases hT; go_simp; with_reducible rfl)
                simp only [Act.put, List.setIfInBounds_toArray, List.set_cons_zero, List.set_cons_succ]
                refine Mo.val (v := ?_) (fun _ => rfl) (by rfl) (fun _ _ _ => trivial) ?_ ?_
                rotate_left
                · (intro w' hT hP hF; cases hT; go_simp; with_reducible rfl)
                simp only [Act.put, List.setIfInBounds_toArray, List.set_cons_zero, List.set_cons_succ]
                refine Mo.val (v := ?_) (fun _ => rfl) (by rfl) (fun _ _ _ => trivial) ?_ ?_
                rotate_left
                · (intro w' hT hP hF; cases hT; go_simp; with_reducible rfl)
                simp only [Act.put, List.setIfInBounds_toArray, List.set_cons_zero, List.set_cons_succ]
                refine Mo.val (v := ?_) (fun _ => rfl) (by rfl) (fun _ _ _ => trivial) ?_ ?_
                rotate_left
                · (intro w' hT hP hF; cases hT; go_simp; with_reducible rfl)
                simp only [Act.put, List.setIfInBounds_toArray, List.set_cons_zero, List.set_cons_succ]
                refine Mo.val (v := ?_) (fun _ => rfl) (by rfl) (fun _ _ _ => trivial) ?_ ?_
                rotate_left
                · (intro w' hT hP hF; cases hT; go_simp; with_reducible rfl)
                simp only [Act.put, List.setIfInBounds_toArray, List.set_cons_zero, List.set_cons_succ]
                refine Mo.val (v := ?_) (fun _ => rfl) (by rfl) (fun _ _ _ => trivial) ?_ ?_
                rotate_left
                · (intro w' hT hP hF; cases hT; go_simp; with_reducible rfl)
                simp only [Act.put, List.setIfInBounds_toArray, List.set_cons_zero, List.set_cons_succ]
                refine Mo.done ?_
                rintro w' rfl - -
                have hst3 : (storeCells ⟨q3', 0, none⟩ (zl.map (Value.int .u8)) 0).run Try.prog w8.drew = .ok () (w8.drew.setRow q3' (zl.map (Value.int .u8)).toArray) := by
                  rw [run_storeCells_at (P := Try.prog) q3' 0 79 (zl.map (Value.int .u8)) 0 _ w8.drew hH8.out (by simp [hdb, hzl32]) (one_u8 zl)]
                  simp [hzl32]
                  rw [List.drop_of_length_le (by simp [hdb]), List.append_nil]
                go_upto_region 35 with (fail)
                obtain ⟨w9, hw9⟩ : ∃ w9, w8.drew.setRow q3' (zl.map (Value.int .u8)).toArray = w9 := ⟨_, rfl⟩
                have hb9 : Below q3' w7 w9 := by rw [← hw9]; exact below_setRow hb8.drew (Nat.le_refl _) _
                have hH9 : w9.heap[q3']? = some (.cells (zl.map (Value.int .u8)).toArray 79 (0, 0)) := by rw [← hw9]; exact setRow_heap _ _ _ _ _ _ hH8.out
                rw [hw9]
                clear hw9 hst3 hlk c2x hm8 hF8
                have g0 : (0 : Int) ≤ (t : Int) := by omega
                have g1 : (t : Int) ≤ 32 := by omega
                refine Mo.region 5 [0, 0, 0, 4, 14, 31] (fun w' => w' = w9.drew) (fun _ => Eq) (fun _ _ => True) (fun k _ v _ => k = 3 → v = .int .i64 t) rfl (fun _ => trivial) (fun _ _ _ h k => k ▸ h) (fun _ _ _ _ _ _ _ _ _ h => h) (fun _ _ _ _ _ _ _ _ _ => trivial) mixed (by kernel_rfl) ?_
                simp only [List.take_succ_cons, List.take_zero, List.drop_succ_cons, List.drop_zero]
                refine Mo.val (v := ?_) (fun _ => rfl) (by rfl) (fun _ _ _ hk_ => (by cases hk_)) ?_ ?_
                rotate_left
                · (intro w' hT hP hF; cases hT; go_simp; with_reducible rfl)
                simp only [Act.put, List.setIfInBounds_toArray, List.set_cons_zero, List.set_cons_succ]
                refine Mo.val (v := ?_) (fun _ => rfl) (by rfl) (fun _ _ _ hk_ => (by cases hk_)) ?_ ?_
                rotate_left
                · (intro w' hT hP hF; cases hT; go_simp; with_reducible rfl)
                simp only [Act.put, List.setIfInBounds_toArray, List.set_cons_zero, List.set_cons_succ]
                refine Mo.val (v := ?_) (fun _ => rfl) (by rfl) (fun _ _ _ hk_ => (by cases hk_)) ?_ ?_
                rotate_left
                · (intro w' hT hP hF; cases hT; go_simp; with_reducible rfl)
                simp only [Act.put, List.setIfInBounds_toArray, List.set_cons_zero, List.set_cons_succ]
                refine Mo.any (by rfl) ?_ ?_
                · intro w' hT hP hF
                  cases hT
                  go_simp
                  show Calls _ _ _ _ _
                  refine (round_calls torn 33 w9.drew htn (by omega) (by omega)).mono ?_
                  rintro e w1 ⟨rfl, rfl⟩
                  exact ⟨_, rfl, rfl, by rw [ht]⟩
                simp only [Act.put, List.setIfInBounds_toArray, List.set_cons_zero, List.set_cons_succ]
                rintro v140 ⟨_, _, hv140⟩
                obtain rfl := hv140 trivial
                refine Mo.val (v := ?_) (fun _ => rfl) (by rfl) (fun _ _ _ hk_ => (by cases hk_)) ?_ ?_
                rotate_left
                · (intro w' hT hP hF; cases hT; go_simp; with_reducible rfl)
                simp only [Act.put, List.setIfInBounds_toArray, List.set_cons_zero, List.set_cons_succ]
                refine Mo.done ?_
                rintro w' rfl - -
                have hb9d : Below q3' w7 w9.drew := hb9.drew
                have hR9 : w9.drew.rangeAt q2' 1 (db.map (.int .u8)) := fun i u hu => by
                  have h1 := HR7.out i u hu
                  rw [hb9d.cell (p := ⟨q2', _, none⟩) hq23]
                  exact h1
                obtain ⟨tl, htl⟩ : ∃ tl, db.take t = tl := ⟨_, rfl⟩
                have htll : tl.length = t := by rw [← htl]; simp [hdb]; omega
                obtain ⟨bl, hbl_⟩ : ∃ bl, tl ++ zl.drop t = bl := ⟨_, rfl⟩
                have hbl : bl.length = 32 := by rw [← hbl_]; simp [htll, hzl32]; omega
                have htk : ∀ (i : Nat) (u : Value), (tl.map (Value.int .u8))[i]? = some u → (db.map (Value.int .u8))[i]? = some u := fun i u hu => by
                  rw [← htl, List.map_take, List.getElem?_take] at hu
                  split at hu
                  · exact hu
                  · cases hu
                have hcp : (Builtin.copy_ #[31, 31] 3 #[.slice (some ⟨q3', 0, none⟩) 32 32, .slice (some ⟨q2', 1, none⟩) t 32]).run Try.prog w9.drew = .ok (.int .i64 t) (w9.drew.setRow q3' (bl.map (Value.int .u8)).toArray) := by
                  rw [run_copy_row (P := Try.prog) w9.drew 31 31 3 5 q3' 0 32 32 ⟨q2', 1, none⟩ t 32 _ 79 (tl.map (Value.int .u8)) Try.underlying31 size_u8 hH9 (by rw [List.length_map, htll]; exact (Nat.min_eq_left ht32).symm) (fun i u hu => by rw [Addr.add_mid]; exact hR9 i u (htk i u hu)) (by simp [htll, hzl32]; omega) (one_u8 _), ← hbl_]
                  simp [htll, goInt]
                go_upto_region 36 with (fail)
                obtain ⟨w10, hw10⟩ : ∃ w10, w9.drew.setRow q3' (bl.map (Value.int .u8)).toArray = w10 := ⟨_, rfl⟩
                have hb10 : Below q3' w7 w10 := by rw [← hw10]; exact below_setRow hb9d (Nat.le_refl _) _
                have hH10 : Sh (w10.heap[q3']? = some (.cells (bl.map (Value.int .u8)).toArray 79 (0, 0))) := ⟨by rw [← hw10]; exact setRow_heap _ _ _ _ _ _ hH9⟩
                have htorn : tornOf t (layN t kw N k) (dm, db) = bl := by
                  unfold tornOf
                  rw [hzl, htl, hbl_]
                rw [hw10]
                clear hw10 hcp hH9 hb9 hb9d hR9
                have hm10 := hm7.kept' (Kept.of_below (S := fun _ => False) (hq3' ▸ hb10)) (fun _ _ e => e)
                have ho10 := own_kept ho7 (Kept.of_below (S := fun _ => False) (hq3' ▸ hb10)) (fun _ _ e => e)
                have hF10 : w10.cell? ⟨q2', 0, none⟩ = some (.int .i64 dm) := by rw [hb10.cell hq23]; exact HF7.out
                have hR10 : w10.drew.rangeAt q3' 0 (bl.map (.int .u8)) := fun i u hu => by
                  rw [Nat.zero_add]
                  simp only [World.drew, World.cell?, hH10.out]
                  simpa using hu
                have c2x : w10.cell? ⟨xb, 2, none⟩ = some (.map (some x2)) := by simp [World.cell?, hm10.head]
                refine Mo.region 7 [0, 1, 3, 7, 0, 16, 0, 127] (fun w' => w' = w10.drew) (fun _ => Eq) (fun _ _ => True) (fun _ _ _ _ => True) rfl (fun _ => trivial) (fun _ _ _ h k => k ▸ h) (fun _ _ _ _ _ _ _ _ _ _ => trivial) (fun _ _ _ _ _ _ _ _ _ => trivial) mixed (by kernel_rfl) ?_
                simp only [List.take_succ_cons, List.take_zero, List.drop_succ_cons, List.drop_zero]
                refine Mo.val (v := ?_) (fun _ => rfl) (by rfl) (fun _ _ _ => trivial) ?_ ?_
                rotate_left
                · (intro w' hT hP hF; cases hT; go_simp; with_reducible rfl)
                simp only [Act.put, List.setIfInBounds_toArray, List.set_cons_zero, List.set_cons_succ]
                refine Mo.val (v := ?_) (fun _ => rfl) (by rfl) (fun _ _ _ => trivial) ?_ ?_
                rotate_left
                · (intro w' hT hP hF; cases hT; go_simp; with_reducible rfl)
                simp only [Act.put, List.setIfInBounds_toArray, List.set_cons_zero, List.set_cons_succ]
                refine Mo.val (v := ?_) (fun _ => rfl) (by rfl) (fun _ _ _ => trivial) ?_ ?_
                rotate_left
                · (intro w' hT hP hF; cases hT; go_simp; with_reducible rfl)
                simp only [Act.put, List.setIfInBounds_toArray, List.set_cons_zero, List.set_cons_succ]
                refine Mo.val (v := ?_) (fun _ => rfl) (by rfl) (fun _ _ _ => trivial) ?_ ?_
                rotate_left
                · (intro w' hT hP hF; cases hT; go_simp; with_reducible rfl)
                simp only [Act.put, List.setIfInBounds_toArray, List.set_cons_zero, List.set_cons_succ]
                refine Mo.val (v := ?_) (fun _ => rfl) (by rfl) (fun _ _ _ => trivial) ?_ ?_
                rotate_left
                · (intro w' hT hP hF; cases hT; go_simp; with_reducible rfl)
                simp only [Act.put, List.setIfInBounds_toArray, List.set_cons_zero, List.set_cons_succ]
                refine Mo.val (v := ?_) (fun _ => rfl) (by rfl) (fun _ _ _ => trivial) ?_ ?_
                rotate_left
                · (intro w' hT hP hF; cases hT; go_simp; with_reducible rfl)
                simp only [Act.put, List.setIfInBounds_toArray, List.set_cons_zero, List.set_cons_succ]
                refine Mo.val (v := ?_) (fun _ => rfl) (by rfl) (fun _ _ _ => trivial) ?_ ?_
                rotate_left
                · (intro w' hT hP hF; refine exec_load_mid (P := Try.prog) 79 (.tmp 23) ?_ ?_ (show w'.rangeAt q3' 0 (bl.map (.int .u8)) by cases hT; exact hR10) Try.underlying79 rfl (by rw [size_blk]; simp [hbl]) <;> rfl)
                simp only [Act.put, List.setIfInBounds_toArray, List.set_cons_zero, List.set_cons_succ]
                refine Mo.done ?_
                rintro w' rfl - -
                obtain ⟨es, ck, hup, hes⟩ := run_put (P := Try.prog) (w := w10.drew) (m := x2) (M := bmap (layN t kw N k)) hm10.now Try.underlying73 Try.underlying3 dm (blk bl)
                unfold blk at hup
                go_wp2_with fail
                go_roundg g1_
                case measure => omega
                case rel =>
                  refine ⟨k + 1, by go_num, by omega, ⟨?_, ?_⟩⟩
                  · rw [lay_succ t kw N k _ hck]
                    simp only [if_pos hlast, htorn]
                    exact hm10.drew.put (n := dm) (l := bl) hes
                  · have hK : Kept (fun i => i = x2) w10 (ChangeMaps.setBlock w10.drew x2 (.map es ck)) := (Kept.refl (fun i => i = x2) w10).drew.setBlock (Or.inr rfl) _
                    exact own_kept ho10 hK (fun i hi e => (own_not ho10 hm10 i hi).2.2.2 e)
              · have q5 : ¬ ((k : Int) = (kw.length : Int) - 1) := by omega
                have q6 : IntKind.i64.wrap ((kw.length : Int) - 1) = (kw.length : Int) - 1 := IntWalk.i64_in _ (by omega)
                go_upto_region 36 with (fail)
                have hm10 := hm7.kept' (Kept.of_below (S := fun _ => False) (hq3' ▸ hb8)) (fun _ _ e => e)
                have ho10 := own_kept ho7 (Kept.of_below (S := fun _ => False) (hq3' ▸ hb8)) (fun _ _ e => e)
                have hF10 : w8.cell? ⟨q2', 0, none⟩ = some (.int .i64 dm) := by rw [hb8.cell hq23]; exact HF7.out
                have hR10 : w8.drew.rangeAt q3' 0 (db.map (.int .u8)) := fun i u hu => by
                  rw [Nat.zero_add]
                  simp only [World.drew, World.cell?, hH8.out]
                  simpa using hu
                have c2x : w8.cell? ⟨xb, 2, none⟩ = some (.map (some x2)) := by simp [World.cell?, hm10.head]
                refine Mo.region 7 [0, 1, 3, 7, 0, 16, 0, 127] (fun w' => w' = w8.drew) (fun _ => Eq) (fun _ _ => True) (fun _ _ _ _ => True) rfl (fun _ => trivial) (fun _ _ _ h k => k ▸ h) (fun _ _ _ _ _ _ _ _ _ _ => trivial) (fun _ _ _ _ _ _ _ _ _ => trivial) mixed (by kernel_rfl) ?_
                simp only [List.take_succ_cons, List.take_zero, List.drop_succ_cons, List.drop_zero]
                refine Mo.val (v := ?_) (fun _ => rfl) (by rfl) (fun _ _ _ => trivial) ?_ ?_
                rotate_left
                · (intro w' hT hP hF; cases hT; go_simp; with_reducible rfl)
                simp only [Act.put, List.setIfInBounds_toArray, List.set_cons_zero, List.set_cons_succ]
                refine Mo.val (v := ?_) (fun _ => rfl) (by rfl) (fun _ _ _ => trivial) ?_ ?_
                rotate_left
                · (intro w' hT hP hF; cases hT; go_simp; with_reducible rfl)
                simp only [Act.put, List.setIfInBounds_toArray, List.set_cons_zero, List.set_cons_succ]
                refine Mo.val (v := ?_) (fun _ => rfl) (by rfl) (fun _ _ _ => trivial) ?_ ?_
                rotate_left
                · (intro w' hT hP hF; cases hT; go_simp; with_reducible rfl)
                simp only [Act.put, List.setIfInBounds_toArray, List.set_cons_zero, List.set_cons_succ]
                refine Mo.val (v := ?_) (fun _ => rfl) (by rfl) (fun _ _ _ => trivial) ?_ ?_
                rotate_left
                · (intro w' hT hP hF; cases hT; go_simp; with_reducible rfl)
                simp only [Act.put, List.setIfInBounds_toArray, List.set_cons_zero, List.set_cons_succ]
                refine Mo.val (v := ?_) (fun _ => rfl) (by rfl) (fun _ _ _ => trivial) ?_ ?_
                rotate_left
                · (intro w' hT hP hF; cases hT; go_simp; with_reducible rfl)
                simp only [Act.put, List.setIfInBounds_toArray, List.set_cons_zero, List.set_cons_succ]
                refine Mo.val (v := ?_) (fun _ => rfl) (by rfl) (fun _ _ _ => trivial) ?_ ?_
                rotate_left
                · (intro w' hT hP hF; cases hT; go_simp; with_reducible rfl)
                simp only [Act.put, List.setIfInBounds_toArray, List.set_cons_zero, List.set_cons_succ]
                refine Mo.val (v := ?_) (fun _ => rfl) (by rfl) (fun _ _ _ => trivial) ?_ ?_
                rotate_left
                · (intro w' hT hP hF; refine exec_load_mid (P := Try.prog) 79 (.tmp 23) ?_ ?_ (show w'.rangeAt q3' 0 (db.map (.int .u8)) by cases hT; exact hR10) Try.underlying79 rfl (by rw [size_blk]; simp [hdb]) <;> rfl)
                simp only [Act.put, List.setIfInBounds_toArray, List.set_cons_zero, List.set_cons_succ]
                refine Mo.done ?_
                rintro w' rfl - -
                obtain ⟨es, ck, hup, hes⟩ := run_put (P := Try.prog) (w := w8.drew) (m := x2) (M := bmap (layN t kw N k)) hm10.now Try.underlying73 Try.underlying3 dm (blk db)
                unfold blk at hup
                go_wp2_with fail
                go_roundg g1_
                case measure => omega
                case rel =>
                  refine ⟨k + 1, by go_num, by omega, ⟨?_, ?_⟩⟩
                  · rw [lay_succ t kw N k _ hck]
                    simp only [if_neg hlast]
                    exact hm10.drew.put (n := dm) (l := db) hes
                  · have hK : Kept (fun i => i = x2) w8 (ChangeMaps.setBlock w8.drew x2 (.map es ck)) := (Kept.refl (fun i => i = x2) w8).drew.setBlock (Or.inr rfl) _
                    exact own_kept ho10 hK (fun i hi e => (own_not ho10 hm10 i hi).2.2.2 e)
        case rest =>
          have hfin : layN t kw N kw.length = D.cutM at_ keep torn := by
            unfold St.cutM
            rw [hp, ht]
            simp only [Int.toNat_natCast]
            rw [← hdr, hkw]
          obtain ⟨FF, hFF⟩ : ∃ FF, D.cutM at_ keep torn = FF := ⟨_, rfl⟩
          rw [hfin, hFF] at hcut
          have hcok := St.cut_ok h.ok at_ keep torn
          have hfine : ∀ n l, FF n = some l → l.length = 32 := fun n l hl => hcok.now n l (by show D.cutM at_ keep torn n = some l; rw [hFF]; exact hl)
          obtain ⟨o, cnt, hrun, hgo⟩ := run_range (P := Try.prog) hcut.now Try.underlying73
          have hbl := hcut.below.size
          obtain ⟨lt1, lt2, lt3⟩ := hcut.lt
          have HM3 : Filling w (wc.alloc o) xb x1 x2 D.size (fun _ => none) FF := (hcut.kept' (S := fun _ => False) ((Kept.refl _ _).alloc o) (fun _ _ e => e)).fill
          have c2x : wc.cell? ⟨xb, 2, none⟩ = some (.map (some x2)) := by simp [World.cell?, hcut.head]
          clear hok3 hm3
          go_upto_block 10 with (fail)
          obtain ⟨w3, hw3⟩ : ∃ w3, wc.alloc o = w3 := ⟨_, rfl⟩
          obtain ⟨r, hr⟩ : ∃ r, wc.heap.size = r := ⟨_, rfl⟩
          rw [hr] at hgo ⊢
          rw [hw3] at hgo HM3 ⊢
          have hrw : w.heap.size ≤ r := by omega
          rw [hr] at lt1 lt2 lt3
          clear hrun hw3 hr hbl c2x
          go_cut [] (fun wx => Filling w wx xb x1 x2 D.size FF FF)
          case first =>
            go_wp2_with fail
            go_loopg [] cnt (fun kq w' => ∃ left F c, Sh (Goes w' r x2 (bmap FF) left c ∧ Filling w w' xb x1 x2 D.size F FF ∧ (∀ n, F n = if left n = true then none else FF n)) ∧ c ≤ kq)
            case atStart => exact ⟨_, _, _, ⟨hgo, HM3, fun n => by cases hn_ : FF n <;> simp [bmap, hn_]⟩, Nat.le_refl _⟩
            case round =>
              obtain ⟨left, F, c, ⟨hg, hm, hN⟩, hc⟩ := hrel
              rcases run_next (P := Try.prog) hg 0 with ⟨hl, hx⟩ | ⟨n, v, w4, c', hl, hv, hx, he, hg', hc', hk⟩
              · go_wp2_with fail
                go_meet
                case rel =>
                  have : F = FF := by funext k; rw [hN k, hl k]; rfl
                  exact this ▸ hm
              · have hmM := hm.kept' hk (fun i hi e => by rcases hi with hi | hi | hi | hi <;> omega)
                obtain ⟨l, hl1, rfl⟩ := Option.map_eq_some_iff.1 hv
                have hl32 := hfine n l hl1
                have hst := fun (W : World) (c : Array Value) (hc : c.size = 32) => run_storeCells_new (P := Try.prog) W 79 c (l.map (Value.int .u8)).toArray (by rw [size_blk]; simp [hl32]) (by simp [hl32, hc]) (all_oneCell_toArray (one_u8 l))
                unfold blk at hx he
                go_upto_region 41 with (fail)
                obtain ⟨w5, hw5⟩ : ∃ w5, w4.alloc (.cells (l.map (Value.int .u8)).toArray 79) = w5 := ⟨_, rfl⟩
                have hb5 : Below w4.heap.size w4 w5 := by rw [← hw5]; exact (Below.refl _ _).alloc (Nat.le_refl _) _
                have hg5 := hg'.kept (Kept.of_below (S := fun _ => False) hb5) (fun e => e) (fun e => e)
                have hm5 := hmM.kept' (Kept.of_below (S := fun _ => False) hb5) (fun _ _ e => e)
                have hr5 : w5.drew.rangeAt w4.heap.size 0 (l.map (.int .u8)) := fun j u hu => by
                  rw [← hw5, Nat.zero_add]
                  simp only [World.drew, World.cell?, heap_alloc_new]
                  simpa using hu
                have c1x : w5.cell? ⟨xb, 1, none⟩ = some (.map (some x1)) := by simp [World.cell?, hm5.head]
                rw [hw5]
                clear hx he hst hw5 hg hm hg' hmM hv
                refine Mo.region 6 [0, 1, 3, 7, 0, 0, 63] (fun w' => w' = w5.drew) (fun _ => Eq) (fun _ _ => True) (fun _ _ _ _ => True) rfl (fun _ => trivial) (fun _ _ _ h k => k ▸ h) (fun _ _ _ _ _ _ _ _ _ _ => trivial) (fun _ _ _ _ _ _ _ _ _ => trivial) mixed (by kernel_rfl) ?_
                simp only [List.take_succ_cons, List.take_zero, List.drop_succ_cons, List.drop_zero]
                refine Mo.val (v := ?_) (fun _ => rfl) (by rfl) (fun _ _ _ => trivial) ?_ ?_
                rotate_left
                · (intro w' hT hP hF; cases hT; go_simp; with_reducible rfl)
                simp only [Act.put, List.setIfInBounds_toArray, List.set_cons_zero, List.set_cons_succ]
                refine Mo.val (v := ?_) (fun _ => rfl) (by rfl) (fun _ _ _ => trivial) ?_ ?_
                rotate_left
                · (intro w' hT hP hF; cases hT; go_simp; with_reducible rfl)
                simp only [Act.put, List.setIfInBounds_toArray, List.set_cons_zero, List.set_cons_succ]
                refine Mo.val (v := ?_) (fun _ => rfl) (by rfl) (fun _ _ _ => trivial) ?_ ?_
                rotate_left
                · (intro w' hT hP hF; cases hT; go_simp; with_reducible rfl)
                simp only [Act.put, List.setIfInBounds_toArray, List.set_cons_zero, List.set_cons_succ]
                refine Mo.val (v := ?_) (fun _ => rfl) (by rfl) (fun _ _ _ => trivial) ?_ ?_
                rotate_left
                · (intro w' hT hP hF; cases hT; go_simp; with_reducible rfl)
                simp only [Act.put, List.setIfInBounds_toArray, List.set_cons_zero, List.set_cons_succ]
                refine Mo.val (v := ?_) (fun _ => rfl) (by rfl) (fun _ _ _ => trivial) ?_ ?_
                rotate_left
                · (intro w' hT hP hF; cases hT; go_simp; with_reducible rfl)
                simp only [Act.put, List.setIfInBounds_toArray, List.set_cons_zero, List.set_cons_succ]
                refine Mo.val (v := ?_) (fun _ => rfl) (by rfl) (fun _ _ _ => trivial) ?_ ?_
                rotate_left
                · (intro w' hT hP hF; refine exec_load_mid (P := Try.prog) 79 (.tmp 25) ?_ ?_ (show w'.rangeAt w4.heap.size 0 (l.map (.int .u8)) by cases hT; exact hr5) Try.underlying79 rfl (by rw [size_blk]; simp [hl32]) <;> rfl)
                simp only [Act.put, List.setIfInBounds_toArray, List.set_cons_zero, List.set_cons_succ]
                refine Mo.done ?_
                rintro w' rfl - -
                obtain ⟨es, ck, hup, hes⟩ := run_put (P := Try.prog) (w := w5.drew) (m := x1) (M := bmap F) hm5.first Try.underlying73 Try.underlying3 n (blk l)
                unfold blk at hup
                go_wp2_with fail
                obtain ⟨g1_, rfl⟩ : ∃ z, gk = z + 1 := ⟨gk - 1, by omega⟩
                go_roundg g1_
                case measure => omega
                case rel =>
                  have hm6 := hm5.drew.put (n := n) (l := l) hes
                  refine ⟨fun k => if k = n then false else left k, upd F n l, c', ⟨?_, hm6, fun k => ?_⟩, by omega⟩
                  · refine hg5.kept (S := fun k => k = x1) ((Kept.refl (fun k => k = x1) w5).drew.setBlock (Or.inr rfl) _) (fun e => ?_) (fun e => by omega)
                    exact hm5.apart e.symm
                  · show upd F n l k = if (if k = n then false else left k) = true then none else FF k
                    unfold upd
                    by_cases hkn : k = n
                    · subst hkn
                      rw [if_pos rfl, if_pos rfl, hl1]
                      rfl
                    · rw [if_neg hkn, if_neg hkn]
                      exact hN k
          case rest =>
            go_wp2_with fail
            go_ret
            refine ⟨xb, rfl, x1, x2, hcut.made _ hcok rfl hFF hFF rfl, hcut.below, fun i hi => ?_⟩
            rcases hi with hi | hi | hi | hi
            · have := hcut.newb; omega
            · have := hcut.new1; omega
            · have := hcut.new2; omega
            · cases hi
end Go.Proofs.Ytinhednmfldmbaa.Dk
