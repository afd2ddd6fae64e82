/- Commits' records, one behind the other: plainly. CommitsRow, walked. -/
import Derived.Test.YtnemnhfdjofckaaQF
import Derived.Test.YtnemnhfdjofckaaQC
import Derived.Sort.QuietTacIn
namespace Go.Proofs.Ytnemnhfdjofckaa.Co
open Go Go.RowKit Hp Go.Proofs.Ytnemnhfdjofckaa.Fr Go.Proofs.Ytnemnhfdjofckaa.Ck Go.Proofs.YtnemnhfdjofckaaW.PrintWords Go.Proofs.YtnemnhfdjofckaaW.PrintMore Go.Proofs.Ytnemnhfdjofckaa.Print Go.Proofs.Ytnemnhfdjofckaa.Rt
/-- The records of commits numbered from j on. -/
def catf : Nat → List (List S56) → List (List Int)
  | _, [] => []
  | j, f :: r => recs (j : Int) (flat f) ++ catf (j + 1) r
/-- All are right, and small. -/
def Allr : Nat → List (List S56) → Prop
  | _, [] => True
  | j, f :: r => rightd (j : Int) f = true ∧ Small f ∧ Allr (j + 1) r
/-- How many records a commit has. -/
def cnt (f : List S56) : Nat := max 1 (count (flat f).length)
theorem cnt_len (j : Int) (f : List S56) : (recs j (flat f)).length = cnt f := recs_count j (flat f)
theorem cnt_pos (f : List S56) : 0 < cnt f := by unfold cnt; omega
theorem catf_snoc : ∀ (fs : List (List S56)) (j : Nat) (f : List S56), catf j (fs ++ [f]) = catf j fs ++ recs ((j + fs.length : Nat) : Int) (flat f)
  | [], j, f => by rw [List.nil_append, catf, catf, catf, List.append_nil, List.nil_append]; rfl
  | g :: fs, j, f => by
    rw [List.cons_append, catf, catf_snoc fs (j + 1) f, catf, List.append_assoc, List.length_cons, show j + 1 + fs.length = j + (fs.length + 1) by omega]
theorem allr_cons {j : Nat} {f : List S56} {fs : List (List S56)} : Allr j (f :: fs) ↔ (rightd (j : Int) f = true ∧ Small f ∧ Allr (j + 1) fs) := by rw [Allr]
theorem allr_snoc (f : List S56) (hs : Small f) (fs : List (List S56)) : ∀ (j : Nat), Allr j fs → rightd ((j + fs.length : Nat) : Int) f = true → Allr j (fs ++ [f]) := by
  induction fs with
  | nil =>
    intro j _ h
    rw [List.nil_append, allr_cons]
    rw [List.length_nil, Nat.add_zero] at h
    exact And.intro h (And.intro hs trivial)
  | cons g fs ih =>
    intro j h hr
    rw [List.cons_append, allr_cons]
    obtain ⟨h1, h2, h3⟩ := allr_cons.1 h
    rw [List.length_cons, show j + (fs.length + 1) = j + 1 + fs.length by omega] at hr
    exact And.intro h1 (And.intro h2 (ih (j + 1) h3 hr))
theorem allr_small (fs : List (List S56)) : ∀ (j : Nat), Allr j fs → ∀ f ∈ fs, Small f := by
  induction fs with
  | nil => intro j _ f hf; simp at hf
  | cons g fs ih =>
    intro j h f hf
    obtain ⟨_, h2, h3⟩ := allr_cons.1 h
    rcases List.mem_cons.1 hf with rfl | hf
    · exact h2
    · exact ih (j + 1) h3 f hf
theorem catf_recs : ∀ (fs : List (List S56)) (j : Nat), Allr j fs → (∀ l ∈ catf j fs, l.length ≤ 5000 ∧ Byt l) ∧ (catf j fs).length ≤ 200 * fs.length
  | [], j, _ => by simp [catf]
  | f :: fs, j, h => by
    obtain ⟨g1, g2, g3⟩ := allr_cons.1 h
    obtain ⟨h1, h2⟩ := catf_recs fs (j + 1) g3
    obtain ⟨h3, h4⟩ := recs_ok (n := (j : Int)) g2
    refine ⟨fun l hl => ?_, ?_⟩
    · rw [catf] at hl
      rcases List.mem_append.1 hl with hl | hl
      · exact h3.2 l hl
      · exact h1 l hl
    · rw [catf, List.length_append, List.length_cons]
      omega
theorem catf_good {j : Nat} {f : List S56} {fs : List (List S56)} (h : Allr j (f :: fs)) (more : List (List Int)) : Good (recs (j : Int) (flat f) ++ more) (j : Int) f (cnt f) :=
  good_recs (allr_cons.1 h).1 (by have := small_count (allr_cons.1 h).2.1; omega) more
/-- All of them again. -/
theorem alld_cat : ∀ (fs : List (List S56)) (j k : Nat), Allr j fs → fs.length < k → alld k (catf j fs) = fs.zipIdx.map fun x => (((j + x.2 : Nat) : Int), x.1)
  | [], j, k, _, _ => by rw [catf, alld_nil]; rfl
  | f :: fs, j, k, h, hk => by
    obtain ⟨k', rfl⟩ : ∃ k', k = k' + 1 := ⟨k - 1, by simp at hk; omega⟩
    rw [catf, alld_good (catf_good h (catf (j + 1) fs)), List.drop_append_of_le_length (by rw [cnt_len]; exact Nat.le_refl _), List.drop_eq_nil_of_le (by rw [cnt_len]; exact Nat.le_refl _), List.nil_append, alld_cat fs (j + 1) k' (allr_cons.1 h).2.2 (by simp at hk; omega)]
    rw [List.zipIdx_cons, List.map_cons, Nat.zero_add, List.zipIdx_succ, List.map_map]
    congr 1
    apply List.map_congr_left
    intro x _
    simp only [Function.comp]
    congr 2
    omega
/-- How many commits are whole in the first m records. -/
def whole : List (List S56) → Nat → Nat
  | [], _ => 0
  | f :: fs, m => if cnt f ≤ m then 1 + whole fs (m - cnt f) else 0
theorem alld_take : ∀ (fs : List (List S56)) (j k m : Nat), Allr j fs → m < k → (alld k ((catf j fs).take m)).length = whole fs m
  | [], j, k, m, _, _ => by rw [catf, List.take_nil, alld_nil]; rfl
  | f :: fs, j, k, m, h, hk => by
    obtain ⟨k', rfl⟩ : ∃ k', k = k' + 1 := ⟨k - 1, by omega⟩
    have hl := cnt_len (j : Int) f
    rw [whole]
    by_cases c : cnt f ≤ m
    · rw [if_pos c]
      have e : (catf j (f :: fs)).take m = recs (j : Int) (flat f) ++ (catf (j + 1) fs).take (m - cnt f) := by
        rw [catf, List.take_append, List.take_of_length_le (by omega), hl]
      rw [e, alld_good (catf_good h _), List.drop_append_of_le_length (by rw [hl]; exact Nat.le_refl _), List.drop_eq_nil_of_le (by rw [hl]; exact Nat.le_refl _), List.nil_append, List.length_cons, alld_take fs (j + 1) k' (m - cnt f) (allr_cons.1 h).2.2 (by have := cnt_pos f; omega)]
      omega
    · rw [if_neg c, catf]
      have hs := good_short (catf_good h (catf (j + 1) fs)) (i := m) (by omega)
      rw [alld, hs, if_neg (by decide)]
      rfl
/-- Where the commits end. -/
theorem catf_len : ∀ (fs : List (List S56)) (j : Nat), (catf j fs).length = (fs.map cnt).sum
  | [], _ => rfl
  | f :: fs, j => by rw [catf, List.length_append, cnt_len, catf_len fs (j + 1), List.map_cons, List.sum_cons]
def ends (fs : List (List S56)) (i : Nat) : Nat := ((fs.take (i + 1)).map cnt).sum
theorem whole_le : ∀ (fs : List (List S56)) (m : Nat), whole fs m ≤ fs.length
  | [], _ => Nat.le_refl _
  | f :: fs, m => by
    rw [whole, List.length_cons]
    split
    · have := whole_le fs (m - cnt f); omega
    · omega
theorem whole_spec : ∀ (fs : List (List S56)) (m i : Nat), i < fs.length → (i < whole fs m ↔ ends fs i ≤ m)
  | [], _, _, h => by simp at h
  | f :: fs, m, 0, _ => by
    rw [whole]
    unfold ends
    simp only [List.take_succ_cons, List.take_zero, List.map_cons, List.map_nil, List.sum_cons, List.sum_nil, Nat.add_zero]
    split <;> omega
  | f :: fs, m, i + 1, h => by
    have ih := whole_spec fs (m - cnt f) i (by simpa using h)
    rw [whole]
    unfold ends at ih ⊢
    rw [List.take_succ_cons, List.map_cons, List.sum_cons]
    split
    · omega
    · constructor
      · omega
      · intro h2
        omega
end Go.Proofs.Ytnemnhfdjofckaa.Co

namespace Go.Proofs.Ytnemnhfdjofckaa.Rd
open Go Go.WideShapes
section
variable {P : Program} {w : World} {t : TypeId} {cs : List Value}
theorem rd_array {e : TypeId} {m : Nat} (ht : P.underlying t = some (.array m e)) (h : Rd P w t cs) : cs.length = P.cellsOf t ∧ ∀ i, i < m → Rd P w e ((cs.drop (i * P.cellsOf e)).take (P.cellsOf e)) := by
  obtain ⟨H, enc, fuel, d, ps, h, hs⟩ := h
  cases fuel with
  | zero => simp [DataW.trod] at h
  | succ fuel =>
    unfold DataW.trod at h
    rw [ht] at h
    simp only at h
    split at h
    case isFalse => cases h
    rename_i hl
    obtain ⟨xs, hxs, heq⟩ := Option.map_eq_some_iff.1 h
    obtain ⟨hd, _⟩ := Prod.mk.inj heq
    subst hd
    obtain ⟨l1, g1⟩ := mapM_some hxs
    refine ⟨hl, fun i hi => ?_⟩
    obtain ⟨y, hy, htr⟩ := g1 i i (by rw [List.getElem?_range hi])
    refine ⟨H, enc, fuel, y.1, y.2, htr, fun n hn => hs n ?_⟩
    simp only [DataW.weights, ht]
    exact weightsAll_mem (List.mem_map.2 ⟨y, List.mem_of_getElem? hy, rfl⟩) hn
theorem arg_array {m : Nat} {e : TypeId} (ht : P.underlying t = some (.array m e)) {v : Value} (h : Arg P w t v) : ∃ cs, v = .agg cs ∧ cs.toList.length = P.cellsOf t ∧ ∀ i, i < m → Rd P w e ((cs.toList.drop (i * P.cellsOf e)).take (P.cellsOf e)) := by
  obtain ⟨⟨b, ho⟩, hr⟩ := h
  have : ∃ cs, v = .agg cs := by
    unfold Value.okWide at ho
    rw [ht] at ho
    obtain ⟨cs, rfl, _⟩ := ho
    exact ⟨cs, rfl⟩
  obtain ⟨cs, rfl⟩ := this
  exact ⟨cs, rfl, rd_array ht hr⟩
end
end Go.Proofs.Ytnemnhfdjofckaa.Rd

namespace Go.Proofs.Ytnemnhfdjofckaa.Co
open Go Go.RowKit Hp Rd Go.Proofs.Ytnemnhfdjofckaa.Fr Go.Proofs.Ytnemnhfdjofckaa.Ck Go.Proofs.YtnemnhfdjofckaaW.PrintWords Go.Proofs.YtnemnhfdjofckaaW.PrintMore Go.Proofs.Ytnemnhfdjofckaa.Print Go.Proofs.Ytnemnhfdjofckaa.Rt
/-- One of the three: its files' row. -/
structure Bx where
  A : Option Addr
  l : List S54
  c : Nat
def Bx.v (d : Bx) : Value := .slice d.A d.l.length d.c
theorem sz_three : Try.prog.cellsOf 49 = 3 ∧ Try.prog.cellsOf 22 = 1 := ⟨by kernel_rfl, by kernel_rfl⟩
theorem arg_three {w : World} {v : Value} (h : Arg Try.prog w 49 v) : ∃ D : List Bx, D.length = 3 ∧ v = .agg (D.map Bx.v).toArray ∧ ∀ d ∈ D, d.l.length ≤ d.c ∧ Kd.C k54 w d.A d.l.length d.l := by
  obtain ⟨z1, z2⟩ := sz_three
  obtain ⟨cs, rfl, hl, hr⟩ := arg_array Try.underlying49 h
  rw [z1] at hl
  rw [z2] at hr
  obtain ⟨D, hD, hp⟩ := some_list (p := fun i (d : Bx) => cs.toList[i]? = some d.v ∧ d.l.length ≤ d.c ∧ Kd.C k54 w d.A d.l.length d.l) 3 (fun i hi => by
    obtain ⟨A, l, c, h1, h2, _, h3, _⟩ := rd_C k54 Try.underlying22 sz_big.2.2 (fun _ hc => rd_big hc) (hr i hi)
    refine ⟨⟨A, l, c⟩, ?_, h2, h3⟩
    have h4 : ((cs.toList.drop (i * 1)).take 1)[0]? = some (.slice A l.length c) := by rw [h1]; rfl
    rw [List.getElem?_take_of_lt (by omega), List.getElem?_drop, Nat.mul_one, Nat.add_zero] at h4
    exact h4)
  refine ⟨D, hD, ?_, fun d hd => ?_⟩
  · have : cs.toList = D.map Bx.v := by
      apply List.ext_getElem?
      intro i
      rw [List.getElem?_map]
      cases hx : D[i]? with
      | none => rw [List.getElem?_eq_none (by rw [hl, ← hD]; exact List.getElem?_eq_none_iff.1 hx)]; rfl
      | some d => exact (hp i d hx).1
    rw [← this]
  · obtain ⟨i, hi⟩ := List.mem_iff_getElem?.1 hd
    exact (hp i d hi).2
/-- A commit's files, and where they lie. -/
structure Fs where
  A : Option Addr
  l : List S56
  c : Nat
def Fs.v (f : Fs) : Value := .slice f.A f.l.length f.c
theorem infoI : (Try.prog.info? 3).map (fun i => (i.zero, i.size, i.bytes)) = some (some (.int .i64 0), 1, 8) := by kernel_rfl
theorem infoFs : (Try.prog.info? 23).map (fun i => (i.zero, i.size, i.bytes)) = some (some (.slice none 0 0), 1, 24) := by kernel_rfl
/-- The ends, as cells. -/
def ecells (F : List Fs) (i : Nat) : List Value := (List.range i).map fun j => .int .i64 ((ends (F.map Fs.l) j : Nat) : Int)
theorem ends_snoc {fs : List (List S56)} {f : List S56} {j : Nat} (h : j < fs.length) : ends (fs ++ [f]) j = ends fs j := by
  unfold ends
  rw [List.take_append_of_le_length (by omega)]
theorem ends_last (fs : List (List S56)) (f : List S56) : ends (fs ++ [f]) fs.length = ((fs ++ [f]).map cnt).sum := by
  unfold ends
  rw [List.take_of_length_le (by simp)]
theorem ecells_snoc (F : List Fs) (f : Fs) : ecells (F ++ [f]) (F.length + 1) = ecells F F.length ++ [.int .i64 ((((F ++ [f]).map Fs.l).map cnt).sum : Nat)] := by
  unfold ecells
  rw [List.range_succ, List.map_append]
  congr 1
  · apply List.map_congr_left
    intro j hj
    rw [List.map_append, List.map_cons, List.map_nil, ends_snoc (by rw [List.length_map]; exact List.mem_range.1 hj)]
  · rw [List.map_cons, List.map_nil, List.map_append, List.map_cons, List.map_nil]
    have := ends_last (F.map Fs.l) f.l
    rw [List.length_map] at this
    rw [this]
theorem typed_ne {w : World} {base base' n n' e e' size size' : Nat} {v v' : Value} {xs xs' : List Value} (h : w.ownsRow base e size v n xs) (h' : w.ownsRow base' e' size' v' n' xs') (he : e ≠ e') (k : Nat) (hk : v.ownBlock = some k) : ¬ v'.ownBlock = some k := fun hk' => by
  obtain ⟨c1, h1⟩ := own_typed h k hk
  obtain ⟨c2, h2⟩ := own_typed h' k hk'
  rw [h1] at h2
  simp at h2
  exact he h2.2
structure FsOk (w : World) (f : Fs) : Prop where
  len : f.l.length ≤ f.c
  C : Kd.C k56 w f.A f.l.length f.l
  ty : ∀ ad, f.A = some ad → ∃ cur, w.heap[ad.block]? = some (.cells cur 56 (0, 0))
theorem C56_kept {S : Nat → Prop} {w w' : World} {A : Option Addr} {n : Nat} {l : List S56} (h : Kd.C k56 w A n l) (k : Kept S w w') (hS : ∀ ad, A = some ad → ¬ S ad.block) : Kd.C k56 w' A n l := by
  obtain ⟨h1, h2, h3⟩ := h
  refine ⟨h1, h2, fun h0 => ?_⟩
  obtain ⟨ad, e, hc⟩ := h3 h0
  refine ⟨ad, e, fun j p hj => ?_⟩
  obtain ⟨c, g1, g2, g3⟩ := hc j p hj
  obtain rfl := k56_open g2
  refine ⟨_, g1, k56_mk w' p, fun i u hu => ?_⟩
  have g4 := g3 i u hu
  have hb : (ad.add (j * k56.sz + i)).block = ad.block := by unfold Addr.add; split <;> rfl
  unfold World.cell? at g4 ⊢
  cases ho : w.heap[(ad.add (j * k56.sz + i)).block]? with
  | none => rw [ho] at g4; cases g4
  | some o =>
    rw [k.heap ho (by rw [hb]; exact hS ad e)]
    rw [ho] at g4
    exact g4
theorem FsOk.kept {S : Nat → Prop} {w w' : World} {f : Fs} (h : FsOk w f) (k : Kept S w w') (hS : ∀ ad, f.A = some ad → ¬ S ad.block) : FsOk w' f :=
  ⟨h.len, C56_kept h.C k hS, fun ad e => by
    obtain ⟨cur, hh⟩ := h.ty ad e
    exact ⟨cur, k.heap hh (hS ad e)⟩⟩
section
variable {w w' : World} {base n e size : Nat} {v : Value} {xs : List Value}
theorem kept_fs (hrow : w.ownsRow base e size v n xs) (he : e ≠ 56) (k : Kept (fun k => v.ownBlock = some k) w w') {f : Fs} (h : FsOk w f) : FsOk w' f :=
  h.kept k (fun ad ea hk => by
    obtain ⟨cur, hh⟩ := h.ty ad ea
    obtain ⟨c1, h1⟩ := own_typed hrow _ hk
    rw [h1] at hh
    simp at hh
    exact he hh.2)
theorem kept_rc (hrow : w.ownsRow base e size v n xs) (he : e ≠ 5) (k : Kept (fun k => v.ownBlock = some k) w w') {r : Rc} (h : RcOk w r) : RcOk w' r :=
  h.kept k (fun ad ea hk => by
    obtain ⟨cur, fr, hh⟩ := h.ty ad ea
    obtain ⟨c1, h1⟩ := own_typed hrow _ hk
    rw [h1] at hh
    simp at hh
    exact he hh.2.1)
theorem kept_row {base' n' e' size' : Nat} {v' : Value} {xs' : List Value} (hrow : w.ownsRow base e size v n xs) (he : e' ≠ e) (k : Kept (fun k => v.ownBlock = some k) w w') (h : w.ownsRow base' e' size' v' n' xs') : w'.ownsRow base' e' size' v' n' xs' :=
  row_kept h k (fun i hi => typed_ne h hrow he i hi)
end
theorem files_ok2 (w : World) (A : Option Addr) (c : Nat) (l : List S54) (hC : Kd.C k54 w A l.length l) (hc : l.length ≤ c) :
    Calls Try.prog 8 #[.slice A l.length c] w fun e w' => ∃ (f : Fs) (ok : Bool), e = .returned (.tuple #[f.v, .bool ok]) ∧ FsOk w' f ∧ Small f.l ∧ Below w.heap.size w w' := by
  obtain ⟨k, r1, r2, hf, hs⟩ := files_f l
  refine (headgatelaw20_files.calls k A c l r1 r2 w hC hc hf).mono ?_
  rintro e w' ⟨v, rfl, hR, hB⟩
  obtain ⟨A', c', rfl, h1, h2⟩ := Kd.R_reads hR
  exact ⟨⟨A', r1, c'⟩, r2, rfl, ⟨h1, h2, fun ad e => Kd.R_typed hR ad.block (by rw [show (Fs.A ⟨A', r1, c'⟩) = A' from rfl] at e; rw [e]; rfl)⟩, hs, hB⟩
set_option maxHeartbeats 8000000 in
set_option maxRecDepth 100000 in
theorem commitsRow_calls (v0 v1 : Value) (W : World) (a0 : Arg Try.prog W 49 v0) (a1 : Arg Try.prog W 3 v1) : Calls Try.prog 7 #[v0, v1] W fun e w' => e = .returned (.bool true) ∧ Below W.heap.size W w' := by
  obtain ⟨D, hD, rfl, hDp⟩ := arg_three a0
  obtain ⟨lost, rfl, hlw⟩ := arg_int Try.underlying3 a1
  have HD := Sh.mk (And.intro hD hDp)
  have HLW := Sh.mk hlw
  clear a0 a1 hD hDp hlw
  obtain ⟨dc, hdc⟩ : ∃ dc, (D.map Bx.v).toArray = dc := ⟨_, rfl⟩
  have HDC := Sh.mk hdc
  rw [hdc]
  clear hdc
  go_enter Try.func7, Try.ntmps7
  go_upto_region 1 with (fail)
  obtain ⟨w1, hw1⟩ : ∃ w1, W.alloc (.cells dc 49) = w1 := ⟨_, rfl⟩
  obtain ⟨b2, hb2⟩ : ∃ b2, W.heap.size = b2 := ⟨_, rfl⟩
  have hB1 : Below W.heap.size W w1 := by rw [← hw1]; exact (Below.refl _ _).alloc (Nat.le_refl _) _
  have g2 : w1.heap[b2]? = some (.cells dc 49 (0, 0)) := by rw [← hw1, ← hb2]; exact heap_alloc_new _ _
  rw [hw1, hb2]
  have HB1 := Sh.mk hB1
  have HG2 := Sh.mk g2
  clear hw1 hb2 hB1 g2
  go_wp2_with fail
  obtain ⟨j0, hj, hy0, hy1, hy2⟩ := info_parts infoSl
  obtain ⟨q0, hq, hp0, hp1, hp2⟩ := info_parts infoI
  obtain ⟨s0, hs, hr0, hr1, hr2⟩ := info_parts infoFs
  go_loopg [5, 6, 7, 8] 3 (fun kq v5 v6 v7 v8 w' => ∃ (i : Nat) (R : List Rc) (F : List Fs), i + kq = 3 ∧ v8 = .int .i64 (i : Int) ∧ Sh (F.length = i ∧ Allr 0 (F.map Fs.l) ∧ R.map Rc.l = catf 0 (F.map Fs.l)) ∧ Sh (∀ r ∈ R, RcOk w' r) ∧ Sh (w'.ownsRow w1.heap.size 38 1 v5 R.length (rcells R)) ∧ Sh (w'.ownsRow w1.heap.size 3 1 v6 i (ecells F i)) ∧ Sh (w'.ownsRow w1.heap.size 23 1 v7 i (F.map Fs.v)) ∧ Sh (∀ f ∈ F, FsOk w' f) ∧ Sh (Below w1.heap.size w1 w'))
  case atStart => exact ⟨0, [], [], by omega, rfl, ⟨rfl, trivial, rfl⟩, ⟨by simp⟩, ⟨World.ownsRow_nil _ _ _ _⟩, ⟨World.ownsRow_nil _ _ _ _⟩, ⟨World.ownsRow_nil _ _ _ _⟩, ⟨by simp⟩, ⟨Below.refl _ _⟩⟩
  case round =>
    obtain ⟨i, R, F, hik, rfl, HFR, HOK, HR5, HR6, HR7, HFS, HB⟩ := hrel
    have HI := Sh.mk hik
    cases gk with
    | zero =>
      obtain rfl : i = 3 := by omega
      clear hik
      go_wp2_with fail
      obtain ⟨a5, c5, rfl⟩ := own_slice HR5.out
      obtain ⟨fls, hfls⟩ : ∃ fls, F.map Fs.l = fls := ⟨_, rfl⟩
      have hfl3 : fls.length = 3 := by rw [← hfls, List.length_map]; exact HFR.out.1
      have hal : Allr 0 fls := by rw [← hfls]; exact HFR.out.2.1
      have hmap : R.map Rc.l = catf 0 fls := by rw [← hfls]; exact HFR.out.2.2
      obtain ⟨T, hT⟩ : ∃ T, R.length = T := ⟨_, rfl⟩
      obtain ⟨k1, k2⟩ := catf_recs fls 0 hal
      have hTL : (catf 0 fls).length = T := by rw [← hmap, List.length_map, hT]
      have hT6 : T ≤ 600 := by rw [hTL, hfl3] at k2; omega
      have hT3 : 3 ≤ T := by
        rw [← hTL, catf_len]
        obtain ⟨f0, f1, f2, rfl⟩ : ∃ f0 f1 f2, fls = [f0, f1, f2] := by
          match fls, hfl3 with
          | [f0, f1, f2], _ => exact ⟨_, _, _, rfl⟩
        simp only [List.map_cons, List.map_nil, List.sum_cons, List.sum_nil]
        have h0 := cnt_pos f0
        have h1 := cnt_pos f1
        have h2 := cnt_pos f2
        omega
      have hRecs : Recs (catf 0 fls) := ⟨by omega, k1⟩
      have hCr := rows_C HR5.out rfl HOK.out (by omega) (fun r hr => by
        have : r.l ∈ catf 0 fls := by rw [← hmap]; exact List.mem_map.2 ⟨r, hr, rfl⟩
        have := (k1 _ this).1
        omega)
      rw [hmap, hT] at hCr
      have hcap : T ≤ c5 := by
        rcases HR5.out.2 with ⟨e1, h⟩ | ⟨g, cap, cur, e, _, _, hn, _⟩
        · omega
        · cases e
          omega
      have hall := all_call wr a5 c5 (catf 0 fls) (by rw [hTL]; exact hCr) (by rw [hTL]; exact hcap) hRecs
      have hald := alld_cat fls 0 ((catf 0 fls).length + 1) hal (by omega)
      have hal3 : (alld ((catf 0 fls).length + 1) (catf 0 fls)).length = 3 := by rw [hald, List.length_map, List.length_zipIdx, hfl3]
      rw [hal3, hTL] at hall
      rw [hT]
      have HFL := Sh.mk (show F.map Fs.l = fls ∧ fls.length = 3 ∧ Allr 0 fls from ⟨hfls, hfl3, hal⟩)
      have HTT := Sh.mk (show (catf 0 fls).length = T ∧ 3 ≤ T ∧ T ≤ 600 from ⟨hTL, hT3, hT6⟩)
      have HRECS := Sh.mk hRecs
      have HCR := Sh.mk hCr
      have HCAP := Sh.mk hcap
      have HALD := Sh.mk hald
      have HAL3 := Sh.mk hal3
      clear hfl3 hal hmap hT k1 k2 hTL hT6 hT3 hRecs hCr hcap hald hal3 hfls
      refine hall.mono ?_
      rintro e w2 ⟨A2, c2, rfl, -, hC2, hB2⟩
      have HC2 := Sh.mk hC2
      have HB2 := Sh.mk hB2
      clear hC2 hB2 hall
      go_wp2_with fail
      obtain ⟨g2, o2, rfl, hat⟩ := coms_at HC2.out (by decide)
      obtain ⟨g7, c7, rfl, h7⟩ : ∃ g7 c7, u7 = .slice (some ⟨g7, 0, none⟩) 3 c7 ∧ ∀ (j : Nat) (f : Fs), F[j]? = some f → wr.cell? ⟨g7, j, none⟩ = some f.v := by
        rcases HR7.out.2 with ⟨_, h⟩ | ⟨g, cap, cur, e, _⟩
        · exact absurd h (by decide)
        · refine ⟨g, cap, e, fun j f hj => ?_⟩
          have h1 := HR7.out.cells (g := g) (by rw [e]; rfl) j f.v (by rw [List.getElem?_map, hj]; rfl)
          rw [Addr.add_mid, Nat.zero_add] at h1
          exact h1
      obtain ⟨g6, c6, rfl, h6⟩ : ∃ g6 c6, u6 = .slice (some ⟨g6, 0, none⟩) 3 c6 ∧ ∀ j : Nat, j < 3 → wr.cell? ⟨g6, j, none⟩ = some (.int .i64 ((ends fls j : Nat) : Int)) := by
        rcases HR6.out.2 with ⟨_, h⟩ | ⟨g, cap, cur, e, _⟩
        · exact absurd h (by decide)
        · refine ⟨g, cap, e, fun j hj => ?_⟩
          have h1 := HR6.out.cells (g := g) (by rw [e]; rfl) j (.int .i64 ((ends fls j : Nat) : Int)) (by unfold ecells; rw [List.getElem?_map, List.getElem?_range hj, HFL.out.1]; rfl)
          rw [Addr.add_mid, Nat.zero_add] at h1
          exact h1
      have HAT := Sh.mk hat
      have H7 := Sh.mk h7
      have H6 := Sh.mk h6
      clear hat h7 h6
      have HC1len : ∀ {i : Nat} (f : Fs), F[i]? = some f → f.l.length ≤ 8 := fun f hf => (allr_small (F.map Fs.l) 0 HFR.out.2.1 f.l (List.mem_map.2 ⟨f, List.mem_of_getElem? hf, rfl⟩)).1
      obtain ⟨wq, rfl⟩ : ∃ wq, wq = wr := ⟨_, rfl⟩
      have HWQ0 := Sh.mk (HB1.out.trans (HB.out.mono HB1.out.size))
      go_loopg [14, 15] 3 (fun kq v14 v15 w' => ∃ i : Nat, i + kq = 3 ∧ v14 = .int .i64 (i : Int) ∧ Sh (Below w2.heap.size w2 w'))
      case atStart => exact ⟨0, by omega, rfl, ⟨Below.refl _ _⟩⟩
      case round =>
        obtain ⟨i, hik, rfl, HBX⟩ := hrel
        have HI2 := Sh.mk hik
        cases gk with
        | zero =>
          obtain rfl : i = 3 := by omega
          have HBQ2 := Sh.mk (HB2.out.trans (HBX.out.mono HB2.out.size))
          clear hik
          have hlw := HLW.out
          simp [Lit.wf, IntKind.min, IntKind.max, IntKind.bits, IntKind.signed] at hlw
          have hl0 : -9223372036854775808 ≤ lost := by omega
          have hl1 : lost ≤ 9223372036854775807 := by omega
          clear hlw
          by_cases hneg : lost < 0
          · go_upto_region 25 with (fail)
            obtain ⟨pp, hpp⟩ : ∃ pp : Nat, -(lost + 1) = (pp : Int) := ⟨(-(lost + 1)).toNat, by omega⟩
            have HPP := Sh.mk (show (pp : Int) ≤ 9223372036854775807 from by omega)
            rw [hpp]
            clear hpp hneg hl0 hl1
            have hT0 : (0 : Int) < (T : Int) := by have := HTT.out.2; omega
            have hT1 : ¬ (T : Int) = 0 := by omega
            have hpp : (0 : Int) ≤ (pp : Int) := by omega
            have hT2 : (T : Int) ≤ 600 := by have := HTT.out.2; omega
            have hp2 : (pp : Int) ≤ 9223372036854775807 := HPP.out
            go_upto_region 26 with (fail)
            obtain ⟨m, hm⟩ : ∃ m, pp % T = m := ⟨_, rfl⟩
            have hme : (pp : Int) % (T : Int) = (m : Int) := by rw [← hm]; rfl
            have HM := Sh.mk (And.intro (show m < T from by rw [← hm]; exact Nat.mod_lt _ (by omega)) True.intro)
            rw [hme]
            clear hT0 hT1 hpp hT2 hp2 hm hme
            go_wp2_with fail
            go_loopg [16] 3 (fun kq v16 w' => ∃ i : Nat, i + kq = 3 ∧ v16 = .int .i64 (i : Int) ∧ Sh (i ≤ whole fls m) ∧ Sh (Below wq.heap.size wq w'))
            case atStart => exact ⟨0, by omega, rfl, ⟨Nat.zero_le _⟩, HBQ2⟩
            case round =>
              obtain ⟨i, hik, rfl, HIW, HBQ3⟩ := hrel
              have HI3 := Sh.mk hik
              cases gk with
              | zero =>
                obtain rfl : i = 3 := by omega
                have HWI := Sh.mk (show 3 = whole fls m from by have h1 := whole_le fls m; rw [HFL.out.2.1] at h1; have := HIW.out; omega)
                clear hik
                have hm1 := Kd.C_take (m := m) (by rw [HTT.out.1]; exact Kd.C_below HCR.out HBQ3.out) (by rw [HTT.out.1]; have := HM.out.1; omega)
                have hlt : ((catf 0 fls).take m).length = m := by rw [List.length_take, HTT.out.1]; have := HM.out.1; omega
                have hmc : m ≤ c5 := by have := HM.out.1; have := HCAP.out; omega
                have hall3 := all_call wr a5 c5 ((catf 0 fls).take m) hm1 (by rw [hlt]; exact hmc) (HRECS.out.take m)
                have hwh := alld_take fls 0 (((catf 0 fls).take m).length + 1) m HFL.out.2.2 (by rw [hlt]; omega)
                rw [hwh, hlt, ← HWI.out] at hall3
                clear hm1 hlt hwh
                go_wp2_with ((with_reducible refine Rw.at_slot 108 ?_); refine Rw.wpList_upto rfl 27 38 _ _ rfl Try.underlying27 1 (by kernel_rfl) rfl rfl hmc ?_)
                refine hall3.mono ?_
                rintro e w9 ⟨A9, c9, rfl, -, -, hB9⟩
                have HB9 := Sh.mk (HBQ3.out.trans (hB9.mono HBQ3.out.size))
                clear hB9 hall3 hmc
                go_wp2_with fail
                refine (alive_ok w9).mono ?_
                rintro e w10 ⟨rfl, hB10⟩
                have HB10 := Sh.mk (HWQ0.out.trans ((HB9.out.trans (hB10.mono HB9.out.size)).mono HWQ0.out.size))
                clear hB10
                go_wp2_with fail
                go_ret
                exact ⟨rfl, HB10.out⟩
              | succ g1_ =>
                have hi3 : i < 3 := by omega
                have kk : (i : Int) < 3 := by omega
                have hsp := whole_spec fls m i (by rw [HFL.out.2.1]; exact hi3)
                obtain ⟨en, hen⟩ : ∃ en, ends fls i = en := ⟨_, rfl⟩
                have e_ : wr.cell? ⟨g6, i, none⟩ = some (.int .i64 (en : Int)) := by
                  have h1 := H6.out i hi3
                  rw [hen] at h1
                  exact (HBQ3.out.cell (p := ⟨g6, i, none⟩) (World.block_lt_of_cell? wq ⟨g6, i, none⟩ h1)).trans h1
                rw [hen] at hsp
                have W16 : Sh (wrap64 ((i : Int) + 1) = ((i + 1 : Nat) : Int)) := ⟨by unfold wrap64; omega⟩
                by_cases c : en ≤ m
                · have c' : (en : Int) ≤ (m : Int) := by omega
                  have HNEXT := Sh.mk (show i + 1 ≤ whole fls m from by have := hsp.2 c; omega)
                  clear hsp hen c hik hi3
                  go_wp2_with fail
                  go_roundg g1_
                  case measure => have := HI3.out; omega
                  case rel => exact ⟨i + 1, by have := HI3.out; omega, (by first | rfl | (rw [W16.out])), HNEXT, HBQ3⟩
                · have c' : ¬ (en : Int) ≤ (m : Int) := by omega
                  have HWI := Sh.mk (show i = whole fls m from by have := HIW.out; have h2 : ¬ i < whole fls m := fun h => c (hsp.1 h); omega)
                  clear hsp hen c hik hi3
                  have hm1 := Kd.C_take (m := m) (by rw [HTT.out.1]; exact Kd.C_below HCR.out HBQ3.out) (by rw [HTT.out.1]; have := HM.out.1; omega)
                  have hlt : ((catf 0 fls).take m).length = m := by rw [List.length_take, HTT.out.1]; have := HM.out.1; omega
                  have hmc : m ≤ c5 := by have := HM.out.1; have := HCAP.out; omega
                  have hall3 := all_call wr a5 c5 ((catf 0 fls).take m) hm1 (by rw [hlt]; exact hmc) (HRECS.out.take m)
                  have hwh := alld_take fls 0 (((catf 0 fls).take m).length + 1) m HFL.out.2.2 (by rw [hlt]; omega)
                  rw [hwh, hlt, ← HWI.out] at hall3
                  clear hm1 hlt hwh
                  go_wp2_with ((with_reducible refine Rw.at_slot 108 ?_); refine Rw.wpList_upto rfl 27 38 _ _ rfl Try.underlying27 1 (by kernel_rfl) rfl rfl hmc ?_)
                  refine hall3.mono ?_
                  rintro e w9 ⟨A9, c9, rfl, -, -, hB9⟩
                  have HB9 := Sh.mk (HBQ3.out.trans (hB9.mono HBQ3.out.size))
                  clear hB9 hall3 hmc
                  go_wp2_with fail
                  refine (alive_ok w9).mono ?_
                  rintro e w10 ⟨rfl, hB10⟩
                  have HB10 := Sh.mk (HWQ0.out.trans ((HB9.out.trans (hB10.mono HB9.out.size)).mono HWQ0.out.size))
                  clear hB10
                  go_wp2_with fail
                  go_ret
                  exact ⟨rfl, HB10.out⟩
          · go_upto_region 25 with (fail)
            obtain ⟨pp, hpp⟩ : ∃ pp : Nat, lost = (pp : Int) := ⟨lost.toNat, by omega⟩
            have HPP := Sh.mk (show (pp : Int) ≤ 9223372036854775807 from by omega)
            rw [hpp]
            clear hpp hneg hl0 hl1
            have hT0 : (0 : Int) < (T : Int) := by have := HTT.out.2; omega
            have hT1 : ¬ (T : Int) = 0 := by omega
            have hpp : (0 : Int) ≤ (pp : Int) := by omega
            have hT2 : (T : Int) ≤ 600 := by have := HTT.out.2; omega
            have hp2 : (pp : Int) ≤ 9223372036854775807 := HPP.out
            go_upto_region 26 with (fail)
            obtain ⟨m, hm⟩ : ∃ m, pp % T = m := ⟨_, rfl⟩
            have hme : (pp : Int) % (T : Int) = (m : Int) := by rw [← hm]; rfl
            have HM := Sh.mk (And.intro (show m < T from by rw [← hm]; exact Nat.mod_lt _ (by omega)) True.intro)
            rw [hme]
            clear hT0 hT1 hpp hT2 hp2 hm hme
            go_wp2_with fail
            go_loopg [16] 3 (fun kq v16 w' => ∃ i : Nat, i + kq = 3 ∧ v16 = .int .i64 (i : Int) ∧ Sh (i ≤ whole fls m) ∧ Sh (Below wq.heap.size wq w'))
            case atStart => exact ⟨0, by omega, rfl, ⟨Nat.zero_le _⟩, HBQ2⟩
            case round =>
              obtain ⟨i, hik, rfl, HIW, HBQ3⟩ := hrel
              have HI3 := Sh.mk hik
              cases gk with
              | zero =>
                obtain rfl : i = 3 := by omega
                have HWI := Sh.mk (show 3 = whole fls m from by have h1 := whole_le fls m; rw [HFL.out.2.1] at h1; have := HIW.out; omega)
                clear hik
                have hm1 := Kd.C_take (m := m) (by rw [HTT.out.1]; exact Kd.C_below HCR.out HBQ3.out) (by rw [HTT.out.1]; have := HM.out.1; omega)
                have hlt : ((catf 0 fls).take m).length = m := by rw [List.length_take, HTT.out.1]; have := HM.out.1; omega
                have hmc : m ≤ c5 := by have := HM.out.1; have := HCAP.out; omega
                have hall3 := all_call wr a5 c5 ((catf 0 fls).take m) hm1 (by rw [hlt]; exact hmc) (HRECS.out.take m)
                have hwh := alld_take fls 0 (((catf 0 fls).take m).length + 1) m HFL.out.2.2 (by rw [hlt]; omega)
                rw [hwh, hlt, ← HWI.out] at hall3
                clear hm1 hlt hwh
                go_wp2_with ((with_reducible refine Rw.at_slot 108 ?_); refine Rw.wpList_upto rfl 27 38 _ _ rfl Try.underlying27 1 (by kernel_rfl) rfl rfl hmc ?_)
                refine hall3.mono ?_
                rintro e w9 ⟨A9, c9, rfl, -, -, hB9⟩
                have HB9 := Sh.mk (HBQ3.out.trans (hB9.mono HBQ3.out.size))
                clear hB9 hall3 hmc
                go_wp2_with fail
                refine (alive_ok w9).mono ?_
                rintro e w10 ⟨rfl, hB10⟩
                have HB10 := Sh.mk (HWQ0.out.trans ((HB9.out.trans (hB10.mono HB9.out.size)).mono HWQ0.out.size))
                clear hB10
                go_wp2_with fail
                go_ret
                exact ⟨rfl, HB10.out⟩
              | succ g1_ =>
                have hi3 : i < 3 := by omega
                have kk : (i : Int) < 3 := by omega
                have hsp := whole_spec fls m i (by rw [HFL.out.2.1]; exact hi3)
                obtain ⟨en, hen⟩ : ∃ en, ends fls i = en := ⟨_, rfl⟩
                have e_ : wr.cell? ⟨g6, i, none⟩ = some (.int .i64 (en : Int)) := by
                  have h1 := H6.out i hi3
                  rw [hen] at h1
                  exact (HBQ3.out.cell (p := ⟨g6, i, none⟩) (World.block_lt_of_cell? wq ⟨g6, i, none⟩ h1)).trans h1
                rw [hen] at hsp
                have W16 : Sh (wrap64 ((i : Int) + 1) = ((i + 1 : Nat) : Int)) := ⟨by unfold wrap64; omega⟩
                by_cases c : en ≤ m
                · have c' : (en : Int) ≤ (m : Int) := by omega
                  have HNEXT := Sh.mk (show i + 1 ≤ whole fls m from by have := hsp.2 c; omega)
                  clear hsp hen c hik hi3
                  go_wp2_with fail
                  go_roundg g1_
                  case measure => have := HI3.out; omega
                  case rel => exact ⟨i + 1, by have := HI3.out; omega, (by first | rfl | (rw [W16.out])), HNEXT, HBQ3⟩
                · have c' : ¬ (en : Int) ≤ (m : Int) := by omega
                  have HWI := Sh.mk (show i = whole fls m from by have := HIW.out; have h2 : ¬ i < whole fls m := fun h => c (hsp.1 h); omega)
                  clear hsp hen c hik hi3
                  have hm1 := Kd.C_take (m := m) (by rw [HTT.out.1]; exact Kd.C_below HCR.out HBQ3.out) (by rw [HTT.out.1]; have := HM.out.1; omega)
                  have hlt : ((catf 0 fls).take m).length = m := by rw [List.length_take, HTT.out.1]; have := HM.out.1; omega
                  have hmc : m ≤ c5 := by have := HM.out.1; have := HCAP.out; omega
                  have hall3 := all_call wr a5 c5 ((catf 0 fls).take m) hm1 (by rw [hlt]; exact hmc) (HRECS.out.take m)
                  have hwh := alld_take fls 0 (((catf 0 fls).take m).length + 1) m HFL.out.2.2 (by rw [hlt]; omega)
                  rw [hwh, hlt, ← HWI.out] at hall3
                  clear hm1 hlt hwh
                  go_wp2_with ((with_reducible refine Rw.at_slot 108 ?_); refine Rw.wpList_upto rfl 27 38 _ _ rfl Try.underlying27 1 (by kernel_rfl) rfl rfl hmc ?_)
                  refine hall3.mono ?_
                  rintro e w9 ⟨A9, c9, rfl, -, -, hB9⟩
                  have HB9 := Sh.mk (HBQ3.out.trans (hB9.mono HBQ3.out.size))
                  clear hB9 hall3 hmc
                  go_wp2_with fail
                  refine (alive_ok w9).mono ?_
                  rintro e w10 ⟨rfl, hB10⟩
                  have HB10 := Sh.mk (HWQ0.out.trans ((HB9.out.trans (hB10.mono HB9.out.size)).mono HWQ0.out.size))
                  clear hB10
                  go_wp2_with fail
                  go_ret
                  exact ⟨rfl, HB10.out⟩
        | succ g1_ =>
          have hi3 : i < 3 := by omega
          have kk : (i : Int) < 3 := by omega
          obtain ⟨f, hf⟩ : ∃ f, F[i]? = some f := ⟨_, List.getElem?_eq_getElem (by rw [HFR.out.1]; exact hi3)⟩
          have hfi : fls[i]? = some f.l := by rw [← HFL.out.1, List.getElem?_map, hf]; rfl
          have hx : ((alld (T + 1) (catf 0 fls)).map S32of)[i]? = some (⟨(i : Int), f.l⟩ : S32) := by
            rw [← HTT.out.1, HALD.out, List.getElem?_map, List.getElem?_map, List.getElem?_zipIdx, hfi]
            simp [S32of]
          obtain ⟨A1, c1, hrange, hc1, hC1⟩ := HAT.out i _ hx
          have f0_ : wr.cell? ⟨g2, o2 + i * 2, none⟩ = some (.int .i64 (i : Int)) := by
            have h := hrange 0 _ rfl
            exact (HBX.out.cell (p := ⟨g2, o2 + i * 2, none⟩) (World.block_lt_of_cell? w2 _ h)).trans h
          have f1_ : wr.cell? ⟨g2, o2 + i * 2 + 1, none⟩ = some (.slice A1 f.l.length c1) := by
            have h := hrange 1 _ rfl
            exact (HBX.out.cell (p := ⟨g2, o2 + i * 2 + 1, none⟩) (World.block_lt_of_cell? w2 _ h)).trans h
          have hBq := HB2.out.trans (HBX.out.mono HB2.out.size)
          have s_ : wr.cell? ⟨g7, i, none⟩ = some (.slice f.A f.l.length f.c) := by
            have h := H7.out i f hf
            exact (hBq.cell (p := ⟨g7, i, none⟩) (World.block_lt_of_cell? wq _ h)).trans h
          have hfs := HFS.out f (List.mem_of_getElem? hf)
          have hfl : f.l.length ≤ 1000000000 := by
            have h1 := HC1len f hf
            omega
          have hsame : ∀ q, Calls Try.prog 19 #[.slice A1 f.l.length c1, .slice f.A f.l.length f.c] (wr.drewN q) fun e w' => e = .returned (.bool true) ∧ ∃ j, w' = (wr.drewN q).drewN j := fun q => by
            have hb1 : Below w2.heap.size w2 (wr.drewN q) := pw_below_drewN HBX.out q
            have hb2 : Below wq.heap.size wq (wr.drewN q) := pw_below_drewN hBq q
            have := headgateref07_Same.calls (f.l.length + 1) A1 c1 f.l f.A f.c f.l true (wr.drewN q) (Kd.C_below hC1 hb1) hc1 (Kd.C_below hfs.C hb2) hfs.len (same07_f f.l hfl (Nat.le_refl _))
            exact this.mono (fun e w' ⟨k1, j, k2⟩ => ⟨k1, j, k2⟩)
          have HSAME := Sh.mk hsame
          have W14 : Sh (wrap64 ((i : Int) + 1) = ((i + 1 : Nat) : Int)) := ⟨by unfold wrap64; omega⟩
          obtain ⟨FL, hFL⟩ : ∃ FL, f.l.length = FL := ⟨_, rfl⟩
          rw [hFL] at f1_ s_
          have HSM2 := Sh.mk (show ∀ q, Calls Try.prog 19 #[.slice A1 FL c1, .slice f.A FL f.c] (wr.drewN q) fun e w' => e = .returned (.bool true) ∧ ∃ j, w' = (wr.drewN q).drewN j from by rw [← hFL]; exact hsame)
          clear hx hfi hf hrange hc1 hC1 hfs hfl hsame hBq hik hi3 hFL
          go_upto_region 20 with (fail)
          go_quiet (with_reducible first | (go_at_call 19; exact Calls.quiet_of (HSM2.out _)))
          have f0n : (wr.drewN nq).cell? ⟨g2, o2 + i * 2, none⟩ = some (.int .i64 (i : Int)) := f0_
          have HBN := Sh.mk (pw_below_drewN HBX.out nq)
          clear f0_ f1_ s_
          generalize wr.drewN nq = wn at f0n HBN ⊢
          go_wp2_with fail
          go_roundg g1_
          case measure => have := HI2.out; omega
          case rel => exact ⟨i + 1, by have := HI2.out; omega, (by first | rfl | (rw [W14.out])), HBN⟩
    | succ g1_ =>
      have hi3 : i < 3 := by omega
      have kk : (i : Int) < 3 := by omega
      obtain ⟨d, hd⟩ : ∃ d, D[i]? = some d := ⟨_, List.getElem?_eq_getElem (by rw [HD.out.1]; exact hi3)⟩
      have hBW := HB1.out.trans (HB.out.mono HB1.out.size)
      have d_ : wr.cell? ⟨b2, i, none⟩ = some (.slice d.A d.l.length d.c) := by
        have h1 := (HB.out.cell (p := ⟨b2, i, none⟩) (lt_of_heap HG2.out)).trans (Rw.blk_cell HG2.out i)
        rw [h1, ← HDC.out, List.getElem?_toArray, List.getElem?_map, hd]
        rfl
      obtain ⟨hdl, hdC⟩ := HD.out.2 d (List.mem_of_getElem? hd)
      have hfiles := files_ok2 wr d.A d.c d.l (Kd.C_below hdC hBW) hdl
      have HBW := Sh.mk hBW
      have W8 : Sh (wrap64 ((i : Int) + 1) = ((i + 1 : Nat) : Int)) := ⟨by unfold wrap64; omega⟩
      clear hd hdl hdC hBW hik
      go_wp2_with fail
      refine hfiles.mono ?_
      rintro e w2 ⟨f, ok, rfl, hf, hsm, hB2⟩
      have henc := enc_any (i : Int) f.A f.c f.l w2 hf.C hf.len hsm
      have HF := Sh.mk hf
      have HSM := Sh.mk hsm
      have HB2 := Sh.mk hB2
      clear hfiles d_ hf hsm hB2
      unfold Fs.v
      go_wp2_with fail
      refine henc.mono ?_
      rintro e w3 ⟨a3, c3, R2, rfl, hE⟩
      have hB3 : Below wr.heap.size wr w3 := HB2.out.trans (hE.bel.mono HB2.out.size)
      have HB3 := Sh.mk hB3
      have HE := Sh.mk hE
      have HBW3 := Sh.mk (HBW.out.trans (hB3.mono HBW.out.size))
      clear henc hE hB3 kk
      have hlive : ok = false ∨ (ok = true ∧ rightd (i : Int) f.l = false) ∨ (ok = true ∧ rightd (i : Int) f.l = true) := by
        cases ok <;> cases rightd (i : Int) f.l <;> simp
      rcases hlive with rfl | ⟨rfl, hrr⟩ | ⟨rfl, hrr⟩
      · go_wp2_with fail
        refine (alive_ok w3).mono ?_
        rintro e w4 ⟨rfl, hB⟩
        have HB4 := Sh.mk (HBW3.out.trans (hB.mono HBW3.out.size))
        clear hB
        go_wp2_with fail
        go_ret
        exact ⟨rfl, HB4.out⟩
      · rw [encE_bad hrr]
        clear hrr
        go_wp2_with fail
        refine (alive_ok w3).mono ?_
        rintro e w4 ⟨rfl, hB⟩
        have HB4 := Sh.mk (HBW3.out.trans (hB.mono HBW3.out.size))
        clear hB
        go_wp2_with fail
        go_ret
        exact ⟨rfl, HB4.out⟩
      · rw [encE_good hrr]
        have HRR := Sh.mk hrr
        clear hrr
        have hRl : R2.length = cnt f.l := by
          have := congrArg List.length HE.out.recs
          rw [List.length_map, encd_flat HRR.out, cnt_len] at this
          exact this
        have hRl0 : R.length = (catf 0 (F.map Fs.l)).length := by rw [← HFR.out.2.2, List.length_map]
        have hcl := (catf_recs (F.map Fs.l) 0 HFR.out.2.1).2
        rw [List.length_map, HFR.out.1] at hcl
        have hsm := small_count HSM.out
        have hQ : R.length + R2.length ≤ 800 := by unfold cnt at hRl; omega
        obtain ⟨Q, hQe⟩ : ∃ Q, R.length + R2.length = Q := ⟨_, rfl⟩
        have HQ := Sh.mk hQe
        have HQ8 := Sh.mk (show Q ≤ 800 from by omega)
        have hrow5 : w3.ownsRow w1.heap.size 38 1 u5 R.length (rcells R) := row_kept HR5.out (Kept.of_below (S := fun _ => False) HB3.out) (fun _ _ e => e)
        have hrow6 : w3.ownsRow w1.heap.size 3 1 u6 i (ecells F i) := row_kept HR6.out (Kept.of_below (S := fun _ => False) HB3.out) (fun _ _ e => e)
        have hrow7 : w3.ownsRow w1.heap.size 23 1 u7 i (F.map Fs.v) := row_kept HR7.out (Kept.of_below (S := fun _ => False) HB3.out) (fun _ _ e => e)
        have hok3 : ∀ r ∈ R ++ R2, RcOk w3 r := fun r hr => by
          rcases List.mem_append.1 hr with h | h
          · exact (HOK.out r h).kept (Kept.of_below (S := fun _ => False) HB3.out) (fun _ _ e => e)
          · exact HE.out.ok r h
        have hfs3 : ∀ g ∈ F ++ [f], FsOk w3 g := fun g hg => by
          rcases List.mem_append.1 hg with h | h
          · exact (HFS.out g h).kept (Kept.of_below (S := fun _ => False) HB3.out) (fun _ _ e => e)
          · obtain rfl : g = f := by simpa using h
            exact HF.out.kept (Kept.of_below (S := fun _ => False) HE.out.bel) (fun _ _ e => e)
        obtain ⟨hcn, hcc⟩ := HE.out.cells
        have hlr : (rcells R2).length = R2.length * 1 := by unfold rcells; rw [List.length_map, Nat.mul_one]
        have hs3 : w1.heap.size ≤ w3.heap.size := Nat.le_trans HB.out.size HB3.out.size
        have hnum : R.length + R2.length ≤ maxLen ∧ (R.length + R2.length) * 24 ≤ 140737488355328 := ⟨by unfold maxLen; omega, by omega⟩
        have HR53 := Sh.mk hrow5
        have HR63 := Sh.mk hrow6
        have HR73 := Sh.mk hrow7
        have HOK3 := Sh.mk hok3
        have HFS3 := Sh.mk hfs3
        clear hRl hRl0 hcl hsm hQ hrow6 hrow7 hok3 hfs3 hQe
        go_wp2_with ((with_reducible refine Rw.at_slot 45 ?_); refine Rw.wpList_append_src rfl _ _ 27 rfl w1.heap.size 38 j0 (.slice none 0 0) 1 24 Try.underlying27 hj hy0 hy1 hy2 rfl (by decide) u5 R.length (rcells R) rfl hrow5 a3 R2.length c3 (rcells R2) rfl hcn hlr hcc (rcells_one R2) hnum.1 hnum.2 hs3 ?_)
        intro v5 w4 hown4 hgrow _
        have hK4 : Kept (fun k => u5.ownBlock = some k) w3 w4 := (Kept.refl (fun k => u5.ownBlock = some k) w3).grown hgrow (fun k e => .inr e)
        have hB14 : Below w1.heap.size w1 w4 := (HB.out.trans (HB3.out.mono HB.out.size)).grown hgrow hs3 (fun k e => (hrow5.lt k e).1)
        rw [HQ.out] at hown4
        obtain ⟨a5, c5, rfl⟩ := own_slice hown4
        have HR54 := Sh.mk hown4
        have HR64 := Sh.mk (kept_row hrow5 (by decide) hK4 HR63.out)
        have HR74 := Sh.mk (kept_row hrow5 (by decide) hK4 HR73.out)
        have HOK4 := Sh.mk (fun r hr => kept_rc hrow5 (by decide) hK4 (HOK3.out r hr))
        have HFS4 := Sh.mk (fun g hg => kept_fs hrow5 (by decide) hK4 (HFS3.out g hg))
        have HB14 := Sh.mk hB14
        have hs4 : w1.heap.size ≤ w4.heap.size := hB14.size
        have hnum6 : i + 1 ≤ maxLen ∧ (i + 1) * 8 ≤ 140737488355328 := ⟨by unfold maxLen; omega, by omega⟩
        have hrow64 := HR64.out
        clear hown4 hgrow hK4 hB14 hrow5 hcn hcc hlr hs3 hnum
        go_wp2_with ((with_reducible refine Rw.at_slot 50 ?_); refine wpList_append_own _ rfl _ _ 50 rfl w1.heap.size 3 q0 (.int .i64 0) 1 8 Try.underlying50 hq hp0 hp1 hp2 rfl (by decide) u6 i (ecells F i) rfl (hrow64.alloc _) ⟨w4.heap.size, 0, none⟩ 1 1 [.int .i64 (Q : Int)] rfl rfl (one_new _ _ _) (by simp [Value.oneCell']) hnum6.1 hnum6.2 (by simp; omega) ?_)
        intro v6 w5 hown5 hgrow _
        have hK5 : Kept (fun k => u6.ownBlock = some k) w4 w5 := ((Kept.refl (fun k => u6.ownBlock = some k) w4).alloc _).grown hgrow (fun k e => .inr e)
        have hB15 : Below w1.heap.size w1 w5 := (HB14.out.alloc hs4 _).grown hgrow (by simp; omega) (fun k e => (hrow64.lt k e).1)
        have HR55 := Sh.mk (kept_row hrow64 (by decide) hK5 HR54.out)
        have HR65 := Sh.mk hown5
        have HR75 := Sh.mk (kept_row hrow64 (by decide) hK5 HR74.out)
        have HOK5 := Sh.mk (fun r hr => kept_rc hrow64 (by decide) hK5 (HOK4.out r hr))
        have HFS5 := Sh.mk (fun g hg => kept_fs hrow64 (by decide) hK5 (HFS4.out g hg))
        have HB15 := Sh.mk hB15
        have hs5 : w1.heap.size ≤ w5.heap.size := hB15.size
        have hnum7 : i + 1 ≤ maxLen ∧ (i + 1) * 24 ≤ 140737488355328 := ⟨by unfold maxLen; omega, by omega⟩
        have hrow75 := HR75.out
        clear hown5 hgrow hK5 hB15 hrow64 hs4 hnum6
        go_wp2_with ((with_reducible refine Rw.at_slot 54 ?_); refine wpList_append_own _ rfl _ _ 51 rfl w1.heap.size 23 s0 (.slice none 0 0) 1 24 Try.underlying51 hs hr0 hr1 hr2 rfl (by decide) u7 i (F.map Fs.v) rfl (hrow75.alloc _) ⟨w5.heap.size, 0, none⟩ 1 1 [.slice f.A f.l.length f.c] rfl rfl (one_new _ _ _) (by simp [Value.oneCell']) hnum7.1 hnum7.2 (by simp; omega) ?_)
        intro v7 w6 hown6 hgrow _
        have hK6 : Kept (fun k => u7.ownBlock = some k) w5 w6 := ((Kept.refl (fun k => u7.ownBlock = some k) w5).alloc _).grown hgrow (fun k e => .inr e)
        have hB16 : Below w1.heap.size w1 w6 := (HB15.out.alloc hs5 _).grown hgrow (by simp; omega) (fun k e => (hrow75.lt k e).1)
        have HR56 := Sh.mk (kept_row hrow75 (by decide) hK6 HR55.out)
        have HR66 := Sh.mk (kept_row hrow75 (by decide) hK6 HR65.out)
        have HR76 := Sh.mk hown6
        have HOK6 := Sh.mk (fun r hr => kept_rc hrow75 (by decide) hK6 (HOK5.out r hr))
        have HFS6 := Sh.mk (fun g hg => kept_fs hrow75 (by decide) hK6 (HFS5.out g hg))
        have HB16 := Sh.mk hB16
        clear hown6 hgrow hK6 hB16 hrow75 hs5 hnum7
        go_wp2_with fail
        go_roundg g1_
        case measure => have := HI.out; omega
        case rel =>
          have hFl : (F ++ [f]).length = i + 1 := by rw [List.length_append, HFR.out.1]; rfl
          have hcat : catf 0 ((F ++ [f]).map Fs.l) = catf 0 (F.map Fs.l) ++ recs (i : Int) (flat f.l) := by
            rw [List.map_append, List.map_cons, List.map_nil, catf_snoc, List.length_map, HFR.out.1, Nat.zero_add]
          have hmap : (R ++ R2).map Rc.l = catf 0 ((F ++ [f]).map Fs.l) := by rw [List.map_append, HFR.out.2.2, hcat, HE.out.recs, encd_flat HRR.out]
          have hlen : (R ++ R2).length = Q := by rw [List.length_append, HQ.out]
          have hsum : (((F ++ [f]).map Fs.l).map cnt).sum = Q := by rw [← catf_len _ 0, ← hmap, List.length_map, hlen]
          have hec : ecells (F ++ [f]) (i + 1) = ecells F i ++ [.int .i64 (Q : Int)] := by
            have := ecells_snoc F f
            rw [HFR.out.1, hsum] at this
            exact this
          exact ⟨i + 1, R ++ R2, F ++ [f], by have := HI.out; omega, (by first | rfl | (rw [W8.out])), ⟨hFl, by
            rw [List.map_append, List.map_cons, List.map_nil]
            exact allr_snoc f.l HSM.out _ 0 HFR.out.2.1 (by rw [List.length_map, HFR.out.1, Nat.zero_add]; exact HRR.out), hmap⟩, HOK6, ⟨by rw [hlen, rcells_app]; exact HR56.out⟩, ⟨by rw [hec]; exact HR66.out⟩, ⟨by rw [List.map_append]; exact HR76.out⟩, HFS6, HB16⟩
end Go.Proofs.Ytnemnhfdjofckaa.Co
