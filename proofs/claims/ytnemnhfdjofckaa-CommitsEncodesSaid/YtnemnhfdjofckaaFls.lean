/- Files in rows; are they right? -/
import Derived.Test.YtnemnhfdjofckaaRightP
import Derived.Test.YtnemnhfdjofckaaCells
import Derived.Test.YtnemnhfdjofckaaPrintF37
namespace Go.Proofs.Ytnemnhfdjofckaa.Co
open Go Go.RowKit Hp Go.Proofs.YtnemnhfdjofckaaW.PrintWords Go.Proofs.Ytnemnhfdjofckaa.Print Go.Proofs.Ytnemnhfdjofckaa.Rt
structure FlAt (w : World) (f : S56) (g off : Nat) : Prop where
  c0 : w.cell? ⟨g, off, none⟩ = some (.string f.f0)
  c1 : w.cell? ⟨g, off + 1, none⟩ = some (.int .i64 f.f1)
  c2 : w.cell? ⟨g, off + 2, none⟩ = some (.string f.f2)
theorem FlAt.lt {w : World} {f : S56} {g off : Nat} (h : FlAt w f g off) : g < w.heap.size := World.block_lt_of_cell? w ⟨g, off, none⟩ h.c0
theorem FlAt.below {w w' : World} {f : S56} {g off : Nat} (h : FlAt w f g off) (k : Below w.heap.size w w') : FlAt w' f g off := by
  have hb : w'.heap[g]? = w.heap[g]? := k.block g h.lt
  exact ⟨(World.cell?_of_block (a := ⟨g, off, none⟩) hb).trans h.c0, (World.cell?_of_block (a := ⟨g, off + 1, none⟩) hb).trans h.c1, (World.cell?_of_block (a := ⟨g, off + 2, none⟩) hb).trans h.c2⟩
theorem FlAt.range {w : World} {f : S56} {g off : Nat} (h : FlAt w f g off) : w.rangeAt g off [.string f.f0, .int .i64 f.f1, .string f.f2] := fun j v hj => by
  match j, hj with
  | 0, hj => cases hj; exact h.c0
  | 1, hj => cases hj; exact h.c1
  | 2, hj => cases hj; exact h.c2
theorem spot_none {w : World} {a : Addr} {v : Value} (h : w.cell? a = some v) : a.spot = none := by
  obtain ⟨b, off, sp⟩ := a
  cases sp with
  | none => rfl
  | some x =>
    unfold World.cell? at h
    simp at h
    split at h <;> simp_all
theorem fls_at {w : World} {A : Option Addr} {n : Nat} {fl : List S56} (h : Kd.C k56 w A n fl) : fl = [] ∨ ∃ g off, A = some ⟨g, off, none⟩ ∧ ∀ (i : Nat) (f : S56), fl[i]? = some f → FlAt w f g (off + i * 3) := by
  cases hfl : fl with
  | nil => exact .inl rfl
  | cons x r =>
    rw [← hfl]
    have hn : fl.length = n := h.1
    have hpos : 0 < n := by rw [← hn, hfl]; simp
    obtain ⟨ad, e, h0, -, -⟩ := at_T56 h 0 (by omega) (by omega)
    have h0' : w.cell? ad = some (.string (rd_T56 fl 0).f0) := by simpa [Addr.add] using h0
    have hs := spot_none h0'
    obtain ⟨g, off, sp⟩ := ad
    simp only at hs
    subst hs
    refine .inr ⟨g, off, e, fun i f hf => ?_⟩
    have hi := (List.getElem?_eq_some_iff.1 hf).1
    obtain ⟨ad', e', k0, k1, k2⟩ := at_T56 h (i : Int) (by omega) (by omega)
    rw [e] at e'
    cases e'
    have hrd : rd_T56 fl (i : Int) = f := by
      unfold rd_T56
      rw [Int.toNat_natCast, List.getD_eq_getElem?_getD, hf]
      rfl
    rw [hrd, Int.toNat_natCast] at k0 k1 k2
    rw [Addr.add_mid] at k0 k1 k2
    exact ⟨k0, k1, k2⟩
/-- Is the i-th file right? -/
def fokd (fl : List S56) (i : Nat) (f : S56) : Prop := rgt f.f0 = true ∧ 0 ≤ f.f1 ∧ f.f1 ≤ 1099511627776 ∧ f.f2.size ≤ 65536 ∧ (i = 0 ∨ Op.bytesLess ((rd_T56 fl ((i - 1 : Nat) : Int)).f0).toList f.f0.toList = true)
instance (fl : List S56) (i : Nat) (f : S56) : Decidable (fokd fl i f) := by unfold fokd; infer_instance
def allok (fl : List S56) : Prop := ∀ (i : Nat) (f : S56), fl[i]? = some f → fokd fl i f
def rightd (n : Int) (fl : List S56) : Bool := decide (0 ≤ n ∧ n ≤ 1099511627776 ∧ fl.length ≤ 1024) && (List.range fl.length).all fun i => decide (fokd fl i (rd_T56 fl (i : Int)))
theorem rd_of {fl : List S56} {i : Nat} {f : S56} (hf : fl[i]? = some f) : rd_T56 fl (i : Int) = f := by
  unfold rd_T56
  rw [Int.toNat_natCast, List.getD_eq_getElem?_getD, hf]
  rfl
theorem rightd_iff (n : Int) (fl : List S56) : rightd n fl = true ↔ (0 ≤ n ∧ n ≤ 1099511627776 ∧ fl.length ≤ 1024 ∧ allok fl) := by
  unfold rightd
  rw [Bool.and_eq_true, decide_eq_true_iff, List.all_eq_true]
  constructor
  · rintro ⟨⟨h1, h2, h3⟩, h4⟩
    refine ⟨h1, h2, h3, fun i f hf => ?_⟩
    have := h4 i (List.mem_range.2 (List.getElem?_eq_some_iff.1 hf).1)
    rw [decide_eq_true_iff, rd_of hf] at this
    exact this
  · rintro ⟨h1, h2, h3, h4⟩
    refine ⟨⟨h1, h2, h3⟩, fun i hi => ?_⟩
    have hf := List.getElem?_eq_getElem (List.mem_range.1 hi)
    rw [decide_eq_true_iff, rd_of hf]
    exact h4 i _ hf
theorem rright_l0 (p : ByteArray) (hp : p.size ≤ 1000000000) : ∀ (m i : Nat), i + m = p.size → headgateref07_Right.l0 (m + 1) p (i : Int) = some ((p.data.toList.drop i).all okb && (decide (1 ≤ p.size) && decide (p.size ≤ 32))) := by
  intro m
  induction m with
  | zero =>
    intro i hi
    unfold headgateref07_Right.l0
    rw [if_neg (by omega), List.drop_eq_nil_of_le (by rw [Array.length_toList]; show p.size ≤ i; omega)]
    by_cases h1 : 1 ≤ p.size
    · rw [if_pos (by omega)]
      simp [h1]
      omega
    · rw [if_neg (by omega)]
      simp [h1]
  | succ m ih =>
    intro i hi
    have hip : i < p.data.size := by show i < p.size; omega
    obtain ⟨b, hb⟩ : ∃ b, p.data[i]? = some b := ⟨_, Array.getElem?_eq_getElem hip⟩
    have hbt : bt p (i : Int) = (b.toNat : Int) := by
      unfold bt
      rw [dif_pos (show (i : Int).toNat < p.size by omega)]
      have h2 : p.data[i] = b := by
        rw [Array.getElem?_eq_getElem hip] at hb
        exact Option.some.inj hb
      show ((p.data[i].toNat : Nat) : Int) = _
      rw [h2]
    unfold headgateref07_Right.l0
    rw [if_pos (by omega), if_pos (by omega), hbt, all_from p i b hb]
    have hl := b.toNat_lt
    by_cases c1 : (b.toNat : Int) < 33
    · rw [if_pos c1]
      unfold okb
      rw [decide_eq_false (show ¬ 33 ≤ b.toNat by omega)]
      rfl
    · rw [if_neg c1]
      by_cases c2 : (b.toNat : Int) > 126
      · rw [if_pos c2]
        unfold okb
        rw [decide_eq_false (show ¬ b.toNat ≤ 126 by omega), Bool.and_false]
        rfl
      · rw [if_neg c2, show wrap64 ((i : Int) + 1) = ((i + 1 : Nat) : Int) by unfold wrap64; omega, ih (i + 1) (by omega)]
        unfold okb
        rw [decide_eq_true (show 33 ≤ b.toNat by omega), decide_eq_true (show b.toNat ≤ 126 by omega)]
        rfl
theorem rright_f (p : ByteArray) (hp : p.size ≤ 1000000000) : headgateref07_Right.f (p.size + 1) p = some (rgt p) := by
  unfold headgateref07_Right.f rgt
  exact rright_l0 p hp p.size 0 (by omega)
theorem rightd_false {n : Int} {fl : List S56} (h : ¬ (0 ≤ n ∧ n ≤ 1099511627776 ∧ fl.length ≤ 1024 ∧ allok fl)) : rightd n fl = false := by
  cases hr : rightd n fl with
  | false => rfl
  | true => exact absurd ((rightd_iff n fl).1 hr) h
theorem rightd_true {n : Int} {fl : List S56} (h : 0 ≤ n ∧ n ≤ 1099511627776 ∧ fl.length ≤ 1024 ∧ allok fl) : rightd n fl = true := (rightd_iff n fl).2 h
set_option maxRecDepth 100000 in
theorem ge_run (W : World) (a b : ByteArray) : Sem.run Try.prog (binOp .geq 9 (.string a) (.string b)) W = .ok (.bool (!Op.bytesLess a.toList b.toList)) W := by rfl
theorem big_no {s : ByteArray} (h : (65536 : Int) < (s.size : Int)) : ¬ s.size ≤ 65536 := by omega
theorem big_ok {s : ByteArray} (h : ¬ (65536 : Int) < (s.size : Int)) : s.size ≤ 65536 := by omega
theorem sizeFile : (Try.prog.info? 56).map (·.size) = some 3 := by kernel_rfl
set_option maxHeartbeats 4000000 in
set_option maxRecDepth 100000 in
/-- The document's right. -/
theorem refright_ok (n : Int) (A : Option Addr) (c : Nat) (fl : List S56) (w : World) (hC : Kd.C k56 w A fl.length fl) (hp : ∀ f ∈ fl, f.f0.size ≤ 1000000000) (hlen : fl.length ≤ 1000000000) :
    Calls Try.prog 25 #[.agg #[.int .i64 n, .slice A fl.length c]] w fun e w' => e = .returned (.bool (rightd n fl)) ∧ Below w.heap.size w w' := by
  have hfls := fls_at hC
  obtain ⟨r, hr⟩ : ∃ r, rightd n fl = r := ⟨_, rfl⟩
  rw [hr]
  have HR := Sh.mk hr
  have HP := Sh.mk hp
  clear hr hC hp
  go_enter Try.func25, Try.ntmps25
  go_upto_region 1 with (fail)
  obtain ⟨w1, hw1⟩ : ∃ w1, w.alloc (.cells #[.int .i64 n, .slice A fl.length c] 34) = w1 := ⟨_, rfl⟩
  obtain ⟨b0, hb0⟩ : ∃ b0, w.heap.size = b0 := ⟨_, rfl⟩
  have hB1 : Below w.heap.size w w1 := by rw [← hw1]; exact (Below.refl _ _).alloc (Nat.le_refl _) _
  have g0 : w1.heap[b0]? = some (.cells #[.int .i64 n, .slice A fl.length c] 34 (0, 0)) := by rw [← hw1, ← hb0]; exact heap_alloc_new _ _
  rw [hw1, hb0]
  clear hw1 hb0
  have n0_ : w1.cell? ⟨b0, 0, none⟩ = some (.int .i64 n) := (Rw.blk_cell g0 0).trans rfl
  have n1_ : w1.cell? ⟨b0, 1, none⟩ = some (.slice A fl.length c) := (Rw.blk_cell g0 1).trans rfl
  have HG0 := Sh.mk g0
  have HB1 := Sh.mk hB1
  clear g0 hB1
  by_cases c1 : n < 0
  · obtain rfl : r = false := by rw [← HR.out]; exact rightd_false (fun h => by omega)
    go_wp2_with fail
    go_ret
    exact ⟨rfl, HB1.out⟩
  by_cases c2 : (1099511627776 : Int) < n
  · obtain rfl : r = false := by rw [← HR.out]; exact rightd_false (fun h => by omega)
    go_wp2_with fail
    go_ret
    exact ⟨rfl, HB1.out⟩
  by_cases c3 : (1024 : Int) < (fl.length : Int)
  · obtain rfl : r = false := by rw [← HR.out]; exact rightd_false (fun h => by omega)
    go_wp2_with fail
    go_ret
    exact ⟨rfl, HB1.out⟩
  have HN := Sh.mk (And.intro c1 (And.intro c2 c3))
  go_wp2_with fail
  clear n0_ c1 c2 c3
  go_loopg [3] fl.length (fun kq v3 w' => ∃ i : Nat, i + kq = fl.length ∧ v3 = .int .i64 (i : Int) ∧ Sh ((∀ j f, j < i → fl[j]? = some f → fokd fl j f) ∧ Below w1.heap.size w1 w'))
  case atStart => exact ⟨0, by omega, rfl, ⟨fun j f h => by omega, Below.refl _ _⟩⟩
  case round =>
    obtain ⟨i, hik, rfl, ⟨hall, hB⟩⟩ := hrel
    have q1_ : wr.cell? ⟨b0, 1, none⟩ = some (.slice A fl.length c) := (hB.cell (p := ⟨b0, 1, none⟩) (lt_of_heap HG0.out)).trans n1_
    cases gk with
    | zero =>
      obtain rfl : i = fl.length := by omega
      have kk : ¬ (fl.length : Int) < (fl.length : Int) := by omega
      obtain rfl : r = true := by
        rw [← HR.out]
        obtain ⟨d1, d2, d3⟩ := HN.out
        exact rightd_true ⟨by omega, by omega, by omega, fun j f hj => hall j f (List.getElem?_eq_some_iff.1 hj).1 hj⟩
      clear hall
      go_wp2_with fail
      go_ret
      exact ⟨rfl, HB1.out.trans (hB.mono HB1.out.size)⟩
    | succ g1_ =>
      have hil : i < fl.length := by omega
      have kk : (i : Int) < (fl.length : Int) := by omega
      obtain ⟨f, hf⟩ : ∃ f, fl[i]? = some f := ⟨_, List.getElem?_eq_getElem hil⟩
      rcases hfls with rfl | ⟨g, off, rfl, hfl⟩
      · exact absurd hil (by simp)
      have hfa := ((hfl i f hf).below HB1.out).below hB
      have hld := run_loadAt_mid (P := Try.prog) wr g (off + i * 3) 56 [.string f.f0, .int .i64 f.f1, .string f.f2] _ hfa.range Try.underlying56 rfl sizeFile
      obtain ⟨b4, hb4⟩ : ∃ b4, wr.heap.size = b4 := ⟨_, rfl⟩
      obtain ⟨w5, hw5⟩ : ∃ w5, wr.alloc (.cells #[.string ⟨#[]⟩, .int .i64 0, .string ⟨#[]⟩] 56) = w5 := ⟨_, rfl⟩
      have h5 : w5.heap[b4]? = some (.cells #[.string ⟨#[]⟩, .int .i64 0, .string ⟨#[]⟩] 56 (0, 0)) := by rw [← hw5, ← hb4]; exact heap_alloc_new _ _
      have hB5 : Below wr.heap.size wr w5 := by rw [← hw5]; exact (Below.refl _ _).alloc (Nat.le_refl _) _
      obtain ⟨w6, z1, -, z3, z4⟩ := Rw.put_row (P := Try.prog) (cs := [.string f.f0, .int .i64 f.f1, .string f.f2]) h5 rfl (by simp [Value.oneCell']) Try.underlying56 rfl sizeFile
      have hB6 : Below wr.heap.size wr w6 := hB5.trans (z3.below (B := wr.heap.size) hB5.size (fun k hk e => by omega))
      have HF := Sh.mk hf
      have HALL := Sh.mk hall
      have HI := Sh.mk hik
      have HZ4 := Sh.mk z4
      have HBA := Sh.mk (hB.trans (hB6.mono hB.size))
      have HQ1 := Sh.mk ((hB6.cell (p := ⟨b0, 1, none⟩) (World.block_lt_of_cell? wr ⟨b0, 1, none⟩ q1_)).trans q1_)
      have HPREV : Sh (∀ f', 0 < i → fl[i - 1]? = some f' → w6.cell? ⟨g, off + (i - 1) * 3, none⟩ = some (.string f'.f0)) := ⟨fun f' _ hf' => ((((hfl (i - 1) f' hf').below HB1.out).below hB).below hB6).c0⟩
      have HFL := Sh.mk hfl
      clear hf hall hik z3 z4 hB hB6 hB5 h5 hfa hfl
      go_upto_region 7 with (first | ((with_reducible refine Rw.at_slot 31 ?_); refine Rw.wpList_get rfl 56 (.tmp 30) rfl rfl hld ?_) | ((with_reducible refine Rw.at_store 4 31 ?_); (try simp only [hw5, hb4]); refine Rw.wpList_put rfl 56 (.tmp 4) (.tmp 31) rfl rfl rfl z1 ?_))
      clear hld z1 hw5 hb4 q1_ hil
      have p0_ : w6.cell? ⟨b4, 0, none⟩ = some (.string f.f0) := (Rw.blk_cell HZ4.out 0).trans rfl
      have p1_ : w6.cell? ⟨b4, 1, none⟩ = some (.int .i64 f.f1) := (Rw.blk_cell HZ4.out 1).trans rfl
      have p2_ : w6.cell? ⟨b4, 2, none⟩ = some (.string f.f2) := (Rw.blk_cell HZ4.out 2).trans rfl
      have q1_ := HQ1.out
      go_wp2_with fail
      refine (headgateref07_Right.calls (f.f0.size + 1) f.f0 (rgt f.f0) w6 (rright_f f.f0 (HP.out f (List.mem_of_getElem? HF.out)))).mono ?_
      rintro e w7' ⟨rfl, ⟨nd, hw7⟩⟩
      obtain ⟨w7, hw7'⟩ : ∃ w7, w6.drewN nd = w7 := ⟨_, rfl⟩
      rw [hw7, hw7']
      have HBF : Sh (∀ nq, Below w.heap.size w (w7.drewN nq)) := ⟨fun nq => by
        have h := HB1.out.trans (HBA.out.mono HB1.out.size)
        rw [← hw7']
        exact ⟨h.os, h.tape, h.output, h.size, h.block⟩⟩
      have HBW : Sh (∀ nq, Below w1.heap.size w1 (w7.drewN nq)) := ⟨fun nq => by
        have h := HBA.out
        rw [← hw7']
        exact ⟨h.os, h.tape, h.output, h.size, h.block⟩⟩
      replace p0_ : w7.cell? ⟨b4, 0, none⟩ = some (.string f.f0) := by rw [← hw7']; exact p0_
      replace p1_ : w7.cell? ⟨b4, 1, none⟩ = some (.int .i64 f.f1) := by rw [← hw7']; exact p1_
      replace p2_ : w7.cell? ⟨b4, 2, none⟩ = some (.string f.f2) := by rw [← hw7']; exact p2_
      replace q1_ : w7.cell? ⟨b0, 1, none⟩ = some (.slice (some ⟨g, off, none⟩) fl.length c) := by rw [← hw7']; exact q1_
      have HPRV : Sh (∀ f', 0 < i → fl[i - 1]? = some f' → w7.cell? ⟨g, off + (i - 1) * 3, none⟩ = some (.string f'.f0)) := ⟨fun f' h0 hf' => by rw [← hw7']; exact HPREV.out f' h0 hf'⟩
      have W3 : Sh (wrap64 ((i : Int) + 1) = ((i + 1 : Nat) : Int)) := ⟨by have := HI.out; unfold wrap64; omega⟩
      have HLEN := Sh.mk hlen
      clear hw7 hw7' w7' hlen HPREV
      by_cases k1 : rgt f.f0 = true
      rotate_left
      · have k1' : rgt f.f0 = false := by simpa using k1
        clear k1
        obtain rfl : r = false := by rw [← HR.out]; exact rightd_false (fun h => by have h2 := h.2.2.2 i f HF.out; unfold fokd at h2; rw [k1'] at h2; exact absurd h2.1 (by simp))
        go_upto_region 8 with (fail)
        go_quiet (fail)
        clear p0_ p1_ p2_ q1_ n1_ kk
        go_wp2_with fail
        go_ret
        exact ⟨rfl, HBF.out nq⟩
      by_cases k2 : f.f1 < 0
      · skip
        obtain rfl : r = false := by rw [← HR.out]; exact rightd_false (fun h => by have h2 := h.2.2.2 i f HF.out; unfold fokd at h2; exact absurd h2.2.1 (Int.not_le.2 k2))
        go_upto_region 8 with (fail)
        go_quiet (fail)
        clear p0_ p1_ p2_ q1_ n1_ kk
        go_wp2_with fail
        go_ret
        exact ⟨rfl, HBF.out nq⟩
      by_cases k3 : (1099511627776 : Int) < f.f1
      · skip
        obtain rfl : r = false := by rw [← HR.out]; exact rightd_false (fun h => by have h2 := h.2.2.2 i f HF.out; unfold fokd at h2; exact absurd h2.2.2.1 (Int.not_le.2 k3))
        have K2 := decide_eq_false k2
        have K3 := decide_eq_true k3
        clear q1_ n1_ kk p0_ p2_ k2 k3
        go_upto_region 8 with (fail)
        go_quiet (fail)
        clear p1_
        go_wp2_with fail
        go_ret
        exact ⟨rfl, HBF.out nq⟩
      by_cases k4 : (65536 : Int) < (f.f2.size : Int)
      · skip
        obtain rfl : r = false := by rw [← HR.out]; exact rightd_false (fun h => by have h2 := h.2.2.2 i f HF.out; unfold fokd at h2; exact big_no k4 h2.2.2.2.1)
        have K2 := decide_eq_false k2
        have K3 := decide_eq_false k3
        have K4 := decide_eq_true k4
        clear q1_ n1_ kk p0_ k2 k3 k4
        go_upto_region 8 with (fail)
        go_quiet (fail)
        clear p1_ p2_
        go_wp2_with fail
        go_ret
        exact ⟨rfl, HBF.out nq⟩
      by_cases k5 : i = 0
      · have k5' : ¬ (0 : Int) < (i : Int) := by omega
        have HNEW : Sh (∀ j f', j < i + 1 → fl[j]? = some f' → fokd fl j f') := ⟨fun j f' hj hf' => by
          rcases Nat.lt_or_ge j i with h | h
          · exact HALL.out j f' h hf'
          · obtain rfl : j = i := by omega
            have := hf'.symm.trans HF.out
            cases this
            exact ⟨k1, Int.not_lt.1 k2, Int.not_lt.1 k3, big_ok k4, .inl k5⟩⟩
        have K2 := decide_eq_false k2
        have K3 := decide_eq_false k3
        have K4 := decide_eq_false k4
        have K5 := decide_eq_false k5'
        clear q1_ n1_ kk p0_ k2 k3 k4 k5'
        go_upto_region 8 with (fail)
        go_quiet (fail)
        have HBN := Sh.mk (HBW.out nq)
        clear p1_ p2_
        generalize w7.drewN nq = wn at HBN ⊢
        go_wp2_with fail
        go_roundg g1_
        case measure => have := HI.out; omega
        case rel => exact ⟨i + 1, by have := HI.out; omega, (by first | rfl | (rw [W3.out]) | (rw [k5]; rfl)), ⟨HNEW.out, HBN.out⟩⟩
      obtain ⟨f', hf'⟩ : ∃ f', fl[i - 1]? = some f' := ⟨_, List.getElem?_eq_getElem (by have := HI.out; omega)⟩
      have pv_ := HPRV.out f' (by omega) hf'
      have hrd := rd_of hf'
      have HRD := Sh.mk hrd
      obtain ⟨j, hj⟩ : ∃ j, i - 1 = j := ⟨_, rfl⟩
      have k5' : (0 : Int) < (i : Int) := by omega
      have HJ := Sh.mk hj
      have hjl : j < fl.length := by have := HI.out; omega
      have j5_ : (i : Int) - 1 = (j : Int) := by omega
      have jw1 : IntKind.i64.wrap (j : Int) = (j : Int) := by rw [IntKind.wrap_i64]; have := HLEN.out; omega
      have jw2 : wrap64 (j : Int) = (j : Int) := by unfold wrap64; have := HLEN.out; omega
      have j3_ : (j : Int) < (fl.length : Int) := by omega
      have j4_ : (0 : Int) ≤ (j : Int) := by omega
      rw [hj] at pv_
      clear hf' hrd hj hjl
      obtain ⟨lt, hlt⟩ : ∃ lt, Op.bytesLess f'.f0.toList f.f0.toList = lt := ⟨_, rfl⟩
      have HLT := Sh.mk hlt
      have hge : ∀ W : World, Sem.run Try.prog (binOp .geq 9 (.string f'.f0) (.string f.f0)) W = .ok (.bool (!lt)) W := fun W => by
        rw [← hlt]
        exact ge_run W f'.f0 f.f0
      cases lt with
      | false =>
        obtain rfl : r = false := by rw [← HR.out]; exact rightd_false (fun h => by have h2 := h.2.2.2 i f HF.out; unfold fokd at h2; rw [HRD.out, HLT.out] at h2; exact h2.2.2.2.2.elim k5 (by simp))
        have K2 := decide_eq_false k2
        have K3 := decide_eq_false k3
        have K4 := decide_eq_false k4
        have K5 := decide_eq_true k5'
        have K5n := decide_eq_true (Int.natCast_pos.1 k5')
        clear n1_ kk k2 k3 k4 k5'
        go_upto_region 8 with (fail)
        go_quiet (fail)
        clear p0_ p1_ p2_ q1_
        go_wp2_with fail
        go_ret
        exact ⟨rfl, HBF.out nq⟩
      | true =>
        have HNEW : Sh (∀ j f', j < i + 1 → fl[j]? = some f' → fokd fl j f') := ⟨fun j f' hj hf' => by
          rcases Nat.lt_or_ge j i with h | h
          · exact HALL.out j f' h hf'
          · obtain rfl : j = i := by omega
            have := hf'.symm.trans HF.out
            cases this
            exact ⟨k1, Int.not_lt.1 k2, Int.not_lt.1 k3, big_ok k4, .inr (by rw [HRD.out]; exact HLT.out)⟩⟩
        have K2 := decide_eq_false k2
        have K3 := decide_eq_false k3
        have K4 := decide_eq_false k4
        have K5 := decide_eq_true k5'
        have K5n := decide_eq_true (Int.natCast_pos.1 k5')
        clear n1_ kk k2 k3 k4 k5'
        go_upto_region 8 with (fail)
        go_quiet (fail)
        have HBN := Sh.mk (HBW.out nq)
        clear p0_ p1_ p2_ q1_
        generalize w7.drewN nq = wn at HBN ⊢
        go_wp2_with fail
        go_roundg g1_
        case measure => have := HI.out; omega
        case rel => exact ⟨i + 1, by have := HI.out; omega, (by first | rfl | (rw [W3.out]) | (rw [k5]; rfl)), ⟨HNEW.out, HBN.out⟩⟩
end Go.Proofs.Ytnemnhfdjofckaa.Co
