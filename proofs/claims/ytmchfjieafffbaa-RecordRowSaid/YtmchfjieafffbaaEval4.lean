/- What the printed functions of chapter 4 come to. -/
import Derived.Test.YtmchfjieafffbaaPrintF24
import Derived.Test.YtmchfjieafffbaaPrintF25
import Derived.Test.YtmchfjieafffbaaPrintF26
import Derived.Test.YtmchfjieafffbaaPrintF21
import Derived.Test.YtmchfjieafffbaaPrintF20
import Derived.Test.YtmchfjieafffbaaPrintF19
import Derived.Test.YtmchfjieafffbaaPrintF18
import Derived.Test.YtmchfjieafffbaaEval1
import Derived.Test.YtmchfjieafffbaaPlain5
namespace Go.Proofs.Ytmchfjieafffbaa.Ev4
open Go.RowKit Go.Proofs.Ytmchfjieafffbaa.Print Go.Proofs.YtmchfjieafffbaaW.PrintWords Go.Proofs.YtmchfjieafffbaaW.PrintLast Go.Proofs.YtmchfjieafffbaaW.PrintMore Go.Proofs.Ytmchfjieafffbaa Go.Proofs.Ytmchfjieafffbaa.Ev1

theorem alive_f : headgatelaw04_alive.f = some true := rfl
theorem rsum_f {a b : List Int} (ha : Pl.bytes a) (hb : Pl.bytes b) : record_sum.f a b = some (Pl.more 1 (a ++ b)) := by
  unfold record_sum.f
  have r := Pl.more_range 1 a
  rw [sum_f ha]
  simp only [Option.bind_some]
  rw [more_f r.1 r.2 hb, Pl.more_more]
  rfl
theorem same2_f (a : List Int) : headgateref02_Same.f a a = some true := by unfold headgateref02_Same.f; simp
theorem shr0 (s : Int) (i : Int) (n : Nat) (hn : i.toNat = n) (h : n ≤ 32) : shr .u32 s i = s / 2 ^ n := by
  unfold shr
  rw [hn, show IntKind.u32.bits = 32 from rfl, Nat.min_eq_left h]
theorem wrap_l0 (x h3 : List Int) (s : Int) (k : Nat) (hx : x.length ≤ 4096) (hh : h3.length = 3) : record_Wrap.l0 (k + 5) x h3 s 0 = some (h3 ++ (Pl.sum4s s ++ x), 0) := by
  have w0 : wrap64 (8 * 0) = 0 := (wrap64_small _ (by omega) (by omega)).trans (by omega)
  have w1 : wrap64 (8 * 1) = 8 := (wrap64_small _ (by omega) (by omega)).trans (by omega)
  have w2 : wrap64 (8 * 2) = 16 := (wrap64_small _ (by omega) (by omega)).trans (by omega)
  have w3 : wrap64 (8 * 3) = 24 := (wrap64_small _ (by omega) (by omega)).trans (by omega)
  have v0 : wrap64 (0 + 1) = 1 := (wrap64_small _ (by omega) (by omega)).trans (by omega)
  have v1 : wrap64 (1 + 1) = 2 := (wrap64_small _ (by omega) (by omega)).trans (by omega)
  have v2 : wrap64 (2 + 1) = 3 := (wrap64_small _ (by omega) (by omega)).trans (by omega)
  have v3 : wrap64 (3 + 1) = 4 := (wrap64_small _ (by omega) (by omega)).trans (by omega)
  have s0 : shr .u32 s 0 = s := by rw [shr0 s 0 0 rfl (by decide)]; simp
  have s1 : shr .u32 s 8 = s / 256 := by rw [shr0 s 8 8 rfl (by decide)]; rfl
  have s2 : shr .u32 s 16 = s / 65536 := by rw [shr0 s 16 16 rfl (by decide)]; rfl
  have s3 : shr .u32 s 24 = s / 16777216 := by rw [shr0 s 24 24 rfl (by decide)]; rfl
  rw [record_Wrap.l0, if_pos (by decide), w0, if_pos (by decide), if_pos (by omega), v0, s0]
  rw [record_Wrap.l0, if_pos (by decide), w1, if_pos (by decide), if_pos (by simp; omega), v1, s1]
  rw [record_Wrap.l0, if_pos (by decide), w2, if_pos (by decide), if_pos (by simp; omega), v2, s2]
  rw [record_Wrap.l0, if_pos (by decide), w3, if_pos (by decide), if_pos (by simp; omega), v3, s3]
  rw [record_Wrap.l0, if_neg (by decide), if_pos (by simp; omega)]
  simp [Pl.sum4s]
theorem bytes_hd3 (n : Int) (h0 : 0 ≤ n) (h1 : n < 65536) : Pl.bytes (Pl.hd3 n) := by
  intro x hx
  simp only [Pl.hd3, List.mem_cons, List.not_mem_nil, or_false] at hx
  omega
theorem wrap_f {k : Nat} {l : List Int} (hl : Pl.bytes l) (hlen : l.length ≤ 140737488351232) (hk : 6 < k) : record_Wrap.f k l = some (Pl.wrap l) := by
  obtain ⟨k, rfl⟩ : ∃ m, k = m + 6 := ⟨k - 6, by omega⟩
  have T : record_Wrap.j0 (k + 6) l true = some ([], 1) := by rw [record_Wrap.j0, if_pos rfl]
  unfold record_Wrap.f Pl.wrap
  by_cases h0 : (l.length : Int) = 0
  · rw [if_pos h0, if_pos h0, T]
  · rw [if_neg h0, if_neg h0]
    by_cases h1 : (l.length : Int) > 4096
    · rw [if_pos h1, decide_eq_true h1, T]
    · rw [if_neg h1, decide_eq_false h1, record_Wrap.j0, if_neg (by decide), wrap64_small _ (by omega) (by omega)]
      have e : ([167, ((l.length : Int) - 1) % 256, (((l.length : Int) - 1) / 256) % 256] : List Int) = Pl.hd3 ((l.length : Int) - 1) := by
        unfold Pl.hd3
        rw [show (((l.length : Int) - 1) / 256) % 256 = ((l.length : Int) - 1) / 256 from by omega]
      rw [e]
      simp only [Option.bind_some]
      rw [rsum_f (bytes_hd3 _ (by omega) (by omega)) hl]
      simp only [Option.bind_some]
      rw [wrap_l0 l _ _ k (by omega) rfl]
      rfl
theorem fits_of {l : List Int} (h0 : ¬ (l.length : Int) = 0) (h1 : ¬ (l.length : Int) > 4096) : Pl.fits l := by unfold Pl.fits; omega
theorem refframe_f {k : Nat} {l : List Int} (hl : Pl.bytes l) (hf : Pl.fits l) (hk : l.length + 3 < k) : headgateref04_Frame.f k l = some (Pl.frame l) := by
  unfold Pl.fits at hf
  unfold headgateref04_Frame.f
  rw [wrap64_small ((l.length : Int) - 1) (by omega) (by omega), tdiv_pos _ _ (by omega), wrap64_small (((l.length : Int) - 1) / 256) (by omega) (by omega)]
  have e : ([167, ((l.length : Int) - 1) % 256, (((l.length : Int) - 1) / 256) % 256] : List Int) = Pl.hd3 ((l.length : Int) - 1) := by
    unfold Pl.hd3
    rw [show (((l.length : Int) - 1) / 256) % 256 = ((l.length : Int) - 1) / 256 from by omega]
  rw [e]
  have e3 : (Pl.hd3 ((l.length : Int) - 1)).length = 3 := rfl
  simp only [Option.bind_some, List.nil_append, List.length_nil, e3, List.length_append, List.length_cons]
  rw [if_pos (by omega), if_pos (by omega), refsum_f (Pl.bytes_app (bytes_hd3 _ (by omega) (by omega)) hl) (by simp [e3]; omega) (by simp [e3]; omega)]
  simp only [Option.bind_some]
  rw [if_pos (by omega), if_pos (by omega), if_pos (by omega)]
  unfold Pl.frame Pl.fsum Pl.sum4s
  simp
theorem refwrap_f {k : Nat} {l : List Int} (hl : Pl.bytes l) (hk : l.length + 3 < k) : headgateref04_Wrap.f k l = some (Pl.wrap l) := by
  unfold headgateref04_Wrap.f Pl.wrap
  by_cases h0 : (l.length : Int) = 0
  · rw [if_pos (by omega), if_pos h0]
  · rw [if_neg (by omega), if_neg h0]
    by_cases h1 : (l.length : Int) > 4096
    · rw [if_pos h1, if_pos h1]
    · rw [if_neg h1, if_neg h1, refframe_f hl (fits_of h0 h1) hk]
      rfl
theorem or_low (x y : Int) (i : Nat) (_ : i ≤ 32) (hx : 0 ≤ x) (hx1 : x < 2 ^ i) (hy : 0 ≤ y) (hy1 : y < 4294967296) (hy2 : y % 2 ^ i = 0) (hx2 : x < 4294967296) : Go.bits .or .u32 x y = x + y := by
  have e2 : (2 : Int) ^ 32 = 4294967296 := by decide
  have h := bits_join .u32 32 (by decide) (fun n h0 h1 => by rw [IntKind.wrap_u32]; rw [e2] at h1; omega) i y x hy hy2 (by rw [e2]; exact hy1) hx hx1 (by rw [e2]; exact hx2)
  rw [u32_or y x hy hy1 hx hx2] at h
  rw [u32_or x y hx hx2 hy hy1, Nat.or_comm, h]
  omega
theorem rd_eq (l : List Int) (i : Int) : rd l i = Pl.rdi l i := rfl
theorem take_l0 (l : List Int) (n : Int) (k : Nat) (hl : Pl.bytes l) (hlen : l.length ≤ 140737488355000) (h7 : 7 ≤ l.length) : record_Take.l0 (k + 5) l n 0 0 = record_Take.l0 (k + 1) l n (Pl.sum4 l) 4 := by
  have w0 : wrap64 (8 * 0) = 0 := (wrap64_small _ (by omega) (by omega)).trans (by omega)
  have w1 : wrap64 (8 * 1) = 8 := (wrap64_small _ (by omega) (by omega)).trans (by omega)
  have w2 : wrap64 (8 * 2) = 16 := (wrap64_small _ (by omega) (by omega)).trans (by omega)
  have w3 : wrap64 (8 * 3) = 24 := (wrap64_small _ (by omega) (by omega)).trans (by omega)
  have v0 : wrap64 (0 + 1) = 1 := (wrap64_small _ (by omega) (by omega)).trans (by omega)
  have v1 : wrap64 (1 + 1) = 2 := (wrap64_small _ (by omega) (by omega)).trans (by omega)
  have v2 : wrap64 (2 + 1) = 3 := (wrap64_small _ (by omega) (by omega)).trans (by omega)
  have v3 : wrap64 (3 + 1) = 4 := (wrap64_small _ (by omega) (by omega)).trans (by omega)
  have t0 : wrap64 (3 + 0) = 3 := (wrap64_small _ (by omega) (by omega)).trans (by omega)
  have t1 : wrap64 (3 + 1) = 4 := (wrap64_small _ (by omega) (by omega)).trans (by omega)
  have t2 : wrap64 (3 + 2) = 5 := (wrap64_small _ (by omega) (by omega)).trans (by omega)
  have t3 : wrap64 (3 + 3) = 6 := (wrap64_small _ (by omega) (by omega)).trans (by omega)
  have r3 := Pl.rdi_range hl 3
  have r4 := Pl.rdi_range hl 4
  have r5 := Pl.rdi_range hl 5
  have r6 := Pl.rdi_range hl 6
  have sh : ∀ (c i : Int) (m : Nat), i.toNat = m → m ≤ 32 → shl .u32 c i = c * 2 ^ m % 4294967296 := fun c i m hm h => by
    unfold shl
    rw [hm, show IntKind.u32.bits = 32 from rfl, Nat.min_eq_left h, IntKind.wrap_u32]
  have p0 : (2 : Int) ^ 0 = 1 := by decide
  have p8 : (2 : Int) ^ 8 = 256 := by decide
  have p16 : (2 : Int) ^ 16 = 65536 := by decide
  have p24 : (2 : Int) ^ 24 = 16777216 := by decide
  rw [record_Take.l0, if_pos (by decide), t0, if_pos (by decide), if_pos (by omega), w0, if_pos (by decide), v0, rd_eq, sh _ 0 0 rfl (by decide), p0]
  rw [or_low 0 _ 0 (by decide) (by decide) (by decide) (by omega) (by omega) (by rw [p0]; omega) (by decide)]
  rw [record_Take.l0, if_pos (by decide), t1, if_pos (by decide), if_pos (by omega), w1, if_pos (by decide), v1, rd_eq, sh _ 8 8 rfl (by decide), p8]
  rw [or_low _ _ 8 (by decide) (by omega) (by rw [p8]; omega) (by omega) (by omega) (by rw [p8]; omega) (by omega)]
  rw [record_Take.l0, if_pos (by decide), t2, if_pos (by decide), if_pos (by omega), w2, if_pos (by decide), v2, rd_eq, sh _ 16 16 rfl (by decide), p16]
  rw [or_low _ _ 16 (by decide) (by omega) (by rw [p16]; omega) (by omega) (by omega) (by rw [p16]; omega) (by omega)]
  rw [record_Take.l0, if_pos (by decide), t3, if_pos (by decide), if_pos (by omega), w3, if_pos (by decide), v3, rd_eq, sh _ 24 24 rfl (by decide), p24]
  rw [or_low _ _ 24 (by decide) (by omega) (by rw [p24]; omega) (by omega) (by omega) (by rw [p24]; omega) (by omega)]
  congr 1
  unfold Pl.sum4
  omega
theorem recN_eq {l : List Int} (hl : Pl.bytes l) : wrap64 (wrap64 (wrap64 (rd l 1) + wrap64 (wrap64 (rd l 2) * 256)) + 1) = Pl.recN l := by
  have r1 := Pl.rdi_range hl 1
  have r2 := Pl.rdi_range hl 2
  rw [rd_eq, rd_eq]
  unfold Pl.recN
  rw [wrap64_small (Pl.rdi l 1) (by omega) (by omega), wrap64_small (Pl.rdi l 2) (by omega) (by omega), wrap64_small (Pl.rdi l 2 * 256) (by omega) (by omega), wrap64_small (Pl.rdi l 1 + Pl.rdi l 2 * 256) (by omega) (by omega), wrap64_small _ (by omega) (by omega)]
theorem recN_range {l : List Int} (hl : Pl.bytes l) : 1 ≤ Pl.recN l ∧ Pl.recN l ≤ 65536 := by
  have r1 := Pl.rdi_range hl 1
  have r2 := Pl.rdi_range hl 2
  unfold Pl.recN
  omega
theorem clone_f (l : List Int) (h : l.length < 140737488355328) : bytes_Clone.f l = some l := by unfold bytes_Clone.f; rw [if_pos h]
theorem body_bytes {l : List Int} (hl : Pl.bytes l) : Pl.bytes (Pl.body l) := Pl.bytes_drop (Pl.bytes_take hl _) _
theorem body_length (l : List Int) : (Pl.body l).length ≤ l.length := by unfold Pl.body; rw [List.length_drop, List.length_take]; omega
theorem take_f {k : Nat} {l : List Int} (hl : Pl.bytes l) (hlen : l.length ≤ 140737488355000) (hk : 4 < k) : record_Take.f k l = some (Pl.take l) := by
  obtain ⟨k, rfl⟩ : ∃ m, k = m + 5 := ⟨k - 5, by omega⟩
  have hn := recN_range hl
  unfold record_Take.f Pl.take
  by_cases h0 : (l.length : Int) = 0
  · rw [if_pos h0, if_pos h0]
  rw [if_neg h0, if_neg h0, if_pos (by omega), rd_eq l 0]
  by_cases h1 : Pl.rdi l 0 = 167
  · rw [if_pos h1, if_neg (show ¬ (Pl.rdi l 0 ≠ 167) by simp [h1])]
    by_cases h3 : (l.length : Int) < 3
    · rw [if_pos h3, if_pos h3]
    rw [if_neg h3, if_neg h3, if_pos (by omega), if_pos (by omega), recN_eq hl]
    by_cases h4 : Pl.recN l > 4096
    · rw [if_pos h4, if_pos h4]
    rw [if_neg h4, if_neg h4, wrap64_small ((l.length : Int) - 7) (by omega) (by omega)]
    by_cases h5 : (l.length : Int) - 7 < Pl.recN l
    · rw [if_pos h5, if_pos h5]
    rw [if_neg h5, if_neg h5, take_l0 l _ k hl hlen (by omega)]
    rw [record_Take.l0, if_neg (by decide), if_pos (by omega), wrap64_small (7 + Pl.recN l) (by omega) (by omega), if_pos (by omega), if_pos (by omega)]
    have hb : (l.take (7 + Pl.recN l).toNat).drop 7 = Pl.body l := rfl
    rw [hb, rsum_f (Pl.bytes_take hl 3) (body_bytes hl)]
    simp only [Option.bind_some]
    by_cases h6 : Pl.sum4 l = Pl.more 1 (l.take 3 ++ Pl.body l)
    · have := body_length l
      rw [if_pos h6, if_pos h6, clone_f _ (by omega)]
      rfl
    · rw [if_neg h6, if_neg h6]
  · rw [if_neg h1, if_pos h1]
theorem scan_l {l : List Int} (hl : Pl.bytes l) (hlen : l.length ≤ 140737488355000) {b : List Int} {xs : List (List Int)} {r : List Int} (h : Pl.Scans b xs r) : ∀ (k at_ : Nat) (acc : List (List Int)), b = l.drop at_ → at_ ≤ l.length → acc.length + xs.length < 5000000000000 → xs.length + 5 < k →
    record_Scan.l50 k l acc (at_ : Int) = some (acc ++ xs, (l.length : Int) - (r.length : Int)) := by
  induction h with
  | @done b hb =>
    intro k at_ acc he hle hacc hk
    obtain ⟨k, rfl⟩ : ∃ m, k = m + 1 := ⟨k - 1, by omega⟩
    have hlb : b.length = l.length - at_ := by rw [he, List.length_drop]
    rw [record_Scan.l50, if_pos (by omega), if_pos (by omega), Int.toNat_natCast, ← he, take_f (he ▸ Pl.bytes_drop hl _) (by omega) (by omega)]
    simp only [Option.bind_some]
    rw [if_neg hb, List.append_nil]
    congr 2
    omega
  | @more b x n xs r ht hs ih =>
    intro k at_ acc he hle hacc hk
    obtain ⟨k, rfl⟩ : ∃ m, k = m + 1 := ⟨k - 1, by omega⟩
    have hlb : b.length = l.length - at_ := by rw [he, List.length_drop]
    have hbb : Pl.bytes b := he ▸ Pl.bytes_drop hl _
    obtain ⟨r', hr, hx, hn⟩ := Pl.take_ok hbb ht
    have hfl : b.length = 7 + x.length + r'.length := by rw [hr, List.length_append, Pl.frame_length]
    unfold Pl.fits at hx
    simp only [List.length_cons] at hk hacc
    rw [record_Scan.l50, if_pos (by omega), if_pos (by omega), Int.toNat_natCast, ← he, take_f hbb (by omega) (by omega), ht]
    simp only [Option.bind_some]
    rw [if_pos trivial, if_pos (by omega), wrap64_small _ (by omega) (by omega), show (at_ : Int) + n = ((at_ + n.toNat : Nat) : Int) from by omega]
    rw [ih k (at_ + n.toNat) (acc ++ [x]) (by rw [he, List.drop_drop]) (by omega) (by rw [List.length_append, List.length_singleton]; omega) (by omega)]
    simp
theorem scan_f {k : Nat} {l : List Int} (hl : Pl.bytes l) (hlen : l.length ≤ 140737488355000) {xs : List (List Int)} {r : List Int} (h : Pl.Scans l xs r) (hx : xs.length < 5000000000000) (hk : xs.length + 5 < k) : record_Scan.f k l = some (xs, (l.length : Int) - (r.length : Int)) := by
  unfold record_Scan.f
  have := scan_l hl hlen h k 0 [] (by simp) (by omega) (by rw [List.length_nil]; omega) hk
  simpa using this
theorem sameL_l0 (a : List (List Int)) (ha : a.length ≤ 9223372036854775807) (d : Nat) : ∀ (k i : Nat), i ≤ a.length → a.length - i = d → d < k → headgateref04_Same.l0 k a a (i : Int) = some true := by
  induction d with
  | zero =>
    intro k i hi hd hk
    obtain ⟨k, rfl⟩ : ∃ m, k = m + 1 := ⟨k - 1, by omega⟩
    rw [headgateref04_Same.l0, if_neg (by omega)]
  | succ d ih =>
    intro k i hi hd hk
    obtain ⟨k, rfl⟩ : ∃ m, k = m + 1 := ⟨k - 1, by omega⟩
    rw [headgateref04_Same.l0, if_pos (by omega), if_pos (by omega), if_pos (by omega), if_pos rfl, wrap64_small _ (by omega) (by omega), show (i : Int) + 1 = ((i + 1 : Nat) : Int) from by omega]
    exact ih k (i + 1) (by omega) (by omega) (by omega)
theorem sameL_f {k : Nat} (a : List (List Int)) (ha : a.length ≤ 9223372036854775807) (hk : a.length < k) : headgateref04_Same.f k a a = some true := by
  unfold headgateref04_Same.f
  rw [if_pos rfl]
  exact sameL_l0 a ha a.length k 0 (by omega) (by omega) hk
theorem bytesOf_inj {a b : List Int} (ha : Pl.bytes a) (hb : Pl.bytes b) (h : Go.Lib.bytesOf a = Go.Lib.bytesOf b) : a = b := by
  induction a generalizing b with
  | nil =>
    cases b with
    | nil => rfl
    | cons y t => simp [Go.Lib.bytesOf] at h
  | cons x s ih =>
    cases b with
    | nil => simp [Go.Lib.bytesOf] at h
    | cons y t =>
      simp only [Go.Lib.bytesOf, List.map_cons, List.cons.injEq] at h
      have hx := ha x (by simp)
      have hy := hb y (by simp)
      have e := congrArg UInt8.toNat h.1
      rw [UInt8.toNat_ofNat', UInt8.toNat_ofNat', Nat.mod_eq_of_lt (by omega), Nat.mod_eq_of_lt (by omega)] at e
      have ht := ih (b := t) (fun z hz => ha z (by simp [hz])) (fun z hz => hb z (by simp [hz])) h.2
      rw [ht, show x = y from by omega]
theorem strOf_iff {a b : List Int} (ha : Pl.bytes a) (hb : Pl.bytes b) : (strOfNums a).toList = (strOfNums b).toList ↔ a = b := by
  rw [Go.Lib.strOfNums_toList, Go.Lib.strOfNums_toList]
  exact ⟨bytesOf_inj ha hb, fun h => by rw [h]⟩
theorem recN2_eq {l : List Int} (hl : Pl.bytes l) : wrap64 (wrap64 (wrap64 (rd l 1) + wrap64 (256 * wrap64 (rd l 2))) + 1) = Pl.recN l := by
  rw [show (256 : Int) * wrap64 (rd l 2) = wrap64 (rd l 2) * 256 from by omega]
  exact recN_eq hl
theorem rdi2_recN {l : List Int} (hl : Pl.bytes l) : Pl.rdi l 2 ≥ 16 ↔ Pl.recN l > 4096 := by
  have r1 := Pl.rdi_range hl 1
  have r2 := Pl.rdi_range hl 2
  unfold Pl.recN
  omega
theorem cut_frame {l : List Int} (hl : Pl.bytes l) (h0 : Pl.rdi l 0 = 167) (h4 : ¬ Pl.recN l > 4096) (h5 : ¬ (l.length : Int) - 7 < Pl.recN l) :
    Pl.frame (Pl.body l) = l.take (7 + Pl.recN l).toNat ↔ Pl.sum4 l = Pl.more 1 (l.take 3 ++ Pl.body l) := by
  have hn := recN_range hl
  obtain ⟨b0, b1, b2, b3, b4, b5, b6, t, rfl⟩ := Pl.seven (b := l) (by omega)
  have q0 : b0 = 167 := h0
  have r1 := hl b1 (by simp)
  have r2 := hl b2 (by simp)
  have r3 := hl b3 (by simp)
  have r4 := hl b4 (by simp)
  have r5 := hl b5 (by simp)
  have r6 := hl b6 (by simp)
  have hN : Pl.recN (b0 :: b1 :: b2 :: b3 :: b4 :: b5 :: b6 :: t) = b1 + b2 * 256 + 1 := rfl
  rw [hN] at h4 h5 hn
  simp only [List.length_cons] at h5
  obtain ⟨m, hm⟩ : ∃ m : Nat, b1 + b2 * 256 + 1 = (m : Int) := ⟨(b1 + b2 * 256 + 1).toNat, by omega⟩
  have e7 : (7 + (b1 + b2 * 256 + 1)).toNat = m + 7 := by omega
  have hb : Pl.body (b0 :: b1 :: b2 :: b3 :: b4 :: b5 :: b6 :: t) = t.take m := by
    unfold Pl.body
    rw [hN, e7]
    rfl
  have hlm : (t.take m).length = m := by rw [List.length_take]; omega
  rw [hb, hN, e7, Pl.frame_cons]
  have g := Pl.fsum_range (t.take m)
  have hs : Pl.sum4 (b0 :: b1 :: b2 :: b3 :: b4 :: b5 :: b6 :: t) = b3 + 256 * b4 + 65536 * b5 + 16777216 * b6 := rfl
  have hf : Pl.fsum (t.take m) = Pl.more 1 ([b0, b1, b2] ++ t.take m) := by
    unfold Pl.fsum Pl.hd3
    rw [hlm, show ((m : Int) - 1) % 256 = b1 from by omega, show ((m : Int) - 1) / 256 = b2 from by omega, q0]
  have h3 : (b0 :: b1 :: b2 :: b3 :: b4 :: b5 :: b6 :: t).take 3 = [b0, b1, b2] := rfl
  rw [hs, h3, ← hf]
  simp only [List.take_succ_cons, List.cons.injEq, hlm]
  constructor
  · rintro ⟨_, _, _, _, _, _, _, _⟩
    omega
  · intro h
    refine ⟨by omega, by omega, by omega, by omega, by omega, by omega, by omega, trivial⟩
theorem reftake_f {k : Nat} {l : List Int} (hl : Pl.bytes l) (hlen : l.length ≤ 140737488351232) (hk : l.length + 5 < k) : headgateref04_Take.f k l = some (Pl.take l) := by
  obtain ⟨k, rfl⟩ : ∃ m, k = m + 2 := ⟨k - 2, by omega⟩
  have hn := recN_range hl
  have T0 : headgateref04_Take.j0 (k + 2) l true = some ([], 0, 41) := by rw [headgateref04_Take.j0, if_pos rfl]
  unfold headgateref04_Take.f
  by_cases h0 : (l.length : Int) = 0
  · unfold Pl.take
    rw [if_neg (by omega), if_pos h0]
    rw [headgateref04_Take.j0, if_neg (by decide), if_neg (by omega), headgateref04_Take.j1, if_neg (by decide), if_pos (by omega)]
  rw [if_pos (by omega), if_pos (by omega), rd_eq l 0]
  by_cases h1 : Pl.rdi l 0 = 167
  · rw [h1, show ((167 : Int) != 167) = false from rfl, headgateref04_Take.j0, if_neg (by decide)]
    unfold Pl.take
    rw [if_neg h0, if_neg (show ¬ (Pl.rdi l 0 ≠ 167) by simp [h1])]
    by_cases h3 : (l.length : Int) < 3
    · rw [if_pos h3, if_neg (by omega), headgateref04_Take.j1, if_neg (by decide), if_pos (by omega)]
    rw [if_neg h3, if_pos (by omega), if_pos (by omega), rd_eq l 2, headgateref04_Take.j1]
    by_cases h4 : Pl.recN l > 4096
    · rw [if_pos h4, decide_eq_true ((rdi2_recN hl).2 h4), if_pos rfl]
    rw [if_neg h4, decide_eq_false (fun h => h4 ((rdi2_recN hl).1 h)), if_neg (by decide), if_neg (by omega), if_pos (by omega), if_pos (by omega)]
    simp only [recN2_eq hl]
    rw [wrap64_small ((l.length : Int) - 7) (by omega) (by omega)]
    by_cases h5 : (l.length : Int) - 7 < Pl.recN l
    · rw [if_pos h5, if_pos h5]
    rw [if_neg h5, if_neg h5]
    simp only [wrap64_small (7 + Pl.recN l) (by omega) (by omega)]
    rw [if_pos (by omega), if_pos (by omega)]
    have hb : (l.take (7 + Pl.recN l).toNat).drop 7 = Pl.body l := rfl
    have hbl : (Pl.body l).length = (Pl.recN l).toNat := by rw [← hb, List.length_drop, List.length_take]; omega
    have hfit : Pl.fits (Pl.body l) := by unfold Pl.fits; omega
    rw [hb, refframe_f (body_bytes hl) hfit (by omega)]
    simp only [Option.bind_some, List.nil_append, List.length_nil]
    rw [if_pos (by omega)]
    have iff1 := cut_frame hl h1 h4 h5
    have iff2 := strOf_iff (Pl.bytes_frame (body_bytes hl) hfit) (Pl.bytes_take hl (7 + Pl.recN l).toNat)
    by_cases h6 : Pl.sum4 l = Pl.more 1 (l.take 3 ++ Pl.body l)
    · rw [if_pos h6, if_pos (iff2.2 (iff1.2 h6)), if_pos (by omega)]
    · rw [if_neg h6, if_neg (fun h => h6 (iff1.1 (iff2.1 h)))]
  · rw [show (Pl.rdi l 0 != 167) = true from by simpa using h1, T0]
    unfold Pl.take
    rw [if_neg h0, if_pos h1]
theorem refscan_l {l : List Int} (hl : Pl.bytes l) (hlen : l.length ≤ 1000000000) {b : List Int} {xs : List (List Int)} {r : List Int} (h : Pl.Scans b xs r) : ∀ (k at_ : Nat) (acc : List (List Int)), b = l.drop at_ → at_ ≤ l.length → acc.length * 8 ≤ at_ → xs.length + l.length + 6 < k →
    headgateref04_Scan.l0 k l acc (at_ : Int) = some (acc ++ xs, (l.length : Int) - (r.length : Int)) := by
  induction h with
  | @done b hb =>
    intro k at_ acc he hle hacc hk
    obtain ⟨k, rfl⟩ : ∃ m, k = m + 1 := ⟨k - 1, by omega⟩
    have hlb : b.length = l.length - at_ := by rw [he, List.length_drop]
    rw [headgateref04_Scan.l0]
    by_cases hend : (at_ : Int) < (l.length : Int)
    · rw [if_pos hend, if_pos (by omega), if_pos (by omega), Int.toNat_natCast, ← he, reftake_f (he ▸ Pl.bytes_drop hl _) (by omega) (by omega)]
      simp only [Option.bind_some]
      rw [if_neg hb, List.append_nil]
      congr 2
      omega
    · rw [if_neg hend, List.append_nil]
      congr 2
      omega
  | @more b x n xs r ht hs ih =>
    intro k at_ acc he hle hacc hk
    obtain ⟨k, rfl⟩ : ∃ m, k = m + 1 := ⟨k - 1, by omega⟩
    have hlb : b.length = l.length - at_ := by rw [he, List.length_drop]
    have hbb : Pl.bytes b := he ▸ Pl.bytes_drop hl _
    obtain ⟨r', hr, hx, hn⟩ := Pl.take_ok hbb ht
    have hfl : b.length = 7 + x.length + r'.length := by rw [hr, List.length_append, Pl.frame_length]
    unfold Pl.fits at hx
    simp only [List.length_cons] at hk
    rw [headgateref04_Scan.l0, if_pos (by omega), if_pos (by omega), if_pos (by omega), Int.toNat_natCast, ← he, reftake_f hbb (by omega) (by omega), ht]
    simp only [Option.bind_some]
    rw [if_pos trivial, if_pos (by omega), wrap64_small _ (by omega) (by omega), show (at_ : Int) + n = ((at_ + n.toNat : Nat) : Int) from by omega]
    rw [ih k (at_ + n.toNat) (acc ++ [x]) (by rw [he, List.drop_drop]) (by omega) (by simp; omega) (by omega)]
    simp
theorem refscan_f {k : Nat} {l : List Int} (hl : Pl.bytes l) (hlen : l.length ≤ 1000000000) {xs : List (List Int)} {r : List Int} (h : Pl.Scans l xs r) (hk : xs.length + l.length + 6 < k) : headgateref04_Scan.f k l = some (xs, (l.length : Int) - (r.length : Int)) := by
  unfold headgateref04_Scan.f
  have := refscan_l hl hlen h k 0 [] (by simp) (by omega) (by simp) hk
  simpa using this
theorem flat_le {xs : List (List Int)} {l r : List Int} (he : l = (xs.map Pl.frame).flatten ++ r) : xs.length ≤ l.length := by
  have h : ∀ xs : List (List Int), xs.length ≤ ((xs.map Pl.frame).flatten).length := fun xs => by
    induction xs with
    | nil => exact Nat.le_refl _
    | cons x xs ih =>
      simp only [List.map_cons, List.flatten_cons, List.length_append, List.length_cons]
      rw [Pl.frame_length]
      omega
  rw [he, List.length_append]
  have := h xs
  omega
end Go.Proofs.Ytmchfjieafffbaa.Ev4
