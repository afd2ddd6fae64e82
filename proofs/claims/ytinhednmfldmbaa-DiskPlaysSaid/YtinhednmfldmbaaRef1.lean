/- The reference disk: its state, Pick, Same, Read. -/
import Derived.Test.YtinhednmfldmbaaPureSafe
import Derived.Deep.LoopGhost
import Derived.Deep.CutBlock
import Derived.Deep.DeepCutAuto
namespace Go.Proofs.Ytinhednmfldmbaa.Dk
open Go Go.RowKit Hp Rd

theorem refPick_calls (c n : Int) (w : World) (hc : (Lit.int .i64 c).wf = true) (hn : 0 < n) (hn' : n ≤ 9223372036854775807) : Calls Try.prog 31 #[.int .i64 c, .int .i64 n] w fun e w' => e = .returned (.int .i64 (pick c n)) ∧ w = w' := by
  obtain ⟨hw1, hw2⟩ := lit_range hc
  clear hc
  unfold pick
  by_cases h : c < 0
  · have e1 : wrap64 (c + 1) = c + 1 := by unfold wrap64; omega
    have e2 : wrap64 (-(c + 1)) = -(c + 1) := by unfold wrap64; omega
    go_enter Try.func31, Try.ntmps31
    go_wp2
    go_ret
    refine ⟨?_, rfl⟩
    have e3 : -((c + 1).tmod n) = -(c + 1) % n := by rw [← Int.neg_tmod, Int.tmod_eq_emod_of_nonneg (by omega)]
    rw [← e3]
    rfl
  · have h' : 0 ≤ c := by omega
    go_enter Try.func31, Try.ntmps31
    go_wp2
    go_ret
    refine ⟨?_, rfl⟩
    rfl
theorem same_calls (v u : Value) (l : List Int) (w : World) (hv : Row32 w v l) (hu : Row32 w u l) : Calls Try.prog 39 #[v, u] w fun e w' => e = .returned (.bool true) ∧ w = w' := by
  have h1 := hv.conv
  have h2 := hu.conv
  go_enter Try.func39, Try.ntmps39
  go_wp2
  go_ret
  exact ⟨rfl, rfl⟩
theorem same_nil (w : World) : Calls Try.prog 39 #[.slice none 0 0, .slice none 0 0] w fun e w' => e = .returned (.bool true) ∧ w = w' := by
  have h1 := run_convert_bytes_nil (P := Try.prog) w 31 5 Try.underlying31 Try.underlying5 0 0 9 Try.underlying9
  go_enter Try.func39, Try.ntmps39
  go_wp2
  go_ret
  exact ⟨rfl, rfl⟩

/-- The reference disk: the blocks at its beginning, and each call since. -/
structure RSt where
  size : Int
  first : Int → List Int
  calls : List Wr
/-- What stands in block n. -/
def RSt.at (R : RSt) (n : Int) : List Int := R.calls.foldl (fun a c => if c.1 = n then c.2 else a) (R.first n)
/-- A block's bytes that lie in a row of F's, apart from the blocks rb and gf and from the row of calls. -/
def Kin (w : World) (F : Nat → Prop) (rb gf : Nat) (vc v : Value) (l : List Int) : Prop := Row32 w v l ∧ ∀ g off cap, v = .slice (some ⟨g, off, none⟩) 32 cap → F g ∧ g ≠ rb ∧ g ≠ gf ∧ vc.ownBlock ≠ some g ∧ 32 ≤ cap
/-- A reference disk at rb: its first blocks' row gf, its calls' row vc (the calls' bytes vs), all of it in the blocks of F. -/
structure RefIs (w : World) (F : Nat → Prop) (rb gf cf : Nat) (vc : Value) (fs vs : List Value) (R : RSt) : Prop where
  pos : 0 ≤ R.size
  head : w.heap[rb]? = some (.cells #[.int .i64 R.size, .slice (some ⟨gf, 0, none⟩) R.size.toNat cf, vc] 68 (0, 0))
  frow : w.rangeAt gf 0 fs
  fcap : R.size.toNat ≤ cf
  flen : fs.length = R.size.toNat
  firsts : ∀ (n : Nat) (v : Value), fs[n]? = some v → Kin w F rb gf vc v (R.first n)
  crow : w.ownsRow 0 83 2 vc R.calls.length ((R.calls.zip vs).flatMap fun x => [.int .i64 x.1.1, x.2])
  vlen : vs.length = R.calls.length
  bytes : ∀ (j : Nat) (c : Wr) (v : Value), R.calls[j]? = some c → vs[j]? = some v → 0 ≤ c.1 → Kin w F rb gf vc v c.2
  inF : F rb ∧ F gf ∧ ∀ k, vc.ownBlock = some k → F k
  apart : rb ≠ gf ∧ vc.ownBlock ≠ some rb ∧ vc.ownBlock ≠ some gf
  lt : ∀ i, F i → i < w.heap.size
theorem RefIs.kept {S F : Nat → Prop} {w w' : World} {rb gf cf : Nat} {vc : Value} {fs vs : List Value} {R : RSt} (h : RefIs w F rb gf cf vc fs vs R) (K : Kept S w w') (hS : ∀ i, F i → ¬ S i) : RefIs w' F rb gf cf vc fs vs R :=
  ⟨h.pos, K.heap h.head (hS _ h.inF.1), fun j u hu => kept_cell' K (h.frow j u hu) (hS _ h.inF.2.1), h.fcap, h.flen, fun n v hv => ⟨(h.firsts n v hv).1.kept K (fun g off cap he => hS _ ((h.firsts n v hv).2 g off cap he).1), (h.firsts n v hv).2⟩,
    own_kept h.crow K (fun i hi => hS _ (h.inF.2.2 i hi)), h.vlen, fun j c v hc hv h0 => ⟨(h.bytes j c v hc hv h0).1.kept K (fun g off cap he => hS _ ((h.bytes j c v hc hv h0).2 g off cap he).1), (h.bytes j c v hc hv h0).2⟩, h.inF, h.apart, fun i hi => Nat.lt_of_lt_of_le (h.lt i hi) K.size⟩
theorem pair_at : ∀ (l : List Wr) (vs : List Value) (k : Nat) (c : Wr) (v : Value), l[k]? = some c → vs[k]? = some v → ((l.zip vs).flatMap fun x => [Value.int .i64 x.1.1, x.2])[2 * k]? = some (.int .i64 c.1) ∧ ((l.zip vs).flatMap fun x => [Value.int .i64 x.1.1, x.2])[2 * k + 1]? = some v
  | [], _, _, _, _, h, _ => by simp at h
  | _ :: _, [], _, _, _, _, h => by simp at h
  | a :: l, u :: vs, 0, c, v, h1, h2 => by
    obtain rfl : a = c := by simpa using h1
    obtain rfl : u = v := by simpa using h2
    exact ⟨rfl, rfl⟩
  | a :: l, u :: vs, k + 1, c, v, h1, h2 => by
    have := pair_at l vs k c v (by simpa using h1) (by simpa using h2)
    simp only [List.zip_cons_cons, List.flatMap_cons]
    rw [show 2 * (k + 1) = 2 + 2 * k by omega, show 2 + 2 * k + 1 = 2 + (2 * k + 1) by omega, List.getElem?_append_right (by simp), List.getElem?_append_right (by simp)]
    simpa using this
theorem RefIs.call {F : Nat → Prop} {w : World} {rb gf cf : Nat} {vc : Value} {fs vs : List Value} {R : RSt} (h : RefIs w F rb gf cf vc fs vs R) {k : Nat} {c : Wr} (hk : R.calls[k]? = some c) : ∃ g cap v, vc = .slice (some ⟨g, 0, none⟩) R.calls.length cap ∧ vs[k]? = some v ∧ w.cell? ⟨g, k * 2, none⟩ = some (.int .i64 c.1) ∧ w.cell? ⟨g, k * 2 + 1, none⟩ = some v := by
  have hlt := (List.getElem?_eq_some_iff.1 hk).1
  obtain ⟨v, hv⟩ : ∃ v, vs[k]? = some v := ⟨_, List.getElem?_eq_getElem (by rw [h.vlen]; exact hlt)⟩
  obtain ⟨p1, p2⟩ := pair_at _ _ k c v hk hv
  rcases h.crow.2 with ⟨_, h2⟩ | ⟨g, cap, cur, hvc, _⟩
  · omega
  · have q1 := h.crow.cells (g := g) (by rw [hvc]; rfl) _ _ p1
    have q2 := h.crow.cells (g := g) (by rw [hvc]; rfl) _ _ p2
    rw [Addr.add_mid, Nat.zero_add] at q1 q2
    rw [Nat.mul_comm k 2]
    exact ⟨g, cap, v, hvc, hv, q1, q2⟩
def RSt.atN (R : RSt) (n : Int) (k : Nat) : List Int := (R.calls.take k).foldl (fun a c => if c.1 = n then c.2 else a) (R.first n)
theorem RSt.atN_succ (R : RSt) (n : Int) (k : Nat) (c : Wr) (h : R.calls[k]? = some c) : R.atN n (k + 1) = if c.1 = n then c.2 else R.atN n k := by
  obtain ⟨hl, he⟩ := List.getElem?_eq_some_iff.1 h
  unfold RSt.atN
  rw [List.take_succ_eq_append_getElem hl, List.foldl_append, he]
  rfl
set_option maxHeartbeats 2000000 in
set_option maxRecDepth 100000 in
theorem refRead_ok {F : Nat → Prop} {w : World} {rb gf cf : Nat} {vc : Value} {fs vs : List Value} {R : RSt} (h : RefIs w F rb gf cf vc fs vs R) (n : Nat) (hn : (n : Int) < R.size) (hl : R.calls.length < 1000000000000) :
    Calls Try.prog 38 #[.pointer (some ⟨rb, 0, none⟩), .int .i64 n] w fun e w' => ∃ v, e = .returned (.tuple #[v, .int .i64 0]) ∧ w = w' ∧ Kin w F rb gf vc v (R.at n) := by
  have hh := h.head
  have c0 : w.cell? ⟨rb, 0, none⟩ = some (.int .i64 R.size) := by simp [World.cell?, hh]
  have c1 : w.cell? ⟨rb, 1, none⟩ = some (.slice (some ⟨gf, 0, none⟩) R.size.toNat cf) := by simp [World.cell?, hh]
  have c2 : w.cell? ⟨rb, 2, none⟩ = some vc := by simp [World.cell?, hh]
  obtain ⟨v0, hv0⟩ : ∃ v, fs[n]? = some v := ⟨_, List.getElem?_eq_getElem (by rw [h.flen]; omega)⟩
  have hf0 := h.frow n v0 hv0
  rw [Nat.zero_add] at hf0
  obtain ⟨ac, cc, rfl⟩ := own_len h.crow
  have g0 : (0 : Int) ≤ (n : Int) := by omega
  have g1 : (n : Int) < (R.size.toNat : Int) := by omega
  clear hh
  go_enter Try.func38, Try.ntmps38
  go_upto_block 0 with (fail)
  go_cut [6] (fun v6 wx => wx = w ∧ Kin w F rb gf (.slice ac R.calls.length cc) v6 (R.at n))
  case first =>
    go_wp2_with fail
    go_loopg [6, 7] R.calls.length (fun kq v6 v7 w' => ∃ k : Nat, v7 = .int .i64 (k : Int) ∧ k + kq = R.calls.length ∧ w' = w ∧ Sh (Kin w F rb gf (.slice ac R.calls.length cc) v6 (R.atN n k)))
    case atStart => exact ⟨0, rfl, by omega, rfl, ⟨h.firsts n v0 hv0⟩⟩
    case round =>
      obtain ⟨k, rfl, hk, rfl, ⟨hkin⟩⟩ := hrel
      cases gk with
      | zero =>
        have q : ¬ ((k : Int) < (R.calls.length : Int)) := by omega
        obtain rfl : k = R.calls.length := by omega
        go_wp2_with fail
        go_meet
        case rel => exact ⟨rfl, by unfold RSt.atN at hkin; rw [List.take_length] at hkin; exact hkin⟩
      | succ g1_ =>
        have q : (k : Int) < (R.calls.length : Int) := by omega
        have q0 : (0 : Int) ≤ (k : Int) := by omega
        obtain ⟨c, hc⟩ : ∃ c, R.calls[k]? = some c := ⟨_, List.getElem?_eq_getElem (by omega)⟩
        obtain ⟨g, cap, v, hvc, hv, hc1, hc2⟩ := h.call hc
        obtain ⟨rfl, rfl⟩ : ac = some ⟨g, 0, none⟩ ∧ cc = cap := by simpa using hvc
        have hs := R.atN_succ n k c hc
        by_cases hcn : c.1 = (n : Int)
        · rw [if_pos hcn] at hs
          have hb := h.bytes k c v hc hv (by omega)
          rw [hcn] at hc1
          go_wp2_with fail
          go_roundg g1_
          case measure => omega
          case rel => exact ⟨k + 1, by go_num, by omega, rfl, ⟨by rw [hs]; exact hb⟩⟩
        · rw [if_neg hcn] at hs
          go_wp2_with fail
          go_roundg g1_
          case measure => omega
          case rel => exact ⟨k + 1, by go_num, by omega, rfl, ⟨by rw [hs]; exact hkin⟩⟩
  case rest =>
    obtain ⟨rfl, hkin⟩ := hcut
    go_wp2_with fail
    go_ret2
    exact ⟨_, rfl, rfl, hkin⟩
theorem refRead_bad {F : Nat → Prop} {w : World} {rb gf cf : Nat} {vc : Value} {fs vs : List Value} {R : RSt} (h : RefIs w F rb gf cf vc fs vs R) (n : Int) (hn : n < 0 ∨ R.size ≤ n) :
    Calls Try.prog 38 #[.pointer (some ⟨rb, 0, none⟩), .int .i64 n] w fun e w' => e = .returned (.tuple #[.slice none 0 0, .int .i64 21]) ∧ w = w' := by
  have hh := h.head
  have c0 : w.cell? ⟨rb, 0, none⟩ = some (.int .i64 R.size) := by simp [World.cell?, hh]
  clear hh
  by_cases h0 : n < 0
  · go_enter Try.func38, Try.ntmps38
    go_wp2
    go_ret2
    exact ⟨rfl, rfl⟩
  · have h1 : R.size ≤ n := by omega
    go_enter Try.func38, Try.ntmps38
    go_wp2
    go_ret2
    exact ⟨rfl, rfl⟩
end Go.Proofs.Ytinhednmfldmbaa.Dk
