/- ClassNames, walked. -/
import Derived.Test.YtglhhcgoppmipaaAlive
import Derived.Test.YtglhhcgoppmipaaRefNamed
namespace Go.Proofs.Ytglhhcgoppmipaa.Cl
open Go.RowKit Go.Proofs.YtglhhcgoppmipaaW.PrintWords

set_option maxHeartbeats 8000000 in
theorem lawNames_calls (s : ByteArray) (w : World) (m : Int) (hm : w.cell? ⟨0, 0, none⟩ = some (.int .i64 m)) :
    Calls Try.prog 4 #[.string s] w fun e w' => e = .returned (.bool true) ∧ Below w.heap.size w w' := by
  have hw0 : 0 < w.heap.size := Go.block_lt_of_cell hm
  by_cases hlen : 100 < s.size
  · have hli : (100 : Int) < (s.size : Int) := by omega
    have KAL := Aside0.mk (alive_calls w m hm)
    clear hm hlen
    go_enter Try.func4, Try.ntmps4
    go_wp2_with (fail)
    refine KAL.out.mono ?_
    rintro e w1 ⟨rfl, hb⟩
    go_wp2
    go_ret
    exact ⟨rfl, hb⟩
  have hli : ¬ (100 : Int) < (s.size : Int) := by omega
  have KN := Aside0.mk (named_calls s w)
  have KR := Aside0.mk (fun w => refnamed_calls s w)
  obtain ⟨N, hN⟩ : ∃ N, nset s.toList = N := ⟨_, rfl⟩
  rw [hN] at KN KR
  obtain ⟨b, hb⟩ : ∃ b, (N != 0) = b := ⟨_, rfl⟩
  rw [hb] at KN KR
  clear hN hb hlen
  have HM : Aside0 (∀ {w' : World}, Below w.heap.size w w' → w'.cell? ⟨0, 0, none⟩ = some (.int .i64 m)) := ⟨fun h => (h.cell (p := ⟨0, 0, none⟩) hw0).trans hm⟩
  clear hm
  have hq := eq_same
  go_enter Try.func4, Try.ntmps4
  go_wp2_with (fail)
  refine KN.out.mono ?_
  rintro e w1 ⟨rfl, hb1⟩
  rw [St_eq]
  have HB1 := Aside0.mk hb1
  clear hb1
  go_wp2_with (fail)
  obtain ⟨w2, hw2⟩ : ∃ z, z = w1.alloc (.cells #[.int .u64 (wd N 0), .int .u64 (wd N 1), .int .u64 (wd N 2), .int .u64 (wd N 3)] 24) := ⟨_, rfl⟩
  rw [← hw2]
  have P2 : Var w1.heap.size N w2 := by rw [hw2]; exact Go.heap_alloc_new _ _
  have bel2 : Below w1.heap.size w1 w2 := by rw [hw2]; exact (Below.refl w1.heap.size w1).alloc (Nat.le_refl _) _
  have HB2 := Aside0.mk (HB1.out.trans (bel2.mono HB1.out.size))
  clear hw2 bel2
  refine (KR.out _).mono ?_
  rintro e w3 ⟨rfl, hb3⟩
  rw [St_eq]
  have P3 := P2.below hb3
  have HB3 := Aside0.mk (HB2.out.trans (hb3.mono HB2.out.size))
  have hlt3 : w1.heap.size < w3.heap.size := P3.lt
  clear hb3 P2
  have S4 : Var w3.heap.size N (w3.alloc (.cells #[.int .u64 (wd N 0), .int .u64 (wd N 1), .int .u64 (wd N 2), .int .u64 (wd N 3)] 24)) := Go.heap_alloc_new _ _
  have bel4 : Below w3.heap.size w3 (w3.alloc (.cells #[.int .u64 (wd N 0), .int .u64 (wd N 1), .int .u64 (wd N 2), .int .u64 (wd N 3)] 24)) := (Below.refl w3.heap.size w3).alloc (Nat.le_refl _) _
  have P4 := Aside0.mk (P3.below bel4)
  have SS4 := Aside0.mk S4
  have HB4 := Aside0.mk (HB3.out.trans (bel4.mono HB3.out.size))
  have KAL := Aside0.mk (alive_calls _ m (HM.out HB4.out))
  clear S4 bel4 P3 HB3 HB2 HB1 KN KR HM
  go_wp2_with (fail)
  refine KAL.out.mono ?_
  rintro e w5 ⟨rfl, hb5⟩
  have P5 := P4.out.below hb5
  have S5 := SS4.out.below hb5
  have HB5 := Aside0.mk (HB4.out.trans (hb5.mono HB4.out.size))
  clear hb5
  obtain ⟨c0, c1, c2, c3⟩ := P5.cell
  obtain ⟨d0, d1, d2, d3⟩ := S5.cell
  go_wp2
  go_ret
  exact ⟨by first | rfl | (cases b <;> rfl), HB5.out⟩
end Go.Proofs.Ytglhhcgoppmipaa.Cl
