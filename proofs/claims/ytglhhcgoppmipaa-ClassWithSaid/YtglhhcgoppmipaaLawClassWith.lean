/- The row of ClassWith: for every input the law returns true; each argument reads behind the call as it read before. -/
import Derived.Test.YtglhhcgoppmipaaRows
import Derived.Test.YtglhhcgoppmipaaWalkWith
import Derived.Test.YtglhhcgoppmipaaOpen
import Derived.WalkKit
import Derived.ProofKit
import Derived.OpenShut
import Derived.ShutString
import Derived.ChangeOld
import Derived.Below
import Derived.Carry
import Derived.HandedShaped
namespace Go.Proofs.Ytglhhcgoppmipaa.classWith
open Go.ChangeShapes Go.WideShapes Go.ChangeAt Go.RowKit
open Go.ChangeMaps (open_string shut_string)
theorem own : ownKnob Try.prog.godebug = none := by kernel_rfl
theorem laidOut : laidOutB Try.prog = true := by kernel_rfl
set_option maxRecDepth 100000 in
theorem lifted (os : Os) (started : os.Started) (H : Type) (enc : TypeId × Value → H) :
    ReturnsInHanded {} Try.checked os 6 .any (Rows.classWithSpec.pre6 enc Try.prog Try.f6 Rows.classWithRow.domain false) (Rows.classWithSpec.post enc Try.prog Try.f6 false true false false) := by
  refine returnsInHanded_of_change_shaped (C := Try.checked) own started (by kernel_rfl) Try.func6
    (ChangeSpec.witness6 (enc := enc) (C := Try.checked) false ⟨#[], #[(Cl.St 0), (Cl.St 0), (.agg #[.int .u8 0, .int .u8 0, .int .u8 0])], []⟩ 8 (by kernel_rfl) (by kernel_rfl) (by kernel_rfl) (by kernel_rfl)) ?_
  intro W base args ds gs before hval0 hW _ _ hsh _
  have hval : ∀ (j : Nat) t v, Try.f6.params[j]? = some t → args[j]? = some v → Value.okWide Try.prog W .any base t v := hval0
  have hW' := hW
  obtain ⟨p, q, hA0, hV, rfl, hfz, hnd⟩ := hW
  have hA : DataW.TrodAll enc Try.prog W 0 (fun _ => true) true Try.f6.params.toList args.toList ds p := hA0
  rw [Try.params6] at hA hval
  obtain ⟨v0, vs0, d0, ds0, p0, q0, hargs, rfl, rfl, h0, r0⟩ := trodAll_cons hA
  obtain ⟨v1, vs1, d1, ds1, p1, q1, rfl, rfl, rfl, h1, r1⟩ := trodAll_cons r0
  obtain ⟨v2, vs2, d2, ds2, p2, q2, rfl, rfl, rfl, h2, r2⟩ := trodAll_cons r1
  obtain ⟨rfl, rfl, rfl⟩ := trodAll_nil r2
  obtain rfl : args = #[v0, v1, v2] := by cases args; simp_all
  obtain ⟨rfl, rfl⟩ := trodVars_none hV
  have k0 := h0
  have lt0 : ∀ x ∈ p0, x.block < W.heap.size := by obtain ⟨m, hm⟩ := k0; exact DataW.trod_lt m _ _ _ hm
  obtain ⟨xs0, rfl, hn0, hx0⟩ := Cl.arr_open (n := 4) (q := .u64) (e := 22) ⟨Try.underlying24, by kernel_rfl, by kernel_rfl, by kernel_rfl⟩ Try.underlying22 (hval 0 24 v0 rfl rfl) h0
  obtain ⟨s0, hs0, e0⟩ := Cl.agg4 xs0 hn0 hx0
  rw [e0] at hW' k0 ⊢
  have k1 := h1
  have lt1 : ∀ x ∈ p1, x.block < W.heap.size := by obtain ⟨m, hm⟩ := k1; exact DataW.trod_lt m _ _ _ hm
  obtain ⟨xs1, rfl, hn1, hx1⟩ := Cl.arr_open (n := 4) (q := .u64) (e := 22) ⟨Try.underlying24, by kernel_rfl, by kernel_rfl, by kernel_rfl⟩ Try.underlying22 (hval 1 24 v1 rfl rfl) h1
  obtain ⟨s1, hs1, e1⟩ := Cl.agg4 xs1 hn1 hx1
  rw [e1] at hW' k1 ⊢
  have k2 := h2
  have lt2 : ∀ x ∈ p2, x.block < W.heap.size := by obtain ⟨m, hm⟩ := k2; exact DataW.trod_lt m _ _ _ hm
  obtain ⟨xs2, rfl, hn2, hx2⟩ := Cl.arr_open (n := 3) (q := .u8) (e := 5) ⟨Try.underlying36, by kernel_rfl, by kernel_rfl, by kernel_rfl⟩ Try.underlying5 (hval 2 36 v2 rfl rfl) h2
  obtain ⟨x2a, x2b, x2c, lx2a, lx2b, lx2c, e2⟩ := Cl.agg3 xs2 hn2 hx2
  rw [e2] at hW' k2 ⊢
  obtain ⟨m, hm⟩ := Try.laysM145.s1_3 W hsh
  refine (Cl.lawWith_calls s0 s1 x2a x2b x2c W m hm lx2a lx2b lx2c).mono fun e W' ⟨he, bel⟩ => ?_
  subst he
  exact ⟨_, rfl, _, _, _, [], _, [], hW', trodAll_mk1 (shut_bool Try.underlying4 _), (trodAll_cons_mk (Below.trod laidOut (by kernel_rfl) (of_decide_eq_true (by kernel_rfl)) k0 bel lt0) (trodAll_cons_mk (Below.trod laidOut (by kernel_rfl) (of_decide_eq_true (by kernel_rfl)) k1 bel lt1) (trodAll_cons_mk (Below.trod laidOut (by kernel_rfl) (of_decide_eq_true (by kernel_rfl)) k2 bel lt2) trodAll_mk0))), rfl, bel.frame _, fun h => by cases h⟩
theorem over : Rows.classWithRow.holds Try.pinned (OpenSpec.ofChange Rows.classWithSpec) :=
  OpenClaim.holds_of_wide 6 Try.f6 rfl rfl rfl rfl rfl rfl rfl ⟨rfl, rfl, rfl, rfl, rfl⟩ rfl rfl rfl rfl rfl (by kernel_rfl) Try.func6 (by kernel_rfl)
    (of_decide_eq_true (by kernel_rfl)) (by unfold Func.isWrapper; first | (rw [if_pos (by decide +kernel)]; kernel_rfl) | (rw [if_neg (by decide +kernel)]; exact ⟨rfl, rfl⟩))
    (fun os started H enc _ => lifted os started H enc)
theorem proved : Rows.ClassWithSaid := over
#print axioms proved
end Go.Proofs.Ytglhhcgoppmipaa.classWith
namespace Go.Proofs.Ytglhhcgoppmipaa
/-- The row, under a short name, for the claim. -/
theorem classWith_holds : Rows.ClassWithSaid := classWith.proved
end Go.Proofs.Ytglhhcgoppmipaa
