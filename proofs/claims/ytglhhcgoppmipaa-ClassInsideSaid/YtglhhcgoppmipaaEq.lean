/- Two sets, compared. -/
import Derived.Test.YtglhhcgoppmipaaSet
import Derived.Laws.StructEq
namespace Go.Proofs.Ytglhhcgoppmipaa.Cl
open Go.RowKit

theorem eq4 (a0 a1 a2 a3 b0 b1 b2 b3 : Int) (w : World) : (Op.equalIn 10000 24 (.agg #[.int .u64 a0, .int .u64 a1, .int .u64 a2, .int .u64 a3]) (.agg #[.int .u64 b0, .int .u64 b1, .int .u64 b2, .int .u64 b3])).run Try.prog w = .ok (a0 == b0 && (a1 == b1 && (a2 == b2 && a3 == b3))) w := by
  show (Op.equalIn (9999 + 1) 24 _ _).run _ _ = _
  unfold Op.equalIn
  simp only [Sem.run_bind, run_underlying Try.underlying24, Result.andThen_ok]
  simp [forIn]
  have e := fun (d : Nat) (x y : Int) (w : World) => run_equalIn_int (P := Try.prog) (w := w) d 22 .u64 .u64 x y Try.underlying22
  simp only [List.range', List.forIn'_cons, List.forIn'_nil]
  simp [part, Try.sizeOf22, e, Sem.run_bind]
  by_cases h0 : a0 = b0
  · by_cases h1 : a1 = b1
    · by_cases h2 : a2 = b2
      · by_cases h3 : a3 = b3 <;> simp [h0, h1, h2, h3]
      · simp [h0, h1, h2]
    · simp [h0, h1]
  · simp [h0]
theorem eq_same (a0 a1 a2 a3 : Int) (w : World) : (Op.equalIn 10000 24 (.agg #[.int .u64 a0, .int .u64 a1, .int .u64 a2, .int .u64 a3]) (.agg #[.int .u64 a0, .int .u64 a1, .int .u64 a2, .int .u64 a3])).run Try.prog w = .ok true w := by
  rw [eq4]
  simp
end Go.Proofs.Ytglhhcgoppmipaa.Cl
