/- Fletcher sums as plain Lean: two sums counted round by 65521. -/
import Derived.Laws.BitsLemmas
import Derived.Laws.BitsAllLaws
namespace Go.Proofs.Ytinhednmfldmbaa.Pl

def P : Int := 65521
def mstep (p : Int × Int) (c : Int) : Int × Int := ((p.1 + c) % 65521, (p.2 + (p.1 + c) % 65521) % 65521)
def mrun (p : Int × Int) (l : List Int) : Int × Int := l.foldl mstep p
def mfrom (s : Int) : Int × Int := (s % 65536 % 65521, s / 65536 % 65521)
def mto (p : Int × Int) : Int := p.2 * 65536 + p.1
def more (s : Int) (l : List Int) : Int := mto (mrun (mfrom s) l)
def byte (x : Int) : Prop := 0 ≤ x ∧ x < 256
def bytes (l : List Int) : Prop := ∀ x ∈ l, 0 ≤ x ∧ x < 256
instance (l : List Int) : Decidable (bytes l) := inferInstanceAs (Decidable (∀ x ∈ l, 0 ≤ x ∧ x < 256))
def Ok (p : Int × Int) : Prop := 0 ≤ p.1 ∧ p.1 < 65521 ∧ 0 ≤ p.2 ∧ p.2 < 65521

theorem mrun_nil (p : Int × Int) : mrun p [] = p := rfl
theorem mrun_cons (p : Int × Int) (c : Int) (l : List Int) : mrun p (c :: l) = mrun (mstep p c) l := rfl
theorem mrun_append (p : Int × Int) (l m : List Int) : mrun p (l ++ m) = mrun (mrun p l) m := by simp [mrun, List.foldl_append]
theorem mrun_snoc (p : Int × Int) (l : List Int) (c : Int) : mrun p (l ++ [c]) = mstep (mrun p l) c := by simp [mrun, List.foldl_append]
theorem mstep_ok (p : Int × Int) (c : Int) : Ok (mstep p c) := by
  unfold Ok mstep
  exact ⟨by omega, by omega, by omega, by omega⟩
theorem mrun_ok (p : Int × Int) (l : List Int) (h : Ok p) : Ok (mrun p l) := by
  induction l generalizing p with
  | nil => exact h
  | cons c l ih => rw [mrun_cons]; exact ih _ (mstep_ok _ _)
theorem mfrom_ok (s : Int) : Ok (mfrom s) := by
  unfold Ok mfrom
  exact ⟨by omega, by omega, by omega, by omega⟩
theorem mfrom_mto (p : Int × Int) (h : Ok p) : mfrom (mto p) = p := by
  obtain ⟨a, s⟩ := p
  unfold Ok at h
  unfold mfrom mto
  simp only [Prod.mk.injEq]
  simp only at h
  constructor <;> omega
theorem mto_range (p : Int × Int) (h : Ok p) : 0 ≤ mto p ∧ mto p < 4294967296 := by
  unfold Ok at h; unfold mto; omega
theorem more_range (s : Int) (l : List Int) : 0 ≤ more s l ∧ more s l < 4294967296 := mto_range _ (mrun_ok _ _ (mfrom_ok s))
theorem more_more (s : Int) (l m : List Int) : more (more s l) m = more s (l ++ m) := by
  unfold more
  rw [mfrom_mto _ (mrun_ok _ _ (mfrom_ok s)), mrun_append]
theorem mto_inj {p q : Int × Int} (hp : Ok p) (hq : Ok q) (h : mto p = mto q) : p = q := by
  rw [← mfrom_mto p hp, ← mfrom_mto q hq, h]
/-- The lower half is the sum of all. -/
theorem mrun_fst (p : Int × Int) (l : List Int) (h : Ok p) : (mrun p l).1 = (p.1 + l.sum) % 65521 := by
  induction l generalizing p with
  | nil => rw [mrun_nil]; unfold Ok at h; simp; omega
  | cons c l ih =>
    rw [mrun_cons, ih _ (mstep_ok _ _)]
    simp only [mstep, List.sum_cons]
    omega
/-- Where just one byte is another one the sum is another one. -/
theorem more_one (s : Int) (l m : List Int) (x y : Int) (hx : byte x) (hy : byte y) (hne : x ≠ y) : more s (l ++ x :: m) ≠ more s (l ++ y :: m) := by
  intro h
  have h2 := mto_inj (mrun_ok _ _ (mfrom_ok s)) (mrun_ok _ _ (mfrom_ok s)) h
  have h3 := congrArg Prod.fst h2
  rw [mrun_fst _ _ (mfrom_ok s), mrun_fst _ _ (mfrom_ok s)] at h3
  simp only [List.sum_append, List.sum_cons] at h3
  unfold byte at hx hy
  omega
/-- Runs of one byte. -/
theorem mrun_replicate (c : Int) (n : Nat) : mrun (1, 0) (List.replicate n c) = ((1 + (n : Int) * c) % 65521, ((n : Int) + c * ((n : Int) * ((n : Int) + 1) / 2)) % 65521) := by
  induction n with
  | zero => simp [mrun]
  | succ n ih =>
    rw [List.replicate_succ', mrun_snoc, ih]
    have e : ((n + 1 : Nat) : Int) * (((n + 1 : Nat) : Int) + 1) / 2 = (n : Int) * ((n : Int) + 1) / 2 + ((n : Int) + 1) := by
      have : ((n + 1 : Nat) : Int) * (((n + 1 : Nat) : Int) + 1) = (n : Int) * ((n : Int) + 1) + ((n : Int) + 1) * 2 := by rw [show ((n + 1 : Nat) : Int) = (n : Int) + 1 from by omega]; simp only [Int.add_mul, Int.mul_add]; omega
      rw [this, Int.add_mul_ediv_right _ _ (by decide)]
    rw [e]
    simp only [mstep, Prod.mk.injEq]
    have e2 : ((n + 1 : Nat) : Int) * c = (n : Int) * c + c := by rw [show ((n + 1 : Nat) : Int) = (n : Int) + 1 from by omega, Int.add_mul]; omega
    have e3 : c * ((n : Int) * ((n : Int) + 1) / 2 + ((n : Int) + 1)) = c * ((n : Int) * ((n : Int) + 1) / 2) + ((n : Int) * c + c) := by
      generalize (n : Int) * ((n : Int) + 1) / 2 = q
      rw [Int.mul_add, Int.mul_add, Int.mul_comm c (n : Int), Int.mul_one]
    rw [e2, e3]
    generalize (n : Int) * c = u
    generalize c * ((n : Int) * ((n : Int) + 1) / 2) = v
    constructor <;> omega
theorem and16 (a : Int) (h0 : 0 ≤ a) (h1 : a < 4294967296) : bits .and .u32 a 65535 = a % 65536 := bits_mask .u32 32 (by decide) (fun n h0 h1 => by rw [IntKind.wrap_u32]; omega) 16 (by decide) a h0 h1
theorem or16 (s a : Int) (hs : 0 ≤ s) (hs1 : s < 65521) (h0 : 0 ≤ a) (h1 : a < 65521) : bits .or .u32 (s * 65536) a = s * 65536 + a := by
  have e1 : (2 : Int) ^ 16 = 65536 := by decide
  have e2 : (2 : Int) ^ 32 = 4294967296 := by decide
  exact bits_join .u32 32 (by decide) (fun n h0 h1 => by rw [IntKind.wrap_u32]; omega) 16 (s * 65536) a (by omega) (by rw [e1]; omega) (by rw [e2]; omega) h0 (by rw [e1]; omega) (by rw [e2]; omega)
theorem rd_mem (l : List Int) (k : Nat) (h : k < l.length) : l.getD ((k : Int).toNat) 0 ∈ l := by
  rw [Int.toNat_natCast, List.getD_eq_getElem?_getD, List.getElem?_eq_getElem h]
  exact List.getElem_mem h
theorem take_succ (l : List Int) (k : Nat) (h : k < l.length) : l.take (k + 1) = l.take k ++ [l.getD ((k : Int).toNat) 0] := by
  rw [Int.toNat_natCast, List.getD_eq_getElem?_getD, List.getElem?_eq_getElem h, List.take_succ_eq_append_getElem h]
  rfl
end Go.Proofs.Ytinhednmfldmbaa.Pl
