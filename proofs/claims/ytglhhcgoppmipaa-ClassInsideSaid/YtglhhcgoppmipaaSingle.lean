/- class.single. -/
import Derived.Test.YtglhhcgoppmipaaCount
import Derived.Test.YtglhhcgoppmipaaShelf
namespace Go.Proofs.Ytglhhcgoppmipaa.Cl
open Go.RowKit Go.Proofs.YtglhhcgoppmipaaW.PrintWords

/-- May a text's first byte be one of an item? -/
def single (t : List UInt8) (first : Bool) : Bool :=
  match t with
  | [] => false
  | c :: _ => !(c == 10 || (c == 93 && !first)) && !Lib.hasPrefix t [91, 58] && !Lib.hasPrefix t [91, 46] && !Lib.hasPrefix t [91, 61]
theorem single_cons (c : UInt8) (l : List UInt8) (first : Bool) : single (c :: l) first = (!(c == 10 || (c == 93 && !first)) && !Lib.hasPrefix (c :: l) [91, 58] && !Lib.hasPrefix (c :: l) [91, 46] && !Lib.hasPrefix (c :: l) [91, 61]) := rfl
theorem head_of (t : ByteArray) (c : UInt8) (l : List UInt8) (h : t.data.toList = c :: l) : ∀ h : 0 < t.size, t[0] = c := by
  obtain ⟨⟨d⟩⟩ := t
  change d = c :: l at h
  subst h
  intro _
  rfl
set_option maxHeartbeats 4000000 in
theorem single_calls (t : ByteArray) (first : Bool) (w : World) :
    Calls Try.prog 30 #[.string t, .bool first] w fun e w' => e = .returned (.bool (single t.data.toList first)) ∧ w' = w := by
  obtain ⟨p1, hp1⟩ : ∃ b, Lib.hasPrefix t.data.toList [91, 58] = b := ⟨_, rfl⟩
  obtain ⟨p2, hp2⟩ : ∃ b, Lib.hasPrefix t.data.toList [91, 46] = b := ⟨_, rfl⟩
  obtain ⟨p3, hp3⟩ : ∃ b, Lib.hasPrefix t.data.toList [91, 61] = b := ⟨_, rfl⟩
  have k1 := fun w => Try.strings_HasPrefix t ⟨#[91, 58]⟩ w
  have k2 := fun w => Try.strings_HasPrefix t ⟨#[91, 46]⟩ w
  have k3 := fun w => Try.strings_HasPrefix t ⟨#[91, 61]⟩ w
  simp only [hp1, hp2, hp3] at k1 k2 k3
  cases ht : t.data.toList with
  | nil =>
    have ht' : t = ⟨#[]⟩ := by
      obtain ⟨⟨d⟩⟩ := t
      change d = [] at ht
      subst ht
      rfl
    subst ht'
    clear hp1 hp2 hp3 ht
    go_enter Try.func30, Try.ntmps30
    go_wp2
    go_ret
    exact ⟨rfl, rfl⟩
  | cons c l =>
    have h0 := head_of t c l ht
    have hne : ¬ t.toList = [] := by rw [Lib.toList_data, ht]; exact List.cons_ne_nil _ _
    have hem : t.toList.isEmpty = false := by rw [Lib.toList_data, ht]; rfl
    have hs : 0 < t.data.size := by rw [← Array.length_toList, ht]; exact Nat.succ_pos _
    have hsi : (0 : Int) < (t.size : Int) := by have : 0 < t.size := hs; omega
    rw [ht] at hp1 hp2 hp3
    rw [single_cons, hp1, hp2, hp3]
    clear hp1 hp2 hp3 ht
    by_cases c10 : c = 10
    · subst c10
      clear k1 k2 k3
      go_enter Try.func30, Try.ntmps30
      go_wp2
      go_ret
      exact ⟨rfl, rfl⟩
    have d10 : ¬ (c.toNat : Int) = 10 := fun h => c10 (UInt8.toNat_inj.1 (by show c.toNat = 10; omega))
    have e10 : (c == 10) = false := by simpa using c10
    rw [e10]
    by_cases c93 : c = 93 ∧ first = false
    · obtain ⟨rfl, rfl⟩ := c93
      clear k1 k2 k3
      go_enter Try.func30, Try.ntmps30
      go_wp2
      go_ret
      exact ⟨rfl, rfl⟩
    have hend : (!(false || c == 93 && !first) && !p1 && !p2 && !p3) = (!p1 && !p2 && !p3) := by
      cases first with
      | true => simp
      | false =>
        have : (c == 93) = false := by
          rw [beq_eq_false_iff_ne]
          exact fun h => c93 ⟨h, rfl⟩
        simp [this]
    rw [hend]
    clear hend e10 c10
    by_cases d93 : c = 93
    · subst d93
      have hf : first = true := by
        cases first with
        | true => rfl
        | false => exact absurd ⟨rfl, rfl⟩ c93
      subst hf
      clear c93 d10
      cases p1 <;> cases p2 <;> cases p3
      all_goals
        go_enter Try.func30, Try.ntmps30
        go_wp2_with (first | (refine (k1 _).mono ?_; rintro e w1 ⟨rfl, rfl⟩) | (refine (k2 _).mono ?_; rintro e w1 ⟨rfl, rfl⟩) | (refine (k3 _).mono ?_; rintro e w1 ⟨rfl, rfl⟩))
        go_ret
        exact ⟨rfl, rfl⟩
    · have e93 : ¬ (c.toNat : Int) = 93 := fun h => d93 (UInt8.toNat_inj.1 (by show c.toNat = 93; omega))
      clear c93 d93
      cases p1 <;> cases p2 <;> cases p3
      all_goals
        go_enter Try.func30, Try.ntmps30
        go_wp2_with (first | (refine (k1 _).mono ?_; rintro e w1 ⟨rfl, rfl⟩) | (refine (k2 _).mono ?_; rintro e w1 ⟨rfl, rfl⟩) | (refine (k3 _).mono ?_; rintro e w1 ⟨rfl, rfl⟩))
        go_ret
        exact ⟨rfl, rfl⟩
end Go.Proofs.Ytglhhcgoppmipaa.Cl
