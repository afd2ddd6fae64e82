/- Decode, plainly: the program's and the document's. All commits of records, plainly. What is encoded is decoded; what is decoded is what was encoded: plainly. A commit's records: what they are, and that they are all: plainly. Few records; lists that are alike; what a decoding may say: plainly. An argument that is a slice, as the printed contracts read one. Records that come in. Records are alike with themselves; the law's files. The law's files that come in. commits.Encode, of any number and few files. Decode, All and Encode, as plain contracts. The first records of a commit alone are none; a commit's records are one commit; a law's rows: plainly. -/
import Derived.Test.YtnemnhfdjofckaaQD
import Derived.Test.YtnemnhfdjofckaaQB
import Derived.Test.YtnemnhfdjofckaaQE
import Derived.Test.YtnemnhfdjofckaaQA
import Derived.Test.YtnemnhfdjofckaaQC
import Derived.Test.YtnemnhfdjofckaaPrint0
namespace Go.Proofs.Ytnemnhfdjofckaa.Co
open Go Go.RowKit Go.Proofs.YtnemnhfdjofckaaW.PrintWords Go.Proofs.YtnemnhfdjofckaaW.PrintMore Go.Proofs.Ytnemnhfdjofckaa.Print Go.Proofs.Ytnemnhfdjofckaa.Rt
theorem up {α : Type} {f : Nat → Option α} (hm : ∀ k, LeO (f k) (f (k + 1))) {k : Nat} {r : α} (h : f k = some r) {K : Nat} (hK : k ≤ K) : f K = some r := by
  obtain ⟨j, rfl⟩ := Nat.exists_eq_add_of_le hK
  induction j with
  | zero => exact h
  | succ j ih => exact hm _ _ (ih (by omega))
theorem str_inj {a b : List Int} (ha : Byt a) (hb : Byt b) (h : (strOfNums a).toList = (strOfNums b).toList) : a = b := by
  rw [ByteArray.toList_eq, ByteArray.toList_eq] at h
  have h' : a.map (fun n => UInt8.ofNat n.toNat) = b.map (fun n => UInt8.ofNat n.toNat) := h
  apply List.ext_getElem?
  intro j
  have hj := congrArg (·[j]?) h'
  simp only [List.getElem?_map] at hj
  cases hx : a[j]? with
  | none =>
    rw [hx] at hj
    cases hy : b[j]? with
    | none => rfl
    | some y => rw [hy] at hj; cases hj
  | some x =>
    rw [hx] at hj
    cases hy : b[j]? with
    | none => rw [hy] at hj; cases hj
    | some y =>
      rw [hy] at hj
      have e := Option.some.inj hj
      have e2 := congrArg UInt8.toNat e
      simp only [UInt8.toNat_ofNat'] at e2
      have h1 := ha x (List.mem_of_getElem? hx)
      have h2 := hb y (List.mem_of_getElem? hy)
      congr 1
      omega
def bad : Int × List S56 × Int × Int := (0, [], 0, 201)
def short : Int × List S56 × Int × Int := (0, [], 0, 42)
/-- The bytes of the first m records behind their heads. -/
def joind (L : List (List Int)) (m : Nat) : List Int := ((L.take m).map (·.drop 12)).flatten
def allfit (r0 : List Int) (L : List (List Int)) (n : Int) (i j : Nat) : Bool := (List.range' i j).all fun q => fitd r0 (L.getD q []) (q : Int) n
/-- A commit's files, if its bytes are such. -/
def filed (num n : Int) (b : List Int) : Int × List S56 × Int × Int :=
  match floop (b.length + 1) true b [] with
  | some (fl, true) => if rightd num fl = true then (num, fl, n, 0) else bad
  | _ => bad
def find (L : List (List Int)) (num n : Int) (m : Nat) : Int × List S56 × Int × Int := if (L.length : Int) < n then short else filed num n (joind L m)
/-- The commit of records. -/
def decd (L : List (List Int)) : Int × List S56 × Int × Int :=
  if L.length = 0 then short else if (L.getD 0 []).length < 12 then bad else
  if numd (sub (L.getD 0 []) 10 2) = 0 ∨ wrap64 (numd (sub (L.getD 0 []) 0 8)) < 0 ∨ 1099511627776 < wrap64 (numd (sub (L.getD 0 []) 0 8)) then bad else
  if allfit (L.getD 0 []) L (numd (sub (L.getD 0 []) 10 2)) 0 (min (numd (sub (L.getD 0 []) 10 2)).toNat L.length) = true then find L (wrap64 (numd (sub (L.getD 0 []) 0 8))) (numd (sub (L.getD 0 []) 10 2)) (min (numd (sub (L.getD 0 []) 10 2)).toNat L.length) else bad
/-- Records such as are met. -/
def Recs (L : List (List Int)) : Prop := L.length ≤ 100000 ∧ ∀ l ∈ L, l.length ≤ 5000 ∧ Byt l
theorem Recs.getD {L : List (List Int)} (h : Recs L) (i : Nat) : (L.getD i []).length ≤ 5000 ∧ Byt (L.getD i []) := by
  rw [List.getD_eq_getElem?_getD]
  cases hx : L[i]? with
  | none => exact ⟨by simp, Byt.nil⟩
  | some x => exact h.2 x (List.mem_of_getElem? hx)
theorem joind_succ (L : List (List Int)) (i : Nat) (hi : i < L.length) : joind L (i + 1) = joind L i ++ (L.getD i []).drop 12 := by
  unfold joind
  rw [List.take_add_one, List.getElem?_eq_getElem hi, List.getD_eq_getElem?_getD, List.getElem?_eq_getElem hi, List.map_append, List.flatten_append]
  congr 1
  show ((L[i].drop 12) ++ []) = L[i].drop 12
  rw [List.append_nil]
theorem joind_ok {L : List (List Int)} (h : Recs L) : ∀ m, m ≤ L.length → (joind L m).length ≤ 5000 * m ∧ Byt (joind L m) := by
  intro m
  induction m with
  | zero => intro _; unfold joind; simp [Byt.nil]
  | succ m ih =>
    intro hm
    obtain ⟨h1, h2⟩ := ih (by omega)
    obtain ⟨h3, h4⟩ := h.getD m
    rw [joind_succ L m (by omega)]
    refine ⟨?_, h2.append (h4.drop 12)⟩
    rw [List.length_append, List.length_drop]
    omega
theorem two_range {l : List Int} (hb : Byt l) (p : Nat) : 0 ≤ numd (sub l p 2) ∧ numd (sub l p 2) ≤ 65535 := by
  obtain ⟨n, h1, h2⟩ := numd_nat (sub_byt hb p 2) (k := 2) (by unfold sub; rw [List.length_take]; omega)
  rw [show (256 : Int) ^ 2 = 65536 by decide] at h2
  omega
theorem floop_len : ∀ (k : Nat) (ok : Bool) (rest : List Int) (acc : List S56) (F : List S56) (ok' : Bool), floop k ok rest acc = some (F, ok') → F.length ≤ acc.length + rest.length := by
  intro k
  induction k with
  | zero => intro ok rest acc F ok' h; simp [floop] at h
  | succ k ih =>
    intro ok rest acc F ok' h
    unfold floop at h
    split at h
    · rename_i hc
      have h1 := ih _ _ _ _ _ h
      have h2 := fstep_len rest hc.2
      rw [List.length_append, List.length_singleton] at h1
      omega
    · have := Option.some.inj h
      have h3 : acc = F := congrArg Prod.fst this
      rw [← h3]
      omega
theorem tk_len2 (ok : Bool) (rest : List Int) (m : Int) : (tk ok rest m).2.1.length ≤ rest.length ∧ (tk ok rest m).2.2.length ≤ max 1 rest.length := by
  unfold tk
  split
  · simp only [List.length_drop, List.length_take]; omega
  · simp; omega
theorem fstep_small (rest : List Int) : (fstep rest).2.2.f0.size ≤ max 1 rest.length := by
  unfold fstep
  simp only []
  rw [strOfNums_size]
  have h1 := tk_len2 true rest ((1 : Nat) : Int)
  have h2 := tk_len2 (tk true rest ((1 : Nat) : Int)).1 (tk true rest ((1 : Nat) : Int)).2.1 ((tk true rest ((1 : Nat) : Int)).2.2.headD 0)
  omega
theorem floop_small : ∀ (k : Nat) (ok : Bool) (rest : List Int) (acc : List S56) (F : List S56) (ok' : Bool) (B : Nat), rest.length ≤ B → 1 ≤ B → (∀ f ∈ acc, f.f0.size ≤ B) → floop k ok rest acc = some (F, ok') → ∀ f ∈ F, f.f0.size ≤ B := by
  intro k
  induction k with
  | zero => intro ok rest acc F ok' B _ _ _ h; simp [floop] at h
  | succ k ih =>
    intro ok rest acc F ok' B hB h1 ha h
    unfold floop at h
    split at h
    · rename_i hc
      have h2 := fstep_len rest hc.2
      refine ih _ _ _ _ _ B (by omega) h1 (fun f hf => ?_) h
      rcases List.mem_append.1 hf with hf | hf
      · exact ha f hf
      · obtain rfl : f = _ := by simpa using hf
        have := fstep_small rest
        omega
    · have := Option.some.inj h
      have h3 : acc = F := congrArg Prod.fst this
      rw [← h3]
      exact ha
theorem number_K {l : List Int} (hl : Byt l) (h8 : l.length ≤ 8) {K : Nat} (hK : 9 ≤ K) : commits_number.f K l = some (numd l) := up (f := fun k => commits_number.f k l) (fun k => commits_number.mono _ _) (number_f l hl h8) (by omega)
theorem rnumber_K {l : List Int} (hl : Byt l) (h8 : l.length ≤ 8) {K : Nat} (hK : 9 ≤ K) : headgateref20_number.f K l = some (wrap64 (numd l)) := up (f := fun k => headgateref20_number.f k l) (fun k => headgateref20_number.mono _ _) (rnumber_f l hl h8) (by omega)
theorem cright_K (n : Int) (fl : List S56) (hp : ∀ f ∈ fl, f.f0.size ≤ 1000000000) (hlen : fl.length ≤ 900000000) {K : Nat} (hK : 900000002 ≤ K) : commits_Commit_right.f K n fl = some (rightd n fl) := up (f := fun k => commits_Commit_right.f k n fl) (fun k => commits_Commit_right.mono _ _ _) (cright_f n fl hp (by omega)) (by omega)
/-- What stands behind the program's loop. -/
theorem dec_end (L : List (List Int)) (n num : Int) (m : Nat) (hR : Recs L) (hm : m ≤ L.length) {K : Nat} (hK : 900000002 ≤ K) :
    (if (L.length : Int) < n then (some (0, ([] : List (S56)), 0, 42)) else ((commits_files.f (joind L m)).bind fun bt230 => (if bt230.2 = true then ((commits_Commit_right.f K num bt230.1).bind fun t234 => (if t234 = true then (some (num, bt230.1, n, 0)) else (some (0, ([] : List (S56)), 0, 201)))) else (some (0, ([] : List (S56)), 0, 201))))) = some (find L num n m) := by
  unfold find
  by_cases c : (L.length : Int) < n
  · rw [if_pos c, if_pos c]
    rfl
  rw [if_neg c, if_neg c]
  obtain ⟨h1, h2⟩ := joind_ok hR m hm
  have hlen : (joind L m).length ≤ 500000000 := by have := hR.1; omega
  obtain ⟨F, ok, hF, -⟩ := floop_total ((joind L m).length + 1) true (joind L m) [] (by omega)
  rw [List.nil_append] at hF
  have hfl := floop_len _ _ _ _ _ _ hF
  have hfs := floop_small _ _ _ _ _ _ 1000000000 (by omega) (by decide) (by simp) hF
  unfold commits_files.f filed
  rw [if_pos ⟨h2, by omega⟩, hF, Option.bind_some]
  cases ok with
  | false => rfl
  | true =>
    show (if true = true then _ else _) = some (if rightd num F = true then _ else bad)
    rw [if_pos rfl, cright_K num F hfs (by simp at hfl; omega) hK, Option.bind_some]
    cases rightd num F <;> rfl
theorem dec_l0 (L : List (List Int)) (r0 : List Int) (n num : Int) (m : Nat) (hR : Recs L) (hm : m ≤ L.length) (hr0 : 8 ≤ r0.length) (hn0 : 0 ≤ n) (hn1 : n ≤ 65535) {F : Nat} (hF : 900000002 ≤ F) :
    ∀ j i : Nat, i + j = m → commits_Decode.l0 (j + 1 + F) L r0 n (joind L i) (L.take m) (m : Int) (i : Int) num = some (if allfit r0 L n i j = true then find L num n m else bad) := by
  intro j
  induction j with
  | zero =>
    intro i hi
    obtain rfl : i = m := by omega
    rw [show 0 + 1 + F = F + 1 by omega]
    unfold commits_Decode.l0
    rw [if_neg (by omega), dec_end L n num i hR hm hF]
    rfl
  | succ j ih =>
    intro i hi
    obtain ⟨h3, h4⟩ := hR.getD i
    have hj := joind_ok hR i (by omega)
    have hlt : (L.take m).length = m := by rw [List.length_take]; omega
    have hrd : rd_L5 (L.take m) (i : Int) = L.getD i [] := by
      unfold rd_L5
      rw [Int.toNat_natCast, List.getD_eq_getElem?_getD, List.getD_eq_getElem?_getD, List.getElem?_take_of_lt (by omega)]
    have hfit : commits_fits.f r0 (L.getD i []) (i : Int) n = some (fitd r0 (L.getD i []) (i : Int) n) := by
      unfold commits_fits.f
      rw [if_pos ⟨⟨hr0, by omega, h4⟩, by omega, by have := hR.1; omega, hn0, by omega⟩]
    have hall : allfit r0 L n i (j + 1) = (fitd r0 (L.getD i []) (i : Int) n && allfit r0 L n (i + 1) j) := rfl
    rw [show j + 1 + 1 + F = (j + 1 + F) + 1 by omega, hall]
    unfold commits_Decode.l0
    rw [if_pos (by omega), if_pos (by omega), if_pos (by rw [hlt]; omega), hrd, hfit, Option.bind_some]
    cases hb : fitd r0 (L.getD i []) (i : Int) n with
    | false => rfl
    | true =>
      have h12 : 12 ≤ (L.getD i []).length := by
        unfold fitd at hb
        simp only [Bool.and_eq_true, decide_eq_true_eq] at hb
        exact hb.1.1.1.1
      rw [if_pos rfl, if_pos (by omega), if_pos (by rw [List.length_drop]; have := hR.1; omega), ← joind_succ L i (by omega), show wrap64 ((i : Int) + 1) = ((i + 1 : Nat) : Int) by unfold wrap64; have := hR.1; omega]
      exact ih (i + 1) (by omega)
theorem decode_f (L : List (List Int)) (hR : Recs L) : commits_Decode.f 1000000000 L = some (decd L) := by
  unfold commits_Decode.f decd
  by_cases c0 : L.length = 0
  · rw [if_pos (by omega), if_pos c0]
    rfl
  rw [if_neg (by omega), if_neg c0, if_pos (by omega), show rd_L5 L 0 = L.getD 0 [] from rfl]
  obtain ⟨h5, hb⟩ := hR.getD 0
  generalize hr0 : L.getD 0 [] = r0 at *
  by_cases c1 : r0.length < 12
  · rw [if_pos (by omega), if_pos c1]
    rfl
  rw [if_neg (by omega), if_neg c1, if_pos (by decide), if_pos (by omega), List.drop_take, show (r0.drop 10).take (12 - 10) = sub r0 10 2 from rfl, number_K (sub_byt hb 10 2) (by unfold sub; rw [List.length_take]; omega) (by decide), Option.bind_some, if_pos (by omega),
    show r0.take 8 = sub r0 0 8 from rfl, number_K (sub_byt hb 0 8) (by unfold sub; rw [List.length_take]; omega) (by decide), Option.bind_some]
  obtain ⟨n0, n1⟩ := two_range hb 10
  rw [show wrap64 (numd (sub r0 10 2)) = numd (sub r0 10 2) by unfold wrap64; omega]
  generalize numd (sub r0 10 2) = n at *
  generalize wrap64 (numd (sub r0 0 8)) = num at *
  have hbad : ∀ k, commits_Decode.j0 (k + 1) L r0 n true num = some bad := fun k => by
    rw [commits_Decode.j0, if_pos rfl]
    rfl
  by_cases c2 : n = 0
  · rw [if_pos c2, if_pos (.inl c2)]
    exact hbad 999999999
  rw [if_neg c2]
  by_cases c3 : num < 0
  · rw [if_pos c3, if_pos (.inr (.inl c3))]
    exact hbad 999999999
  rw [if_neg c3]
  by_cases c4 : num > 1099511627776
  · rw [decide_eq_true c4, if_pos (.inr (.inr c4))]
    exact hbad 999999999
  rw [decide_eq_false c4, if_neg (by omega)]
  obtain ⟨m, hm⟩ : ∃ m, min n.toNat L.length = m := ⟨_, rfl⟩
  have hmn : mn n (L.length : Int) = (m : Int) := by
    unfold mn
    split <;> omega
  have hl0 := dec_l0 L r0 n num m hR (by omega) (by omega) n0 n1 (F := 999999997 - m) (by have := hR.1; omega) m 0 (by omega)
  rw [show m + 1 + (999999997 - m) = 999999998 by have := hR.1; omega] at hl0
  rw [show (1000000000 : Nat) = 999999998 + 1 + 1 from rfl]
  rw [commits_Decode.j0, if_neg (by simp), hmn, if_pos (by omega), if_pos (by omega), Option.bind_some, Int.toNat_natCast, show ((L.take m).length : Int) = (m : Int) by rw [List.length_take]; omega, hm]
  have hj0 : joind L 0 = [] := by unfold joind; rfl
  rw [hj0] at hl0
  have hup := up (f := fun k => commits_Decode.l0 k L r0 n [] (L.take m) (m : Int) ((0 : Nat) : Int) num) (fun k => (commits_Decode.mono_l k).2 _ _ _ _ _ _ _ _) hl0 (K := 999999999) (by decide)
  exact hup
end Go.Proofs.Ytnemnhfdjofckaa.Co
namespace Go.Proofs.Ytnemnhfdjofckaa.Co
open Go Go.RowKit Go.Proofs.YtnemnhfdjofckaaW.PrintWords Go.Proofs.YtnemnhfdjofckaaW.PrintMore Go.Proofs.Ytnemnhfdjofckaa.Print Go.Proofs.Ytnemnhfdjofckaa.Rt
/-- What a decoding that is all right says. -/
theorem find_ok {L : List (List Int)} {num n : Int} {m : Nat} (h : (find L num n m).2.2.2 = 0) : n ≤ (L.length : Int) ∧ ∃ fl, floop ((joind L m).length + 1) true (joind L m) [] = some (fl, true) ∧ rightd num fl = true ∧ find L num n m = (num, fl, n, 0) := by
  unfold find at h ⊢
  split at h
  · exact absurd h (by decide)
  rename_i hc
  rw [if_neg hc]
  unfold filed at h ⊢
  split at h
  rotate_left
  · exact absurd h (by decide)
  rename_i fl hfl
  split at h
  rotate_left
  · exact absurd h (by decide)
  rename_i hr
  exact ⟨by omega, fl, hfl, hr, if_pos hr⟩
/-- Records that are decoded: all that is known of them. -/
structure Good (L : List (List Int)) (num : Int) (fl : List S56) (n : Nat) : Prop where
  pos : 0 < n
  le : n ≤ L.length
  small : n ≤ 65535
  r0 : 12 ≤ (L.getD 0 []).length
  hnum : num = wrap64 (numd (sub (L.getD 0 []) 0 8))
  cnt : numd (sub (L.getD 0 []) 10 2) = (n : Int)
  fits : ∀ i : Nat, i < n → fitd (L.getD 0 []) (L.getD i []) (i : Int) (n : Int) = true
  files : floop ((joind L n).length + 1) true (joind L n) [] = some (fl, true)
  right : rightd num fl = true
theorem allfit_iff {r0 : List Int} {L : List (List Int)} {n : Int} {i j : Nat} : allfit r0 L n i j = true ↔ ∀ q : Nat, i ≤ q → q < i + j → fitd r0 (L.getD q []) (q : Int) n = true := by
  unfold allfit
  rw [List.all_eq_true]
  constructor
  · intro h q h1 h2
    exact h q (List.mem_range'_1.2 ⟨h1, h2⟩)
  · intro h q hq
    obtain ⟨h1, h2⟩ := List.mem_range'_1.1 hq
    exact h q h1 h2
theorem decd_ok {L : List (List Int)} (hR : Recs L) (h : (decd L).2.2.2 = 0) : ∃ num fl n, decd L = (num, fl, ((n : Nat) : Int), 0) ∧ Good L num fl n := by
  unfold decd at h ⊢
  split at h
  · exact absurd h (by decide)
  rename_i c0
  rw [if_neg c0]
  split at h
  · exact absurd h (by decide)
  rename_i c1
  rw [if_neg c1]
  split at h
  · exact absurd h (by decide)
  rename_i c2
  rw [if_neg c2]
  split at h
  rotate_left
  · exact absurd h (by decide)
  rename_i c3
  rw [if_pos c3]
  obtain ⟨h1, fl, h2, h3, h4⟩ := find_ok h
  obtain ⟨n0, n1⟩ := two_range (hR.getD 0).2 10
  obtain ⟨n, hn⟩ : ∃ n : Nat, numd (sub (L.getD 0 []) 10 2) = (n : Int) := ⟨(numd (sub (L.getD 0 []) 10 2)).toNat, by omega⟩
  rw [hn] at c2 c3 h1 h2 h4 n1 ⊢
  have hm : min ((n : Int)).toNat L.length = n := by omega
  rw [hm] at c3 h2 h4 ⊢
  refine ⟨_, fl, n, h4, ⟨by omega, by omega, by omega, by omega, rfl, hn, fun i hi => allfit_iff.1 c3 i (Nat.zero_le _) (by omega), h2, h3⟩⟩
theorem Good.decd {L : List (List Int)} {num : Int} {fl : List S56} {n : Nat} (h : Good L num fl n) : decd L = (num, fl, (n : Int), 0) := by
  have hr := (rightd_iff num fl).1 h.right
  unfold Co.decd
  rw [if_neg (by have := h.pos; have := h.le; omega), if_neg (by have := h.r0; omega), h.cnt, ← h.hnum, if_neg (by have := h.pos; omega), show min ((n : Int)).toNat L.length = n by have := h.le; omega, if_pos (allfit_iff.2 fun q _ hq => h.fits q (by omega))]
  unfold find filed
  rw [if_neg (by have := h.le; omega), h.files]
  exact if_pos h.right
/-- All commits of records. -/
def alld : Nat → List (List Int) → List (Int × List S56)
  | 0, _ => []
  | k + 1, L => if (decd L).2.2.2 = 0 then ((decd L).1, (decd L).2.1) :: alld k (L.drop (decd L).2.2.1.toNat) else []
theorem Recs.drop {L : List (List Int)} (h : Recs L) (n : Nat) : Recs (L.drop n) := ⟨by rw [List.length_drop]; have := h.1; omega, fun l hl => h.2 l (List.mem_of_mem_drop hl)⟩
theorem alld_len : ∀ (k : Nat) (L : List (List Int)), Recs L → (alld k L).length ≤ L.length := by
  intro k
  induction k with
  | zero => intro L _; simp [alld]
  | succ k ih =>
    intro L hR
    unfold alld
    split
    · rename_i h
      obtain ⟨num, fl, n, e, hg⟩ := decd_ok hR h
      rw [List.length_cons, e]
      have h1 := ih (L.drop n) (hR.drop n)
      rw [List.length_drop] at h1
      have := hg.pos
      have := hg.le
      simp only [Int.toNat_natCast]
      omega
    · simp
theorem all_l0 : ∀ (k : Nat) (L : List (List Int)) (acc : List S32), Recs L → L.length < k → acc.length + L.length ≤ 1000000 → commits_All.l0 (k + 1000000000) L acc = some (acc ++ (alld k L).map fun x => (⟨x.1, x.2⟩ : S32)) := by
  intro k
  induction k with
  | zero => intro L acc _ h; omega
  | succ k ih =>
    intro L acc hR hk ha
    have hd := up (f := fun k => commits_Decode.f k L) (fun k => commits_Decode.mono _ _) (decode_f L hR) (K := k + 1000000000) (by omega)
    rw [show k + 1 + 1000000000 = (k + 1000000000) + 1 by omega, commits_All.l0, hd, Option.bind_some]
    unfold alld
    by_cases h : (decd L).2.2.2 = 0
    · obtain ⟨num, fl, n, e, hg⟩ := decd_ok hR h
      have := hg.pos
      have := hg.le
      rw [if_pos h, if_pos h, e, if_pos (by omega), if_pos (by simp), if_pos (by simp; omega)]
      simp only [Int.toNat_natCast]
      rw [ih (L.drop n) _ (hR.drop n) (by rw [List.length_drop]; omega) (by rw [List.length_append, List.length_singleton, List.length_drop]; omega), List.append_assoc]
      rfl
    · rw [if_neg h, if_neg h]
      simp
theorem all_f (L : List (List Int)) (hR : Recs L) : commits_All.f 2000000000 L = some ((alld (L.length + 1) L).map fun x => (⟨x.1, x.2⟩ : S32)) := by
  unfold commits_All.f
  have h := all_l0 (L.length + 1) L [] hR (by omega) (by have := hR.1; simp; omega)
  exact up (f := fun k => commits_All.l0 k L []) (fun k => commits_All.mono_l k _ _) h (by have := hR.1; omega)
end Go.Proofs.Ytnemnhfdjofckaa.Co
namespace Go.Proofs.Ytnemnhfdjofckaa.Co
open Go Go.RowKit Go.Proofs.Ytnemnhfdjofckaa.Ck Go.Proofs.YtnemnhfdjofckaaW.PrintWords Go.Proofs.YtnemnhfdjofckaaW.PrintMore Go.Proofs.Ytnemnhfdjofckaa.Print Go.Proofs.Ytnemnhfdjofckaa.Rt
theorem lowd_step (a : Int) : ∀ (n i : Nat), lowd a (i + 1) n = lowd (a / 256) i n
  | 0, _ => rfl
  | n + 1, i => by
    rw [lowd, lowd, lowd_step a n (i + 1), Int.pow_succ, Int.mul_comm, ← Int.ediv_ediv_of_nonneg (by decide)]
theorem numd_lowd : ∀ (k : Nat) (a : Int), 0 ≤ a → a < 256 ^ k → numd (lowd a 0 k) = a
  | 0, a, h0, h1 => by simp [lowd, numd]; simp at h1; omega
  | k + 1, a, h0, h1 => by
    rw [Int.pow_succ] at h1
    rw [lowd, lowd_step, numd, numd_lowd k (a / 256) (by omega) (by omega)]
    simp
    omega
theorem lowd_numd : ∀ (l : List Int), Byt l → lowd (numd l) 0 l.length = l
  | [], _ => rfl
  | b :: r, h => by
    have h1 := h b (by simp)
    rw [List.length_cons, lowd, lowd_step, numd, show (b + 256 * numd r) / 256 = numd r by omega, lowd_numd r (fun x hx => h x (by simp [hx]))]
    congr 1
    simp
    omega
theorem lowd_byt (a : Int) (k : Nat) : Byt (lowd a 0 k) := fun x hx => by have := lowd_byte a k 0 x hx; omega
theorem bytesOf_str (l : List Int) (h : Byt l) : bytesOf (strOfNums l) = l := by
  unfold bytesOf strOfNums
  apply List.ext_getElem?
  intro j
  simp only [List.getElem?_map]
  cases hx : l[j]? with
  | none => rfl
  | some x =>
    have := h x (List.mem_of_getElem? hx)
    simp only [Option.map_some, UInt8.toNat_ofNat']
    congr 1
    omega
theorem str_bytesOf (s : ByteArray) : strOfNums (bytesOf s) = s := by
  unfold bytesOf strOfNums
  rw [List.map_map]
  have : ((fun n : Int => UInt8.ofNat n.toNat) ∘ fun b : UInt8 => (b.toNat : Int)) = id := by
    funext b
    simp
  rw [this, List.map_id]
theorem bytesOf_byt (s : ByteArray) : Byt (bytesOf s) := fun x hx => by
  unfold bytesOf at hx
  obtain ⟨b, _, rfl⟩ := List.mem_map.1 hx
  have := b.toNat_lt
  omega
/-- A file that is right, by its numbers. -/
structure Fine (f : S56) : Prop where
  p : f.f0.size ≤ 32
  v0 : 0 ≤ f.f1
  v1 : f.f1 ≤ 1099511627776
  c : f.f2.size ≤ 65536
theorem fine_of {num : Int} {fl : List S56} (h : rightd num fl = true) : ∀ f ∈ fl, Fine f := fun f hf => by
  obtain ⟨i, hi⟩ := List.mem_iff_getElem?.1 hf
  obtain ⟨h1, h2, h3, h4, _⟩ := ((rightd_iff num fl).1 h).2.2.2 i f hi
  unfold rgt at h1
  simp only [Bool.and_eq_true, decide_eq_true_eq] at h1
  exact ⟨by omega, h2, h3, h4⟩
theorem fileb_byt (f : S56) : Byt (fileb f) := by
  unfold fileb
  exact ((((show Byt [(f.f0.size : Int) % 256] from fun x hx => by simp at hx; omega).append (bytesOf_byt _)).append (lowd_byt _ _)).append (lowd_byt _ _)).append (bytesOf_byt _)
def flat (fl : List S56) : List Int := (fl.map fileb).flatten
theorem flat_cons (f : S56) (fl : List S56) : flat (f :: fl) = fileb f ++ flat fl := rfl
theorem flat_byt : ∀ fl : List S56, Byt (flat fl)
  | [] => Byt.nil
  | f :: fl => (fileb_byt f).append (flat_byt fl)
theorem restb_flat (fl : List S56) : ∀ (m i : Nat), i + m = fl.length → restb fl i m = flat (fl.drop i)
  | 0, i, h => by rw [restb, List.drop_eq_nil_of_le (by omega)]; rfl
  | m + 1, i, h => by
    have hi : i < fl.length := by omega
    rw [restb, restb_flat fl m (i + 1) (by omega), rd_of (List.getElem?_eq_getElem hi), List.drop_eq_getElem_cons hi, flat_cons]
theorem restb_all (fl : List S56) : restb fl 0 fl.length = flat fl := by
  rw [restb_flat fl fl.length 0 (by omega), List.drop_zero]
theorem sub_mid (a b c : List Int) (p n : Nat) (hp : a.length = p) (hn : b.length = n) : sub (a ++ b ++ c) p n = b := by
  unfold sub
  rw [List.append_assoc, List.drop_append_of_le_length (by omega), List.drop_eq_nil_of_le (by omega), List.nil_append, List.take_append_of_le_length (by omega), List.take_of_length_le (by omega)]
theorem fstep_fileb (f : S56) (hf : Fine f) (rest : List Int) : fstep (fileb f ++ rest) = (true, rest, f) := by
  have hl := fileb_length f
  have hx : (fileb f ++ rest)[0]? = some ((f.f0.size : Nat) : Int) := by
    unfold fileb
    simp only [List.append_assoc, List.singleton_append]
    show some ((f.f0.size : Int) % 256) = some ((f.f0.size : Nat) : Int)
    congr 1
    have := hf.p
    omega
  have l8 := lowd_length f.f1 8 0
  have l4 := lowd_length (f.f2.size : Int) 4 0
  have lp := bytesOf_length f.f0
  have lc := bytesOf_length f.f2
  have s1 : sub (fileb f ++ rest) 1 f.f0.size = bytesOf f.f0 := by
    have := sub_mid [(f.f0.size : Int) % 256] (bytesOf f.f0) (lowd f.f1 0 8 ++ lowd (f.f2.size : Int) 0 4 ++ bytesOf f.f2 ++ rest) 1 f.f0.size rfl lp
    unfold fileb
    simpa only [List.append_assoc] using this
  have s2 : sub (fileb f ++ rest) (1 + f.f0.size) 8 = lowd f.f1 0 8 := by
    have := sub_mid ([(f.f0.size : Int) % 256] ++ bytesOf f.f0) (lowd f.f1 0 8) (lowd (f.f2.size : Int) 0 4 ++ bytesOf f.f2 ++ rest) (1 + f.f0.size) 8 (by rw [List.length_append, lp]; rfl) l8
    unfold fileb
    simpa only [List.append_assoc] using this
  have s3 : sub (fileb f ++ rest) (9 + f.f0.size) 4 = lowd (f.f2.size : Int) 0 4 := by
    have := sub_mid ([(f.f0.size : Int) % 256] ++ bytesOf f.f0 ++ lowd f.f1 0 8) (lowd (f.f2.size : Int) 0 4) (bytesOf f.f2 ++ rest) (9 + f.f0.size) 4 (by rw [List.length_append, List.length_append, lp, l8, List.length_singleton]; omega) l4
    unfold fileb
    simpa only [List.append_assoc] using this
  have s4 : sub (fileb f ++ rest) (13 + f.f0.size) f.f2.size = bytesOf f.f2 := by
    have := sub_mid ([(f.f0.size : Int) % 256] ++ bytesOf f.f0 ++ lowd f.f1 0 8 ++ lowd (f.f2.size : Int) 0 4) (bytesOf f.f2) rest (13 + f.f0.size) f.f2.size (by rw [List.length_append, List.length_append, List.length_append, lp, l8, l4, List.length_singleton]; omega) lc
    unfold fileb
    simpa only [List.append_assoc] using this
  have hc := hf.c
  have hv := hf.v1
  have hz : numd (sub (fileb f ++ rest) (9 + f.f0.size) 4) = ((f.f2.size : Nat) : Int) := by
    rw [s3, numd_lowd 4 _ (by omega) (by rw [show (256 : Int) ^ 4 = 4294967296 by decide]; omega)]
  have hlen : (fileb f ++ rest).length = 13 + f.f0.size + f.f2.size + rest.length := by rw [List.length_append, hl]; omega
  rw [fstep_good hx (by omega) hz (by omega)]
  have hd : (fileb f ++ rest).drop (13 + f.f0.size + f.f2.size) = rest := by
    rw [List.drop_append_of_le_length (by omega), List.drop_eq_nil_of_le (by omega), List.nil_append]
  rw [hd]
  unfold gfile
  rw [s1, s2, s4, str_bytesOf, str_bytesOf, numd_lowd 8 _ hf.v0 (by rw [show (256 : Int) ^ 8 = 18446744073709551616 by decide]; omega), show wrap64 f.f1 = f.f1 by have := hf.v0; unfold wrap64; omega]
/-- There: the files of a commit's bytes are the commit's. -/
theorem floop_flat : ∀ (fl : List S56) (acc : List S56) (k : Nat), (∀ f ∈ fl, Fine f) → fl.length < k → floop k true (flat fl) acc = some (acc ++ fl, true)
  | [], acc, k, _, hk => by
    obtain ⟨k', rfl⟩ : ∃ k', k = k' + 1 := ⟨k - 1, by simp at hk; omega⟩
    rw [floop, if_neg (by simp [flat]), List.append_nil]
  | f :: fl, acc, k, hf, hk => by
    obtain ⟨k', rfl⟩ : ∃ k', k = k' + 1 := ⟨k - 1, by simp at hk; omega⟩
    rw [floop, flat_cons, if_pos ⟨rfl, by rw [List.length_append, fileb_length]; omega⟩, fstep_fileb f (hf f (by simp)) (flat fl), floop_flat fl _ k' (fun g hg => hf g (by simp [hg])) (by simp at hk; omega), List.append_assoc]
    rfl
/-- Back: the bytes out of which a commit's files were read are the commit's. -/
theorem flat_floop : ∀ (k : Nat) (b : List Int) (acc F : List S56), Byt b → (∀ f ∈ F, Fine f) → floop k true b acc = some (F, true) → ∃ G, F = acc ++ G ∧ flat G = b := by
  intro k
  induction k with
  | zero => intro b acc F _ _ h; simp [floop] at h
  | succ k ih =>
    intro b acc F hb hf h
    rw [floop] at h
    by_cases c : 0 < b.length
    rotate_left
    · rw [if_neg (fun h => c h.2)] at h
      have h1 : acc = F := congrArg Prod.fst (Option.some.inj h)
      exact ⟨[], by rw [h1, List.append_nil], (List.eq_nil_of_length_eq_zero (by omega)).symm⟩
    rw [if_pos ⟨rfl, c⟩] at h
    obtain ⟨x, hx⟩ : ∃ x, b[0]? = some x := ⟨_, List.getElem?_eq_getElem c⟩
    have hx0 := hb x (List.mem_of_getElem? hx)
    obtain ⟨n, rfl⟩ : ∃ n : Nat, x = (n : Int) := ⟨x.toNat, by omega⟩
    obtain ⟨sz, hsz, -⟩ := numd_nat (sub_byt hb (9 + n) 4) (k := 4) (by unfold sub; rw [List.length_take]; omega)
    have hgood : 13 + n + sz ≤ b.length := by
      rcases Nat.lt_or_ge b.length (13 + n + sz) with hlt | hge
      · exfalso
        have hfb : (fstep b).1 = false := fstep_bad hx (.inr ⟨sz, hsz, hlt⟩)
        rw [hfb] at h
        obtain ⟨_, _, hc⟩ := floop_some h
        rcases hc with ⟨e, _⟩ | ⟨_, e⟩
        · cases e
        · cases e
      · exact hge
    have hg := fstep_good hx (by omega) hsz (by omega)
    rw [hg] at h
    obtain ⟨G, hG, hflat⟩ := ih _ _ _ (hb.drop _) hf h
    refine ⟨gfile b n sz :: G, by rw [hG, List.append_assoc]; rfl, ?_⟩
    rw [flat_cons, hflat]
    have hfi : Fine (gfile b n sz) := hf _ (by rw [hG]; simp)
    have hl1 : (sub b 1 n).length = n := sub_len (by omega)
    have hl4 : (sub b (13 + n) sz).length = sz := sub_len (by omega)
    have hl2 : (sub b (1 + n) 8).length = 8 := sub_len (by omega)
    have hl3 : (sub b (9 + n) 4).length = 4 := sub_len (by omega)
    have hv : wrap64 (numd (sub b (1 + n) 8)) = numd (sub b (1 + n) 8) := by
      obtain ⟨h0, h1⟩ := numd_range _ (sub_byt hb (1 + n) 8)
      rw [hl2, show (256 : Int) ^ 8 = 18446744073709551616 by decide] at h1
      have a0 := hfi.v0
      have a1 := hfi.v1
      unfold gfile at a0 a1
      simp only at a0 a1
      unfold wrap64 at a0 a1 ⊢
      omega
    have hfb : fileb (gfile b n sz) = b.take 1 ++ sub b 1 n ++ sub b (1 + n) 8 ++ sub b (9 + n) 4 ++ sub b (13 + n) sz := by
      unfold fileb gfile
      simp only
      have e8 := lowd_numd _ (sub_byt hb (1 + n) 8)
      have e4 := lowd_numd _ (sub_byt hb (9 + n) 4)
      rw [hl2] at e8
      rw [hl3, hsz] at e4
      rw [hv, e8, strOfNums_size, strOfNums_size, hl1, hl4, e4, bytesOf_str _ (sub_byt hb 1 n), bytesOf_str _ (sub_byt hb (13 + n) sz)]
      congr 4
      rw [List.take_one, List.head?_eq_getElem?, hx]
      simp
      omega
    have hcat : ∀ (l : List Int) (p m : Nat), l.take p ++ sub l p m = l.take (p + m) := fun l p m => by
      unfold sub
      rw [List.take_add]
    rw [hfb, hcat, hcat, show 1 + n + 8 = 9 + n by omega, hcat, show 9 + n + 4 = 13 + n by omega, hcat, List.take_append_drop]
end Go.Proofs.Ytnemnhfdjofckaa.Co
namespace Go.Proofs.Ytnemnhfdjofckaa.Co
open Go Go.RowKit Go.Proofs.Ytnemnhfdjofckaa.Ck Go.Proofs.YtnemnhfdjofckaaW.PrintWords Go.Proofs.YtnemnhfdjofckaaW.PrintMore Go.Proofs.Ytnemnhfdjofckaa.Print Go.Proofs.Ytnemnhfdjofckaa.Rt
theorem recs_count (n : Int) (bs : List Int) : (recs n bs).length = max 1 (count bs.length) := by unfold recs; rw [List.length_map, List.length_range]
theorem recs_at (n : Int) (bs : List Int) {i : Nat} (hi : i < max 1 (count bs.length)) : (recs n bs)[i]? = some (recd n bs (max 1 (count bs.length)) i) := by
  unfold recs
  rw [List.getElem?_map, List.getElem?_range hi]
  rfl
theorem recd_parts (n : Int) (bs : List Int) (c i : Nat) : (recd n bs c i).take 8 = lowd n 0 8 ∧ sub (recd n bs c i) 8 2 = lowd i 0 2 ∧ sub (recd n bs c i) 10 2 = lowd c 0 2 ∧ (recd n bs c i).drop 12 = (bs.drop (4000 * i)).take 4000 ∧ (recd n bs c i).length = 12 + min 4000 (bs.length - 4000 * i) := by
  have l8 := lowd_length n 8 0
  have l2 := lowd_length (i : Int) 2 0
  have l2' := lowd_length (c : Int) 2 0
  refine ⟨?_, ?_, ?_, ?_, ?_⟩
  · have := sub_mid [] (lowd n 0 8) (lowd i 0 2 ++ lowd c 0 2 ++ (bs.drop (4000 * i)).take 4000) 0 8 rfl l8
    unfold recd
    unfold sub at this
    simpa only [List.append_assoc, List.nil_append, List.drop_zero] using this
  · have := sub_mid (lowd n 0 8) (lowd i 0 2) (lowd c 0 2 ++ (bs.drop (4000 * i)).take 4000) 8 2 l8 l2
    unfold recd
    simpa only [List.append_assoc] using this
  · have := sub_mid (lowd n 0 8 ++ lowd i 0 2) (lowd c 0 2) ((bs.drop (4000 * i)).take 4000) 10 2 (by rw [List.length_append, l8, l2]) l2'
    unfold recd
    simpa only [List.append_assoc] using this
  · unfold recd
    rw [List.drop_append_of_le_length (by rw [List.length_append, List.length_append, l8, l2, l2']; decide), List.drop_eq_nil_of_le (by rw [List.length_append, List.length_append, l8, l2, l2']; decide), List.nil_append]
  · unfold recd
    rw [List.length_append, List.length_append, List.length_append, l8, l2, l2', List.length_take, List.length_drop]
theorem recd_byt {n : Int} {bs : List Int} (hb : Byt bs) (c i : Nat) : Byt (recd n bs c i) := by
  unfold recd
  exact (((lowd_byt _ _).append (lowd_byt _ _)).append (lowd_byt _ _)).append ((hb.drop _).take _)
theorem getD_app {L more : List (List Int)} {i : Nat} {x : List Int} (h : L[i]? = some x) : (L ++ more).getD i [] = x := by
  rw [List.getD_eq_getElem?_getD, List.getElem?_append_left (List.getElem?_eq_some_iff.1 h).1, h]
  rfl
theorem joind_app (L more : List (List Int)) {m : Nat} (h : m ≤ L.length) : joind (L ++ more) m = joind L m := by
  unfold joind
  rw [List.take_append_of_le_length h]
theorem joind_recs (n : Int) (bs : List Int) : ∀ m, m ≤ max 1 (count bs.length) → joind (recs n bs) m = bs.take (4000 * m) := by
  intro m
  induction m with
  | zero => intro _; rfl
  | succ m ih =>
    intro hm
    rw [joind_succ _ m (by rw [recs_count]; omega), ih (by omega), List.getD_eq_getElem?_getD, recs_at n bs (by omega)]
    show _ ++ (recd n bs _ m).drop 12 = _
    rw [(recd_parts n bs _ m).2.2.2.1, show 4000 * (m + 1) = 4000 * m + 4000 by omega, List.take_add]
theorem count_le (L : Nat) : L ≤ 4000 * max 1 (count L) ∧ (1 < max 1 (count L) → 4000 * (max 1 (count L) - 1) < L) := by
  unfold count
  omega
theorem flat_len : ∀ fl : List S56, fl.length ≤ (flat fl).length
  | [] => by simp
  | f :: fl => by
    have := flat_len fl
    rw [flat_cons, List.length_append, fileb_length, List.length_cons]
    omega
/-- There: a commit's records, whatever stands behind them, are decoded. -/
theorem good_recs {num : Int} {fl : List S56} (hr : rightd num fl = true) (hc : max 1 (count (flat fl).length) ≤ 65535) (more : List (List Int)) : Good (recs num (flat fl) ++ more) num fl (max 1 (count (flat fl).length)) := by
  obtain ⟨c, hce⟩ : ∃ c, max 1 (count (flat fl).length) = c := ⟨_, rfl⟩
  obtain ⟨k1, k2⟩ := count_le (flat fl).length
  have hpos : 0 < c := by omega
  have hat := fun {i : Nat} (hi : i < max 1 (count (flat fl).length)) => getD_app (more := more) (recs_at num (flat fl) hi)
  have hlen := recs_count num (flat fl)
  obtain ⟨n0, n1, -, -⟩ := (rightd_iff num fl).1 hr
  have hnum : numd (lowd num 0 8) = num := numd_lowd 8 _ n0 (by rw [show (256 : Int) ^ 8 = 18446744073709551616 by decide]; omega)
  have e16 : (256 : Int) ^ 2 = 65536 := by decide
  rw [hce] at hat hlen k1 k2 hc ⊢
  have h0 := hat hpos
  obtain ⟨p1, p2, p3, p4, p5⟩ := recd_parts num (flat fl) c 0
  have hcnt : numd (lowd (c : Int) 0 2) = (c : Int) := numd_lowd 2 _ (by omega) (by rw [e16]; omega)
  refine ⟨hpos, by rw [List.length_append, hlen]; omega, hc, by rw [h0, p5]; omega, ?_, by rw [h0, p3, hcnt], fun i hi => ?_, ?_, hr⟩
  · rw [h0, show sub (recd num (flat fl) c 0) 0 8 = (recd num (flat fl) c 0).take 8 from rfl, p1, hnum]
    unfold wrap64
    omega
  · rw [h0, hat hi]
    obtain ⟨q1, q2, q3, q4, q5⟩ := recd_parts num (flat fl) c i
    unfold fitd
    rw [q1, p1, q2, q3, q5, hcnt, numd_lowd 2 _ (by omega) (by rw [e16]; omega), decide_eq_true (by omega), decide_eq_true rfl, decide_eq_true rfl]
    simp only [BEq.rfl, Bool.true_and, Bool.and_true]
    unfold longd2
    by_cases hl : i + 1 < c
    · rw [show (12 + min 4000 ((flat fl).length - 4000 * i) == 4012) = true by
        have := k2 (by omega)
        simp
        omega]
      rfl
    · have hie : i + 1 = c := by omega
      rw [decide_eq_true (show (i : Int) = (c : Int) - 1 by omega), decide_eq_true (show 12 + min 4000 ((flat fl).length - 4000 * i) ≤ 4012 by omega)]
      by_cases h1 : c = 1
      · rw [decide_eq_true (show (c : Int) = 1 by omega)]
        simp
      · rw [decide_eq_true (show 12 < 12 + min 4000 ((flat fl).length - 4000 * i) by have := k2 (by omega); omega)]
        simp
  · rw [joind_app _ _ (by rw [hlen]; omega)]
    have := joind_recs num (flat fl) c (by omega)
    rw [this, List.take_of_length_le (by omega)]
    have hfl := flat_len fl
    have := floop_flat fl [] ((flat fl).length + 1) (fine_of hr) (by omega)
    rw [List.nil_append] at this
    exact this
theorem joind_prefix (L : List (List Int)) : ∀ (d i : Nat), i + d ≤ L.length → ∃ t, joind L (i + d) = joind L i ++ t
  | 0, i, _ => ⟨[], by simp⟩
  | d + 1, i, h => by
    obtain ⟨t, ht⟩ := joind_prefix L d i (by omega)
    exact ⟨t ++ (L.getD (i + d) []).drop 12, by rw [show i + (d + 1) = (i + d) + 1 by omega, joind_succ L (i + d) (by omega), ht, List.append_assoc]⟩
/-- Only so: records that are decoded are those that their commit has. -/
theorem recs_good {L : List (List Int)} (hR : Recs L) {num : Int} {fl : List S56} {n : Nat} (h : Good L num fl n) : flat fl = joind L n ∧ recs num (flat fl) = L.take n := by
  have hb := joind_ok hR n h.le
  obtain ⟨G, hG, hflat⟩ := flat_floop _ _ _ _ hb.2 (fine_of h.right) h.files
  rw [List.nil_append] at hG
  subst hG
  refine ⟨hflat, ?_⟩
  rw [hflat]
  have hlong : ∀ i : Nat, i < n → 12 ≤ (L.getD i []).length ∧ (L.getD i []).take 8 = (L.getD 0 []).take 8 ∧ numd (sub (L.getD i []) 8 2) = (i : Int) ∧ numd (sub (L.getD i []) 10 2) = (n : Int) ∧ ((L.getD i []).length = 4012 ∨ (i + 1 = n ∧ (L.getD i []).length ≤ 4012 ∧ (n = 1 ∨ 12 < (L.getD i []).length))) := fun i hi => by
    have hf := h.fits i hi
    unfold fitd longd2 at hf
    simp only [Bool.and_eq_true, Bool.or_eq_true, decide_eq_true_eq, beq_iff_eq] at hf
    obtain ⟨⟨⟨⟨h1, h2⟩, h3⟩, h4⟩, h5⟩ := hf
    refine ⟨h1, str_inj ((hR.getD i).2.take 8) ((hR.getD 0).2.take 8) h2, h3, h4, ?_⟩
    rcases h5 with h5 | ⟨⟨h5, h6⟩, h7⟩
    · exact .inl h5
    · exact .inr ⟨by omega, h6, by omega⟩
  have hjl : ∀ i : Nat, i < n → (joind L i).length = 4000 * i := by
    intro i
    induction i with
    | zero => intro _; unfold joind; simp
    | succ i ih =>
      intro hi
      rw [joind_succ L i (by have := h.le; omega), List.length_append, ih (by omega), List.length_drop]
      have := (hlong i (by omega)).2.2.2.2
      omega
  have hp := h.pos
  have htot : (joind L n).length = 4000 * (n - 1) + ((L.getD (n - 1) []).length - 12) := by
    have e := joind_succ L (n - 1) (by have := h.le; omega)
    rw [show n - 1 + 1 = n by omega] at e
    rw [e, List.length_append, hjl (n - 1) (by omega), List.length_drop]
  have hlast := hlong (n - 1) (by omega)
  have hc : max 1 (count (joind L n).length) = n := by
    rw [htot]
    unfold count
    omega
  obtain ⟨n0, n1, -, -⟩ := (rightd_iff num fl).1 h.right
  have l8 : (sub (L.getD 0 []) 0 8).length = 8 := sub_len (by have := h.r0; omega)
  have hnum : num = numd (sub (L.getD 0 []) 0 8) := by
    have e := h.hnum
    obtain ⟨g0, g1⟩ := numd_range _ (sub_byt (hR.getD 0).2 0 8)
    rw [l8, show (256 : Int) ^ 8 = 18446744073709551616 by decide] at g1
    unfold wrap64 at e
    omega
  have h8 : lowd num 0 8 = (L.getD 0 []).take 8 := by
    have := lowd_numd _ (sub_byt (hR.getD 0).2 0 8)
    rw [l8, ← hnum] at this
    exact this
  apply List.ext_getElem?
  intro i
  rcases Nat.lt_or_ge i n with hi | hi
  rotate_left
  · rw [List.getElem?_eq_none (by rw [recs_count, hc]; exact hi), List.getElem?_eq_none (by rw [List.length_take]; omega)]
  rw [recs_at num _ (by rw [hc]; exact hi), hc, List.getElem?_take_of_lt hi, List.getElem?_eq_getElem (by have := h.le; omega)]
  congr 1
  have hLi : L.getD i [] = L[i]'(by have := h.le; omega) := by
    rw [List.getD_eq_getElem?_getD, List.getElem?_eq_getElem (by have := h.le; omega)]
    rfl
  rw [← hLi]
  obtain ⟨a1, a2, a3, a4, a5⟩ := hlong i hi
  have hbi := (hR.getD i).2
  have l2 : (sub (L.getD i []) 8 2).length = 2 := sub_len (by omega)
  have l2' : (sub (L.getD i []) 10 2).length = 2 := sub_len (by omega)
  have e2 := lowd_numd _ (sub_byt hbi 8 2)
  rw [l2, a3] at e2
  have e3 := lowd_numd _ (sub_byt hbi 10 2)
  rw [l2', a4] at e3
  have hpiece : ((joind L n).drop (4000 * i)).take 4000 = (L.getD i []).drop 12 := by
    obtain ⟨t, ht⟩ := joind_prefix L (n - (i + 1)) (i + 1) (by have := h.le; omega)
    rw [show i + 1 + (n - (i + 1)) = n by omega, joind_succ L i (by have := h.le; omega)] at ht
    have htl : (joind L n).length = 4000 * i + ((L.getD i []).length - 12) + t.length := by rw [ht, List.length_append, List.length_append, hjl i hi, List.length_drop]
    rw [ht, List.append_assoc, List.drop_append_of_le_length (by rw [hjl i hi]; exact Nat.le_refl _), List.drop_eq_nil_of_le (by rw [hjl i hi]; exact Nat.le_refl _), List.nil_append]
    rcases a5 with a5 | ⟨a5, a6, _⟩
    · rw [List.take_append_of_le_length (by rw [List.length_drop]; omega), List.take_of_length_le (by rw [List.length_drop]; omega)]
    · have : t = [] := List.eq_nil_of_length_eq_zero (by
        have e : n - 1 = i := by omega
        rw [e] at htot
        omega)
      rw [this, List.append_nil, List.take_of_length_le (by rw [List.length_drop]; omega)]
  unfold recd
  rw [h8, ← a2, e2, e3, hpiece]
  have hcat : ∀ (l : List Int) (p m : Nat), l.take p ++ sub l p m = l.take (p + m) := fun l p m => by
    unfold sub
    rw [List.take_add]
  rw [hcat, hcat, List.take_append_drop]
end Go.Proofs.Ytnemnhfdjofckaa.Co
namespace Go.Proofs.Ytnemnhfdjofckaa.Co
open Go Go.RowKit Go.Proofs.YtnemnhfdjofckaaW.PrintWords Go.Proofs.YtnemnhfdjofckaaW.PrintMore Go.Proofs.Ytnemnhfdjofckaa.Print Go.Proofs.Ytnemnhfdjofckaa.Rt
theorem few_l0 (L : List (List Int)) : ∀ d i : Nat, i + d = 12 → (∀ q : Nat, q < i → (L.getD q []).length ≤ 5000) → ∃ b, headgatelaw20_few.l0 (d + 2) L (i : Int) = some b ∧ (b = true → L.length ≤ 12 ∧ ∀ q : Nat, (L.getD q []).length ≤ 5000) := by
  intro d
  induction d with
  | zero =>
    intro i hi hq
    rw [headgatelaw20_few.l0]
    by_cases c : (i : Int) < (L.length : Int)
    · rw [if_pos c, if_pos (by omega)]
      exact ⟨false, rfl, fun h => by cases h⟩
    · rw [if_neg c]
      refine ⟨true, rfl, fun _ => ⟨by omega, fun q => ?_⟩⟩
      rcases Nat.lt_or_ge q i with h | h
      · exact hq q h
      · rw [List.getD_eq_getElem?_getD, List.getElem?_eq_none (by omega)]
        simp
  | succ d ih =>
    intro i hi hq
    rw [headgatelaw20_few.l0]
    by_cases c : (i : Int) < (L.length : Int)
    rotate_left
    · rw [if_neg c]
      refine ⟨true, rfl, fun _ => ⟨by omega, fun q => ?_⟩⟩
      rcases Nat.lt_or_ge q i with h | h
      · exact hq q h
      · rw [List.getD_eq_getElem?_getD, List.getElem?_eq_none (by omega)]
        simp
    rw [if_pos c, if_neg (by omega), if_pos (by omega), show rd_L5 L (i : Int) = L.getD i [] by unfold rd_L5; rw [Int.toNat_natCast]]
    by_cases c2 : ((L.getD i []).length : Int) > 5000
    · rw [if_pos c2]
      exact ⟨false, rfl, fun h => by cases h⟩
    · rw [if_neg c2, show wrap64 ((i : Int) + 1) = ((i + 1 : Nat) : Int) by unfold wrap64; omega]
      refine ih (i + 1) (by omega) (fun q h => ?_)
      rcases Nat.lt_or_ge q i with h | h
      · exact hq q h
      · obtain rfl : q = i := by omega
        omega
theorem few_f (L : List (List Int)) {K : Nat} (hK : 14 ≤ K) : ∃ b, headgatelaw20_few.f K L = some b ∧ (b = true → L.length ≤ 12 ∧ ∀ l ∈ L, l.length ≤ 5000) := by
  obtain ⟨b, h1, h2⟩ := few_l0 L 12 0 (by omega) (fun q h => by omega)
  refine ⟨b, up (f := fun k => headgatelaw20_few.f k L) (fun k => headgatelaw20_few.mono _ _) (k := 14) (by unfold headgatelaw20_few.f; exact h1) hK, fun hb => ⟨(h2 hb).1, fun l hl => ?_⟩⟩
  obtain ⟨i, hi⟩ := List.mem_iff_getElem?.1 hl
  have := (h2 hb).2 i
  rw [List.getD_eq_getElem?_getD, hi] at this
  exact this
theorem same04_l0 (l : List (List Int)) (hl : l.length ≤ 1000000000) : ∀ m i : Nat, i + m = l.length → headgateref04_Same.l0 (m + 1) l l (i : Int) = some true := by
  intro m
  induction m with
  | zero =>
    intro i hi
    rw [headgateref04_Same.l0, if_neg (by omega)]
  | succ m ih =>
    intro i hi
    rw [headgateref04_Same.l0, if_pos (by omega), if_pos (by omega), if_pos (by omega), if_pos rfl, show wrap64 ((i : Int) + 1) = ((i + 1 : Nat) : Int) by unfold wrap64; omega]
    exact ih (i + 1) (by omega)
theorem same04_f (l : List (List Int)) (hl : l.length ≤ 1000000000) {K : Nat} (hK : l.length + 1 ≤ K) : headgateref04_Same.f K l l = some true := by
  refine up (f := fun k => headgateref04_Same.f k l l) (fun k => headgateref04_Same.mono _ _ _) (k := l.length + 1) ?_ hK
  show headgateref04_Same.f (l.length + 1) l l = some true
  unfold headgateref04_Same.f
  rw [if_pos rfl]
  exact same04_l0 l hl l.length 0 (by omega)
theorem same07_l0 (l : List S56) (hl : l.length ≤ 1000000000) : ∀ m i : Nat, i + m = l.length → headgateref07_Same.l0 (m + 1) l l (i : Int) = some true := by
  intro m
  induction m with
  | zero =>
    intro i hi
    rw [headgateref07_Same.l0, if_neg (by omega)]
  | succ m ih =>
    intro i hi
    rw [headgateref07_Same.l0, if_pos (by omega), if_pos (by omega), if_pos (by omega), if_neg (by simp), show wrap64 ((i : Int) + 1) = ((i + 1 : Nat) : Int) by unfold wrap64; omega]
    exact ih (i + 1) (by omega)
theorem same07_f (l : List S56) (hl : l.length ≤ 1000000000) {K : Nat} (hK : l.length + 1 ≤ K) : headgateref07_Same.f K l l = some true := by
  refine up (f := fun k => headgateref07_Same.f k l l) (fun k => headgateref07_Same.mono _ _ _) (k := l.length + 1) ?_ hK
  show headgateref07_Same.f (l.length + 1) l l = some true
  unfold headgateref07_Same.f
  rw [if_pos rfl]
  exact same07_l0 l hl l.length 0 (by omega)
theorem filed_nil (num n : Int) (b : List Int) : (filed num n b).2.2.2 = 0 ∨ filed num n b = bad := by
  unfold filed
  split
  · split
    · exact .inl rfl
    · exact .inr rfl
  · exact .inr rfl
theorem find_nil (L : List (List Int)) (num n : Int) (m : Nat) : (find L num n m).2.2.2 = 0 ∨ find L num n m = short ∨ find L num n m = bad := by
  unfold find
  split
  · exact .inr (.inl rfl)
  · rcases filed_nil num n (joind L m) with h | h
    · exact .inl h
    · exact .inr (.inr h)
theorem decd_nil {L : List (List Int)} (h : (decd L).2.2.2 ≠ 0) : decd L = short ∨ decd L = bad := by
  have key : (decd L).2.2.2 = 0 ∨ decd L = short ∨ decd L = bad := by
    unfold decd
    by_cases c0 : L.length = 0
    · rw [if_pos c0]; exact .inr (.inl rfl)
    rw [if_neg c0]
    by_cases c1 : (L.getD 0 []).length < 12
    · rw [if_pos c1]; exact .inr (.inr rfl)
    rw [if_neg c1]
    by_cases c2 : numd (sub (L.getD 0 []) 10 2) = 0 ∨ wrap64 (numd (sub (L.getD 0 []) 0 8)) < 0 ∨ 1099511627776 < wrap64 (numd (sub (L.getD 0 []) 0 8))
    · rw [if_pos c2]; exact .inr (.inr rfl)
    rw [if_neg c2]
    by_cases c3 : allfit (L.getD 0 []) L (numd (sub (L.getD 0 []) 10 2)) 0 (min (numd (sub (L.getD 0 []) 10 2)).toNat L.length) = true
    · rw [if_pos c3]; exact find_nil _ _ _ _
    · rw [if_neg c3]; exact .inr (.inr rfl)
  exact key.resolve_left h
theorem decd_fl {L : List (List Int)} (hR : Recs L) : (decd L).2.1.length ≤ 1024 := by
  by_cases h : (decd L).2.2.2 = 0
  · obtain ⟨num, fl, n, e, hg⟩ := decd_ok hR h
    rw [e]
    exact ((rightd_iff num fl).1 hg.right).2.2.1
  · rcases decd_nil h with e | e <;> (rw [e]; decide)
theorem alld_fl : ∀ (k : Nat) (L : List (List Int)), Recs L → ∀ x ∈ alld k L, x.2.length ≤ 1024 := by
  intro k
  induction k with
  | zero => intro L _ x hx; simp [alld] at hx
  | succ k ih =>
    intro L hR x hx
    unfold alld at hx
    split at hx
    · rcases List.mem_cons.1 hx with rfl | hx
      · exact decd_fl hR
      · exact ih _ (hR.drop _) x hx
    · simp at hx
end Go.Proofs.Ytnemnhfdjofckaa.Co
namespace Go.Proofs.Ytnemnhfdjofckaa.Rd
open Go Go.RowKit Go.WideShapes Go.Proofs.YtnemnhfdjofckaaW.PrintWords Go.Proofs.Ytnemnhfdjofckaa.Print
theorem cells_get {w : World} {a : Addr} {n : Nat} {es : List Value} (h : w.cells? 0 a n = some es) : es.length = n ∧ ∀ (i : Nat) (u : Value), es[i]? = some u → w.cell? (a.add i) = some u := by
  unfold World.cells? at h
  split at h
  · obtain ⟨h1, h2⟩ := mapM_some h
    rw [List.length_range] at h1
    refine ⟨h1, fun i u hu => ?_⟩
    have hi : i < n := by rw [← h1]; exact (List.getElem?_eq_some_iff.1 hu).1
    obtain ⟨y, hy, hf⟩ := h2 i i (List.getElem?_range hi)
    rw [hu] at hy
    cases hy
    exact hf
  · cases h
theorem some_list {α : Type} {p : Nat → α → Prop} : ∀ (n : Nat), (∀ i, i < n → ∃ x, p i x) → ∃ l : List α, l.length = n ∧ ∀ i x, l[i]? = some x → p i x
  | 0, _ => ⟨[], rfl, by simp⟩
  | n + 1, h => by
    obtain ⟨l, hl, hp⟩ := some_list n (fun i hi => h i (by omega))
    obtain ⟨x, hx⟩ := h n (by omega)
    refine ⟨l ++ [x], by simp [hl], fun i y hy => ?_⟩
    rcases Nat.lt_trichotomy i n with h1 | h1 | h1
    · rw [List.getElem?_append_left (by omega)] at hy
      exact hp i y hy
    · subst h1
      rw [List.getElem?_append_right (by omega), hl, Nat.sub_self] at hy
      simp at hy
      subst hy
      exact hx
    · rw [List.getElem?_eq_none (by simp; omega)] at hy
      cases hy
theorem add_more (a : Addr) (i j : Nat) : (a.add i).add j = a.add (i + j) := by
  unfold Addr.add
  by_cases h1 : i = 0
  · subst h1; simp
  · by_cases h2 : j = 0
    · subst h2; simp [h1]
    · simp [h1, h2, Nat.add_assoc]
/-- A slice that reads, as a row; 'nil' has no room. -/
theorem rd_C {α : Type} (K : Kd α) {P : Program} {w : World} {t e : TypeId} (ht : P.underlying t = some (.slice e)) (hs : P.cellsOf e = K.sz) (hr : ∀ cs, Rd P w e cs → ∃ x, K.K w x cs) {cs : List Value} (h : Rd P w t cs) :
    ∃ A l c, cs = [.slice A l.length c] ∧ l.length ≤ c ∧ l.length ≤ maxLen ∧ K.C w A l.length l ∧ (A = none → l.length = 0 ∧ c = 0) := by
  obtain ⟨a, len, cap, rfl, hh⟩ := rd_slice ht h
  rcases hh with ⟨rfl, rfl, rfl⟩ | ⟨ad, rfl, hlc, hcm, _, hel⟩
  · exact ⟨none, [], 0, rfl, Nat.le_refl _, by unfold maxLen; simp, Kd.C_nil K w, fun _ => ⟨rfl, rfl⟩⟩
  · rw [hs] at hel
    obtain ⟨l, hl, hp⟩ := some_list (p := fun i (x : α) => ∃ es, w.cells? 0 (ad.add (i * K.sz)) K.sz = some es ∧ K.K w x es) len (fun i hi => by
      obtain ⟨es, h1, h2⟩ := hel i (by omega)
      obtain ⟨x, hx⟩ := hr es h2
      exact ⟨x, es, h1, hx⟩)
    refine ⟨some ad, l, cap, by rw [hl], by omega, by omega, ⟨rfl, by unfold maxLen at hcm; omega, fun _ => ⟨ad, rfl, fun j p hj => ?_⟩⟩, fun e => by cases e⟩
    obtain ⟨es, h1, h2⟩ := hp j p hj
    obtain ⟨h3, h4⟩ := cells_get h1
    refine ⟨es, h3, h2, fun i u hu => ?_⟩
    rw [← add_more]
    exact h4 i u hu
theorem arg_C {α : Type} (K : Kd α) {P : Program} {w : World} {t e : TypeId} (ht : P.underlying t = some (.slice e)) (hs : P.cellsOf e = K.sz) (hr : ∀ cs, Rd P w e cs → ∃ x, K.K w x cs) {v : Value} (h : Arg P w t v) :
    ∃ A l c, v = .slice A l.length c ∧ l.length ≤ c ∧ l.length ≤ maxLen ∧ K.C w A l.length l ∧ (A = none → l.length = 0 ∧ c = 0) := by
  obtain ⟨⟨b, ho⟩, hrd⟩ := h
  obtain ⟨a, len, cap, rfl⟩ := okWide_slice ht ho
  obtain ⟨A, l, c, h1, h2⟩ := rd_C K ht hs hr hrd
  simp [Value.cells] at h1
  obtain ⟨rfl, rfl, rfl⟩ := h1
  exact ⟨_, _, _, rfl, h2⟩
theorem field_at {fs : Array Field} {m : List (Nat × TypeId)} (h : fs.toList.map (fun f => (f.offset, f.type)) = m) {i o t : Nat} (hi : m[i]? = some (o, t)) : ∃ f, fs.toList[i]? = some f ∧ f.offset = o ∧ f.type = t := by
  subst h
  rw [List.getElem?_map] at hi
  obtain ⟨f, hf, he⟩ := Option.map_eq_some_iff.1 hi
  exact ⟨f, hf, by simpa using congrArg Prod.fst he, by simpa using congrArg Prod.snd he⟩
end Go.Proofs.Ytnemnhfdjofckaa.Rd
namespace Go.Proofs.Ytnemnhfdjofckaa.Rd
open Go Go.RowKit Go.WideShapes Go.Proofs.YtnemnhfdjofckaaW.PrintWords Go.Proofs.Ytnemnhfdjofckaa.Print Go.Proofs.Ytnemnhfdjofckaa.Co
theorem rd_Cp {α : Type} (K : Kd α) (p : α → Prop) {P : Program} {w : World} {t e : TypeId} (ht : P.underlying t = some (.slice e)) (hs : P.cellsOf e = K.sz) (hr : ∀ cs, Rd P w e cs → ∃ x, K.K w x cs ∧ p x) {cs : List Value} (h : Rd P w t cs) :
    ∃ A l c, cs = [.slice A l.length c] ∧ l.length ≤ c ∧ l.length ≤ maxLen ∧ K.C w A l.length l ∧ ∀ x ∈ l, p x := by
  obtain ⟨a, len, cap, rfl, hh⟩ := rd_slice ht h
  rcases hh with ⟨rfl, rfl, rfl⟩ | ⟨ad, rfl, hlc, hcm, _, hel⟩
  · exact ⟨none, [], 0, rfl, Nat.le_refl _, by unfold maxLen; simp, Kd.C_nil K w, by simp⟩
  · rw [hs] at hel
    obtain ⟨l, hl, hp⟩ := some_list (p := fun i (x : α) => ∃ es, w.cells? 0 (ad.add (i * K.sz)) K.sz = some es ∧ K.K w x es ∧ p x) len (fun i hi => by
      obtain ⟨es, h1, h2⟩ := hel i (by omega)
      obtain ⟨x, hx⟩ := hr es h2
      exact ⟨x, es, h1, hx⟩)
    refine ⟨some ad, l, cap, by rw [hl], by omega, by omega, ⟨rfl, by unfold maxLen at hcm; omega, fun _ => ⟨ad, rfl, fun j q hj => ?_⟩⟩, fun x hx => ?_⟩
    · obtain ⟨es, h1, h2, -⟩ := hp j q hj
      obtain ⟨h3, h4⟩ := cells_get h1
      refine ⟨es, h3, h2, fun i u hu => ?_⟩
      rw [← add_more]
      exact h4 i u hu
    · obtain ⟨i, hi⟩ := List.mem_iff_getElem?.1 hx
      obtain ⟨es, -, -, h3⟩ := hp i x hi
      exact h3
theorem arg_Cp {α : Type} (K : Kd α) (p : α → Prop) {P : Program} {w : World} {t e : TypeId} (ht : P.underlying t = some (.slice e)) (hs : P.cellsOf e = K.sz) (hr : ∀ cs, Rd P w e cs → ∃ x, K.K w x cs ∧ p x) {v : Value} (h : Arg P w t v) :
    ∃ A l c, v = .slice A l.length c ∧ l.length ≤ c ∧ l.length ≤ maxLen ∧ K.C w A l.length l ∧ ∀ x ∈ l, p x := by
  obtain ⟨⟨b, ho⟩, hrd⟩ := h
  obtain ⟨a, len, cap, rfl⟩ := okWide_slice ht ho
  obtain ⟨A, l, c, h1, h2⟩ := rd_Cp K p ht hs hr hrd
  simp [Value.cells] at h1
  obtain ⟨rfl, rfl, rfl⟩ := h1
  exact ⟨_, _, _, rfl, h2⟩
theorem sz_rec : Try.prog.cellsOf 5 = 1 ∧ Try.prog.cellsOf 38 = 1 := ⟨by kernel_rfl, by kernel_rfl⟩
theorem rd_u8 {w : World} {cs : List Value} (h : Rd Try.prog w 5 cs) : ∃ x, (Kd.int .u8).K w x cs ∧ (0 ≤ x ∧ x < 256) := by
  obtain ⟨n, rfl, hw⟩ := rd_int Try.underlying5 h
  refine ⟨n, rfl, ?_⟩
  simp [Lit.wf, IntKind.min, IntKind.max, IntKind.bits, IntKind.signed] at hw
  omega
theorem rd_rec {w : World} {cs : List Value} (h : Rd Try.prog w 38 cs) : ∃ x, (Kd.slice 5 (Kd.int .u8)).K w x cs ∧ Byt x := by
  obtain ⟨A, l, c, rfl, h1, _, h2, h3⟩ := rd_Cp (Kd.int .u8) (fun x => 0 ≤ x ∧ x < 256) Try.underlying38 sz_rec.1 (fun _ hc => rd_u8 hc) h
  exact ⟨l, ⟨A, c, rfl, h1, h2⟩, h3⟩
theorem arg_recs {w : World} {v : Value} (h : Arg Try.prog w 27 v) : ∃ A L c, v = .slice A L.length c ∧ L.length ≤ c ∧ L.length ≤ maxLen ∧ Kd.C (Kd.slice 5 (Kd.int .u8)) w A L.length L ∧ ∀ l ∈ L, Byt l :=
  arg_Cp (Kd.slice 5 (Kd.int .u8)) Byt Try.underlying27 sz_rec.2 (fun _ hc => rd_rec hc) h
theorem arg_recs0 {w : World} {v : Value} (h : Arg Try.prog w 27 v) : ∃ A L c, v = .slice A L.length c ∧ L.length ≤ c ∧ L.length ≤ maxLen ∧ Kd.C (Kd.slice 5 (Kd.int .u8)) w A L.length L ∧ (∀ l ∈ L, Byt l) ∧ (A = none → L.length = 0 ∧ c = 0) := by
  obtain ⟨A, L, c, rfl, h1, h2, h3, h4⟩ := arg_recs h
  refine ⟨A, L, c, rfl, h1, h2, h3, h4, fun e => ?_⟩
  obtain ⟨a, len, cap, e2, hh⟩ := arg_slice Try.underlying27 h
  injection e2 with e3 e4 e5
  rcases hh with ⟨h5, h6, h7⟩ | ⟨ad, h5, _⟩
  · exact ⟨by omega, by omega⟩
  · rw [h5, e] at e3
    cases e3
end Go.Proofs.Ytnemnhfdjofckaa.Rd
namespace Go.Proofs.Ytnemnhfdjofckaa.Co
open Go Go.RowKit Go.Proofs.YtnemnhfdjofckaaW.PrintWords Go.Proofs.Ytnemnhfdjofckaa.Print
theorem same_l0 (l : List (List Int)) (hl : l.length ≤ 1000000000) : ∀ m i : Nat, i + m = l.length → headgateref20_Same.l0 (m + 1) l l (i : Int) = some true := by
  intro m
  induction m with
  | zero =>
    intro i hi
    unfold headgateref20_Same.l0
    rw [if_neg (by omega)]
  | succ m ih =>
    intro i hi
    unfold headgateref20_Same.l0
    rw [if_pos (by omega), if_pos (by omega), if_pos (by omega), if_pos rfl, show wrap64 ((i : Int) + 1) = ((i + 1 : Nat) : Int) by unfold wrap64; omega]
    exact ih (i + 1) (by omega)
theorem same_f (l : List (List Int)) (hl : l.length ≤ 1000000000) : headgateref20_Same.f (l.length + 1) l l = some true := by
  unfold headgateref20_Same.f
  rw [if_pos rfl]
  exact same_l0 l hl l.length 0 (by omega)
/-- Few files, and short ones. -/
def Small (fl : List S56) : Prop := fl.length ≤ 8 ∧ ∀ f ∈ fl, f.f0.size ≤ 100 ∧ f.f2.size ≤ 20060
/-- An answer, of few files. -/
def Ans (r : Option (List S56 × Bool)) : Prop := ∃ r1 r2, r = some (r1, r2) ∧ Small r1
theorem ans_bad : Ans (some (([] : List S56), false)) := ⟨[], false, rfl, by simp, by simp⟩
theorem files_l1 (l : List S54) (acc : List S56) (i : Nat) (p : ByteArray) (v : Int) (S : ByteArray) (times : Int) (hS : S.size ≤ 60) (ht : times ≤ 2000) (ha : acc.length ≤ 8)
    (hnext : ∀ con : ByteArray, con.size ≤ 20060 → ∃ k, Ans (headgatelaw20_files.l0 k l (acc ++ [⟨p, v, con⟩]) (wrap64 ((i : Int) + 1)))) :
    ∀ (m x8 : Nat) (x7 : ByteArray), x8 + m = 2001 → x7.size ≤ 20060 → ∃ k, Ans (headgatelaw20_files.l1 k l acc (i : Int) x7 (x8 : Int) p v S times) := by
  intro m
  induction m with
  | zero =>
    intro x8 x7 hm hx
    obtain ⟨k, hk⟩ := hnext x7 hx
    refine ⟨k + 1, ?_⟩
    unfold headgatelaw20_files.l1
    rw [if_neg (by omega), if_pos (by omega)]
    exact hk
  | succ m ih =>
    intro x8 x7 hm hx
    by_cases c1 : (x8 : Int) < times
    · by_cases c2 : (x7.size : Int) < 20000
      · obtain ⟨k, hk⟩ := ih (x8 + 1) (x7 ++ S) (by omega) (by rw [ByteArray.size_append]; omega)
        refine ⟨k + 1, ?_⟩
        unfold headgatelaw20_files.l1
        rw [if_pos c1, if_pos c2, if_pos (by omega), show wrap64 ((x8 : Int) + 1) = ((x8 + 1 : Nat) : Int) by unfold wrap64; omega]
        exact hk
      · obtain ⟨k, hk⟩ := hnext x7 hx
        refine ⟨k + 1, ?_⟩
        unfold headgatelaw20_files.l1
        rw [if_pos c1, if_neg c2, if_pos (by omega)]
        exact hk
    · obtain ⟨k, hk⟩ := hnext x7 hx
      refine ⟨k + 1, ?_⟩
      unfold headgatelaw20_files.l1
      rw [if_neg c1, if_pos (by omega)]
      exact hk
theorem files_l0 (l : List S54) : ∀ (d i : Nat) (acc : List S56), i + d = 8 → acc.length = i → Small acc → ∃ k, Ans (headgatelaw20_files.l0 k l acc (i : Int)) := by
  intro d
  induction d with
  | zero =>
    intro i acc hi hl ha
    refine ⟨3, ?_⟩
    unfold headgatelaw20_files.l0
    by_cases c1 : (i : Int) < (l.length : Int)
    · rw [if_pos c1, if_pos (by omega), if_pos (by omega)]
      unfold headgatelaw20_files.j1
      rw [if_pos rfl]
      exact ans_bad
    · rw [if_neg c1]
      exact ⟨acc, true, rfl, ha⟩
  | succ d ih =>
    intro i acc hi hl ha
    by_cases c1 : (i : Int) < (l.length : Int)
    rotate_left
    · refine ⟨1, ?_⟩
      unfold headgatelaw20_files.l0
      rw [if_neg c1]
      exact ⟨acc, true, rfl, ha⟩
    have c2 : ¬ (i : Int) = 8 := by omega
    by_cases c3 : ((rd_T54 l (i : Int)).f2.size : Int) > 60
    · refine ⟨2, ?_⟩
      unfold headgatelaw20_files.l0
      rw [if_pos c1, if_pos (by omega), if_neg c2, if_pos c3]
      unfold headgatelaw20_files.j1
      rw [if_pos rfl]
      exact ans_bad
    by_cases c4 : ((rd_T54 l (i : Int)).f0.size : Int) > 100
    · refine ⟨2, ?_⟩
      unfold headgatelaw20_files.l0
      rw [if_pos c1, if_pos (by omega), if_neg c2, if_neg c3, if_pos c4]
      unfold headgatelaw20_files.j1
      rw [if_pos rfl]
      exact ans_bad
    by_cases c5 : (rd_T54 l (i : Int)).f3 < 0
    · refine ⟨2, ?_⟩
      unfold headgatelaw20_files.l0
      rw [if_pos c1, if_pos (by omega), if_neg c2, if_neg c3, if_neg c4, if_pos c5]
      unfold headgatelaw20_files.j1
      rw [if_pos rfl]
      exact ans_bad
    by_cases c6 : (rd_T54 l (i : Int)).f3 > 2000
    · refine ⟨2, ?_⟩
      unfold headgatelaw20_files.l0
      rw [if_pos c1, if_pos (by omega), if_neg c2, if_neg c3, if_neg c4, if_neg c5, decide_eq_true c6]
      unfold headgatelaw20_files.j1
      rw [if_pos rfl]
      exact ans_bad
    obtain ⟨k, hk⟩ := files_l1 l acc i (rd_T54 l (i : Int)).f0 (rd_T54 l (i : Int)).f1 (rd_T54 l (i : Int)).f2 (rd_T54 l (i : Int)).f3 (by omega) (by omega) (by omega) (fun con hcon => by
      rw [show wrap64 ((i : Int) + 1) = ((i + 1 : Nat) : Int) by unfold wrap64; omega]
      refine ih (i + 1) _ (by omega) (by rw [List.length_append, hl]; rfl) ⟨by rw [List.length_append, hl]; show i + 1 ≤ 8; omega, fun f hf => ?_⟩
      rcases List.mem_append.1 hf with h | h
      · exact ha.2 f h
      · obtain rfl : f = _ := by simpa using h
        exact ⟨by show (rd_T54 l (i : Int)).f0.size ≤ 100; omega, hcon⟩) 2001 0 ⟨#[]⟩ (by omega) (by decide)
    refine ⟨k + 2, ?_⟩
    unfold headgatelaw20_files.l0
    rw [if_pos c1, if_pos (by omega), if_neg c2, if_neg c3, if_neg c4, if_neg c5, decide_eq_false c6]
    unfold headgatelaw20_files.j1
    rw [if_neg (by simp)]
    exact hk
theorem files_f (l : List S54) : ∃ k r1 r2, headgatelaw20_files.f k l = some (r1, r2) ∧ Small r1 := by
  obtain ⟨k, r1, r2, h1, h2⟩ := files_l0 l 8 0 [] (by omega) rfl ⟨by simp, by simp⟩
  exact ⟨k, r1, r2, h1, h2⟩
end Go.Proofs.Ytnemnhfdjofckaa.Co
namespace Go.Proofs.Ytnemnhfdjofckaa.Co
open Go Go.RowKit Rd Go.Proofs.YtnemnhfdjofckaaW.PrintWords Go.Proofs.Ytnemnhfdjofckaa.Print
theorem fields_big : ∃ fs, Try.prog.underlying 54 = some (.struct fs) ∧ fs.toList.map (fun f => (f.offset, f.type)) = [(0, 9), (1, 3), (2, 9), (3, 3)] := ⟨_, Try.underlying54, rfl⟩
theorem sz_big : Try.prog.cellsOf 9 = 1 ∧ Try.prog.cellsOf 3 = 1 ∧ Try.prog.cellsOf 54 = 4 := ⟨by kernel_rfl, by kernel_rfl, by kernel_rfl⟩
theorem rd_big {w : World} {cs : List Value} (h : Rd Try.prog w 54 cs) : ∃ x : S54, k54.K w x cs := by
  obtain ⟨fs, hu, hm⟩ := fields_big
  obtain ⟨z0, z1, z2⟩ := sz_big
  obtain ⟨hl, hr⟩ := rd_struct hu h
  rw [z2] at hl
  obtain ⟨v0, v1, v2, v3, rfl⟩ : ∃ v0 v1 v2 v3, cs = [v0, v1, v2, v3] := by
    match cs, hl with
    | [v0, v1, v2, v3], _ => exact ⟨_, _, _, _, rfl⟩
  have get : ∀ i o t, ([(0, 9), (1, 3), (2, 9), (3, 3)] : List (Nat × TypeId))[i]? = some (o, t) → Rd Try.prog w t (([v0, v1, v2, v3].drop o).take (Try.prog.cellsOf t)) := fun i o t hi => by
    obtain ⟨f, hf, ho, ht⟩ := Rd.field_at hm hi
    have := hr i f hf
    rw [ho, ht] at this
    exact this
  have g0 := get 0 _ _ rfl
  have g1 := get 1 _ _ rfl
  have g2 := get 2 _ _ rfl
  have g3 := get 3 _ _ rfl
  rw [z0] at g0 g2
  rw [z1] at g1 g3
  obtain ⟨p, h0, -⟩ := rd_string Try.underlying9 g0
  obtain ⟨v, h1, -⟩ := rd_int Try.underlying3 g1
  obtain ⟨s, h2, -⟩ := rd_string Try.underlying9 g2
  obtain ⟨n, h3, -⟩ := rd_int Try.underlying3 g3
  simp at h0 h1 h2 h3
  subst h0 h1 h2 h3
  exact ⟨⟨p, v, s, n⟩, k54_mk w _⟩
theorem arg_bigs {w : World} {v : Value} (h : Arg Try.prog w 22 v) : ∃ A l c, v = .slice A l.length c ∧ l.length ≤ c ∧ Kd.C k54 w A l.length l := by
  obtain ⟨A, l, c, h1, h2, _, h3, _⟩ := arg_C k54 Try.underlying22 sz_big.2.2 (fun _ hc => rd_big hc) h
  exact ⟨A, l, c, h1, h2, h3⟩
/-- The law's files: few, short ones, or the law is at its end. -/
theorem files_ok (w : World) (A : Option Addr) (c : Nat) (l : List S54) (hC : Kd.C k54 w A l.length l) (hc : l.length ≤ c) :
    Calls Try.prog 8 #[.slice A l.length c] w fun e w' => ∃ (A' : Option Addr) (c' : Nat) (fl : List S56) (ok : Bool), e = .returned (.tuple #[.slice A' fl.length c', .bool ok]) ∧ fl.length ≤ c' ∧ Kd.C k56 w' A' fl.length fl ∧ Small fl ∧ Below w.heap.size w w' := by
  obtain ⟨k, r1, r2, hf, hs⟩ := files_f l
  refine (headgatelaw20_files.calls k A c l r1 r2 w hC hc hf).mono ?_
  rintro e w' ⟨v, rfl, hR, hB⟩
  obtain ⟨A', c', rfl, h1, h2⟩ := Kd.R_reads hR
  exact ⟨A', c', r1, r2, rfl, h1, h2, hs, hB⟩
end Go.Proofs.Ytnemnhfdjofckaa.Co
namespace Go.Proofs.Ytnemnhfdjofckaa.Co
open Go Go.RowKit Hp Go.Proofs.Ytnemnhfdjofckaa.Fr Go.Proofs.Ytnemnhfdjofckaa.Ck Go.Proofs.YtnemnhfdjofckaaW.PrintWords Go.Proofs.Ytnemnhfdjofckaa.Print Go.Proofs.Ytnemnhfdjofckaa.Rt
/-- A commit's records, and the error. -/
def encd (n : Int) (fl : List S56) : List (List Int) := if rightd n fl = true then recs n (restb fl 0 fl.length) else []
def encE (n : Int) (fl : List S56) : Int := if rightd n fl = true then 0 else 201
structure EncRes (w w' : World) (a : Option Addr) (c' : Nat) (R : List Rc) (n : Int) (fl : List S56) : Prop where
  cap : R.length ≤ c'
  row : w'.ownsRow w.heap.size 38 1 (.slice a R.length c') R.length (rcells R)
  ok : ∀ r ∈ R, RcOk w' r
  recs : R.map Rc.l = encd n fl
  bel : Below w.heap.size w w'
theorem restb_length (fl : List S56) (hs : ∀ f ∈ fl, f.f0.size ≤ 1000 ∧ f.f2.size ≤ 66000) : ∀ (m i : Nat), i + m = fl.length → (restb fl i m).length ≤ 67100 * m
  | 0, _, _ => by simp [restb]
  | m + 1, i, hi => by
    unfold restb
    rw [List.length_append, fileb_length]
    have h := restb_length fl hs m (i + 1) (by omega)
    have hf := hs _ (List.getElem_mem (show i < fl.length by omega))
    rw [← rd_of (List.getElem?_eq_getElem (show i < fl.length by omega))] at hf
    omega
theorem Small.wide {fl : List S56} (h : Small fl) : ∀ f ∈ fl, f.f0.size ≤ 1000 ∧ f.f2.size ≤ 66000 := fun f hf => by have := h.2 f hf; omega
theorem vers {n : Int} {fl : List S56} (h : rightd n fl = true) : ∀ i : Nat, i < fl.length → 0 ≤ (rd_T56 fl (i : Int)).f1 ∧ (rd_T56 fl (i : Int)).f1 ≤ 1099511627776 := fun i hi => by
  have h1 := ((rightd_iff n fl).1 h).2.2.2 i _ (List.getElem?_eq_getElem hi)
  rw [rd_of (List.getElem?_eq_getElem hi)]
  exact ⟨h1.2.1, h1.2.2.1⟩
theorem EncRes.bad {w w' : World} {n : Int} {fl : List S56} (hr : rightd n fl = false) (hB : Below w.heap.size w w') : EncRes w w' none 0 [] n fl :=
  ⟨Nat.le_refl _, World.ownsRow_nil _ _ _ _, by simp, by unfold encd; rw [hr]; rfl, hB⟩
theorem encE_bad {n : Int} {fl : List S56} (hr : rightd n fl = false) : encE n fl = 201 := by unfold encE; rw [hr]; rfl
theorem encE_good {n : Int} {fl : List S56} (hr : rightd n fl = true) : encE n fl = 0 := by unfold encE; rw [hr]; rfl
theorem encd_good {n : Int} {fl : List S56} (hr : rightd n fl = true) : encd n fl = recs n (restb fl 0 fl.length) := by unfold encd; rw [hr]; rfl
theorem path_ok {fl : List S56} (h : Small fl) : ∀ f ∈ fl, f.f0.size ≤ 1000000000 := fun f hf => by have := (h.2 f hf).1; omega
/-- commits.Encode. -/
theorem enc_any (n : Int) (A : Option Addr) (c : Nat) (fl : List S56) (w : World) (hC : Kd.C k56 w A fl.length fl) (hc : fl.length ≤ c) (hs : Small fl) :
    Calls Try.prog 10 #[.agg #[.int .i64 n, .slice A fl.length c]] w fun e w' => ∃ (a : Option Addr) (c' : Nat) (R : List Rc), e = .returned (.tuple #[.slice a R.length c', .int .i64 (encE n fl)]) ∧ EncRes w w' a c' R n fl := by
  have hlen := hs.1
  have hcr := cright_f n fl (path_ok hs) (by omega)
  cases hr : rightd n fl with
  | false =>
    rw [hr] at hcr
    refine (encode_bad _ n A c fl w hC hc hcr).mono ?_
    rintro e w' ⟨rfl, hB⟩
    exact ⟨none, 0, [], by rw [encE_bad hr]; rfl, EncRes.bad hr hB⟩
  | true =>
    rw [hr] at hcr
    obtain ⟨h0, h1, -, -⟩ := (rightd_iff n fl).1 hr
    have hlb := restb_length fl hs.wide fl.length 0 (by omega)
    have hcb := cbytes_f n fl (vers hr) (by omega) (by omega)
    rcases Nat.eq_zero_or_pos (restb fl 0 fl.length).length with hz | hp
    · have hz' := List.eq_nil_of_length_eq_zero hz
      rw [hz'] at hcb
      refine (encode_zero _ _ n A c fl w hC hc hcr hcb h0 h1).mono ?_
      rintro e w' ⟨a, c', R, rfl, k1, k2, k3, k4, k5⟩
      exact ⟨a, c', R, by rw [encE_good hr], k1, k2, k3, by rw [k4, encd_good hr, hz'], k5⟩
    · refine (encode_good _ _ n A c fl _ w hC hc hcr hcb h0 h1 (by omega) hp).mono ?_
      rintro e w' ⟨a, c', R, rfl, k1, k2, k3, k4, k5⟩
      exact ⟨a, c', R, by rw [encE_good hr], k1, k2, k3, by rw [k4, encd_good hr], k5⟩
end Go.Proofs.Ytnemnhfdjofckaa.Co
namespace Go.Proofs.Ytnemnhfdjofckaa.Co
open Go Go.RowKit Hp Go.Proofs.Ytnemnhfdjofckaa.Fr Go.Proofs.Ytnemnhfdjofckaa.Ck Go.Proofs.YtnemnhfdjofckaaW.PrintWords Go.Proofs.YtnemnhfdjofckaaW.PrintMore Go.Proofs.Ytnemnhfdjofckaa.Print Go.Proofs.Ytnemnhfdjofckaa.Rt
theorem drawn_bel {w w' : World} (h : Drawn0 w w') : Below w.heap.size w w' := by
  obtain ⟨n, rfl⟩ := h
  exact pw_below_drewN (Below.refl _ _) n
theorem flat_bound {num : Int} {fl : List S56} (hr : rightd num fl = true) : ∀ f ∈ fl, f.f0.size ≤ 1000000000 := fun f hf => by have := (fine_of hr f hf).p; omega
/-- commits.Encode, of what is right. -/
theorem enc_right (n : Int) (A : Option Addr) (c : Nat) (fl : List S56) (w : World) (hC : Kd.C k56 w A fl.length fl) (hc : fl.length ≤ c) (hr : rightd n fl = true) (hlen : (flat fl).length ≤ 1000000) :
    Calls Try.prog 10 #[.agg #[.int .i64 n, .slice A fl.length c]] w fun e w' => ∃ (a : Option Addr) (c' : Nat) (R : List Rc), e = .returned (.tuple #[.slice a R.length c', .int .i64 0]) ∧ EncRes w w' a c' R n fl := by
  have hfl := flat_len fl
  have hcr := cright_f n fl (flat_bound hr) (by omega)
  rw [hr] at hcr
  obtain ⟨h0, h1, -, -⟩ := (rightd_iff n fl).1 hr
  have hcb := cbytes_f n fl (vers hr) (by omega) (by rw [restb_all]; omega)
  rcases Nat.eq_zero_or_pos (restb fl 0 fl.length).length with hz | hp
  · have hz' := List.eq_nil_of_length_eq_zero hz
    rw [hz'] at hcb
    refine (encode_zero _ _ n A c fl w hC hc hcr hcb h0 h1).mono ?_
    rintro e w' ⟨a, c', R, rfl, k1, k2, k3, k4, k5⟩
    exact ⟨a, c', R, rfl, k1, k2, k3, by rw [k4, encd_good hr, hz'], k5⟩
  · refine (encode_good _ _ n A c fl _ w hC hc hcr hcb h0 h1 (by rw [restb_all]; omega) hp).mono ?_
    rintro e w' ⟨a, c', R, rfl, k1, k2, k3, k4, k5⟩
    exact ⟨a, c', R, rfl, k1, k2, k3, by rw [k4, encd_good hr], k5⟩
theorem encd_flat {n : Int} {fl : List S56} (hr : rightd n fl = true) : encd n fl = recs n (flat fl) := by rw [encd_good hr, restb_all]
/-- commits.Decode. -/
theorem dec_call (w : World) (A : Option Addr) (c : Nat) (L : List (List Int)) (hC : Kd.C (Kd.slice 5 (Kd.int .u8)) w A L.length L) (hc : L.length ≤ c) (hR : Recs L) :
    Calls Try.prog 14 #[.slice A L.length c] w fun e w' => ∃ (A' : Option Addr) (c' : Nat), e = .returned (.tuple #[.agg #[.int .i64 (decd L).1, .slice A' (decd L).2.1.length c'], .int .i64 (decd L).2.2.1, .int .i64 (decd L).2.2.2]) ∧ (decd L).2.1.length ≤ c' ∧ Kd.C k56 w' A' (decd L).2.1.length (decd L).2.1 ∧ Below w.heap.size w w' := by
  refine (commits_Decode.calls 1000000000 A c L _ _ _ _ w hC hc (decode_f L hR)).mono ?_
  rintro e w' ⟨v, rfl, hRr, hB⟩
  obtain ⟨A', c', rfl, h1, h2⟩ := Kd.R_reads hRr
  exact ⟨A', c', rfl, h1, h2, hB⟩
def S32of (x : Int × List S56) : S32 := ⟨x.1, x.2⟩
/-- commits.All. -/
theorem all_call (w : World) (A : Option Addr) (c : Nat) (L : List (List Int)) (hC : Kd.C (Kd.slice 5 (Kd.int .u8)) w A L.length L) (hc : L.length ≤ c) (hR : Recs L) :
    Calls Try.prog 16 #[.slice A L.length c] w fun e w' => ∃ (A' : Option Addr) (c' : Nat), e = .returned (.slice A' (alld (L.length + 1) L).length c') ∧ (alld (L.length + 1) L).length ≤ c' ∧ Kd.C k32 w' A' (alld (L.length + 1) L).length ((alld (L.length + 1) L).map S32of) ∧ Below w.heap.size w w' := by
  refine (commits_All.calls 2000000000 (fun k => k < w.heap.size) A c L _ w (Kd.V_mk hc (Kd.C_F (Kd.heap_slice 5 (Kd.heap_int .u8)) hC)) (all_f L hR)).mono ?_
  rintro e w' ⟨v, rfl, hS, hB⟩
  obtain ⟨A', c', rfl, h1, h2⟩ := Kd.R_reads (Kd.S_R hS)
  rw [List.length_map] at h1 h2 ⊢
  exact ⟨A', c', rfl, h1, h2, hB⟩
theorem few_call (w : World) (A : Option Addr) (c : Nat) (L : List (List Int)) (hC : Kd.C (Kd.slice 5 (Kd.int .u8)) w A L.length L) (hc : L.length ≤ c) (hb : ∀ l ∈ L, Byt l) :
    Calls Try.prog 13 #[.slice A L.length c] w fun e w' => ∃ b, e = .returned (.bool b) ∧ (b = true → Recs L ∧ L.length ≤ 12) ∧ Below w.heap.size w w' := by
  obtain ⟨b, h1, h2⟩ := few_f L (K := 14) (Nat.le_refl _)
  refine (headgatelaw20_few.calls 14 A c L b w hC hc h1).mono ?_
  rintro e w' ⟨rfl, hd⟩
  exact ⟨b, rfl, fun e => ⟨⟨by have := (h2 e).1; omega, fun l hl => ⟨(h2 e).2 l hl, hb l hl⟩⟩, (h2 e).1⟩, drawn_bel hd⟩
theorem same04_call (w : World) (A A' : Option Addr) (c c' : Nat) (L : List (List Int)) (h1 : Kd.C (Kd.slice 5 (Kd.int .u8)) w A L.length L) (hc1 : L.length ≤ c) (h2 : Kd.C (Kd.slice 5 (Kd.int .u8)) w A' L.length L) (hc2 : L.length ≤ c') (hl : L.length ≤ 1000000000) :
    Calls Try.prog 18 #[.slice A L.length c, .slice A' L.length c'] w fun e w' => e = .returned (.bool true) ∧ Below w.heap.size w w' := by
  refine (headgateref04_Same.calls (L.length + 1) A c L A' c' L true w h1 hc1 h2 hc2 (same04_f L hl (Nat.le_refl _))).mono ?_
  rintro e w' ⟨rfl, hd⟩
  exact ⟨rfl, drawn_bel hd⟩
theorem same07_call (w : World) (A A' : Option Addr) (c c' : Nat) (L : List S56) (h1 : Kd.C k56 w A L.length L) (hc1 : L.length ≤ c) (h2 : Kd.C k56 w A' L.length L) (hc2 : L.length ≤ c') (hl : L.length ≤ 1000000000) :
    Calls Try.prog 19 #[.slice A L.length c, .slice A' L.length c'] w fun e w' => e = .returned (.bool true) ∧ Below w.heap.size w w' := by
  refine (headgateref07_Same.calls (L.length + 1) A c L A' c' L true w h1 hc1 h2 hc2 (same07_f L hl (Nat.le_refl _))).mono ?_
  rintro e w' ⟨rfl, hd⟩
  exact ⟨rfl, drawn_bel hd⟩
/-- One more commit. -/
theorem alld_step {k : Nat} {L : List (List Int)} (hR : Recs L) {x : Int × List S56} {r : List (Int × List S56)} (h : alld k L = x :: r) : ∃ k' n, k = k' + 1 ∧ Good L x.1 x.2 n ∧ alld k' (L.drop n) = r := by
  cases k with
  | zero => simp [alld] at h
  | succ k' =>
    unfold alld at h
    by_cases hc : (decd L).2.2.2 = 0
    · rw [if_pos hc] at h
      obtain ⟨num, fl, n, e, hg⟩ := decd_ok hR hc
      rw [e] at h
      obtain ⟨h1, h2⟩ := List.cons.inj h
      subst h1
      exact ⟨k', n, rfl, hg, h2⟩
    · rw [if_neg hc] at h
      cases h
theorem alld_end {k : Nat} {L : List (List Int)} (hk : 0 < k) (h : alld k L = []) : (decd L).2.2.2 ≠ 0 := by
  obtain ⟨k', rfl⟩ : ∃ k', k = k' + 1 := ⟨k - 1, by omega⟩
  intro hc
  unfold alld at h
  rw [if_pos hc] at h
  cases h
/-- The cells of records that were made. -/
theorem EncRes.cells {w w' : World} {a : Option Addr} {c' : Nat} {R : List Rc} {n : Int} {fl : List S56} (h : EncRes w w' a c' R n fl) : (a = none → R.length = 0 ∧ c' = 0) ∧ ∀ ad, a = some ad → ∀ j u, (rcells R)[j]? = some u → w'.cell? (ad.add j) = some u := by
  rcases h.row.2 with ⟨e, h0⟩ | ⟨g, cap, cur, e, _⟩
  · obtain ⟨rfl, h2, rfl⟩ : a = none ∧ R.length = 0 ∧ c' = 0 := by simpa using e
    exact ⟨fun _ => ⟨h2, rfl⟩, fun ad e => (by cases e)⟩
  · obtain ⟨rfl, rfl⟩ : a = some ⟨g, 0, none⟩ ∧ c' = cap := by simpa using e
    exact ⟨fun e => (by cases e), fun ad e j u hu => (by cases e; exact h.row.cells (g := g) rfl j u hu)⟩
theorem rcells_one (R : List Rc) : ∀ u ∈ rcells R, u.oneCell' = true := fun u hu => by
  unfold rcells at hu
  obtain ⟨r, _, rfl⟩ := List.mem_map.1 hu
  rfl
theorem rcells_app (R R' : List Rc) : rcells (R ++ R') = rcells R ++ rcells R' := by unfold rcells; rw [List.map_append]
/-- Commits in a row, each with its files. -/
theorem coms_at {w : World} {A : Option Addr} {n : Nat} {xs : List S32} (h : Kd.C k32 w A n xs) (hpos : 0 < n) : ∃ g off, A = some ⟨g, off, none⟩ ∧ ∀ (i : Nat) (x : S32), xs[i]? = some x → ∃ A1 c1, w.rangeAt g (off + i * 2) [.int .i64 x.f0, .slice A1 x.f1.length c1] ∧ x.f1.length ≤ c1 ∧ Kd.C k56 w A1 x.f1.length x.f1 := by
  have hn : xs.length = n := h.1
  obtain ⟨ad, _, _, e, h0, -⟩ := at_T32 h 0 (by omega) (by omega)
  have h0' : w.cell? ad = some (.int .i64 (rd_T32 xs 0).f0) := by simpa [Addr.add] using h0
  have hs := spot_none h0'
  obtain ⟨g, off, sp⟩ := ad
  simp only at hs
  subst hs
  refine ⟨g, off, e, fun i x hx => ?_⟩
  have hi := (List.getElem?_eq_some_iff.1 hx).1
  obtain ⟨ad', A1, c1, e', k0, k1, k2, k3⟩ := at_T32 h (i : Int) (by omega) (by omega)
  rw [e] at e'
  cases e'
  have hrd : rd_T32 xs (i : Int) = x := by
    unfold rd_T32
    rw [Int.toNat_natCast, List.getD_eq_getElem?_getD, hx]
    rfl
  rw [hrd] at k0 k1 k2 k3
  rw [Int.toNat_natCast] at k0 k1
  rw [Addr.add_mid] at k0 k1
  refine ⟨A1, c1, fun j v hj => ?_, k2, k3⟩
  match j, hj with
  | 0, hj => cases hj; exact k0
  | 1, hj => cases hj; exact k1
end Go.Proofs.Ytnemnhfdjofckaa.Co
namespace Go.Proofs.Ytnemnhfdjofckaa.Co
open Go Go.RowKit Hp Go.Proofs.Ytnemnhfdjofckaa.Fr Go.Proofs.Ytnemnhfdjofckaa.Ck Go.Proofs.YtnemnhfdjofckaaW.PrintWords Go.Proofs.YtnemnhfdjofckaaW.PrintMore Go.Proofs.Ytnemnhfdjofckaa.Print Go.Proofs.Ytnemnhfdjofckaa.Rt
theorem good_short {L : List (List Int)} {num : Int} {fl : List S56} {n : Nat} (h : Good L num fl n) {i : Nat} (hi : i < n) : decd (L.take i) = short := by
  have hr := (rightd_iff num fl).1 h.right
  unfold decd
  have hl : (L.take i).length = i := by rw [List.length_take]; have := h.le; omega
  by_cases h0 : i = 0
  · rw [if_pos (by omega)]
  have hg : ∀ q : Nat, q < i → (L.take i).getD q [] = L.getD q [] := fun q hq => by
    rw [List.getD_eq_getElem?_getD, List.getD_eq_getElem?_getD, List.getElem?_take_of_lt hq]
  rw [if_neg (by omega), hg 0 (by omega), if_neg (by have := h.r0; omega), h.cnt, ← h.hnum, if_neg (by have := h.pos; omega), hl, show min ((n : Int)).toNat i = i by omega,
    if_pos (allfit_iff.2 fun q _ hq => by rw [hg q (by omega)]; exact h.fits q (by omega))]
  unfold find
  rw [if_pos (by omega)]
theorem alld_nil (k : Nat) : alld k [] = [] := by
  cases k with
  | zero => rfl
  | succ k =>
    unfold alld
    rw [if_neg (by decide)]
theorem alld_good {L : List (List Int)} {num : Int} {fl : List S56} {n : Nat} (h : Good L num fl n) (k : Nat) : alld (k + 1) L = (num, fl) :: alld k (L.drop n) := by
  rw [alld, h.decd, if_pos rfl]
  rfl
theorem small_flat {fl : List S56} (h : Small fl) : (flat fl).length ≤ 536800 := by
  have h1 := restb_length fl h.wide fl.length 0 (by omega)
  rw [restb_all] at h1
  have := h.1
  omega
theorem small_count {fl : List S56} (h : Small fl) : max 1 (count (flat fl).length) ≤ 200 := by
  have h1 := small_flat h
  unfold Ck.count
  omega
theorem recs_ok {n : Int} {fl : List S56} (h : Small fl) : Recs (recs n (flat fl)) ∧ (recs n (flat fl)).length ≤ 200 := by
  have h1 := small_count h
  have h2 := recs_count n (flat fl)
  refine ⟨⟨by omega, fun l hl => ?_⟩, by omega⟩
  unfold recs at hl
  obtain ⟨i, _, rfl⟩ := List.mem_map.1 hl
  exact ⟨by rw [(recd_parts _ _ _ _).2.2.2.2]; omega, recd_byt (flat_byt fl) _ _⟩
theorem Recs.append {A B : List (List Int)} (h : Recs A) (k : Recs B) (hl : A.length + B.length ≤ 100000) : Recs (A ++ B) :=
  ⟨by rw [List.length_append]; exact hl, fun l hm => (List.mem_append.1 hm).elim (h.2 l) (k.2 l)⟩
theorem Recs.take {L : List (List Int)} (h : Recs L) (n : Nat) : Recs (L.take n) := ⟨by rw [List.length_take]; have := h.1; omega, fun l hl => h.2 l (List.mem_of_mem_take hl)⟩
/-- Rows that can be read, whosoever they are. -/
theorem rows_C2 {w : World} {base n c : Nat} {a : Option Addr} {R : List Rc} (h : w.ownsRow base 38 1 (.slice a n c) n (rcells R)) (hn : R.length = n) (hok : ∀ r ∈ R, r.l.length ≤ r.c ∧ Bytes w r.A r.l) (hb : n ≤ 9223372036854775807) (hl : ∀ r ∈ R, r.l.length ≤ 9223372036854775807) : Kd.C (Kd.slice 5 (Kd.int .u8)) w a n (R.map Rc.l) := by
  refine ⟨by simp [hn], hb, fun h0 => ?_⟩
  rcases h.2 with ⟨_, h2⟩ | ⟨g, cap, cur, hv, _⟩
  · omega
  · obtain ⟨rfl, rfl⟩ : a = some ⟨g, 0, none⟩ ∧ c = cap := by simpa using hv
    refine ⟨_, rfl, fun j p hj => ?_⟩
    rw [List.getElem?_map] at hj
    obtain ⟨r, hr, rfl⟩ := Option.map_eq_some_iff.1 hj
    have hm := List.mem_of_getElem? hr
    refine ⟨[.slice r.A r.l.length r.c], rfl, ⟨r.A, r.c, rfl, (hok r hm).1, (hok r hm).2.C (hl r hm)⟩, fun i u hu => ?_⟩
    cases i with
    | zero =>
      simp at hu
      subst hu
      show w.cell? ((⟨g, 0, none⟩ : Addr).add (j * 1 + 0)) = _
      rw [Nat.mul_one, Nat.add_zero]
      exact h.cells (g := g) rfl j _ (by unfold rcells; rw [List.getElem?_map, hr]; rfl)
    | succ i => simp at hu
theorem row_in {w : World} {A : Option Addr} {n : Nat} {L : List (List Int)} (h : Kd.C (Kd.slice 5 (Kd.int .u8)) w A n L) {j : Nat} {l : List Int} (hj : L[j]? = some l) : ∃ ad A' c', A = some ad ∧ w.cell? (ad.add j) = some (.slice A' l.length c') ∧ l.length ≤ c' ∧ Bytes w A' l := by
  have hn : L.length = n := h.1
  have hlt := (List.getElem?_eq_some_iff.1 hj).1
  obtain ⟨ad, e, hc⟩ := h.2.2 (by omega)
  obtain ⟨cs, hl, ⟨A', c', rfl, h1, h2⟩, hcc⟩ := hc j l hj
  refine ⟨ad, A', c', e, ?_, h1, bytes_C h2⟩
  have := hcc 0 _ rfl
  simpa [Kd.slice] using this
/-- Rows that come in, as rows with their places. -/
theorem rows_in {w : World} {A : Option Addr} {L : List (List Int)} (h : Kd.C (Kd.slice 5 (Kd.int .u8)) w A L.length L) : ∃ M : List Rc, M.map Rc.l = L ∧ (∀ r ∈ M, r.l.length ≤ r.c ∧ Bytes w r.A r.l) ∧ ∀ ad, A = some ad → ∀ j u, (rcells M)[j]? = some u → w.cell? (ad.add j) = some u := by
  by_cases h0 : L.length = 0
  · obtain rfl := List.eq_nil_of_length_eq_zero h0
    exact ⟨[], rfl, by simp, fun ad _ j u hu => by simp [rcells] at hu⟩
  obtain ⟨ad, e, hc⟩ := h.2.2 (by omega)
  obtain ⟨M, hM, hp⟩ := Rd.some_list (p := fun i (r : Rc) => ∃ l, L[i]? = some l ∧ r.l = l ∧ r.l.length ≤ r.c ∧ Bytes w r.A r.l ∧ w.cell? (ad.add i) = some (.slice r.A r.l.length r.c)) L.length (fun i hi => by
    obtain ⟨ad', A', c', e', h1, h2, h3⟩ := row_in h (List.getElem?_eq_getElem hi)
    rw [e] at e'
    cases e'
    exact ⟨⟨A', L[i], c'⟩, L[i], List.getElem?_eq_getElem hi, rfl, h2, h3, h1⟩)
  refine ⟨M, ?_, fun r hr => ?_, fun ad' e' j u hu => ?_⟩
  · apply List.ext_getElem?
    intro i
    rw [List.getElem?_map]
    cases hx : M[i]? with
    | none => rw [List.getElem?_eq_none (by rw [← hM]; exact List.getElem?_eq_none_iff.1 hx)]; rfl
    | some r =>
      obtain ⟨l, h1, h2, _⟩ := hp i r hx
      rw [h1, ← h2]
      rfl
  · obtain ⟨i, hi⟩ := List.mem_iff_getElem?.1 hr
    obtain ⟨l, _, _, h3, h4, _⟩ := hp i r hi
    exact ⟨h3, h4⟩
  · rw [e] at e'
    cases e'
    unfold rcells at hu
    rw [List.getElem?_map] at hu
    obtain ⟨r, hr, rfl⟩ := Option.map_eq_some_iff.1 hu
    obtain ⟨l, _, _, _, _, h5⟩ := hp j r hr
    exact h5
end Go.Proofs.Ytnemnhfdjofckaa.Co
