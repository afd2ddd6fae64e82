/- Decode, plainly: the program's and the document's. The document's Decode, plainly. All commits of records, plainly. An argument that is a slice, as the printed contracts read one. Records that come in. CommitsDecodes, plainly and walked. -/
import Derived.Test.YtnemnhfdjofckaaPkD
import Derived.Test.YtnemnhfdjofckaaPkB
import Derived.Test.YtnemnhfdjofckaaPkF
import Derived.Test.YtnemnhfdjofckaaPrint0
import Derived.Test.YtnemnhfdjofckaaPkF2
namespace Go.Proofs.Ytnemnhfdjofckaa.Co
open Go Go.RowKit Go.Proofs.YtnemnhfdjofckaaW.PrintWords Go.Proofs.YtnemnhfdjofckaaW.PrintMore Go.Proofs.Ytnemnhfdjofckaa.Print Go.Proofs.Ytnemnhfdjofckaa.Rt
theorem up {α : Type} {f : Nat → Option α} (hm : ∀ k, LeO (f k) (f (k + 1))) {k : Nat} {r : α} (h : f k = some r) {K : Nat} (hK : k ≤ K) : f K = some r := by
  obtain ⟨j, rfl⟩ := Nat.exists_eq_add_of_le hK
  induction j with
  | zero => exact h
  | succ j ih => exact hm _ _ (ih (by omega))
theorem str_inj {a b : List Int} (ha : Byt a) (hb : Byt b) (h : (strOfNums a).toList = (strOfNums b).toList) : a = b := by
  rw [ByteArray.toList_eq, ByteArray.toList_eq] at h
  have h' : a.map (fun n => UInt8.ofNat n.toNat) = b.map (fun n => UInt8.ofNat n.toNat) := h
  apply List.ext_getElem?
  intro j
  have hj := congrArg (·[j]?) h'
  simp only [List.getElem?_map] at hj
  cases hx : a[j]? with
  | none =>
    rw [hx] at hj
    cases hy : b[j]? with
    | none => rfl
    | some y => rw [hy] at hj; cases hj
  | some x =>
    rw [hx] at hj
    cases hy : b[j]? with
    | none => rw [hy] at hj; cases hj
    | some y =>
      rw [hy] at hj
      have e := Option.some.inj hj
      have e2 := congrArg UInt8.toNat e
      simp only [UInt8.toNat_ofNat'] at e2
      have h1 := ha x (List.mem_of_getElem? hx)
      have h2 := hb y (List.mem_of_getElem? hy)
      congr 1
      omega
def bad : Int × List S56 × Int × Int := (0, [], 0, 201)
def short : Int × List S56 × Int × Int := (0, [], 0, 42)
/-- The bytes of the first m records behind their heads. -/
def joind (L : List (List Int)) (m : Nat) : List Int := ((L.take m).map (·.drop 12)).flatten
def allfit (r0 : List Int) (L : List (List Int)) (n : Int) (i j : Nat) : Bool := (List.range' i j).all fun q => fitd r0 (L.getD q []) (q : Int) n
/-- A commit's files, if its bytes are such. -/
def filed (num n : Int) (b : List Int) : Int × List S56 × Int × Int :=
  match floop (b.length + 1) true b [] with
  | some (fl, true) => if rightd num fl = true then (num, fl, n, 0) else bad
  | _ => bad
def find (L : List (List Int)) (num n : Int) (m : Nat) : Int × List S56 × Int × Int := if (L.length : Int) < n then short else filed num n (joind L m)
/-- The commit of records. -/
def decd (L : List (List Int)) : Int × List S56 × Int × Int :=
  if L.length = 0 then short else if (L.getD 0 []).length < 12 then bad else
  if numd (sub (L.getD 0 []) 10 2) = 0 ∨ wrap64 (numd (sub (L.getD 0 []) 0 8)) < 0 ∨ 1099511627776 < wrap64 (numd (sub (L.getD 0 []) 0 8)) then bad else
  if allfit (L.getD 0 []) L (numd (sub (L.getD 0 []) 10 2)) 0 (min (numd (sub (L.getD 0 []) 10 2)).toNat L.length) = true then find L (wrap64 (numd (sub (L.getD 0 []) 0 8))) (numd (sub (L.getD 0 []) 10 2)) (min (numd (sub (L.getD 0 []) 10 2)).toNat L.length) else bad
/-- Records such as are met. -/
def Recs (L : List (List Int)) : Prop := L.length ≤ 100000 ∧ ∀ l ∈ L, l.length ≤ 5000 ∧ Byt l
theorem Recs.getD {L : List (List Int)} (h : Recs L) (i : Nat) : (L.getD i []).length ≤ 5000 ∧ Byt (L.getD i []) := by
  rw [List.getD_eq_getElem?_getD]
  cases hx : L[i]? with
  | none => exact ⟨by simp, Byt.nil⟩
  | some x => exact h.2 x (List.mem_of_getElem? hx)
theorem joind_succ (L : List (List Int)) (i : Nat) (hi : i < L.length) : joind L (i + 1) = joind L i ++ (L.getD i []).drop 12 := by
  unfold joind
  rw [List.take_add_one, List.getElem?_eq_getElem hi, List.getD_eq_getElem?_getD, List.getElem?_eq_getElem hi, List.map_append, List.flatten_append]
  congr 1
  show ((L[i].drop 12) ++ []) = L[i].drop 12
  rw [List.append_nil]
theorem joind_ok {L : List (List Int)} (h : Recs L) : ∀ m, m ≤ L.length → (joind L m).length ≤ 5000 * m ∧ Byt (joind L m) := by
  intro m
  induction m with
  | zero => intro _; unfold joind; simp [Byt.nil]
  | succ m ih =>
    intro hm
    obtain ⟨h1, h2⟩ := ih (by omega)
    obtain ⟨h3, h4⟩ := h.getD m
    rw [joind_succ L m (by omega)]
    refine ⟨?_, h2.append (h4.drop 12)⟩
    rw [List.length_append, List.length_drop]
    omega
theorem two_range {l : List Int} (hb : Byt l) (p : Nat) : 0 ≤ numd (sub l p 2) ∧ numd (sub l p 2) ≤ 65535 := by
  obtain ⟨n, h1, h2⟩ := numd_nat (sub_byt hb p 2) (k := 2) (by unfold sub; rw [List.length_take]; omega)
  rw [show (256 : Int) ^ 2 = 65536 by decide] at h2
  omega
theorem floop_len : ∀ (k : Nat) (ok : Bool) (rest : List Int) (acc : List S56) (F : List S56) (ok' : Bool), floop k ok rest acc = some (F, ok') → F.length ≤ acc.length + rest.length := by
  intro k
  induction k with
  | zero => intro ok rest acc F ok' h; simp [floop] at h
  | succ k ih =>
    intro ok rest acc F ok' h
    unfold floop at h
    split at h
    · rename_i hc
      have h1 := ih _ _ _ _ _ h
      have h2 := fstep_len rest hc.2
      rw [List.length_append, List.length_singleton] at h1
      omega
    · have := Option.some.inj h
      have h3 : acc = F := congrArg Prod.fst this
      rw [← h3]
      omega
theorem tk_len2 (ok : Bool) (rest : List Int) (m : Int) : (tk ok rest m).2.1.length ≤ rest.length ∧ (tk ok rest m).2.2.length ≤ max 1 rest.length := by
  unfold tk
  split
  · simp only [List.length_drop, List.length_take]; omega
  · simp; omega
theorem fstep_small (rest : List Int) : (fstep rest).2.2.f0.size ≤ max 1 rest.length := by
  unfold fstep
  simp only []
  rw [strOfNums_size]
  have h1 := tk_len2 true rest ((1 : Nat) : Int)
  have h2 := tk_len2 (tk true rest ((1 : Nat) : Int)).1 (tk true rest ((1 : Nat) : Int)).2.1 ((tk true rest ((1 : Nat) : Int)).2.2.headD 0)
  omega
theorem floop_small : ∀ (k : Nat) (ok : Bool) (rest : List Int) (acc : List S56) (F : List S56) (ok' : Bool) (B : Nat), rest.length ≤ B → 1 ≤ B → (∀ f ∈ acc, f.f0.size ≤ B) → floop k ok rest acc = some (F, ok') → ∀ f ∈ F, f.f0.size ≤ B := by
  intro k
  induction k with
  | zero => intro ok rest acc F ok' B _ _ _ h; simp [floop] at h
  | succ k ih =>
    intro ok rest acc F ok' B hB h1 ha h
    unfold floop at h
    split at h
    · rename_i hc
      have h2 := fstep_len rest hc.2
      refine ih _ _ _ _ _ B (by omega) h1 (fun f hf => ?_) h
      rcases List.mem_append.1 hf with hf | hf
      · exact ha f hf
      · obtain rfl : f = _ := by simpa using hf
        have := fstep_small rest
        omega
    · have := Option.some.inj h
      have h3 : acc = F := congrArg Prod.fst this
      rw [← h3]
      exact ha
theorem number_K {l : List Int} (hl : Byt l) (h8 : l.length ≤ 8) {K : Nat} (hK : 9 ≤ K) : commits_number.f K l = some (numd l) := up (f := fun k => commits_number.f k l) (fun k => commits_number.mono _ _) (number_f l hl h8) (by omega)
theorem rnumber_K {l : List Int} (hl : Byt l) (h8 : l.length ≤ 8) {K : Nat} (hK : 9 ≤ K) : headgateref20_number.f K l = some (wrap64 (numd l)) := up (f := fun k => headgateref20_number.f k l) (fun k => headgateref20_number.mono _ _) (rnumber_f l hl h8) (by omega)
theorem cright_K (n : Int) (fl : List S56) (hp : ∀ f ∈ fl, f.f0.size ≤ 1000000000) (hlen : fl.length ≤ 900000000) {K : Nat} (hK : 900000002 ≤ K) : commits_Commit_right.f K n fl = some (rightd n fl) := up (f := fun k => commits_Commit_right.f k n fl) (fun k => commits_Commit_right.mono _ _ _) (cright_f n fl hp (by omega)) (by omega)
/-- What stands behind the program's loop. -/
theorem dec_end (L : List (List Int)) (n num : Int) (m : Nat) (hR : Recs L) (hm : m ≤ L.length) {K : Nat} (hK : 900000002 ≤ K) :
    (if (L.length : Int) < n then (some (0, ([] : List (S56)), 0, 42)) else ((commits_files.f (joind L m)).bind fun bt230 => (if bt230.2 = true then ((commits_Commit_right.f K num bt230.1).bind fun t234 => (if t234 = true then (some (num, bt230.1, n, 0)) else (some (0, ([] : List (S56)), 0, 201)))) else (some (0, ([] : List (S56)), 0, 201))))) = some (find L num n m) := by
  unfold find
  by_cases c : (L.length : Int) < n
  · rw [if_pos c, if_pos c]
    rfl
  rw [if_neg c, if_neg c]
  obtain ⟨h1, h2⟩ := joind_ok hR m hm
  have hlen : (joind L m).length ≤ 500000000 := by have := hR.1; omega
  obtain ⟨F, ok, hF, -⟩ := floop_total ((joind L m).length + 1) true (joind L m) [] (by omega)
  rw [List.nil_append] at hF
  have hfl := floop_len _ _ _ _ _ _ hF
  have hfs := floop_small _ _ _ _ _ _ 1000000000 (by omega) (by decide) (by simp) hF
  unfold commits_files.f filed
  rw [if_pos ⟨h2, by omega⟩, hF, Option.bind_some]
  cases ok with
  | false => rfl
  | true =>
    show (if true = true then _ else _) = some (if rightd num F = true then _ else bad)
    rw [if_pos rfl, cright_K num F hfs (by simp at hfl; omega) hK, Option.bind_some]
    cases rightd num F <;> rfl
theorem dec_l0 (L : List (List Int)) (r0 : List Int) (n num : Int) (m : Nat) (hR : Recs L) (hm : m ≤ L.length) (hr0 : 8 ≤ r0.length) (hn0 : 0 ≤ n) (hn1 : n ≤ 65535) {F : Nat} (hF : 900000002 ≤ F) :
    ∀ j i : Nat, i + j = m → commits_Decode.l0 (j + 1 + F) L r0 n (joind L i) (L.take m) (m : Int) (i : Int) num = some (if allfit r0 L n i j = true then find L num n m else bad) := by
  intro j
  induction j with
  | zero =>
    intro i hi
    obtain rfl : i = m := by omega
    rw [show 0 + 1 + F = F + 1 by omega]
    unfold commits_Decode.l0
    rw [if_neg (by omega), dec_end L n num i hR hm hF]
    rfl
  | succ j ih =>
    intro i hi
    obtain ⟨h3, h4⟩ := hR.getD i
    have hj := joind_ok hR i (by omega)
    have hlt : (L.take m).length = m := by rw [List.length_take]; omega
    have hrd : rd_L5 (L.take m) (i : Int) = L.getD i [] := by
      unfold rd_L5
      rw [Int.toNat_natCast, List.getD_eq_getElem?_getD, List.getD_eq_getElem?_getD, List.getElem?_take_of_lt (by omega)]
    have hfit : commits_fits.f r0 (L.getD i []) (i : Int) n = some (fitd r0 (L.getD i []) (i : Int) n) := by
      unfold commits_fits.f
      rw [if_pos ⟨⟨hr0, by omega, h4⟩, by omega, by have := hR.1; omega, hn0, by omega⟩]
    have hall : allfit r0 L n i (j + 1) = (fitd r0 (L.getD i []) (i : Int) n && allfit r0 L n (i + 1) j) := rfl
    rw [show j + 1 + 1 + F = (j + 1 + F) + 1 by omega, hall]
    unfold commits_Decode.l0
    rw [if_pos (by omega), if_pos (by omega), if_pos (by rw [hlt]; omega), hrd, hfit, Option.bind_some]
    cases hb : fitd r0 (L.getD i []) (i : Int) n with
    | false => rfl
    | true =>
      have h12 : 12 ≤ (L.getD i []).length := by
        unfold fitd at hb
        simp only [Bool.and_eq_true, decide_eq_true_eq] at hb
        exact hb.1.1.1.1
      rw [if_pos rfl, if_pos (by omega), if_pos (by rw [List.length_drop]; have := hR.1; omega), ← joind_succ L i (by omega), show wrap64 ((i : Int) + 1) = ((i + 1 : Nat) : Int) by unfold wrap64; have := hR.1; omega]
      exact ih (i + 1) (by omega)
theorem decode_f (L : List (List Int)) (hR : Recs L) : commits_Decode.f 1000000000 L = some (decd L) := by
  unfold commits_Decode.f decd
  by_cases c0 : L.length = 0
  · rw [if_pos (by omega), if_pos c0]
    rfl
  rw [if_neg (by omega), if_neg c0, if_pos (by omega), show rd_L5 L 0 = L.getD 0 [] from rfl]
  obtain ⟨h5, hb⟩ := hR.getD 0
  generalize hr0 : L.getD 0 [] = r0 at *
  by_cases c1 : r0.length < 12
  · rw [if_pos (by omega), if_pos c1]
    rfl
  rw [if_neg (by omega), if_neg c1, if_pos (by decide), if_pos (by omega), List.drop_take, show (r0.drop 10).take (12 - 10) = sub r0 10 2 from rfl, number_K (sub_byt hb 10 2) (by unfold sub; rw [List.length_take]; omega) (by decide), Option.bind_some, if_pos (by omega),
    show r0.take 8 = sub r0 0 8 from rfl, number_K (sub_byt hb 0 8) (by unfold sub; rw [List.length_take]; omega) (by decide), Option.bind_some]
  obtain ⟨n0, n1⟩ := two_range hb 10
  rw [show wrap64 (numd (sub r0 10 2)) = numd (sub r0 10 2) by unfold wrap64; omega]
  generalize numd (sub r0 10 2) = n at *
  generalize wrap64 (numd (sub r0 0 8)) = num at *
  have hbad : ∀ k, commits_Decode.j0 (k + 1) L r0 n true num = some bad := fun k => by
    rw [commits_Decode.j0, if_pos rfl]
    rfl
  by_cases c2 : n = 0
  · rw [if_pos c2, if_pos (.inl c2)]
    exact hbad 999999999
  rw [if_neg c2]
  by_cases c3 : num < 0
  · rw [if_pos c3, if_pos (.inr (.inl c3))]
    exact hbad 999999999
  rw [if_neg c3]
  by_cases c4 : num > 1099511627776
  · rw [decide_eq_true c4, if_pos (.inr (.inr c4))]
    exact hbad 999999999
  rw [decide_eq_false c4, if_neg (by omega)]
  obtain ⟨m, hm⟩ : ∃ m, min n.toNat L.length = m := ⟨_, rfl⟩
  have hmn : mn n (L.length : Int) = (m : Int) := by
    unfold mn
    split <;> omega
  have hl0 := dec_l0 L r0 n num m hR (by omega) (by omega) n0 n1 (F := 999999997 - m) (by have := hR.1; omega) m 0 (by omega)
  rw [show m + 1 + (999999997 - m) = 999999998 by have := hR.1; omega] at hl0
  rw [show (1000000000 : Nat) = 999999998 + 1 + 1 from rfl]
  rw [commits_Decode.j0, if_neg (by simp), hmn, if_pos (by omega), if_pos (by omega), Option.bind_some, Int.toNat_natCast, show ((L.take m).length : Int) = (m : Int) by rw [List.length_take]; omega, hm]
  have hj0 : joind L 0 = [] := by unfold joind; rfl
  rw [hj0] at hl0
  have hup := up (f := fun k => commits_Decode.l0 k L r0 n [] (L.take m) (m : Int) ((0 : Nat) : Int) num) (fun k => (commits_Decode.mono_l k).2 _ _ _ _ _ _ _ _) hl0 (K := 999999999) (by decide)
  exact hup
end Go.Proofs.Ytnemnhfdjofckaa.Co
namespace Go.Proofs.Ytnemnhfdjofckaa.Co
open Go Go.RowKit Go.Proofs.YtnemnhfdjofckaaW.PrintWords Go.Proofs.YtnemnhfdjofckaaW.PrintMore Go.Proofs.Ytnemnhfdjofckaa.Print Go.Proofs.Ytnemnhfdjofckaa.Rt
theorem rloop_false : ∀ (k : Nat) (l : List Int) (p : Nat) (acc R : List S56), rloop k l p acc = some (R, false) → R = [] := by
  intro k
  induction k with
  | zero => intro l p acc R h; simp [rloop] at h
  | succ k ih =>
    intro l p acc R h
    rw [rloop] at h
    split at h
    · simp at h
    · split at h
      · simp at h; exact h
      · split at h
        · simp at h; exact h
        · exact ih _ _ _ _ h
theorem rightd_path {num : Int} {F : List S56} {f : S56} (hf : f ∈ F) (h : 32 < f.f0.size) : rightd num F = false := by
  refine rightd_false (fun h2 => ?_)
  obtain ⟨i, hi⟩ := List.mem_iff_getElem?.1 hf
  have h3 := (h2.2.2.2 i f hi).1
  unfold rgt at h3
  simp only [Bool.and_eq_true, decide_eq_true_eq] at h3
  omega
theorem head_fit {r0 r : List Int} {i n : Int} (hb0 : Byt r0) (hb : Byt r) (hn : 0 < n) (h0 : 0 ≤ wrap64 (numd (sub r0 0 8))) (h1 : wrap64 (numd (sub r0 0 8)) ≤ 1099511627776) : headd r0 r i n = fitd r0 r i n := by
  unfold headd fitd
  by_cases hs : (strOfNums (r.take 8)).toList = (strOfNums (r0.take 8)).toList
  rotate_left
  · rw [decide_eq_false hs, show ((strOfNums (r.take 8)).toList == (strOfNums (r0.take 8)).toList) = false by simpa using hs]
    simp
  have e := str_inj (hb.take 8) (hb0.take 8) hs
  have w1 := two_range hb 8
  have w2 := two_range hb 10
  rw [decide_eq_true hs, show ((strOfNums (r.take 8)).toList == (strOfNums (r0.take 8)).toList) = true by simpa using hs, e, show r0.take 8 = sub r0 0 8 from rfl, decide_eq_true h0, decide_eq_true h1, decide_eq_true hn,
    show wrap64 (numd (sub r 8 2)) = numd (sub r 8 2) by unfold wrap64; omega, show wrap64 (numd (sub r 10 2)) = numd (sub r 10 2) by unfold wrap64; omega, show longd r.length i n = longd2 r.length i n from rfl]
  cases decide (12 ≤ r.length) <;> cases longd2 r.length i n <;> simp
theorem head_no {r0 : List Int} {n : Int} (h : wrap64 (numd (sub r0 0 8)) < 0 ∨ 1099511627776 < wrap64 (numd (sub r0 0 8))) (i : Int) : headd r0 r0 i n = false := by
  unfold headd
  rw [show r0.take 8 = sub r0 0 8 from rfl]
  rcases h with h | h
  · rw [decide_eq_false (show ¬ 0 ≤ wrap64 (numd (sub r0 0 8)) by omega)]
    simp
  · rw [decide_eq_false (show ¬ wrap64 (numd (sub r0 0 8)) ≤ 1099511627776 by omega)]
    simp
theorem head_K {L : List (List Int)} (hR : Recs L) (h8 : 8 ≤ (L.getD 0 []).length) {i : Nat} (hi : i < L.length) {n : Int} (hn0 : 0 ≤ n) (hn1 : n ≤ 1000000000) : headgateref20_head.f L (i : Int) n = some (headd (L.getD 0 []) (L.getD i []) (i : Int) n) := by
  unfold headgateref20_head.f
  obtain ⟨h3, h4⟩ := hR.getD i
  rw [Int.toNat_natCast, if_pos ⟨⟨h8, by omega, h4⟩, by omega, by omega, by have := hR.1; omega, hn0, hn1⟩]
/-- What stands behind the document's loop. -/
theorem rdec_end (L : List (List Int)) (n : Int) (b : List Int) (hb : Byt b) (hlen : b.length ≤ 500000000) (hb0 : Byt (L.getD 0 [])) (h8 : 8 ≤ (L.getD 0 []).length) (hL : 0 < L.length) {K : Nat} (hK : 9 ≤ K) :
    ((headgateref20_files.f b).bind fun bt247 => (if 0 < (L.length : Int) then (if 8 ≤ ((rd_L5 L 0).length : Int) then ((headgateref20_number.f K ((rd_L5 L 0).take 8)).bind fun t253 => ((headgateref20_right.f t253 bt247.1).bind fun t255 => (if bt247.2 = true then (if t255 = true then (some (t253, bt247.1, n, 0)) else (some (0, ([] : List (S56)), 0, 201))) else (some (0, ([] : List (S56)), 0, 201))))) else (none)) else (none))) = some (filed (wrap64 (numd (sub (L.getD 0 []) 0 8))) n b) := by
  obtain ⟨F, ok, R, rok, h1, h2, h3⟩ := both b hb (b.length + 1) 0 [] [] (by omega) (by omega)
  rw [List.drop_zero, List.nil_append] at h1
  have hfl := floop_len _ _ _ _ _ _ h1
  have hfs := floop_small _ _ _ _ _ _ 1000000000 (by omega) (by decide) (by simp) h1
  have hR : (∀ f ∈ R, f.f0.size ≤ 1000000000) ∧ R.length ≤ 1000000000 := by
    cases rok with
    | false => rw [rloop_false _ _ _ _ _ h2]; simp
    | true =>
      rcases h3 with ⟨_, _, e⟩ | ⟨_, e⟩ | ⟨e, _⟩
      · rw [e]
        exact ⟨hfs, by simp at hfl ⊢; omega⟩
      · cases e
      · cases e
  unfold headgateref20_files.f
  rw [if_pos ⟨hb, by omega⟩, h2, Option.bind_some, if_pos (by omega), show rd_L5 L 0 = L.getD 0 [] from rfl, if_pos (by omega), show (L.getD 0 []).take 8 = sub (L.getD 0 []) 0 8 from rfl, rnumber_K (sub_byt hb0 0 8) (by unfold sub; rw [List.length_take]; omega) hK, Option.bind_some]
  generalize wrap64 (numd (sub (L.getD 0 []) 0 8)) = num
  unfold headgateref20_right.f filed
  rw [if_pos hR, Option.bind_some, h1]
  rcases h3 with ⟨rfl, rfl, e⟩ | ⟨rfl, rfl⟩ | ⟨rfl, f, hf, e⟩
  · obtain rfl : R = F := by rw [e]; rfl
    show (if true = true then _ else _) = some (if rightd num R = true then _ else bad)
    rw [if_pos rfl]
    cases rightd num R <;> rfl
  · rfl
  · cases ok with
    | false => rfl
    | true =>
      show (if false = true then _ else _) = some (if rightd num F = true then _ else bad)
      rw [rightd_path hf e]
      rfl
theorem rdec_l0 (L : List (List Int)) (n : Int) (m : Nat) (hR : Recs L) (hm : m = min n.toNat L.length) (h8 : 8 ≤ (L.getD 0 []).length) (hL : 0 < L.length) (hn0 : 0 < n) (hn1 : n ≤ 65535) (h0 : 0 ≤ wrap64 (numd (sub (L.getD 0 []) 0 8))) (h1 : wrap64 (numd (sub (L.getD 0 []) 0 8)) ≤ 1099511627776) :
    ∀ j i : Nat, i + j = m → headgateref20_Decode.l0 (2 * j + 2 + 9) L n (joind L i) (i : Int) = some (if allfit (L.getD 0 []) L n i j = true then find L (wrap64 (numd (sub (L.getD 0 []) 0 8))) n m else bad) := by
  intro j
  induction j with
  | zero =>
    intro i hi
    obtain rfl : i = m := by omega
    obtain ⟨g1, g2⟩ := joind_ok hR i (by omega)
    have hend : headgateref20_Decode.j1 10 L n (joind L i) (i : Int) false = some (find L (wrap64 (numd (sub (L.getD 0 []) 0 8))) n i) := by
      rw [headgateref20_Decode.j1, if_neg (by simp), if_neg (by omega)]
      unfold find
      by_cases c : (L.length : Int) < n
      · rw [if_pos c, if_pos c]
        rfl
      · rw [if_neg c, if_neg c]
        exact rdec_end L n _ g2 (by have := hR.1; omega) (hR.getD 0).2 h8 hL (Nat.le_refl _)
    rw [show 2 * 0 + 2 + 9 = 10 + 1 from rfl, headgateref20_Decode.l0]
    by_cases c : (i : Int) < n
    · rw [if_pos c, decide_eq_false (by omega), hend]
      rfl
    · rw [if_neg c, hend]
      rfl
  | succ j ih =>
    intro i hi
    obtain ⟨h3, h4⟩ := hR.getD i
    have hj := joind_ok hR i (by omega)
    have hall : allfit (L.getD 0 []) L n i (j + 1) = (fitd (L.getD 0 []) (L.getD i []) (i : Int) n && allfit (L.getD 0 []) L n (i + 1) j) := rfl
    rw [show 2 * (j + 1) + 2 + 9 = (2 * j + 2 + 9) + 1 + 1 by omega, hall, headgateref20_Decode.l0, if_pos (by omega), decide_eq_true (by omega), headgateref20_Decode.j1, if_pos rfl, head_K hR h8 (by omega) (by omega) (by omega), Option.bind_some, head_fit (hR.getD 0).2 h4 hn0 h0 h1]
    cases hb : fitd (L.getD 0 []) (L.getD i []) (i : Int) n with
    | false => rfl
    | true =>
      have h12 : 12 ≤ (L.getD i []).length := by
        unfold fitd at hb
        simp only [Bool.and_eq_true, decide_eq_true_eq] at hb
        exact hb.1.1.1.1
      have hrd : rd_L5 L (i : Int) = L.getD i [] := by
        unfold rd_L5
        rw [Int.toNat_natCast]
      rw [if_pos rfl, if_pos (by omega), if_pos (by omega), hrd, if_pos (by omega), if_pos (by rw [List.length_drop]; have := hR.1; omega), ← joind_succ L i (by omega), show wrap64 ((i : Int) + 1) = ((i + 1 : Nat) : Int) by unfold wrap64; have := hR.1; omega]
      exact ih (i + 1) (by omega)
theorem rdecode_f (L : List (List Int)) (hR : Recs L) : headgateref20_Decode.f 1000000000 L = some (decd L) := by
  unfold headgateref20_Decode.f decd
  by_cases c0 : L.length = 0
  · rw [if_pos (by omega), if_pos c0]
    rfl
  rw [if_neg (by omega), if_neg c0, if_pos (by omega), show rd_L5 L 0 = L.getD 0 [] from rfl]
  obtain ⟨h5, hb⟩ := hR.getD 0
  by_cases c1 : (L.getD 0 []).length < 12
  · rw [if_pos (by omega), if_pos c1]
    rfl
  rw [if_neg (by omega), if_neg c1, if_pos (by decide), if_pos (by omega), List.drop_take, show ((L.getD 0 []).drop 10).take (12 - 10) = sub (L.getD 0 []) 10 2 from rfl, rnumber_K (sub_byt hb 10 2) (by unfold sub; rw [List.length_take]; omega) (by decide), Option.bind_some]
  obtain ⟨n0, n1⟩ := two_range hb 10
  rw [show wrap64 (numd (sub (L.getD 0 []) 10 2)) = numd (sub (L.getD 0 []) 10 2) by unfold wrap64; omega]
  generalize numd (sub (L.getD 0 []) 10 2) = n at *
  by_cases c2 : n = 0
  · rw [if_pos (.inl c2), show (1000000000 : Nat) = 999999998 + 1 + 1 from rfl, headgateref20_Decode.l0, if_neg (by omega), headgateref20_Decode.j1, if_neg (by simp), if_pos c2]
    rfl
  by_cases c3 : wrap64 (numd (sub (L.getD 0 []) 0 8)) < 0 ∨ 1099511627776 < wrap64 (numd (sub (L.getD 0 []) 0 8))
  · rw [if_pos (.inr c3), show (1000000000 : Nat) = 999999998 + 1 + 1 from rfl, headgateref20_Decode.l0, if_pos (by omega), decide_eq_true (by omega), headgateref20_Decode.j1, if_pos rfl]
    have hk := head_K hR (by omega) (i := 0) (by omega) (n := n) (by omega) (by omega)
    rw [head_no c3] at hk
    rw [show (0 : Int) = ((0 : Nat) : Int) from rfl, hk]
    rfl
  rw [if_neg (by omega)]
  obtain ⟨m, hm⟩ : ∃ m, min n.toNat L.length = m := ⟨_, rfl⟩
  have hl0 := rdec_l0 L n m hR hm.symm (by omega) (by omega) (by omega) n1 (by omega) (by omega) m 0 (by omega)
  have hj0 : joind L 0 = [] := by unfold joind; rfl
  rw [hj0] at hl0
  rw [hm]
  exact up (f := fun k => headgateref20_Decode.l0 k L n [] ((0 : Nat) : Int)) (fun k => (headgateref20_Decode.mono_l k).1 _ _ _ _) hl0 (K := 1000000000) (by have := hR.1; omega)
end Go.Proofs.Ytnemnhfdjofckaa.Co
namespace Go.Proofs.Ytnemnhfdjofckaa.Co
open Go Go.RowKit Go.Proofs.YtnemnhfdjofckaaW.PrintWords Go.Proofs.YtnemnhfdjofckaaW.PrintMore Go.Proofs.Ytnemnhfdjofckaa.Print Go.Proofs.Ytnemnhfdjofckaa.Rt
/-- What a decoding that is all right says. -/
theorem find_ok {L : List (List Int)} {num n : Int} {m : Nat} (h : (find L num n m).2.2.2 = 0) : n ≤ (L.length : Int) ∧ ∃ fl, floop ((joind L m).length + 1) true (joind L m) [] = some (fl, true) ∧ rightd num fl = true ∧ find L num n m = (num, fl, n, 0) := by
  unfold find at h ⊢
  split at h
  · exact absurd h (by decide)
  rename_i hc
  rw [if_neg hc]
  unfold filed at h ⊢
  split at h
  rotate_left
  · exact absurd h (by decide)
  rename_i fl hfl
  split at h
  rotate_left
  · exact absurd h (by decide)
  rename_i hr
  exact ⟨by omega, fl, hfl, hr, if_pos hr⟩
/-- Records that are decoded: all that is known of them. -/
structure Good (L : List (List Int)) (num : Int) (fl : List S56) (n : Nat) : Prop where
  pos : 0 < n
  le : n ≤ L.length
  small : n ≤ 65535
  r0 : 12 ≤ (L.getD 0 []).length
  hnum : num = wrap64 (numd (sub (L.getD 0 []) 0 8))
  cnt : numd (sub (L.getD 0 []) 10 2) = (n : Int)
  fits : ∀ i : Nat, i < n → fitd (L.getD 0 []) (L.getD i []) (i : Int) (n : Int) = true
  files : floop ((joind L n).length + 1) true (joind L n) [] = some (fl, true)
  right : rightd num fl = true
theorem allfit_iff {r0 : List Int} {L : List (List Int)} {n : Int} {i j : Nat} : allfit r0 L n i j = true ↔ ∀ q : Nat, i ≤ q → q < i + j → fitd r0 (L.getD q []) (q : Int) n = true := by
  unfold allfit
  rw [List.all_eq_true]
  constructor
  · intro h q h1 h2
    exact h q (List.mem_range'_1.2 ⟨h1, h2⟩)
  · intro h q hq
    obtain ⟨h1, h2⟩ := List.mem_range'_1.1 hq
    exact h q h1 h2
theorem decd_ok {L : List (List Int)} (hR : Recs L) (h : (decd L).2.2.2 = 0) : ∃ num fl n, decd L = (num, fl, ((n : Nat) : Int), 0) ∧ Good L num fl n := by
  unfold decd at h ⊢
  split at h
  · exact absurd h (by decide)
  rename_i c0
  rw [if_neg c0]
  split at h
  · exact absurd h (by decide)
  rename_i c1
  rw [if_neg c1]
  split at h
  · exact absurd h (by decide)
  rename_i c2
  rw [if_neg c2]
  split at h
  rotate_left
  · exact absurd h (by decide)
  rename_i c3
  rw [if_pos c3]
  obtain ⟨h1, fl, h2, h3, h4⟩ := find_ok h
  obtain ⟨n0, n1⟩ := two_range (hR.getD 0).2 10
  obtain ⟨n, hn⟩ : ∃ n : Nat, numd (sub (L.getD 0 []) 10 2) = (n : Int) := ⟨(numd (sub (L.getD 0 []) 10 2)).toNat, by omega⟩
  rw [hn] at c2 c3 h1 h2 h4 n1 ⊢
  have hm : min ((n : Int)).toNat L.length = n := by omega
  rw [hm] at c3 h2 h4 ⊢
  refine ⟨_, fl, n, h4, ⟨by omega, by omega, by omega, by omega, rfl, hn, fun i hi => allfit_iff.1 c3 i (Nat.zero_le _) (by omega), h2, h3⟩⟩
theorem Good.decd {L : List (List Int)} {num : Int} {fl : List S56} {n : Nat} (h : Good L num fl n) : decd L = (num, fl, (n : Int), 0) := by
  have hr := (rightd_iff num fl).1 h.right
  unfold Co.decd
  rw [if_neg (by have := h.pos; have := h.le; omega), if_neg (by have := h.r0; omega), h.cnt, ← h.hnum, if_neg (by have := h.pos; omega), show min ((n : Int)).toNat L.length = n by have := h.le; omega, if_pos (allfit_iff.2 fun q _ hq => h.fits q (by omega))]
  unfold find filed
  rw [if_neg (by have := h.le; omega), h.files]
  exact if_pos h.right
/-- All commits of records. -/
def alld : Nat → List (List Int) → List (Int × List S56)
  | 0, _ => []
  | k + 1, L => if (decd L).2.2.2 = 0 then ((decd L).1, (decd L).2.1) :: alld k (L.drop (decd L).2.2.1.toNat) else []
theorem Recs.drop {L : List (List Int)} (h : Recs L) (n : Nat) : Recs (L.drop n) := ⟨by rw [List.length_drop]; have := h.1; omega, fun l hl => h.2 l (List.mem_of_mem_drop hl)⟩
theorem alld_len : ∀ (k : Nat) (L : List (List Int)), Recs L → (alld k L).length ≤ L.length := by
  intro k
  induction k with
  | zero => intro L _; simp [alld]
  | succ k ih =>
    intro L hR
    unfold alld
    split
    · rename_i h
      obtain ⟨num, fl, n, e, hg⟩ := decd_ok hR h
      rw [List.length_cons, e]
      have h1 := ih (L.drop n) (hR.drop n)
      rw [List.length_drop] at h1
      have := hg.pos
      have := hg.le
      simp only [Int.toNat_natCast]
      omega
    · simp
theorem all_l0 : ∀ (k : Nat) (L : List (List Int)) (acc : List S32), Recs L → L.length < k → acc.length + L.length ≤ 1000000 → commits_All.l0 (k + 1000000000) L acc = some (acc ++ (alld k L).map fun x => (⟨x.1, x.2⟩ : S32)) := by
  intro k
  induction k with
  | zero => intro L acc _ h; omega
  | succ k ih =>
    intro L acc hR hk ha
    have hd := up (f := fun k => commits_Decode.f k L) (fun k => commits_Decode.mono _ _) (decode_f L hR) (K := k + 1000000000) (by omega)
    rw [show k + 1 + 1000000000 = (k + 1000000000) + 1 by omega, commits_All.l0, hd, Option.bind_some]
    unfold alld
    by_cases h : (decd L).2.2.2 = 0
    · obtain ⟨num, fl, n, e, hg⟩ := decd_ok hR h
      have := hg.pos
      have := hg.le
      rw [if_pos h, if_pos h, e, if_pos (by omega), if_pos (by simp), if_pos (by simp; omega)]
      simp only [Int.toNat_natCast]
      rw [ih (L.drop n) _ (hR.drop n) (by rw [List.length_drop]; omega) (by rw [List.length_append, List.length_singleton, List.length_drop]; omega), List.append_assoc]
      rfl
    · rw [if_neg h, if_neg h]
      simp
theorem all_f (L : List (List Int)) (hR : Recs L) : commits_All.f 2000000000 L = some ((alld (L.length + 1) L).map fun x => (⟨x.1, x.2⟩ : S32)) := by
  unfold commits_All.f
  have h := all_l0 (L.length + 1) L [] hR (by omega) (by have := hR.1; simp; omega)
  exact up (f := fun k => commits_All.l0 k L []) (fun k => commits_All.mono_l k _ _) h (by have := hR.1; omega)
theorem rall_l0 : ∀ (k : Nat) (L : List (List Int)) (acc : List S34), Recs L → L.length < k → acc.length + L.length ≤ 1000000 → headgateref20_All.l0 (k + 1000000000) L acc = some (acc ++ (alld k L).map fun x => (⟨x.1, x.2⟩ : S34)) := by
  intro k
  induction k with
  | zero => intro L acc _ h; omega
  | succ k ih =>
    intro L acc hR hk ha
    have hd := up (f := fun k => headgateref20_Decode.f k L) (fun k => headgateref20_Decode.mono _ _) (rdecode_f L hR) (K := k + 1000000000) (by omega)
    rw [show k + 1 + 1000000000 = (k + 1000000000) + 1 by omega, headgateref20_All.l0, hd, Option.bind_some]
    unfold alld
    by_cases h : (decd L).2.2.2 = 0
    · obtain ⟨num, fl, n, e, hg⟩ := decd_ok hR h
      have := hg.pos
      have := hg.le
      rw [if_pos (by omega), if_pos h, if_pos h, e, if_pos (by omega), if_pos (by simp), if_pos (by simp; omega)]
      simp only [Int.toNat_natCast]
      rw [ih (L.drop n) _ (hR.drop n) (by rw [List.length_drop]; omega) (by rw [List.length_append, List.length_singleton, List.length_drop]; omega), List.append_assoc]
      rfl
    · rw [if_neg h, if_neg h]
      simp
theorem rall_f (L : List (List Int)) (hR : Recs L) : headgateref20_All.f 2000000000 L = some ((alld (L.length + 1) L).map fun x => (⟨x.1, x.2⟩ : S34)) := by
  unfold headgateref20_All.f
  have h := rall_l0 (L.length + 1) L [] hR (by omega) (by have := hR.1; simp; omega)
  exact up (f := fun k => headgateref20_All.l0 k L []) (fun k => headgateref20_All.mono_l k _ _) h (by have := hR.1; omega)
end Go.Proofs.Ytnemnhfdjofckaa.Co
namespace Go.Proofs.Ytnemnhfdjofckaa.Rd
open Go Go.RowKit Go.WideShapes Go.Proofs.YtnemnhfdjofckaaW.PrintWords Go.Proofs.Ytnemnhfdjofckaa.Print
theorem cells_get {w : World} {a : Addr} {n : Nat} {es : List Value} (h : w.cells? 0 a n = some es) : es.length = n ∧ ∀ (i : Nat) (u : Value), es[i]? = some u → w.cell? (a.add i) = some u := by
  unfold World.cells? at h
  split at h
  · obtain ⟨h1, h2⟩ := mapM_some h
    rw [List.length_range] at h1
    refine ⟨h1, fun i u hu => ?_⟩
    have hi : i < n := by rw [← h1]; exact (List.getElem?_eq_some_iff.1 hu).1
    obtain ⟨y, hy, hf⟩ := h2 i i (List.getElem?_range hi)
    rw [hu] at hy
    cases hy
    exact hf
  · cases h
theorem some_list {α : Type} {p : Nat → α → Prop} : ∀ (n : Nat), (∀ i, i < n → ∃ x, p i x) → ∃ l : List α, l.length = n ∧ ∀ i x, l[i]? = some x → p i x
  | 0, _ => ⟨[], rfl, by simp⟩
  | n + 1, h => by
    obtain ⟨l, hl, hp⟩ := some_list n (fun i hi => h i (by omega))
    obtain ⟨x, hx⟩ := h n (by omega)
    refine ⟨l ++ [x], by simp [hl], fun i y hy => ?_⟩
    rcases Nat.lt_trichotomy i n with h1 | h1 | h1
    · rw [List.getElem?_append_left (by omega)] at hy
      exact hp i y hy
    · subst h1
      rw [List.getElem?_append_right (by omega), hl, Nat.sub_self] at hy
      simp at hy
      subst hy
      exact hx
    · rw [List.getElem?_eq_none (by simp; omega)] at hy
      cases hy
theorem add_more (a : Addr) (i j : Nat) : (a.add i).add j = a.add (i + j) := by
  unfold Addr.add
  by_cases h1 : i = 0
  · subst h1; simp
  · by_cases h2 : j = 0
    · subst h2; simp [h1]
    · simp [h1, h2, Nat.add_assoc]
/-- A slice that reads, as a row; 'nil' has no room. -/
theorem rd_C {α : Type} (K : Kd α) {P : Program} {w : World} {t e : TypeId} (ht : P.underlying t = some (.slice e)) (hs : P.cellsOf e = K.sz) (hr : ∀ cs, Rd P w e cs → ∃ x, K.K w x cs) {cs : List Value} (h : Rd P w t cs) :
    ∃ A l c, cs = [.slice A l.length c] ∧ l.length ≤ c ∧ l.length ≤ maxLen ∧ K.C w A l.length l ∧ (A = none → l.length = 0 ∧ c = 0) := by
  obtain ⟨a, len, cap, rfl, hh⟩ := rd_slice ht h
  rcases hh with ⟨rfl, rfl, rfl⟩ | ⟨ad, rfl, hlc, hcm, _, hel⟩
  · exact ⟨none, [], 0, rfl, Nat.le_refl _, by unfold maxLen; simp, Kd.C_nil K w, fun _ => ⟨rfl, rfl⟩⟩
  · rw [hs] at hel
    obtain ⟨l, hl, hp⟩ := some_list (p := fun i (x : α) => ∃ es, w.cells? 0 (ad.add (i * K.sz)) K.sz = some es ∧ K.K w x es) len (fun i hi => by
      obtain ⟨es, h1, h2⟩ := hel i (by omega)
      obtain ⟨x, hx⟩ := hr es h2
      exact ⟨x, es, h1, hx⟩)
    refine ⟨some ad, l, cap, by rw [hl], by omega, by omega, ⟨rfl, by unfold maxLen at hcm; omega, fun _ => ⟨ad, rfl, fun j p hj => ?_⟩⟩, fun e => by cases e⟩
    obtain ⟨es, h1, h2⟩ := hp j p hj
    obtain ⟨h3, h4⟩ := cells_get h1
    refine ⟨es, h3, h2, fun i u hu => ?_⟩
    rw [← add_more]
    exact h4 i u hu
theorem arg_C {α : Type} (K : Kd α) {P : Program} {w : World} {t e : TypeId} (ht : P.underlying t = some (.slice e)) (hs : P.cellsOf e = K.sz) (hr : ∀ cs, Rd P w e cs → ∃ x, K.K w x cs) {v : Value} (h : Arg P w t v) :
    ∃ A l c, v = .slice A l.length c ∧ l.length ≤ c ∧ l.length ≤ maxLen ∧ K.C w A l.length l ∧ (A = none → l.length = 0 ∧ c = 0) := by
  obtain ⟨⟨b, ho⟩, hrd⟩ := h
  obtain ⟨a, len, cap, rfl⟩ := okWide_slice ht ho
  obtain ⟨A, l, c, h1, h2⟩ := rd_C K ht hs hr hrd
  simp [Value.cells] at h1
  obtain ⟨rfl, rfl, rfl⟩ := h1
  exact ⟨_, _, _, rfl, h2⟩
theorem field_at {fs : Array Field} {m : List (Nat × TypeId)} (h : fs.toList.map (fun f => (f.offset, f.type)) = m) {i o t : Nat} (hi : m[i]? = some (o, t)) : ∃ f, fs.toList[i]? = some f ∧ f.offset = o ∧ f.type = t := by
  subst h
  rw [List.getElem?_map] at hi
  obtain ⟨f, hf, he⟩ := Option.map_eq_some_iff.1 hi
  exact ⟨f, hf, by simpa using congrArg Prod.fst he, by simpa using congrArg Prod.snd he⟩
end Go.Proofs.Ytnemnhfdjofckaa.Rd
namespace Go.Proofs.Ytnemnhfdjofckaa.Rd
open Go Go.RowKit Go.WideShapes Go.Proofs.YtnemnhfdjofckaaW.PrintWords Go.Proofs.Ytnemnhfdjofckaa.Print Go.Proofs.Ytnemnhfdjofckaa.Co
theorem rd_Cp {α : Type} (K : Kd α) (p : α → Prop) {P : Program} {w : World} {t e : TypeId} (ht : P.underlying t = some (.slice e)) (hs : P.cellsOf e = K.sz) (hr : ∀ cs, Rd P w e cs → ∃ x, K.K w x cs ∧ p x) {cs : List Value} (h : Rd P w t cs) :
    ∃ A l c, cs = [.slice A l.length c] ∧ l.length ≤ c ∧ l.length ≤ maxLen ∧ K.C w A l.length l ∧ ∀ x ∈ l, p x := by
  obtain ⟨a, len, cap, rfl, hh⟩ := rd_slice ht h
  rcases hh with ⟨rfl, rfl, rfl⟩ | ⟨ad, rfl, hlc, hcm, _, hel⟩
  · exact ⟨none, [], 0, rfl, Nat.le_refl _, by unfold maxLen; simp, Kd.C_nil K w, by simp⟩
  · rw [hs] at hel
    obtain ⟨l, hl, hp⟩ := some_list (p := fun i (x : α) => ∃ es, w.cells? 0 (ad.add (i * K.sz)) K.sz = some es ∧ K.K w x es ∧ p x) len (fun i hi => by
      obtain ⟨es, h1, h2⟩ := hel i (by omega)
      obtain ⟨x, hx⟩ := hr es h2
      exact ⟨x, es, h1, hx⟩)
    refine ⟨some ad, l, cap, by rw [hl], by omega, by omega, ⟨rfl, by unfold maxLen at hcm; omega, fun _ => ⟨ad, rfl, fun j q hj => ?_⟩⟩, fun x hx => ?_⟩
    · obtain ⟨es, h1, h2, -⟩ := hp j q hj
      obtain ⟨h3, h4⟩ := cells_get h1
      refine ⟨es, h3, h2, fun i u hu => ?_⟩
      rw [← add_more]
      exact h4 i u hu
    · obtain ⟨i, hi⟩ := List.mem_iff_getElem?.1 hx
      obtain ⟨es, -, -, h3⟩ := hp i x hi
      exact h3
theorem arg_Cp {α : Type} (K : Kd α) (p : α → Prop) {P : Program} {w : World} {t e : TypeId} (ht : P.underlying t = some (.slice e)) (hs : P.cellsOf e = K.sz) (hr : ∀ cs, Rd P w e cs → ∃ x, K.K w x cs ∧ p x) {v : Value} (h : Arg P w t v) :
    ∃ A l c, v = .slice A l.length c ∧ l.length ≤ c ∧ l.length ≤ maxLen ∧ K.C w A l.length l ∧ ∀ x ∈ l, p x := by
  obtain ⟨⟨b, ho⟩, hrd⟩ := h
  obtain ⟨a, len, cap, rfl⟩ := okWide_slice ht ho
  obtain ⟨A, l, c, h1, h2⟩ := rd_Cp K p ht hs hr hrd
  simp [Value.cells] at h1
  obtain ⟨rfl, rfl, rfl⟩ := h1
  exact ⟨_, _, _, rfl, h2⟩
theorem sz_rec : Try.prog.cellsOf 5 = 1 ∧ Try.prog.cellsOf 38 = 1 := ⟨by kernel_rfl, by kernel_rfl⟩
theorem rd_u8 {w : World} {cs : List Value} (h : Rd Try.prog w 5 cs) : ∃ x, (Kd.int .u8).K w x cs ∧ (0 ≤ x ∧ x < 256) := by
  obtain ⟨n, rfl, hw⟩ := rd_int Try.underlying5 h
  refine ⟨n, rfl, ?_⟩
  simp [Lit.wf, IntKind.min, IntKind.max, IntKind.bits, IntKind.signed] at hw
  omega
theorem rd_rec {w : World} {cs : List Value} (h : Rd Try.prog w 38 cs) : ∃ x, (Kd.slice 5 (Kd.int .u8)).K w x cs ∧ Byt x := by
  obtain ⟨A, l, c, rfl, h1, _, h2, h3⟩ := rd_Cp (Kd.int .u8) (fun x => 0 ≤ x ∧ x < 256) Try.underlying38 sz_rec.1 (fun _ hc => rd_u8 hc) h
  exact ⟨l, ⟨A, c, rfl, h1, h2⟩, h3⟩
theorem arg_recs {w : World} {v : Value} (h : Arg Try.prog w 27 v) : ∃ A L c, v = .slice A L.length c ∧ L.length ≤ c ∧ L.length ≤ maxLen ∧ Kd.C (Kd.slice 5 (Kd.int .u8)) w A L.length L ∧ ∀ l ∈ L, Byt l :=
  arg_Cp (Kd.slice 5 (Kd.int .u8)) Byt Try.underlying27 sz_rec.2 (fun _ hc => rd_rec hc) h
end Go.Proofs.Ytnemnhfdjofckaa.Rd
namespace Go.Proofs.Ytnemnhfdjofckaa.Co
open Go Go.RowKit Rd Go.Proofs.YtnemnhfdjofckaaW.PrintWords Go.Proofs.YtnemnhfdjofckaaW.PrintMore Go.Proofs.Ytnemnhfdjofckaa.Print Go.Proofs.Ytnemnhfdjofckaa.Rt
theorem few_l0 (L : List (List Int)) : ∀ d i : Nat, i + d = 12 → (∀ q : Nat, q < i → (L.getD q []).length ≤ 5000) → ∃ b, headgatelaw20_few.l0 (d + 2) L (i : Int) = some b ∧ (b = true → L.length ≤ 12 ∧ ∀ q : Nat, (L.getD q []).length ≤ 5000) := by
  intro d
  induction d with
  | zero =>
    intro i hi hq
    rw [headgatelaw20_few.l0]
    by_cases c : (i : Int) < (L.length : Int)
    · rw [if_pos c, if_pos (by omega)]
      exact ⟨false, rfl, fun h => by cases h⟩
    · rw [if_neg c]
      refine ⟨true, rfl, fun _ => ⟨by omega, fun q => ?_⟩⟩
      rcases Nat.lt_or_ge q i with h | h
      · exact hq q h
      · rw [List.getD_eq_getElem?_getD, List.getElem?_eq_none (by omega)]
        simp
  | succ d ih =>
    intro i hi hq
    rw [headgatelaw20_few.l0]
    by_cases c : (i : Int) < (L.length : Int)
    rotate_left
    · rw [if_neg c]
      refine ⟨true, rfl, fun _ => ⟨by omega, fun q => ?_⟩⟩
      rcases Nat.lt_or_ge q i with h | h
      · exact hq q h
      · rw [List.getD_eq_getElem?_getD, List.getElem?_eq_none (by omega)]
        simp
    rw [if_pos c, if_neg (by omega), if_pos (by omega), show rd_L5 L (i : Int) = L.getD i [] by unfold rd_L5; rw [Int.toNat_natCast]]
    by_cases c2 : ((L.getD i []).length : Int) > 5000
    · rw [if_pos c2]
      exact ⟨false, rfl, fun h => by cases h⟩
    · rw [if_neg c2, show wrap64 ((i : Int) + 1) = ((i + 1 : Nat) : Int) by unfold wrap64; omega]
      refine ih (i + 1) (by omega) (fun q h => ?_)
      rcases Nat.lt_or_ge q i with h | h
      · exact hq q h
      · obtain rfl : q = i := by omega
        omega
theorem few_f (L : List (List Int)) {K : Nat} (hK : 14 ≤ K) : ∃ b, headgatelaw20_few.f K L = some b ∧ (b = true → L.length ≤ 12 ∧ ∀ l ∈ L, l.length ≤ 5000) := by
  obtain ⟨b, h1, h2⟩ := few_l0 L 12 0 (by omega) (fun q h => by omega)
  refine ⟨b, up (f := fun k => headgatelaw20_few.f k L) (fun k => headgatelaw20_few.mono _ _) (k := 14) (by unfold headgatelaw20_few.f; exact h1) hK, fun hb => ⟨(h2 hb).1, fun l hl => ?_⟩⟩
  obtain ⟨i, hi⟩ := List.mem_iff_getElem?.1 hl
  have := (h2 hb).2 i
  rw [List.getD_eq_getElem?_getD, hi] at this
  exact this
theorem same04_l0 (l : List (List Int)) (hl : l.length ≤ 1000000000) : ∀ m i : Nat, i + m = l.length → headgateref04_Same.l0 (m + 1) l l (i : Int) = some true := by
  intro m
  induction m with
  | zero =>
    intro i hi
    rw [headgateref04_Same.l0, if_neg (by omega)]
  | succ m ih =>
    intro i hi
    rw [headgateref04_Same.l0, if_pos (by omega), if_pos (by omega), if_pos (by omega), if_pos rfl, show wrap64 ((i : Int) + 1) = ((i + 1 : Nat) : Int) by unfold wrap64; omega]
    exact ih (i + 1) (by omega)
theorem same04_f (l : List (List Int)) (hl : l.length ≤ 1000000000) {K : Nat} (hK : l.length + 1 ≤ K) : headgateref04_Same.f K l l = some true := by
  refine up (f := fun k => headgateref04_Same.f k l l) (fun k => headgateref04_Same.mono _ _ _) (k := l.length + 1) ?_ hK
  show headgateref04_Same.f (l.length + 1) l l = some true
  unfold headgateref04_Same.f
  rw [if_pos rfl]
  exact same04_l0 l hl l.length 0 (by omega)
theorem same07_l0 (l : List S56) (hl : l.length ≤ 1000000000) : ∀ m i : Nat, i + m = l.length → headgateref07_Same.l0 (m + 1) l l (i : Int) = some true := by
  intro m
  induction m with
  | zero =>
    intro i hi
    rw [headgateref07_Same.l0, if_neg (by omega)]
  | succ m ih =>
    intro i hi
    rw [headgateref07_Same.l0, if_pos (by omega), if_pos (by omega), if_pos (by omega), if_neg (by simp), show wrap64 ((i : Int) + 1) = ((i + 1 : Nat) : Int) by unfold wrap64; omega]
    exact ih (i + 1) (by omega)
theorem same07_f (l : List S56) (hl : l.length ≤ 1000000000) {K : Nat} (hK : l.length + 1 ≤ K) : headgateref07_Same.f K l l = some true := by
  refine up (f := fun k => headgateref07_Same.f k l l) (fun k => headgateref07_Same.mono _ _ _) (k := l.length + 1) ?_ hK
  show headgateref07_Same.f (l.length + 1) l l = some true
  unfold headgateref07_Same.f
  rw [if_pos rfl]
  exact same07_l0 l hl l.length 0 (by omega)
theorem filed_nil (num n : Int) (b : List Int) : (filed num n b).2.2.2 = 0 ∨ filed num n b = bad := by
  unfold filed
  split
  · split
    · exact .inl rfl
    · exact .inr rfl
  · exact .inr rfl
theorem find_nil (L : List (List Int)) (num n : Int) (m : Nat) : (find L num n m).2.2.2 = 0 ∨ find L num n m = short ∨ find L num n m = bad := by
  unfold find
  split
  · exact .inr (.inl rfl)
  · rcases filed_nil num n (joind L m) with h | h
    · exact .inl h
    · exact .inr (.inr h)
theorem decd_nil {L : List (List Int)} (h : (decd L).2.2.2 ≠ 0) : decd L = short ∨ decd L = bad := by
  have key : (decd L).2.2.2 = 0 ∨ decd L = short ∨ decd L = bad := by
    unfold decd
    by_cases c0 : L.length = 0
    · rw [if_pos c0]; exact .inr (.inl rfl)
    rw [if_neg c0]
    by_cases c1 : (L.getD 0 []).length < 12
    · rw [if_pos c1]; exact .inr (.inr rfl)
    rw [if_neg c1]
    by_cases c2 : numd (sub (L.getD 0 []) 10 2) = 0 ∨ wrap64 (numd (sub (L.getD 0 []) 0 8)) < 0 ∨ 1099511627776 < wrap64 (numd (sub (L.getD 0 []) 0 8))
    · rw [if_pos c2]; exact .inr (.inr rfl)
    rw [if_neg c2]
    by_cases c3 : allfit (L.getD 0 []) L (numd (sub (L.getD 0 []) 10 2)) 0 (min (numd (sub (L.getD 0 []) 10 2)).toNat L.length) = true
    · rw [if_pos c3]; exact find_nil _ _ _ _
    · rw [if_neg c3]; exact .inr (.inr rfl)
  exact key.resolve_left h
theorem decd_fl {L : List (List Int)} (hR : Recs L) : (decd L).2.1.length ≤ 1024 := by
  by_cases h : (decd L).2.2.2 = 0
  · obtain ⟨num, fl, n, e, hg⟩ := decd_ok hR h
    rw [e]
    exact ((rightd_iff num fl).1 hg.right).2.2.1
  · rcases decd_nil h with e | e <;> (rw [e]; decide)
theorem alld_fl : ∀ (k : Nat) (L : List (List Int)), Recs L → ∀ x ∈ alld k L, x.2.length ≤ 1024 := by
  intro k
  induction k with
  | zero => intro L _ x hx; simp [alld] at hx
  | succ k ih =>
    intro L hR x hx
    unfold alld at hx
    split at hx
    · rcases List.mem_cons.1 hx with rfl | hx
      · exact decd_fl hR
      · exact ih _ (hR.drop _) x hx
    · simp at hx
theorem dec_l1 (R : List (Int × List S56)) (hR : R.length ≤ 1000000) (hf : ∀ x ∈ R, x.2.length ≤ 1024) (n e num : Int) (fl : List S56) {F : Nat} (hF : 2000 ≤ F) : ∀ m i : Nat, i + m = R.length →
    headgatelaw20_CommitsDecodes.l1 (m + 1 + F) n e n e (R.map fun x => (⟨x.1, x.2⟩ : S32)) (R.map fun x => (⟨x.1, x.2⟩ : S34)) true true (i : Int) num fl num fl = some true := by
  intro m
  induction m with
  | zero =>
    intro i hi
    rw [show 0 + 1 + F = F + 1 by omega, headgatelaw20_CommitsDecodes.l1, if_neg (by rw [List.length_map]; omega)]
    unfold headgatelaw20_alive.f
    rw [Option.bind_some, if_pos rfl, if_pos rfl, if_pos rfl, if_pos rfl, if_pos rfl]
  | succ m ih =>
    intro i hi
    obtain ⟨x, hx⟩ : ∃ x, R[i]? = some x := ⟨_, List.getElem?_eq_getElem (by omega)⟩
    have h1 : rd_T32 (R.map fun x => (⟨x.1, x.2⟩ : S32)) (i : Int) = ⟨x.1, x.2⟩ := by
      unfold rd_T32
      rw [Int.toNat_natCast, List.getD_eq_getElem?_getD, List.getElem?_map, hx]
      rfl
    have h2 : rd_T34 (R.map fun x => (⟨x.1, x.2⟩ : S34)) (i : Int) = ⟨x.1, x.2⟩ := by
      unfold rd_T34
      rw [Int.toNat_natCast, List.getD_eq_getElem?_getD, List.getElem?_map, hx]
      rfl
    have hx2 := hf x (List.mem_of_getElem? hx)
    rw [show m + 1 + 1 + F = (m + 1 + F) + 1 by omega, headgatelaw20_CommitsDecodes.l1, if_pos (by rw [List.length_map]; omega), if_pos (by omega), if_pos (by rw [List.length_map]; omega), h1, h2, same07_f x.2 (by omega) (by omega), Option.bind_some, if_pos rfl, if_pos rfl, show wrap64 ((i : Int) + 1) = ((i + 1 : Nat) : Int) by unfold wrap64; omega]
    exact ih (i + 1) (by omega)
theorem dec_copy (L : List (List Int)) (hR : Recs L) {F : Nat} (hF : 3000000000 ≤ F) : ∀ m i : Nat, i + m = L.length → headgatelaw20_CommitsDecodes.l0 (m + 1 + F) L (L.take i) (i : Int) = some true := by
  intro m
  induction m with
  | zero =>
    intro i hi
    have ht : L.take i = L := List.take_of_length_le (by omega)
    rw [show 0 + 1 + F = F + 1 by omega, headgatelaw20_CommitsDecodes.l0, if_neg (by omega), ht]
    have hfl := decd_fl hR
    have hal := alld_len (L.length + 1) L hR
    rw [up (f := fun k => commits_Decode.f k L) (fun k => commits_Decode.mono _ _) (decode_f L hR) (K := F) (by omega), Option.bind_some,
      up (f := fun k => headgateref20_Decode.f k L) (fun k => headgateref20_Decode.mono _ _) (rdecode_f L hR) (K := F) (by omega), Option.bind_some,
      up (f := fun k => commits_All.f k L) (fun k => commits_All.mono _ _) (all_f L hR) (K := F) (by omega), Option.bind_some,
      up (f := fun k => headgateref20_All.f k L) (fun k => headgateref20_All.mono _ _) (rall_f L hR) (K := F) (by omega), Option.bind_some,
      same04_f L (by have := hR.1; omega) (by have := hR.1; omega), Option.bind_some, same07_f _ (by omega) (by omega), Option.bind_some, if_pos (by rw [List.length_map, List.length_map])]
    have h1 := dec_l1 (alld (L.length + 1) L) (by have := hR.1; omega) (alld_fl _ L hR) (decd L).2.2.1 (decd L).2.2.2 (decd L).1 (decd L).2.1 (F := 2000) (Nat.le_refl _) (alld (L.length + 1) L).length 0 (by omega)
    exact up (f := fun k => headgatelaw20_CommitsDecodes.l1 k (decd L).2.2.1 (decd L).2.2.2 (decd L).2.2.1 (decd L).2.2.2 _ _ true true ((0 : Nat) : Int) (decd L).1 (decd L).2.1 (decd L).1 (decd L).2.1) (fun k => (headgatelaw20_CommitsDecodes.mono_l k).2 _ _ _ _ _ _ _ _ _ _ _ _ _) h1 (by have := hR.1; omega)
  | succ m ih =>
    intro i hi
    have hg := (hR.getD i).1
    rw [show m + 1 + 1 + F = (m + 1 + F) + 1 by omega, headgatelaw20_CommitsDecodes.l0, if_pos (by omega), Option.bind_some, if_pos (by omega), show rd_L5 L (i : Int) = L.getD i [] by unfold rd_L5; rw [Int.toNat_natCast],
      if_pos (by simp only [List.length_nil]; omega), if_pos (by rw [List.length_take]; have := hR.1; omega), List.nil_append, show wrap64 ((i : Int) + 1) = ((i + 1 : Nat) : Int) by unfold wrap64; have := hR.1; omega]
    have e : L.take i ++ [L.getD i []] = L.take (i + 1) := by
      rw [List.take_add_one, List.getElem?_eq_getElem (by omega), List.getD_eq_getElem?_getD, List.getElem?_eq_getElem (by omega)]
      rfl
    rw [e]
    exact ih (i + 1) (by omega)
theorem decodes_f (L : List (List Int)) (hb : ∀ l ∈ L, Byt l) : headgatelaw20_CommitsDecodes.f 4000000000 L = some true := by
  unfold headgatelaw20_CommitsDecodes.f
  obtain ⟨b, h1, h2⟩ := few_f L (K := 4000000000) (by omega)
  rw [h1, Option.bind_some]
  cases b with
  | false =>
    rw [if_neg (by simp)]
    rfl
  | true =>
    obtain ⟨h3, h4⟩ := h2 rfl
    have hR : Recs L := ⟨by omega, fun l hl => ⟨h4 l hl, hb l hl⟩⟩
    rw [if_pos rfl]
    have h := dec_copy L hR (F := 3000000000) (Nat.le_refl _) L.length 0 (by omega)
    rw [List.take_zero] at h
    exact up (f := fun k => headgatelaw20_CommitsDecodes.l0 k L [] ((0 : Nat) : Int)) (fun k => (headgatelaw20_CommitsDecodes.mono_l k).1 _ _ _) h (by omega)
theorem commitsDecodes_calls (v0 : Value) (W : World) (a0 : Arg Try.prog W 27 v0) : Calls Try.prog 4 #[v0] W fun e w' => e = .returned (.bool true) ∧ Below W.heap.size W w' := by
  obtain ⟨A, L, c, rfl, hc, -, hC, hb⟩ := arg_recs a0
  exact headgatelaw20_CommitsDecodes.calls 4000000000 A c L true W hC hc (decodes_f L hb)
end Go.Proofs.Ytnemnhfdjofckaa.Co
