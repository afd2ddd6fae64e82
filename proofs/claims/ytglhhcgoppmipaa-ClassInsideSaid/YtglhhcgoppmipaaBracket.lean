/- class.Bracket. -/
import Derived.Test.YtglhhcgoppmipaaSingle
import Derived.Test.YtglhhcgoppmipaaGoto
import Derived.Test.YtglhhcgoppmipaaTake
import Derived.Deep.QuietTactic
namespace Go.Proofs.Ytglhhcgoppmipaa.Cl
open Go.RowKit Go.Proofs.YtglhhcgoppmipaaW.PrintWords

/-- One item of a bracket expression: none: not told; some none: it is wrong; else the set with the item, and what stands behind it. -/
def item (nm : List UInt8 → Option Nat) (s : Nat) (t : List UInt8) (first : Bool) : Option (Option (Nat × List UInt8)) :=
  if Lib.hasPrefix t [91, 58] = true then
    match nm (Lib.cut (t.drop 2) [58, 93]).1 with
    | none => none
    | some k => if k = 0 ∨ (Lib.cut (t.drop 2) [58, 93]).2.2 = false then some none else some (some (s ||| k, (Lib.cut (t.drop 2) [58, 93]).2.1))
  else if single t first = false then some none
  else match t with
    | c0 :: c1 :: c2 :: l =>
      if c1 = 45 ∧ ¬ c2 = 93 then
        if single (c2 :: l) false = false ∨ c2.toNat < c0.toNat then some none else some (some (wi s c0.toNat (c2.toNat + 1 - c0.toNat), l))
      else some (some (wi s c0.toNat (c0.toNat + 1 - c0.toNat), c1 :: c2 :: l))
    | c0 :: l => some (some (wi s c0.toNat (c0.toNat + 1 - c0.toNat), l))
    | [] => some none
/-- The items up to the end of a bracket expression; at most n. -/
def brk (nm : List UInt8 → Option Nat) : Nat → Nat → List UInt8 → Bool → Option (Option (Nat × List UInt8))
  | 0, _, _, _ => none
  | n + 1, s, t, first =>
    match item nm s t first with
    | none => none
    | some none => some none
    | some (some (s', t')) => if Lib.hasPrefix t' [93] = true then some (some (s', t')) else brk nm n s' t' false
theorem brk_wrong {nm : List UInt8 → Option Nat} {n s : Nat} {t : List UInt8} {first : Bool} {res : Option (Nat × List UInt8)} (h : brk nm (n + 1) s t first = some res) (hi : item nm s t first = some none) : res = none := by
  rw [brk, hi] at h
  exact (Option.some.inj h).symm
theorem brk_go {nm : List UInt8 → Option Nat} {n s s' : Nat} {t t' : List UInt8} {first : Bool} {res : Option (Nat × List UInt8)} (h : brk nm (n + 1) s t first = some res) (hi : item nm s t first = some (some (s', t'))) :
    (if Lib.hasPrefix t' [93] = true then some (some (s', t')) else brk nm n s' t' false) = some res := by
  rw [brk, hi] at h
  exact h
theorem item_name {nm : List UInt8 → Option Nat} {n s : Nat} {t : List UInt8} {first : Bool} {res : Option (Nat × List UInt8)} (h : brk nm (n + 1) s t first = some res) (hp : Lib.hasPrefix t [91, 58] = true) :
    ∃ k, nm (Lib.cut (t.drop 2) [58, 93]).1 = some k ∧ item nm s t first = if k = 0 ∨ (Lib.cut (t.drop 2) [58, 93]).2.2 = false then some none else some (some (s ||| k, (Lib.cut (t.drop 2) [58, 93]).2.1)) := by
  have e : item nm s t first = match nm (Lib.cut (t.drop 2) [58, 93]).1 with
    | none => none
    | some k => if k = 0 ∨ (Lib.cut (t.drop 2) [58, 93]).2.2 = false then some none else some (some (s ||| k, (Lib.cut (t.drop 2) [58, 93]).2.1)) := by
    unfold item
    rw [if_pos hp]
  cases hk : nm (Lib.cut (t.drop 2) [58, 93]).1 with
  | none =>
    rw [hk] at e
    rw [brk, e] at h
    cases h
  | some k =>
    rw [hk] at e
    exact ⟨k, rfl, e⟩
theorem item_wrong {nm : List UInt8 → Option Nat} {s : Nat} {t : List UInt8} {first : Bool} (hp : Lib.hasPrefix t [91, 58] = false) (hs : single t first = false) : item nm s t first = some none := by
  unfold item
  rw [if_neg (by rw [hp]; decide), if_pos hs]
theorem item_range {nm : List UInt8 → Option Nat} {s : Nat} {c0 c2 : UInt8} {l : List UInt8} {first : Bool} (hp : Lib.hasPrefix (c0 :: 45 :: c2 :: l) [91, 58] = false) (hs : single (c0 :: 45 :: c2 :: l) first = true) (h2 : ¬ c2 = 93) :
    item nm s (c0 :: 45 :: c2 :: l) first = if single (c2 :: l) false = false ∨ c2.toNat < c0.toNat then some none else some (some (wi s c0.toNat (c2.toNat + 1 - c0.toNat), l)) := by
  unfold item
  rw [if_neg (by rw [hp]; decide), if_neg (by rw [hs]; decide)]
  show (if (45 : UInt8) = 45 ∧ ¬ c2 = 93 then _ else _) = _
  rw [if_pos ⟨rfl, h2⟩]
theorem item_one {nm : List UInt8 → Option Nat} {s : Nat} {c0 : UInt8} {l : List UInt8} {first : Bool} (hp : Lib.hasPrefix (c0 :: l) [91, 58] = false) (hs : single (c0 :: l) first = true) (h2 : ∀ c2 l', ¬ c2 = 93 → ¬ l = 45 :: c2 :: l') :
    item nm s (c0 :: l) first = some (some (wi s c0.toNat (c0.toNat + 1 - c0.toNat), l)) := by
  unfold item
  rw [if_neg (by rw [hp]; decide), if_neg (by rw [hs]; decide)]
  match l with
  | [] => rfl
  | [c1] => rfl
  | c1 :: c2 :: l =>
    show (if c1 = 45 ∧ ¬ c2 = 93 then _ else _) = _
    rw [if_neg]
    rintro ⟨rfl, h⟩
    exact h2 c2 l h rfl
/-- What is told of a text: the set, how many bytes it takes, the error. -/
def ends (text : List UInt8) (turned : Bool) : Option (Nat × List UInt8) → Nat × Int × Int
  | none => (0, 0, 81)
  | some (s, t) => (if turned = true then compl (wi s 10 (10 + 1 - 10)) else s, ((text.length - t.length + 1 : Nat) : Int), 0)
def bracket (nm : List UInt8 → Option Nat) (text : List UInt8) : Option (Nat × Int × Int) :=
  (brk nm (text.length + 1) 0 (Lib.trimPrefix text [94]) true).map (ends text (Lib.hasPrefix text [94]))
theorem results_cell_tmp2 {fn : Func} {p u v : Tmp} {ty : TypeId} {P : Program} (h : fn.results = #[.cell p ty, .tmp u, .tmp v]) (tmps : Array Value) (w : World) (g : Nat) (cs : Array Value)
    (hp : tmps.getD p undef = .pointer (some ⟨g, 0, none⟩)) (hl : (loadVar ty ⟨g, 0, none⟩).run P w = .ok (.agg cs) w) :
    (results fn tmps).run P w = .ok (.tuple #[.agg cs, tmps.getD u undef, tmps.getD v undef]) w := by
  have hp' : tmps[p]?.getD undef = .pointer (some ⟨g, 0, none⟩) := by simpa using hp
  simp [results, h, hp', asAddr, hl]
theorem Var.load {g m : Nat} {w : World} (h : Var g m w) : (loadVar 24 ⟨g, 0, none⟩).run Try.prog w = .ok (.agg (cs m)) w :=
  run_loadVar_row w g 24 24 (cs m) (0, 0) _ h Try.underlying24 rfl (by kernel_rfl)
theorem pre_len {s p : List UInt8} (h : Lib.hasPrefix s p = true) : p.length ≤ s.length := (List.isPrefixOf_iff_prefix.1 h).length_le
theorem ex_of (t : ByteArray) (k : Nat) : (t.extract k t.size).data.toList = t.data.toList.drop k := by
  rw [← Lib.toList_data, Lib.extract_toList, Lib.size_eq]
  rw [List.take_of_length_le (by rw [List.length_drop]; exact Nat.le_refl _)]
theorem get_of (t : ByteArray) (i : Nat) (c : UInt8) (h : t.data.toList[i]? = some c) : ∀ h : i < t.size, t[i] = c := by
  intro hi
  rw [Array.getElem?_toList] at h
  have := Array.getElem?_eq_some_iff.1 h
  obtain ⟨_, e⟩ := this
  exact e
theorem cut_len (l sep : List UInt8) : (Lib.cut l sep).2.1.length ≤ l.length := by
  unfold Lib.cut
  split
  · rw [List.length_drop]; omega
  · exact Nat.zero_le _
theorem wi_lt (n : Nat) : ∀ s c, s < 2 ^ 256 → c + n ≤ 256 → wi s c n < 2 ^ 256 := by
  induction n with
  | zero => intro s c h _; exact h
  | succ n ih =>
    intro s c h hc
    exact ih _ _ (Nat.or_lt_two_pow h (Nat.pow_lt_pow_right (by decide) (by omega))) (by omega)
theorem len_end (text t : ByteArray) (h : t.size ≤ text.size) : (text.size : Int) - (t.size : Int) + 1 = ((text.data.toList.length - t.data.toList.length + 1 : Nat) : Int) := by
  rw [← Lib.size_eq, ← Lib.size_eq]
  omega
theorem St_eq (s : Nat) : St s = .agg #[.int .u64 (wd s 0), .int .u64 (wd s 1), .int .u64 (wd s 2), .int .u64 (wd s 3)] := rfl
/-- The state at an item: its variables' cells. -/
def At (w : World) (text : ByteArray) (s : Nat) (t : ByteArray) (turned first : Bool) (a : Act) (w' : World) : Prop :=
  ∃ u1 u10 u11 u12 u13 u14 u15 u16 u17 u18 u19 u20 u21 u22 u23 u24 u25 u26 u27 u28 u29 u30 u31 u32 u33 u34 u35 u36 u37 u38 u39 u40 u41 u42 u43 u44 u45 u46 u47 u48 u49 u50 u51 u52 u53 u54 u55 u56 u57 u58 u59 u60 u61 u62 u63 u64 u65 u66 u67 u68 u69 u70 u71 u72 u73 u74 u75 u76 u77 u78 u79 u80 u81 u82 u83 u84 u85 u86 u87 u88 u89 u90 u91 u92 u93 u94 u95 u96 u97 u98 u99 u100 u101 : Value, a = { tmps := #[.string text, u1, .pointer (some ⟨w.heap.size, 0, none⟩), .int .i64 0, .int .i64 0, .pointer (some ⟨w.heap.size + 1, 0, none⟩), .pointer (some ⟨w.heap.size + 1 + 1, 0, none⟩), .string t, .bool turned, .bool first, u10, u11, u12, u13, u14, u15, u16, u17, u18, u19, u20, u21, u22, u23, u24, u25, u26, u27, u28, u29, u30, u31, u32, u33, u34, u35, u36, u37, u38, u39, u40, u41, u42, u43, u44, u45, u46, u47, u48, u49, u50, u51, u52, u53, u54, u55, u56, u57, u58, u59, u60, u61, u62, u63, u64, u65, u66, u67, u68, u69, u70, u71, u72, u73, u74, u75, u76, u77, u78, u79, u80, u81, u82, u83, u84, u85, u86, u87, u88, u89, u90, u91, u92, u93, u94, u95, u96, u97, u98, u99, u100, u101], defers := [] } ∧ ∃ more : Nat, Aside0 (Var w.heap.size 0 w') ∧ Aside0 (s < 2 ^ 256) ∧ Aside0 (Var (w.heap.size + 1) s w') ∧ Aside0 (Var (w.heap.size + 1 + 1) more w') ∧ Aside0 (Below w.heap.size w w')
set_option linter.unusedSimpArgs false in
set_option maxHeartbeats 40000000 in
set_option maxRecDepth 100000 in
theorem bracket_calls (nm : List UInt8 → Option Nat)
    (hN : ∀ (name : ByteArray) (k : Nat) (w : World), name.size < 1000000 → nm name.data.toList = some k → Calls Try.prog 20 #[.string name] w fun e w' => e = .returned (.tuple #[St k, .bool (k != 0)]) ∧ Below w.heap.size w w')
    (hNb : ∀ name k, nm name = some k → k < 2 ^ 256) (text : ByteArray) (w : World) (m : Int) (hs : text.size < 1000000) (hm : w.cell? ⟨0, 0, none⟩ = some (.int .i64 m)) (r : Nat × Int × Int) (h : bracket nm text.data.toList = some r) :
    Calls Try.prog 23 #[.string text] w fun e w' => e = .returned (.tuple #[St r.1, .int .i64 r.2.1, .int .i64 r.2.2]) ∧ Below w.heap.size w w' := by
  have mixed : Try.prog.follows Departure.mixedOrders = true := by kernel_rfl
  unfold bracket at h
  obtain ⟨res, hres, hr⟩ := Option.map_eq_some_iff.1 h
  clear h
  have HR := Aside0.mk hr
  clear hr
  obtain ⟨turned, htu⟩ : ∃ b, Lib.hasPrefix text.data.toList [94] = b := ⟨_, rfl⟩
  obtain ⟨t0, ht0⟩ : ∃ t : ByteArray, t = ⟨(Lib.trimPrefix text.data.toList [94]).toArray⟩ := ⟨_, rfl⟩
  have kcut := fun w => Try.strings_CutPrefix text ⟨#[94]⟩ w
  have hlen0 : t0.size ≤ text.size := by
    rw [ht0, Lib.size_eq, Lib.size_eq]
    show (Lib.trimPrefix text.data.toList [94]).length ≤ _
    unfold Lib.trimPrefix
    split
    · rw [List.length_drop]; omega
    · exact Nat.le_refl _
  have hl0 : t0.data.toList = Lib.trimPrefix text.data.toList [94] := by rw [ht0]
  simp only [htu, ← ht0] at kcut
  rw [← hl0] at hres
  rw [htu] at HR
  have HR0 := Aside0.mk hres
  clear hres htu ht0 hl0
  have hw0 : 0 < w.heap.size := Go.block_lt_of_cell hm
  have HM := Aside0.mk hm
  clear hm
  go_enter Try.func23, Try.ntmps23
  go_wp2
  apply Goto.wp_scope_goto
  go_wp2_with (fail)
  refine (kcut _).mono ?_
  rintro e w1 ⟨rfl, rfl⟩
  go_wp2
  apply wp_label
  go_step
  go_step
  refine Goto.wp_label_loop 2 ?hf (fun n a w' => ∃ (s : Nat) (t : ByteArray) (first : Bool), Aside0 (brk nm n s t.data.toList first = some res) ∧ t.size ≤ text.size ∧ At w text s t turned first a w') (text.data.toList.length + 1) ?start ?round; case hf => rfl
  case start =>
    refine ⟨0, t0, true, HR0, hlen0, ?_⟩
    refine ⟨_, _, _, _, _, _, _, _, _, _, _, _, _, _, _, _, _, _, _, _, _, _, _, _, _, _, _, _, _, _, _, _, _, _, _, _, _, _, _, _, _, _, _, _, _, _, _, _, _, _, _, _, _, _, _, _, _, _, _, _, _, _, _, _, _, _, _, _, _, _, _, _, _, _, _, _, _, _, _, _, _, _, _, _, _, _, _, _, _, _, _, _, _, rfl, 0, ⟨(three _ _ _ _).1⟩, ⟨by decide⟩, ⟨(three _ _ _ _).2.1⟩, ⟨(three _ _ _ _).2.2⟩, ⟨(((Below.refl _ _).alloc (Nat.le_refl _) _).alloc (by simp) _).alloc (by simp; omega) _⟩⟩
  case round =>
    rintro n a w' ⟨s, t, first, HK, hlen, h⟩ J hJ hG hB
    clear hB HR0 hlen0 kcut
    unfold At at h
    obtain ⟨u1, u10, u11, u12, u13, u14, u15, u16, u17, u18, h⟩ := h
    obtain ⟨u19, u20, u21, u22, u23, u24, u25, u26, u27, u28, h⟩ := h
    obtain ⟨u29, u30, u31, u32, u33, u34, u35, u36, u37, u38, h⟩ := h
    obtain ⟨u39, u40, u41, u42, u43, u44, u45, u46, u47, u48, h⟩ := h
    obtain ⟨u49, u50, u51, u52, u53, u54, u55, u56, u57, u58, h⟩ := h
    obtain ⟨u59, u60, u61, u62, u63, u64, u65, u66, u67, u68, h⟩ := h
    obtain ⟨u69, u70, u71, u72, u73, u74, u75, u76, u77, u78, h⟩ := h
    obtain ⟨u79, u80, u81, u82, u83, u84, u85, u86, u87, u88, h⟩ := h
    obtain ⟨u89, u90, u91, u92, u93, u94, u95, u96, u97, u98, h⟩ := h
    obtain ⟨u99, u100, u101, h⟩ := h
    obtain ⟨rfl, more, H2, HS, H5, H6, HB⟩ := h
    obtain ⟨n, rfl⟩ : ∃ k, n = k + 1 := by
      cases n with
      | zero => exact absurd HK.out (by simp [brk])
      | succ k => exact ⟨k, rfl⟩
    have hSt := St_eq
    have htx : (text.size : Int) < 1000000 := by omega
    have hwrong : ∀ (u1 u10 u11 u12 u13 u14 u15 u16 u17 u18 u19 u20 u21 u22 u23 u24 u25 u26 u27 u28 u29 u30 u31 u32 u33 u34 u35 u36 u37 u38 u39 u40 u41 u42 u43 u44 u45 u46 u47 u48 u49 u50 u51 u52 u53 u54 u55 u56 u57 u58 u59 u60 u61 u62 u63 u64 u65 u66 u67 u68 u69 u70 u71 u72 u73 u74 u75 u76 u77 u78 u79 u80 u81 u82 u83 u84 u85 u86 u87 u88 u89 u90 u91 u92 u93 u94 u95 u96 u97 u98 u99 u100 u101 : Value) (t9 : ByteArray) (first9 : Bool) (w2 : World), res = none → Aside0 (Var w.heap.size 0 w2) → Aside0 (Below w.heap.size w w2) → J 0 { tmps := #[.string text, u1, .pointer (some ⟨w.heap.size, 0, none⟩), .int .i64 0, .int .i64 0, .pointer (some ⟨w.heap.size + 1, 0, none⟩), .pointer (some ⟨w.heap.size + 1 + 1, 0, none⟩), .string t9, .bool turned, .bool first9, u10, u11, u12, u13, u14, u15, u16, u17, u18, u19, u20, u21, u22, u23, u24, u25, u26, u27, u28, u29, u30, u31, u32, u33, u34, u35, u36, u37, u38, u39, u40, u41, u42, u43, u44, u45, u46, u47, u48, u49, u50, u51, u52, u53, u54, u55, u56, u57, u58, u59, u60, u61, u62, u63, u64, u65, u66, u67, u68, u69, u70, u71, u72, u73, u74, u75, u76, u77, u78, u79, u80, u81, u82, u83, u84, u85, u86, u87, u88, u89, u90, u91, u92, u93, u94, u95, u96, u97, u98, u99, u100, u101], defers := [] } w2 := by
      intro u1 u10 u11 u12 u13 u14 u15 u16 u17 u18 u19 u20 u21 u22 u23 u24 u25 u26 u27 u28 u29 u30 u31 u32 u33 u34 u35 u36 u37 u38 u39 u40 u41 u42 u43 u44 u45 u46 u47 u48 u49 u50 u51 u52 u53 u54 u55 u56 u57 u58 u59 u60 u61 u62 u63 u64 u65 u66 u67 u68 u69 u70 u71 u72 u73 u74 u75 u76 u77 u78 u79 u80 u81 u82 u83 u84 u85 u86 u87 u88 u89 u90 u91 u92 u93 u94 u95 u96 u97 u98 u99 u100 u101 t9 first9 w2 hres K2 KB
      clear H2 H5 H6 HB HK hJ
      refine hG 0 _ _ _ rfl ?_
      obtain ⟨e0, e1, e2, e3⟩ := K2.out.cell
      obtain ⟨f0, f1, f2, f3⟩ := K2.out.free
      go_wp2
      try rw [Goto.Jumps_ret]
      refine bodyPost_ret (results_cell_tmp2 rfl _ _ w.heap.size (cs 0) rfl (K2.out.put (n := 0)).load) rfl ?_
      have hr := HR.out
      rw [hres] at hr
      rw [← hr]
      exact ⟨rfl, below_put KB.out (Nat.le_refl _) _ _ _ _⟩
    have hnext : ∀ (u1 u10 u11 u12 u13 u14 u15 u16 u17 u18 u19 u20 u21 u22 u23 u24 u25 u26 u27 u28 u29 u30 u31 u32 u33 u34 u35 u36 u37 u38 u39 u40 u41 u42 u43 u44 u45 u46 u47 u48 u49 u50 u51 u52 u53 u54 u55 u56 u57 u58 u59 u60 u61 u62 u63 u64 u65 u66 u67 u68 u69 u70 u71 u72 u73 u74 u75 u76 u77 u78 u79 u80 u81 u82 u83 u84 u85 u86 u87 u88 u89 u90 u91 u92 u93 u94 u95 u96 u97 u98 u99 u100 u101 : Value) (s9 : Nat) (t9 : ByteArray) (first9 : Bool) (more9 : Nat) (w2 : World), Aside0 ((if Lib.hasPrefix t9.data.toList [93] = true then some (some (s9, t9.data.toList)) else brk nm n s9 t9.data.toList false) = some res) → t9.size ≤ text.size →
        Aside0 (Var w.heap.size 0 w2) → Aside0 (s9 < 2 ^ 256) → Aside0 (Var (w.heap.size + 1) s9 w2) → Aside0 (Var (w.heap.size + 1 + 1) more9 w2) → Aside0 (Below w.heap.size w w2) → J 1 { tmps := #[.string text, u1, .pointer (some ⟨w.heap.size, 0, none⟩), .int .i64 0, .int .i64 0, .pointer (some ⟨w.heap.size + 1, 0, none⟩), .pointer (some ⟨w.heap.size + 1 + 1, 0, none⟩), .string t9, .bool turned, .bool first9, u10, u11, u12, u13, u14, u15, u16, u17, u18, u19, u20, u21, u22, u23, u24, u25, u26, u27, u28, u29, u30, u31, u32, u33, u34, u35, u36, u37, u38, u39, u40, u41, u42, u43, u44, u45, u46, u47, u48, u49, u50, u51, u52, u53, u54, u55, u56, u57, u58, u59, u60, u61, u62, u63, u64, u65, u66, u67, u68, u69, u70, u71, u72, u73, u74, u75, u76, u77, u78, u79, u80, u81, u82, u83, u84, u85, u86, u87, u88, u89, u90, u91, u92, u93, u94, u95, u96, u97, u98, u99, u100, u101], defers := [] } w2 := by
      intro u1 u10 u11 u12 u13 u14 u15 u16 u17 u18 u19 u20 u21 u22 u23 u24 u25 u26 u27 u28 u29 u30 u31 u32 u33 u34 u35 u36 u37 u38 u39 u40 u41 u42 u43 u44 u45 u46 u47 u48 u49 u50 u51 u52 u53 u54 u55 u56 u57 u58 u59 u60 u61 u62 u63 u64 u65 u66 u67 u68 u69 u70 u71 u72 u73 u74 u75 u76 u77 u78 u79 u80 u81 u82 u83 u84 u85 u86 u87 u88 u89 u90 u91 u92 u93 u94 u95 u96 u97 u98 u99 u100 u101 s9 t9 first9 more9 w2 HC hl9 K2 KS K5 K6 KB
      clear H2 H5 H6 HB HK hwrong
      refine hG 1 _ _ _ rfl ?_
      have hl9' : (t9.size : Int) ≤ (text.size : Int) := by omega
      obtain ⟨p, hp⟩ : ∃ p, Lib.hasPrefix t9.data.toList [93] = p := ⟨_, rfl⟩
      have kp := fun w => Try.strings_HasPrefix t9 ⟨#[93]⟩ w
      simp only [hp] at kp
      rw [hp] at HC
      clear hp
      cases p with
      | false =>
        rw [if_neg (by decide)] at HC
        go_wp2_with (refine (kp _).mono ?_; rintro e w3 ⟨rfl, rfl⟩)
        apply wp_goto
        refine hJ n _ _ (Nat.lt_succ_self n) ⟨s9, t9, false, HC, hl9, ?_⟩
        exact ⟨_, _, _, _, _, _, _, _, _, _, _, _, _, _, _, _, _, _, _, _, _, _, _, _, _, _, _, _, _, _, _, _, _, _, _, _, _, _, _, _, _, _, _, _, _, _, _, _, _, _, _, _, _, _, _, _, _, _, _, _, _, _, _, _, _, _, _, _, _, _, _, _, _, _, _, _, _, _, _, _, _, _, _, _, _, _, _, _, _, _, _, _, _, rfl, more9, K2, KS, K5, K6, KB⟩
      | true =>
        rw [if_pos rfl] at HC
        obtain ⟨c0, c1, c2, c3⟩ := K5.out.cell
        obtain ⟨g0, g1, g2, g3⟩ := K5.out.free
        obtain ⟨e0, e1, e2, e3⟩ := K2.out.cell
        obtain ⟨f0, f1, f2, f3⟩ := K2.out.free
        cases turned with
        | false =>
          go_wp2_with (refine (kp _).mono ?_; rintro e w3 ⟨rfl, rfl⟩)
          try rw [Goto.Jumps_ret]
          refine bodyPost_ret (results_cell_tmp2 rfl _ _ w.heap.size (cs s9) rfl (K2.out.put (n := s9)).load) rfl ?_
          have hr := HR.out
          rw [← Option.some.inj HC.out] at hr
          rw [← hr]
          refine ⟨?_, below_put KB.out (Nat.le_refl _) _ _ _ _⟩
          show Ending.returned (.tuple #[.agg (cs s9), .int .i64 (↑text.size - ↑t9.size + 1), .int .i64 0]) = _
          rw [len_end text t9 hl9]
          rfl
        | true =>
          have hnot := fun w => not_calls (wi s9 10 (10 + 1 - 10)) w (wi_lt _ _ _ KS.out (by decide))
          have hwith := fun w => with_calls s9 10 10 w (by decide) (by decide)
          obtain ⟨s10, hs10⟩ : ∃ s10, wi s9 10 (10 + 1 - 10) = s10 := ⟨_, rfl⟩
          rw [hs10] at hnot
          simp only [hs10] at hwith
          have HS10 := Aside0.mk hs10
          clear hs10
          go_wp2_with (refine (kp _).mono ?_; rintro e w3 ⟨rfl, rfl⟩)
          go_wp2_with (fail)
          refine (hwith _).mono ?_
          rintro e w3 ⟨rfl, hb3⟩
          go_wp2_with (fail)
          refine (hnot _).mono ?_
          rintro e w4 ⟨rfl, hb4⟩
          have K54 := (K5.out.below hb3).below hb4
          have K24 := (K2.out.below hb3).below hb4
          have KB4 := Aside0.mk ((KB.out.trans (hb3.mono KB.out.size)).trans (hb4.mono (Nat.le_trans KB.out.size hb3.size)))
          clear c0 c1 c2 c3 g0 g1 g2 g3 e0 e1 e2 e3 f0 f1 f2 f3 hb3 hb4
          obtain ⟨c0, c1, c2, c3⟩ := K54.cell
          obtain ⟨g0, g1, g2, g3⟩ := K54.free
          obtain ⟨e0, e1, e2, e3⟩ := K24.cell
          obtain ⟨f0, f1, f2, f3⟩ := K24.free
          obtain ⟨d0, d1, d2, d3⟩ := (K54.put (n := compl s10)).cell
          have K2p := K24.far (Nat.ne_of_lt (Nat.lt_succ_self w.heap.size)) (.int .u64 (wd (compl s10) 0)) (.int .u64 (wd (compl s10) 1)) (.int .u64 (wd (compl s10) 2)) (.int .u64 (wd (compl s10) 3))
          obtain ⟨l0, l1, l2, l3⟩ := K2p.free
          rw [hSt]
          go_wp2
          try rw [Goto.Jumps_ret]
          refine bodyPost_ret (results_cell_tmp2 rfl _ _ w.heap.size (cs (compl s10)) rfl (K2p.put (n := compl s10)).load) rfl ?_
          have hr := HR.out
          rw [← Option.some.inj HC.out] at hr
          rw [← hr]
          refine ⟨?_, below_put (below_put KB4.out (Nat.le_succ _) _ _ _ _) (Nat.le_refl _) _ _ _ _⟩
          show Ending.returned (.tuple #[.agg (cs (compl s10)), .int .i64 (↑text.size - ↑t9.size + 1), .int .i64 0]) = _
          rw [len_end text t9 hl9, ← HS10.out]
          rfl
    obtain ⟨p, hp⟩ : ∃ p, Lib.hasPrefix t.data.toList [91, 58] = p := ⟨_, rfl⟩
    have kp := fun w => Try.strings_HasPrefix t ⟨#[91, 58]⟩ w
    simp only [hp] at kp
    have hl' : (t.size : Int) ≤ (text.size : Int) := by omega
    cases p with
    | true =>
      obtain ⟨k, hk, hi⟩ := item_name HK.out hp
      have h2 : 2 ≤ t.data.toList.length := pre_len hp
      rw [← Lib.size_eq] at h2
      have h2i : (2 : Int) ≤ (t.size : Int) := by omega
      have hl2 := ex_of t 2
      obtain ⟨t2, ht2⟩ : ∃ t2, t.extract 2 t.size = t2 := ⟨_, rfl⟩
      rw [ht2] at hl2
      have hs2 : t2.size ≤ t.size := by rw [Lib.size_eq, hl2, List.length_drop, ← Lib.size_eq]; omega
      have hm' : w'.cell? ⟨0, 0, none⟩ = some (.int .i64 m) := (HB.out.cell (p := ⟨0, 0, none⟩) hw0).trans HM.out
      have kc := Try.strings_Cut t2 ⟨#[58, 93]⟩ m w' (by omega) hm'
      rw [hl2] at kc
      rw [← hl2] at hk hi
      rw [← hl2] at kc
      have hlen1 := cut_len t2.data.toList [58, 93]
      obtain ⟨q1, hq1⟩ : ∃ q, (Lib.cut t2.data.toList [58, 93]).1 = q := ⟨_, rfl⟩
      obtain ⟨q2, hq2⟩ : ∃ q, (Lib.cut t2.data.toList [58, 93]).2.1 = q := ⟨_, rfl⟩
      obtain ⟨q3, hq3⟩ : ∃ q, (Lib.cut t2.data.toList [58, 93]).2.2 = q := ⟨_, rfl⟩
      have hlen0' : q1.length ≤ t2.data.toList.length := by
        rw [← hq1]
        unfold Lib.cut
        split
        · exact List.length_take_le' _ _
        · exact Nat.le_refl _
      rw [hq1] at hk
      rw [hq2, hq3] at hi
      rw [hq2] at hlen1
      have kc' : Calls Try.prog 29 #[.string t2, .string ⟨#[58, 93]⟩] w' fun e w'' => e = .returned (.tuple #[.string ⟨q1.toArray⟩, .string ⟨q2.toArray⟩, .bool q3]) ∧ ∃ n, w'' = w'.drewN n := by
        rw [← hq1, ← hq2, ← hq3]
        exact kc
      clear kc hq1 hq2 hq3 hm'
      obtain ⟨b1, hb1⟩ : ∃ b : ByteArray, ⟨q1.toArray⟩ = b := ⟨_, rfl⟩
      obtain ⟨b2, hb2⟩ : ∃ b : ByteArray, ⟨q2.toArray⟩ = b := ⟨_, rfl⟩
      have hbl1 : b1.data.toList = q1 := by rw [← hb1]
      have hbl2 : b2.data.toList = q2 := by rw [← hb2]
      rw [hb1, hb2] at kc'
      rw [← hbl1] at hk hlen0'
      rw [← hbl2] at hi hlen1
      have hbs1 : b1.size < 1000000 := by rw [← Lib.size_eq, ← Lib.size_eq] at hlen0'; omega
      have hbs2 : b2.size ≤ text.size := by rw [← Lib.size_eq, ← Lib.size_eq] at hlen1; omega
      clear hb1 hb2 hbl1 hbl2 hlen1 hlen0'
      have kn := fun w => hN b1 k w hbs1 hk
      go_wp2_with (refine (kp _).mono ?_; rintro e w3 ⟨rfl, hw3⟩; rw [hw3]; clear hw3 w3)
      have hkb := Aside0.mk (hNb _ _ hk)
      obtain ⟨b, hb⟩ : ∃ b, (k != 0) = b := ⟨_, rfl⟩
      simp only [hb] at kn
      by_cases hgo : b = true ∧ q3 = true
      · obtain ⟨rfl, rfl⟩ := hgo
        have hk0 : ¬ k = 0 := by simpa using hb
        rw [if_neg (by rintro (h | h); exact hk0 h; cases h)] at hi
        go_wp2_with (fail)
        refine kc'.mono ?_
        rintro e w3 ⟨rfl, j, rfl⟩
        go_wp2_with (fail)
        refine (kn _).mono ?_
        rintro e w4 ⟨rfl, hb4⟩
        rw [hSt]
        have K24 : Var w.heap.size 0 w4 := (show Var w.heap.size 0 (w'.drewN j) from H2.out).below hb4
        have K54 : Var (w.heap.size + 1) s w4 := (show Var (w.heap.size + 1) s (w'.drewN j) from H5.out).below hb4
        have K64 : Var (w.heap.size + 1 + 1) more w4 := (show Var (w.heap.size + 1 + 1) more (w'.drewN j) from H6.out).below hb4
        have KB4 : Below w.heap.size w w4 := (show Below w.heap.size w (w'.drewN j) from ⟨HB.out.os, HB.out.tape, HB.out.output, HB.out.size, HB.out.block⟩).trans (hb4.mono HB.out.size)
        clear hb4
        obtain ⟨e0, e1, e2, e3⟩ := K64.cell
        obtain ⟨f0, f1, f2, f3⟩ := K64.free
        have K2p := Aside0.mk (K24.far (k := w.heap.size + 1 + 1) (by omega) (.int .u64 (wd k 0)) (.int .u64 (wd k 1)) (.int .u64 (wd k 2)) (.int .u64 (wd k 3)))
        have K5p := Aside0.mk (K54.far (k := w.heap.size + 1 + 1) (by omega) (.int .u64 (wd k 0)) (.int .u64 (wd k 1)) (.int .u64 (wd k 2)) (.int .u64 (wd k 3)))
        have K6p := Aside0.mk (K64.put (n := k))
        have KBp := Aside0.mk (below_put KB4 (show w.heap.size ≤ w.heap.size + 1 + 1 by omega) (.int .u64 (wd k 0)) (.int .u64 (wd k 1)) (.int .u64 (wd k 2)) (.int .u64 (wd k 3)))
        obtain ⟨c0, c1, c2, c3⟩ := K5p.out.cell
        obtain ⟨g0, g1, g2, g3⟩ := K5p.out.free
        obtain ⟨d0, d1, d2, d3⟩ := K6p.out.cell
        go_wp2_with (fail)
        refine (both_calls s k _).mono ?_
        rintro e w5 ⟨rfl, hb5⟩
        rw [hSt]
        have K25 := K2p.out.below hb5
        have K55 := K5p.out.below hb5
        have K65 := K6p.out.below hb5
        have KB5 := KBp.out.trans (hb5.mono KBp.out.size)
        clear hb5 c0 c1 c2 c3 g0 g1 g2 g3 d0 d1 d2 d3 e0 e1 e2 e3 f0 f1 f2 f3
        obtain ⟨c0, c1, c2, c3⟩ := K55.cell
        obtain ⟨g0, g1, g2, g3⟩ := K55.free
        go_wp2
        apply wp_goto
        refine hnext _ _ _ _ _ _ _ _ _ _ _ _ _ _ _ _ _ _ _ _ _ _ _ _ _ _ _ _ _ _ _ _ _ _ _ _ _ _ _ _ _ _ _ _ _ _ _ _ _ _ _ _ _ _ _ _ _ _ _ _ _ _ _ _ _ _ _ _ _ _ _ _ _ _ _ _ _ _ _ _ _ _ _ _ _ _ _ _ _ _ _ _ _ (s ||| k) b2 _ k _ ⟨brk_go HK.out hi⟩ hbs2 ⟨K25.far (by omega) _ _ _ _⟩ ⟨Nat.or_lt_two_pow HS.out hkb.out⟩ ⟨K55.put⟩ ⟨K65.far (by omega) _ _ _ _⟩ ⟨below_put KB5 (by omega) _ _ _ _⟩
      · have hw : k = 0 ∨ q3 = false := by
          cases q3 with
          | false => exact .inr rfl
          | true =>
            left
            cases b with
            | true => exact absurd ⟨rfl, rfl⟩ hgo
            | false => simpa using hb
        rw [if_pos hw] at hi
        clear hw hb
        cases b with
        | false =>
          go_wp2_with (fail)
          refine kc'.mono ?_
          rintro e w3 ⟨rfl, j, rfl⟩
          go_wp2_with (fail)
          refine (kn _).mono ?_
          rintro e w4 ⟨rfl, hb4⟩
          rw [hSt]
          have K24 : Var w.heap.size 0 w4 := (show Var w.heap.size 0 (w'.drewN j) from H2.out).below hb4
          have K54 : Var (w.heap.size + 1) s w4 := (show Var (w.heap.size + 1) s (w'.drewN j) from H5.out).below hb4
          have K64 : Var (w.heap.size + 1 + 1) more w4 := (show Var (w.heap.size + 1 + 1) more (w'.drewN j) from H6.out).below hb4
          have KB4 : Below w.heap.size w w4 := (show Below w.heap.size w (w'.drewN j) from ⟨HB.out.os, HB.out.tape, HB.out.output, HB.out.size, HB.out.block⟩).trans (hb4.mono HB.out.size)
          clear hb4
          obtain ⟨e0, e1, e2, e3⟩ := K64.cell
          obtain ⟨f0, f1, f2, f3⟩ := K64.free
          have K2p := Aside0.mk (K24.far (k := w.heap.size + 1 + 1) (by omega) (.int .u64 (wd k 0)) (.int .u64 (wd k 1)) (.int .u64 (wd k 2)) (.int .u64 (wd k 3)))
          have K5p := Aside0.mk (K54.far (k := w.heap.size + 1 + 1) (by omega) (.int .u64 (wd k 0)) (.int .u64 (wd k 1)) (.int .u64 (wd k 2)) (.int .u64 (wd k 3)))
          have K6p := Aside0.mk (K64.put (n := k))
          have KBp := Aside0.mk (below_put KB4 (show w.heap.size ≤ w.heap.size + 1 + 1 by omega) (.int .u64 (wd k 0)) (.int .u64 (wd k 1)) (.int .u64 (wd k 2)) (.int .u64 (wd k 3)))
          go_wp2
          apply wp_goto
          refine hwrong _ _ _ _ _ _ _ _ _ _ _ _ _ _ _ _ _ _ _ _ _ _ _ _ _ _ _ _ _ _ _ _ _ _ _ _ _ _ _ _ _ _ _ _ _ _ _ _ _ _ _ _ _ _ _ _ _ _ _ _ _ _ _ _ _ _ _ _ _ _ _ _ _ _ _ _ _ _ _ _ _ _ _ _ _ _ _ _ _ _ _ _ _ _ _ _ (brk_wrong HK.out hi) K2p KBp
        | true =>
          have hq : q3 = false := by
            cases q3 with
            | false => rfl
            | true => exact absurd ⟨rfl, rfl⟩ hgo
          subst hq
          go_wp2_with (fail)
          refine kc'.mono ?_
          rintro e w3 ⟨rfl, j, rfl⟩
          go_wp2_with (fail)
          refine (kn _).mono ?_
          rintro e w4 ⟨rfl, hb4⟩
          rw [hSt]
          have K24 : Var w.heap.size 0 w4 := (show Var w.heap.size 0 (w'.drewN j) from H2.out).below hb4
          have K54 : Var (w.heap.size + 1) s w4 := (show Var (w.heap.size + 1) s (w'.drewN j) from H5.out).below hb4
          have K64 : Var (w.heap.size + 1 + 1) more w4 := (show Var (w.heap.size + 1 + 1) more (w'.drewN j) from H6.out).below hb4
          have KB4 : Below w.heap.size w w4 := (show Below w.heap.size w (w'.drewN j) from ⟨HB.out.os, HB.out.tape, HB.out.output, HB.out.size, HB.out.block⟩).trans (hb4.mono HB.out.size)
          clear hb4
          obtain ⟨e0, e1, e2, e3⟩ := K64.cell
          obtain ⟨f0, f1, f2, f3⟩ := K64.free
          have K2p := Aside0.mk (K24.far (k := w.heap.size + 1 + 1) (by omega) (.int .u64 (wd k 0)) (.int .u64 (wd k 1)) (.int .u64 (wd k 2)) (.int .u64 (wd k 3)))
          have K5p := Aside0.mk (K54.far (k := w.heap.size + 1 + 1) (by omega) (.int .u64 (wd k 0)) (.int .u64 (wd k 1)) (.int .u64 (wd k 2)) (.int .u64 (wd k 3)))
          have K6p := Aside0.mk (K64.put (n := k))
          have KBp := Aside0.mk (below_put KB4 (show w.heap.size ≤ w.heap.size + 1 + 1 by omega) (.int .u64 (wd k 0)) (.int .u64 (wd k 1)) (.int .u64 (wd k 2)) (.int .u64 (wd k 3)))
          go_wp2
          apply wp_goto
          refine hwrong _ _ _ _ _ _ _ _ _ _ _ _ _ _ _ _ _ _ _ _ _ _ _ _ _ _ _ _ _ _ _ _ _ _ _ _ _ _ _ _ _ _ _ _ _ _ _ _ _ _ _ _ _ _ _ _ _ _ _ _ _ _ _ _ _ _ _ _ _ _ _ _ _ _ _ _ _ _ _ _ _ _ _ _ _ _ _ _ _ _ _ _ _ _ _ _ (brk_wrong HK.out hi) K2p KBp
    | false =>
      obtain ⟨b, hb⟩ : ∃ b, single t.data.toList first = b := ⟨_, rfl⟩
      have ks := fun w => single_calls t first w
      simp only [hb] at ks
      cases b with
      | false =>
        go_wp2_with (fail)
        refine (kp _).mono ?_
        rintro e w3 ⟨rfl, hw3⟩; rw [hw3]; clear hw3 w3
        go_wp2_with (fail)
        refine (ks _).mono ?_
        rintro e w3 ⟨rfl, hw3⟩; rw [hw3]; clear hw3 w3
        go_wp2
        apply wp_goto
        refine hwrong _ _ _ _ _ _ _ _ _ _ _ _ _ _ _ _ _ _ _ _ _ _ _ _ _ _ _ _ _ _ _ _ _ _ _ _ _ _ _ _ _ _ _ _ _ _ _ _ _ _ _ _ _ _ _ _ _ _ _ _ _ _ _ _ _ _ _ _ _ _ _ _ _ _ _ _ _ _ _ _ _ _ _ _ _ _ _ _ _ _ _ _ _ _ _ _ (brk_wrong HK.out (item_wrong hp hb)) H2 HB
      | true =>
        cases hL : t.data.toList with
        | nil => rw [hL] at hb; cases hb
        | cons c0 l0 =>
          have x0 := get_of t 0 c0 (by rw [hL]; rfl)
          have hsz : t.size = l0.length + 1 := by rw [Lib.size_eq, hL]; rfl
          have z0 : (0 : Int) < (t.size : Int) := by omega
          have zn0 : 0 < t.size := by omega
          have z1 : (1 : Int) ≤ (t.size : Int) := by omega
          rw [hL] at hp hb
          have hlo : c0.toNat < 256 := c0.toNat_lt
          obtain ⟨a0, a1, a2, a3⟩ := H5.out.cell
          by_cases hr : ∃ c2 l', ¬ c2 = 93 ∧ l0 = 45 :: c2 :: l'
          · obtain ⟨c2, l, h93, rfl⟩ := hr
            have x1 := get_of t 1 45 (by rw [hL]; rfl)
            have x2 := get_of t 2 c2 (by rw [hL]; rfl)
            have hsz' : t.size = l.length + 3 := by rw [hsz]; rfl
            have z2 : (2 : Int) < (t.size : Int) := by omega
            have zn2 : 2 < t.size := by omega
            have zn3 : 3 ≤ t.size := by omega
            have z2' : (2 : Int) ≤ (t.size : Int) := by omega
            have z3 : (3 : Int) ≤ (t.size : Int) := by omega
            have z1' : (1 : Int) < (t.size : Int) := by omega
            have d93 : ¬ (c2.toNat : Int) = 93 := fun h => h93 (UInt8.toNat_inj.1 (by show c2.toNat = 93; omega))
            have hl2 := ex_of t 2
            have hl3 := ex_of t 3
            obtain ⟨t2, ht2⟩ : ∃ t2, t.extract 2 t.size = t2 := ⟨_, rfl⟩
            obtain ⟨t3, ht3⟩ : ∃ t3, t.extract 3 t.size = t3 := ⟨_, rfl⟩
            rw [ht2, hL] at hl2
            rw [ht3, hL] at hl3
            change t2.data.toList = c2 :: l at hl2
            change t3.data.toList = l at hl3
            have hi := item_range (nm := nm) (s := s) hp hb h93
            obtain ⟨b2, hb2⟩ : ∃ b, single (c2 :: l) false = b := ⟨_, rfl⟩
            have ks2 := fun w => single_calls t2 false w
            rw [hl2] at ks2
            simp only [hb2] at ks2
            rw [hb2] at hi
            have hk2 := HK.out
            rw [hL] at hk2
            have HK2 := Aside0.mk hk2
            clear hk2 hsz hL hp hb
            have HSZ := Aside0.mk hsz'
            have HL3 := Aside0.mk hl3
            have KS2 := Aside0.mk ks2
            clear hsz' hl2 hl3 hb2 ks2 hl' htx hSt
            cases b2 with
            | false =>
              rw [if_pos (Or.inl rfl)] at hi
              have HI := Aside0.mk hi
              clear hi
              go_wp2_with (fail)
              refine (kp _).mono ?_
              rintro e w3 ⟨rfl, hw3⟩; rw [hw3]; clear hw3 w3
              go_wp2_with (fail)
              refine (ks _).mono ?_
              rintro e w3 ⟨rfl, hw3⟩; rw [hw3]; clear hw3 w3 kp ks
              go_wp2
              go_quiet (first | (go_at_call 30; refine Calls.quiet_of_same (KS2.out _)))
              go_wp2
              apply wp_goto
              refine hwrong _ _ _ _ _ _ _ _ _ _ _ _ _ _ _ _ _ _ _ _ _ _ _ _ _ _ _ _ _ _ _ _ _ _ _ _ _ _ _ _ _ _ _ _ _ _ _ _ _ _ _ _ _ _ _ _ _ _ _ _ _ _ _ _ _ _ _ _ _ _ _ _ _ _ _ _ _ _ _ _ _ _ _ _ _ _ _ _ _ _ _ _ _ _ _ _ (brk_wrong HK2.out HI.out) ⟨H2.out⟩ ⟨⟨HB.out.os, HB.out.tape, HB.out.output, HB.out.size, HB.out.block⟩⟩
            | true =>
              by_cases hlt : c2.toNat < c0.toNat
              · rw [if_pos (Or.inr hlt)] at hi
                have hlti : (c2.toNat : Int) < (c0.toNat : Int) := by omega
                have HI := Aside0.mk hi
                clear hi
                go_wp2_with (fail)
                refine (kp _).mono ?_
                rintro e w3 ⟨rfl, hw3⟩; rw [hw3]; clear hw3 w3
                go_wp2_with (fail)
                refine (ks _).mono ?_
                rintro e w3 ⟨rfl, hw3⟩; rw [hw3]; clear hw3 w3 kp ks
                go_wp2
                go_quiet (first | (go_at_call 30; refine Calls.quiet_of_same (KS2.out _)))
                go_wp2
                apply wp_goto
                refine hwrong _ _ _ _ _ _ _ _ _ _ _ _ _ _ _ _ _ _ _ _ _ _ _ _ _ _ _ _ _ _ _ _ _ _ _ _ _ _ _ _ _ _ _ _ _ _ _ _ _ _ _ _ _ _ _ _ _ _ _ _ _ _ _ _ _ _ _ _ _ _ _ _ _ _ _ _ _ _ _ _ _ _ _ _ _ _ _ _ _ _ _ _ _ _ _ _ (brk_wrong HK2.out HI.out) ⟨H2.out⟩ ⟨⟨HB.out.os, HB.out.tape, HB.out.output, HB.out.size, HB.out.block⟩⟩
              · rw [if_neg (by rintro (h | h); cases h; exact hlt h)] at hi
                have hlti : ¬ (c2.toNat : Int) < (c0.toNat : Int) := by omega
                have HI : Aside0 (item nm s (c0 :: 45 :: c2 :: l) first = some (some (wi s c0.toNat (c2.toNat + 1 - c0.toNat), t3.data.toList))) := ⟨by rw [HL3.out]; exact hi⟩
                clear hi
                have hhi : c2.toNat < 256 := c2.toNat_lt
                have hs3 : t3.size ≤ text.size := by rw [Lib.size_eq, HL3.out]; have := HSZ.out; omega
                go_wp2_with (fail)
                refine (kp _).mono ?_
                rintro e w3 ⟨rfl, hw3⟩; rw [hw3]; clear hw3 w3
                go_wp2_with (fail)
                refine (ks _).mono ?_
                rintro e w3 ⟨rfl, hw3⟩; rw [hw3]; clear hw3 w3 kp ks
                go_wp2
                go_quiet (first | (go_at_call 30; refine Calls.quiet_of_same (KS2.out _)))
                go_wp2
                obtain ⟨w6, hw6⟩ : ∃ x, x = w'.drewN nq := ⟨_, rfl⟩
                have L2 : Aside0 (Var w.heap.size 0 w6) := ⟨by rw [hw6]; exact H2.out⟩
                have L5 : Aside0 (Var (w.heap.size + 1) s w6) := ⟨by rw [hw6]; exact H5.out⟩
                have L6 : Aside0 (Var (w.heap.size + 1 + 1) more w6) := ⟨by rw [hw6]; exact H6.out⟩
                have LB : Aside0 (Below w.heap.size w w6) := ⟨by rw [hw6]; exact ⟨HB.out.os, HB.out.tape, HB.out.output, HB.out.size, HB.out.block⟩⟩
                rw [← hw6]
                clear hw6 H2 H5 H6 HB a0 a1 a2 a3
                obtain ⟨a0, a1, a2, a3⟩ := L5.out.cell
                refine Code.wp_mono (Q := fun e a w3 => e = .normal ∧ ∃ (s9 : Nat) (t9 : ByteArray), Aside0 ((if Lib.hasPrefix t9.data.toList [93] = true then some (some (s9, t9.data.toList)) else brk nm n s9 t9.data.toList false) = some res) ∧ t9.size ≤ text.size ∧ At w text s9 t9 turned first a w3) ?rest13 ?reg13
                case reg13 =>
                  clear hnext hwrong
                  refine Tk.start #[false, false, false, false, false, false, false, false, false, false] 10 mixed rfl rfl ?_
                  refine Tk.take (i := 1) (v := ?_) #[false, true, false, false, false, false, false, false, false, false] rfl (by kernel_rfl) (by kernel_rfl) (by kernel_rfl) rfl (fun _ _ _ h => nomatch h.1) (by kernel_rfl) ?_ ?_
                  rotate_left
                  · (intro w9; go_simp; with_reducible rfl)
                  simp only [Act.put, List.setIfInBounds_toArray, List.set_cons_zero, List.set_cons_succ]
                  refine Tk.take (i := 2) (v := ?_) #[false, true, true, false, false, false, false, false, false, false] rfl (by kernel_rfl) (by kernel_rfl) (by kernel_rfl) rfl (fun _ _ _ h => nomatch h.1) (by kernel_rfl) ?_ ?_
                  rotate_left
                  · (intro w9; go_simp; with_reducible rfl)
                  simp only [Act.put, List.setIfInBounds_toArray, List.set_cons_zero, List.set_cons_succ]
                  refine Tk.take (i := 3) (v := ?_) #[false, true, true, true, false, false, false, false, false, false] rfl (by kernel_rfl) (by kernel_rfl) (by kernel_rfl) rfl (fun _ _ _ h => nomatch h.1) (by kernel_rfl) ?_ ?_
                  rotate_left
                  · (intro w9; go_simp; with_reducible rfl)
                  simp only [Act.put, List.setIfInBounds_toArray, List.set_cons_zero, List.set_cons_succ]
                  refine Tk.take (i := 4) (v := ?_) #[false, true, true, true, true, false, false, false, false, false] rfl (by kernel_rfl) (by kernel_rfl) (by kernel_rfl) rfl (fun _ _ _ h => nomatch h.1) (by kernel_rfl) ?_ ?_
                  rotate_left
                  · (intro w9; go_simp; with_reducible rfl)
                  simp only [Act.put, List.setIfInBounds_toArray, List.set_cons_zero, List.set_cons_succ]
                  refine Tk.take (i := 6) (v := ?_) #[false, true, true, true, true, false, true, false, false, false] rfl (by kernel_rfl) (by kernel_rfl) (by kernel_rfl) rfl (fun _ _ _ h => nomatch h.1) (by kernel_rfl) ?_ ?_
                  rotate_left
                  · (intro w9; go_simp; with_reducible rfl)
                  simp only [Act.put, List.setIfInBounds_toArray, List.set_cons_zero, List.set_cons_succ]
                  refine Tk.take (i := 7) (v := ?_) #[false, true, true, true, true, false, true, true, false, false] rfl (by kernel_rfl) (by kernel_rfl) (by kernel_rfl) rfl (fun _ _ _ h => nomatch h.1) (by kernel_rfl) ?_ ?_
                  rotate_left
                  · (intro w9; go_simp; with_reducible rfl)
                  simp only [Act.put, List.setIfInBounds_toArray, List.set_cons_zero, List.set_cons_succ]
                  refine Tk.one (i := 0) #[true, true, true, true, true, false, true, true, false, false] rfl (by kernel_rfl) rfl (by kernel_rfl) (fun K hK => ?_)
                  go_simp
                  refine hK _ _ ?_
                  clear hK K
                  try simp only [Act.put, List.setIfInBounds_toArray, List.set_cons_zero, List.set_cons_succ]
                  refine Tk.one (i := 5) #[true, true, true, true, true, true, true, true, false, false] rfl (by kernel_rfl) rfl (by kernel_rfl) (fun K hK => ?_)
                  go_simp
                  refine (with_calls s c0.toNat c2.toNat _ hlo hhi).mono ?_
                  rintro e w7 ⟨rfl, hb7⟩
                  rw [St_eq]
                  have M5 := (show Var (w.heap.size + 1) s w6.drew from L5.out).below hb7
                  have M2 := (show Var w.heap.size 0 w6.drew from L2.out).below hb7
                  have M6 := (show Var (w.heap.size + 1 + 1) more w6.drew from L6.out).below hb7
                  have MB := LB.out.drew.trans (hb7.mono LB.out.drew.size)
                  obtain ⟨c0', c1', c2', c3'⟩ := M5.cell
                  obtain ⟨g0', g1', g2', g3'⟩ := M5.free
                  clear hb7
                  refine hK _ _ ?_
                  clear hK K
                  try simp only [Act.put, List.setIfInBounds_toArray, List.set_cons_zero, List.set_cons_succ]
                  refine Tk.one (i := 8) #[true, true, true, true, true, true, true, true, true, false] rfl (by kernel_rfl) rfl (by kernel_rfl) (fun K hK => ?_)
                  go_simp
                  refine hK _ _ ?_
                  clear hK K
                  refine Tk.one (i := 9) #[true, true, true, true, true, true, true, true, true, true] rfl (by kernel_rfl) rfl (by kernel_rfl) (fun K hK => ?_)
                  go_simp
                  refine hK _ _ ?_
                  clear hK K
                  try simp only [Act.put, List.setIfInBounds_toArray, List.set_cons_zero, List.set_cons_succ]
                  refine Tk.done (by kernel_rfl) ?_
                  exact ⟨rfl, _, t3, ⟨brk_go HK2.out HI.out⟩, hs3, _, _, _, _, _, _, _, _, _, _, _, _, _, _, _, _, _, _, _, _, _, _, _, _, _, _, _, _, _, _, _, _, _, _, _, _, _, _, _, _, _, _, _, _, _, _, _, _, _, _, _, _, _, _, _, _, _, _, _, _, _, _, _, _, _, _, _, _, _, _, _, _, _, _, _, _, _, _, _, _, _, _, _, _, _, _, _, _, _, _, _, _, _, rfl, more, ⟨M2.far (by omega) _ _ _ _⟩, ⟨wi_lt _ _ _ HS.out (by omega)⟩, ⟨M5.put⟩, ⟨M6.far (by omega) _ _ _ _⟩, ⟨below_put MB (by omega) _ _ _ _⟩⟩
                case rest13 =>
                  clear L2 L5 L6 LB hwrong a0 a1 a2 a3 x0 z0 z1 x1 x2 HI HK2 HSZ
                  rintro e a2 w2 ⟨rfl, s9, t9, HC, hl9, h⟩
                  unfold At at h
                  obtain ⟨u1, u10, u11, u12, u13, u14, u15, u16, u17, u18, h⟩ := h
                  obtain ⟨u19, u20, u21, u22, u23, u24, u25, u26, u27, u28, h⟩ := h
                  obtain ⟨u29, u30, u31, u32, u33, u34, u35, u36, u37, u38, h⟩ := h
                  obtain ⟨u39, u40, u41, u42, u43, u44, u45, u46, u47, u48, h⟩ := h
                  obtain ⟨u49, u50, u51, u52, u53, u54, u55, u56, u57, u58, h⟩ := h
                  obtain ⟨u59, u60, u61, u62, u63, u64, u65, u66, u67, u68, h⟩ := h
                  obtain ⟨u69, u70, u71, u72, u73, u74, u75, u76, u77, u78, h⟩ := h
                  obtain ⟨u79, u80, u81, u82, u83, u84, u85, u86, u87, u88, h⟩ := h
                  obtain ⟨u89, u90, u91, u92, u93, u94, u95, u96, u97, u98, h⟩ := h
                  obtain ⟨u99, u100, u101, h⟩ := h
                  obtain ⟨rfl, more9, K2, KS, K5, K6, KB⟩ := h
                  go_wp2
                  apply wp_goto
                  exact hnext _ _ _ _ _ _ _ _ _ _ _ _ _ _ _ _ _ _ _ _ _ _ _ _ _ _ _ _ _ _ _ _ _ _ _ _ _ _ _ _ _ _ _ _ _ _ _ _ _ _ _ _ _ _ _ _ _ _ _ _ _ _ _ _ _ _ _ _ _ _ _ _ _ _ _ _ _ _ _ _ _ _ _ _ _ _ _ _ _ _ _ _ _ s9 t9 _ more9 w2 HC hl9 K2 KS K5 K6 KB
          · have h2 : ∀ c2 l', ¬ c2 = 93 → ¬ l0 = 45 :: c2 :: l' := fun c2 l' h e => hr ⟨c2, l', h, e⟩
            have hl1 := ex_of t 1
            obtain ⟨t1, ht1⟩ : ∃ t1, t.extract 1 t.size = t1 := ⟨_, rfl⟩
            rw [ht1, hL] at hl1
            change t1.data.toList = l0 at hl1
            have hs1 : t1.size ≤ text.size := by rw [Lib.size_eq, hl1]; omega
            have HI : Aside0 (item nm s (c0 :: l0) first = some (some (wi s c0.toNat (c0.toNat + 1 - c0.toNat), t1.data.toList))) := ⟨by rw [hl1]; exact item_one (nm := nm) (s := s) hp hb h2⟩
            have hk2 := HK.out
            rw [hL] at hk2
            have HK2 := Aside0.mk hk2
            have HSZ := Aside0.mk hsz
            have HLL := Aside0.mk hL
            have HH2 := Aside0.mk h2
            clear hk2 hsz hL hp hb hl1 hl' htx hSt h2 hr
            go_wp2_with (fail)
            refine (kp _).mono ?_
            rintro e w3 ⟨rfl, hw3⟩; rw [hw3]; clear hw3 w3
            go_wp2_with (fail)
            refine (ks _).mono ?_
            rintro e w3 ⟨rfl, hw3⟩; rw [hw3]; clear hw3 w3 kp ks
            simp only []
            go_at_K
            go_step
            go_step
            go_step
            go_step
            go_step
            go_step
            go_step
            go_step
            go_step
            go_step
            go_step
            refine wp_seq (Code.wp_mono (Q := fun e a w2 => e = .normal ∧ At w text s t turned first a w2) ?rest ?reg)
            case reg =>
              have fin : ∀ a : Act, (∃ u1 u10 u11 u12 u13 u14 u15 u16 u17 u18 u19 u20 u21 u22 u23 u24 u25 u26 u27 u28 u29 u30 u31 u32 u33 u34 u35 u36 u37 u38 u39 u40 u41 u42 u43 u44 u45 u46 u47 u48 u49 u50 u51 u52 u53 u54 u55 u56 u57 u58 u59 u60 u61 u62 u63 u64 u65 u66 u67 u68 u69 u70 u71 u72 u73 u74 u75 u76 u77 u78 u79 u80 u81 u82 u83 u84 u85 u86 u87 u88 u89 u90 u91 u92 u93 u94 u95 u96 u97 u98 u99 u100 u101 : Value, a = { tmps := #[.string text, u1, .pointer (some ⟨w.heap.size, 0, none⟩), .int .i64 0, .int .i64 0, .pointer (some ⟨w.heap.size + 1, 0, none⟩), .pointer (some ⟨w.heap.size + 1 + 1, 0, none⟩), .string t, .bool turned, .bool first, u10, u11, u12, u13, u14, u15, u16, u17, u18, u19, u20, u21, u22, u23, u24, u25, u26, u27, u28, u29, u30, u31, u32, u33, u34, u35, u36, u37, u38, u39, u40, u41, u42, u43, u44, u45, u46, u47, u48, u49, u50, u51, u52, u53, u54, u55, u56, u57, u58, u59, u60, u61, u62, u63, u64, u65, u66, u67, u68, u69, u70, u71, u72, u73, u74, u75, u76, u77, u78, u79, u80, u81, u82, u83, u84, u85, u86, u87, u88, u89, u90, u91, u92, u93, u94, u95, u96, u97, u98, u99, u100, u101], defers := [] }) → (Exit.normal = .normal ∧ At w text s t turned first a w') := by
                rintro a h
                refine ⟨rfl, ?_⟩
                unfold At
                obtain ⟨u1, u10, u11, u12, u13, u14, u15, u16, u17, u18, h⟩ := h
                obtain ⟨u19, u20, u21, u22, u23, u24, u25, u26, u27, u28, h⟩ := h
                obtain ⟨u29, u30, u31, u32, u33, u34, u35, u36, u37, u38, h⟩ := h
                obtain ⟨u39, u40, u41, u42, u43, u44, u45, u46, u47, u48, h⟩ := h
                obtain ⟨u49, u50, u51, u52, u53, u54, u55, u56, u57, u58, h⟩ := h
                obtain ⟨u59, u60, u61, u62, u63, u64, u65, u66, u67, u68, h⟩ := h
                obtain ⟨u69, u70, u71, u72, u73, u74, u75, u76, u77, u78, h⟩ := h
                obtain ⟨u79, u80, u81, u82, u83, u84, u85, u86, u87, u88, h⟩ := h
                obtain ⟨u89, u90, u91, u92, u93, u94, u95, u96, u97, u98, h⟩ := h
                obtain ⟨u99, u100, u101, h⟩ := h
                exact ⟨u1, u10, u11, u12, u13, u14, u15, u16, u17, u18, u19, u20, u21, u22, u23, u24, u25, u26, u27, u28, u29, u30, u31, u32, u33, u34, u35, u36, u37, u38, u39, u40, u41, u42, u43, u44, u45, u46, u47, u48, u49, u50, u51, u52, u53, u54, u55, u56, u57, u58, u59, u60, u61, u62, u63, u64, u65, u66, u67, u68, u69, u70, u71, u72, u73, u74, u75, u76, u77, u78, u79, u80, u81, u82, u83, u84, u85, u86, u87, u88, u89, u90, u91, u92, u93, u94, u95, u96, u97, u98, u99, u100, u101, h, more, H2, HS, H5, H6, HB⟩
              have hcase : t.size = 1 ∨ t.size = 2 ∨ ∃ c1 c2 l', l0 = c1 :: c2 :: l' := by
                have := HSZ.out
                match l0, this with
                | [], h => exact .inl h
                | [_], h => exact .inr (.inl h)
                | c1 :: c2 :: l', _ => exact .inr (.inr ⟨c1, c2, l', rfl⟩)
              rcases hcase with h1 | h1 | ⟨c1, c2, l', rfl⟩
              · have d : ¬ (2 : Int) < (t.size : Int) := by omega
                clear h1
                go_wp2
                exact fin _ ⟨_, _, _, _, _, _, _, _, _, _, _, _, _, _, _, _, _, _, _, _, _, _, _, _, _, _, _, _, _, _, _, _, _, _, _, _, _, _, _, _, _, _, _, _, _, _, _, _, _, _, _, _, _, _, _, _, _, _, _, _, _, _, _, _, _, _, _, _, _, _, _, _, _, _, _, _, _, _, _, _, _, _, _, _, _, _, _, _, _, _, _, _, _, rfl⟩
              · have d : ¬ (2 : Int) < (t.size : Int) := by omega
                clear h1
                go_wp2
                exact fin _ ⟨_, _, _, _, _, _, _, _, _, _, _, _, _, _, _, _, _, _, _, _, _, _, _, _, _, _, _, _, _, _, _, _, _, _, _, _, _, _, _, _, _, _, _, _, _, _, _, _, _, _, _, _, _, _, _, _, _, _, _, _, _, _, _, _, _, _, _, _, _, _, _, _, _, _, _, _, _, _, _, _, _, _, _, _, _, _, _, _, _, _, _, _, _, rfl⟩
              · have hsz3 : t.size = l'.length + 3 := by have := HSZ.out; rw [this]; rfl
                have z2 : (2 : Int) < (t.size : Int) := by omega
                have z1' : (1 : Int) < (t.size : Int) := by omega
                have hLL := HLL.out
                have x1 := get_of t 1 c1 (by rw [hLL]; rfl)
                have x2 := get_of t 2 c2 (by rw [hLL]; rfl)
                clear hsz3 hLL
                by_cases k1 : c1 = 45
                · subst k1
                  have k2 : c2 = 93 := Classical.byContradiction fun h => HH2.out c2 l' h rfl
                  subst k2
                  go_wp2
                  exact fin _ ⟨_, _, _, _, _, _, _, _, _, _, _, _, _, _, _, _, _, _, _, _, _, _, _, _, _, _, _, _, _, _, _, _, _, _, _, _, _, _, _, _, _, _, _, _, _, _, _, _, _, _, _, _, _, _, _, _, _, _, _, _, _, _, _, _, _, _, _, _, _, _, _, _, _, _, _, _, _, _, _, _, _, _, _, _, _, _, _, _, _, _, _, _, _, rfl⟩
                · have d1 : ¬ (c1.toNat : Int) = 45 := fun h => k1 (UInt8.toNat_inj.1 (by show c1.toNat = 45; omega))
                  go_wp2
                  exact fin _ ⟨_, _, _, _, _, _, _, _, _, _, _, _, _, _, _, _, _, _, _, _, _, _, _, _, _, _, _, _, _, _, _, _, _, _, _, _, _, _, _, _, _, _, _, _, _, _, _, _, _, _, _, _, _, _, _, _, _, _, _, _, _, _, _, _, _, _, _, _, _, _, _, _, _, _, _, _, _, _, _, _, _, _, _, _, _, _, _, _, _, _, _, _, _, rfl⟩
            case rest =>
              clear H2 H5 H6 HB hwrong a0 a1 a2 a3
              rintro e a2 w6 ⟨rfl, h⟩
              unfold At at h
              obtain ⟨u1, u10, u11, u12, u13, u14, u15, u16, u17, u18, h⟩ := h
              obtain ⟨u19, u20, u21, u22, u23, u24, u25, u26, u27, u28, h⟩ := h
              obtain ⟨u29, u30, u31, u32, u33, u34, u35, u36, u37, u38, h⟩ := h
              obtain ⟨u39, u40, u41, u42, u43, u44, u45, u46, u47, u48, h⟩ := h
              obtain ⟨u49, u50, u51, u52, u53, u54, u55, u56, u57, u58, h⟩ := h
              obtain ⟨u59, u60, u61, u62, u63, u64, u65, u66, u67, u68, h⟩ := h
              obtain ⟨u69, u70, u71, u72, u73, u74, u75, u76, u77, u78, h⟩ := h
              obtain ⟨u79, u80, u81, u82, u83, u84, u85, u86, u87, u88, h⟩ := h
              obtain ⟨u89, u90, u91, u92, u93, u94, u95, u96, u97, u98, h⟩ := h
              obtain ⟨u99, u100, u101, h⟩ := h
              obtain ⟨rfl, more', L2, LS, L5, L6, LB⟩ := h
              obtain ⟨a0, a1, a2, a3⟩ := L5.out.cell
              show Code.wp _ _ _ _ _
              refine wp_seq (Code.wp_mono (Q := fun e a w3 => e = .normal ∧ ∃ (s9 : Nat) (t9 : ByteArray), Aside0 ((if Lib.hasPrefix t9.data.toList [93] = true then some (some (s9, t9.data.toList)) else brk nm n s9 t9.data.toList false) = some res) ∧ t9.size ≤ text.size ∧ At w text s9 t9 turned first a w3) ?rest2 ?reg2)
              case reg2 =>
                clear hnext
                refine Tk.start #[false, false, false, false, false, false, false, false, false, false] 10 mixed rfl rfl ?_
                refine Tk.take (i := 1) (v := ?_) #[false, true, false, false, false, false, false, false, false, false] rfl (by kernel_rfl) (by kernel_rfl) (by kernel_rfl) rfl (fun _ _ _ h => nomatch h.1) (by kernel_rfl) ?_ ?_
                rotate_left
                · (intro w9; go_simp; with_reducible rfl)
                simp only [Act.put, List.setIfInBounds_toArray, List.set_cons_zero, List.set_cons_succ]
                refine Tk.take (i := 2) (v := ?_) #[false, true, true, false, false, false, false, false, false, false] rfl (by kernel_rfl) (by kernel_rfl) (by kernel_rfl) rfl (fun _ _ _ h => nomatch h.1) (by kernel_rfl) ?_ ?_
                rotate_left
                · (intro w9; go_simp; with_reducible rfl)
                simp only [Act.put, List.setIfInBounds_toArray, List.set_cons_zero, List.set_cons_succ]
                refine Tk.take (i := 3) (v := ?_) #[false, true, true, true, false, false, false, false, false, false] rfl (by kernel_rfl) (by kernel_rfl) (by kernel_rfl) rfl (fun _ _ _ h => nomatch h.1) (by kernel_rfl) ?_ ?_
                rotate_left
                · (intro w9; go_simp; with_reducible rfl)
                simp only [Act.put, List.setIfInBounds_toArray, List.set_cons_zero, List.set_cons_succ]
                refine Tk.take (i := 4) (v := ?_) #[false, true, true, true, true, false, false, false, false, false] rfl (by kernel_rfl) (by kernel_rfl) (by kernel_rfl) rfl (fun _ _ _ h => nomatch h.1) (by kernel_rfl) ?_ ?_
                rotate_left
                · (intro w9; go_simp; with_reducible rfl)
                simp only [Act.put, List.setIfInBounds_toArray, List.set_cons_zero, List.set_cons_succ]
                refine Tk.take (i := 6) (v := ?_) #[false, true, true, true, true, false, true, false, false, false] rfl (by kernel_rfl) (by kernel_rfl) (by kernel_rfl) rfl (fun _ _ _ h => nomatch h.1) (by kernel_rfl) ?_ ?_
                rotate_left
                · (intro w9; go_simp; with_reducible rfl)
                simp only [Act.put, List.setIfInBounds_toArray, List.set_cons_zero, List.set_cons_succ]
                refine Tk.take (i := 7) (v := ?_) #[false, true, true, true, true, false, true, true, false, false] rfl (by kernel_rfl) (by kernel_rfl) (by kernel_rfl) rfl (fun _ _ _ h => nomatch h.1) (by kernel_rfl) ?_ ?_
                rotate_left
                · (intro w9; go_simp; with_reducible rfl)
                simp only [Act.put, List.setIfInBounds_toArray, List.set_cons_zero, List.set_cons_succ]
                refine Tk.one (i := 0) #[true, true, true, true, true, false, true, true, false, false] rfl (by kernel_rfl) rfl (by kernel_rfl) (fun K hK => ?_)
                go_simp
                refine hK _ _ ?_
                clear hK K
                try simp only [Act.put, List.setIfInBounds_toArray, List.set_cons_zero, List.set_cons_succ]
                refine Tk.one (i := 5) #[true, true, true, true, true, true, true, true, false, false] rfl (by kernel_rfl) rfl (by kernel_rfl) (fun K hK => ?_)
                go_simp
                refine (with_calls s c0.toNat c0.toNat _ hlo hlo).mono ?_
                rintro e w7 ⟨rfl, hb7⟩
                rw [St_eq]
                have M5 := (show Var (w.heap.size + 1) s w6.drew from L5.out).below hb7
                have M2 := (show Var w.heap.size 0 w6.drew from L2.out).below hb7
                have M6 := (show Var (w.heap.size + 1 + 1) more' w6.drew from L6.out).below hb7
                have MB := LB.out.drew.trans (hb7.mono LB.out.drew.size)
                obtain ⟨c0', c1', c2', c3'⟩ := M5.cell
                obtain ⟨g0', g1', g2', g3'⟩ := M5.free
                clear hb7
                refine hK _ _ ?_
                clear hK K
                try simp only [Act.put, List.setIfInBounds_toArray, List.set_cons_zero, List.set_cons_succ]
                refine Tk.one (i := 8) #[true, true, true, true, true, true, true, true, true, false] rfl (by kernel_rfl) rfl (by kernel_rfl) (fun K hK => ?_)
                go_simp
                refine hK _ _ ?_
                clear hK K
                refine Tk.one (i := 9) #[true, true, true, true, true, true, true, true, true, true] rfl (by kernel_rfl) rfl (by kernel_rfl) (fun K hK => ?_)
                go_simp
                refine hK _ _ ?_
                clear hK K
                try simp only [Act.put, List.setIfInBounds_toArray, List.set_cons_zero, List.set_cons_succ]
                refine Tk.done (by kernel_rfl) ?_
                exact ⟨rfl, _, t1, ⟨brk_go HK2.out HI.out⟩, hs1, _, _, _, _, _, _, _, _, _, _, _, _, _, _, _, _, _, _, _, _, _, _, _, _, _, _, _, _, _, _, _, _, _, _, _, _, _, _, _, _, _, _, _, _, _, _, _, _, _, _, _, _, _, _, _, _, _, _, _, _, _, _, _, _, _, _, _, _, _, _, _, _, _, _, _, _, _, _, _, _, _, _, _, _, _, _, _, _, _, _, _, _, _, rfl, more', ⟨M2.far (by omega) _ _ _ _⟩, ⟨wi_lt _ _ _ LS.out (by omega)⟩, ⟨by rw [Nat.add_sub_cancel_left]; exact M5.put⟩, ⟨M6.far (by omega) _ _ _ _⟩, ⟨below_put MB (by omega) _ _ _ _⟩⟩
              case rest2 =>
                clear L2 L5 L6 LB hnext a0 a1 a2 a3 x0 z0 z1 HI HK2 HSZ HLL HH2
                rintro e a2 w2 ⟨rfl, s9, t9, HC, hl9, h⟩
                unfold At at h
                obtain ⟨u1, u10, u11, u12, u13, u14, u15, u16, u17, u18, h⟩ := h
                obtain ⟨u19, u20, u21, u22, u23, u24, u25, u26, u27, u28, h⟩ := h
                obtain ⟨u29, u30, u31, u32, u33, u34, u35, u36, u37, u38, h⟩ := h
                obtain ⟨u39, u40, u41, u42, u43, u44, u45, u46, u47, u48, h⟩ := h
                obtain ⟨u49, u50, u51, u52, u53, u54, u55, u56, u57, u58, h⟩ := h
                obtain ⟨u59, u60, u61, u62, u63, u64, u65, u66, u67, u68, h⟩ := h
                obtain ⟨u69, u70, u71, u72, u73, u74, u75, u76, u77, u78, h⟩ := h
                obtain ⟨u79, u80, u81, u82, u83, u84, u85, u86, u87, u88, h⟩ := h
                obtain ⟨u89, u90, u91, u92, u93, u94, u95, u96, u97, u98, h⟩ := h
                obtain ⟨u99, u100, u101, h⟩ := h
                obtain ⟨rfl, more9, K2, KS, K5, K6, KB⟩ := h
                have hSt := St_eq
                have htx : (text.size : Int) < 1000000 := by omega
                show Code.wp _ _ _ _ _
                go_step
                apply wp_label
                go_step
                go_step
                have hl9' : (t9.size : Int) ≤ (text.size : Int) := by omega
                obtain ⟨p, hp⟩ : ∃ p, Lib.hasPrefix t9.data.toList [93] = p := ⟨_, rfl⟩
                have kp := fun w => Try.strings_HasPrefix t9 ⟨#[93]⟩ w
                simp only [hp] at kp
                rw [hp] at HC
                clear hp
                cases p with
                | false =>
                  rw [if_neg (by decide)] at HC
                  go_wp2_with (refine (kp _).mono ?_; rintro e w3 ⟨rfl, rfl⟩)
                  apply wp_goto
                  refine hJ n _ _ (Nat.lt_succ_self n) ⟨s9, t9, false, HC, hl9, ?_⟩
                  exact ⟨_, _, _, _, _, _, _, _, _, _, _, _, _, _, _, _, _, _, _, _, _, _, _, _, _, _, _, _, _, _, _, _, _, _, _, _, _, _, _, _, _, _, _, _, _, _, _, _, _, _, _, _, _, _, _, _, _, _, _, _, _, _, _, _, _, _, _, _, _, _, _, _, _, _, _, _, _, _, _, _, _, _, _, _, _, _, _, _, _, _, _, _, _, rfl, more9, K2, KS, K5, K6, KB⟩
                | true =>
                  rw [if_pos rfl] at HC
                  obtain ⟨c0, c1, c2, c3⟩ := K5.out.cell
                  obtain ⟨g0, g1, g2, g3⟩ := K5.out.free
                  obtain ⟨e0, e1, e2, e3⟩ := K2.out.cell
                  obtain ⟨f0, f1, f2, f3⟩ := K2.out.free
                  cases turned with
                  | false =>
                    go_wp2_with (refine (kp _).mono ?_; rintro e w3 ⟨rfl, rfl⟩)
                    try rw [Goto.Jumps_ret]
                    refine bodyPost_ret (results_cell_tmp2 rfl _ _ w.heap.size (cs s9) rfl (K2.out.put (n := s9)).load) rfl ?_
                    have hr := HR.out
                    rw [← Option.some.inj HC.out] at hr
                    rw [← hr]
                    refine ⟨?_, below_put KB.out (Nat.le_refl _) _ _ _ _⟩
                    show Ending.returned (.tuple #[.agg (cs s9), .int .i64 (↑text.size - ↑t9.size + 1), .int .i64 0]) = _
                    rw [len_end text t9 hl9]
                    rfl
                  | true =>
                    have hnot := fun w => not_calls (wi s9 10 (10 + 1 - 10)) w (wi_lt _ _ _ KS.out (by decide))
                    have hwith := fun w => with_calls s9 10 10 w (by decide) (by decide)
                    obtain ⟨s10, hs10⟩ : ∃ s10, wi s9 10 (10 + 1 - 10) = s10 := ⟨_, rfl⟩
                    rw [hs10] at hnot
                    simp only [hs10] at hwith
                    have HS10 := Aside0.mk hs10
                    clear hs10
                    go_wp2_with (refine (kp _).mono ?_; rintro e w3 ⟨rfl, rfl⟩)
                    go_wp2_with (fail)
                    refine (hwith _).mono ?_
                    rintro e w3 ⟨rfl, hb3⟩
                    go_wp2_with (fail)
                    refine (hnot _).mono ?_
                    rintro e w4 ⟨rfl, hb4⟩
                    have K54 := (K5.out.below hb3).below hb4
                    have K24 := (K2.out.below hb3).below hb4
                    have KB4 := Aside0.mk ((KB.out.trans (hb3.mono KB.out.size)).trans (hb4.mono (Nat.le_trans KB.out.size hb3.size)))
                    clear c0 c1 c2 c3 g0 g1 g2 g3 e0 e1 e2 e3 f0 f1 f2 f3 hb3 hb4
                    obtain ⟨c0, c1, c2, c3⟩ := K54.cell
                    obtain ⟨g0, g1, g2, g3⟩ := K54.free
                    obtain ⟨e0, e1, e2, e3⟩ := K24.cell
                    obtain ⟨f0, f1, f2, f3⟩ := K24.free
                    obtain ⟨d0, d1, d2, d3⟩ := (K54.put (n := compl s10)).cell
                    have K2p := K24.far (Nat.ne_of_lt (Nat.lt_succ_self w.heap.size)) (.int .u64 (wd (compl s10) 0)) (.int .u64 (wd (compl s10) 1)) (.int .u64 (wd (compl s10) 2)) (.int .u64 (wd (compl s10) 3))
                    obtain ⟨l0, l1, l2, l3⟩ := K2p.free
                    rw [hSt]
                    go_wp2
                    try rw [Goto.Jumps_ret]
                    refine bodyPost_ret (results_cell_tmp2 rfl _ _ w.heap.size (cs (compl s10)) rfl (K2p.put (n := compl s10)).load) rfl ?_
                    have hr := HR.out
                    rw [← Option.some.inj HC.out] at hr
                    rw [← hr]
                    refine ⟨?_, below_put (below_put KB4.out (Nat.le_succ _) _ _ _ _) (Nat.le_refl _) _ _ _ _⟩
                    show Ending.returned (.tuple #[.agg (cs (compl s10)), .int .i64 (↑text.size - ↑t9.size + 1), .int .i64 0]) = _
                    rw [len_end text t9 hl9, ← HS10.out]
                    rfl
end Go.Proofs.Ytglhhcgoppmipaa.Cl
