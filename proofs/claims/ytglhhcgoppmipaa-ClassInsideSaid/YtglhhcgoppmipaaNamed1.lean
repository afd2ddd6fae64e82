/- class.Named: its first drawn region, by an invariant. -/
import Derived.Test.YtglhhcgoppmipaaCount
import Derived.Test.YtglhhcgoppmipaaInv
import Derived.Test.YtglhhcgoppmipaaBoth
import Derived.Test.YtglhhcgoppmipaaWith2
import Derived.Test.YtglhhcgoppmipaaBits
import Derived.Test.YtglhhcgoppmipaaPureSets
import Derived.Test.YtglhhcgoppmipaaTwo
import Derived.Test.YtglhhcgoppmipaaEq
import Derived.Deep.RegionHeld3
namespace Go.Proofs.Ytglhhcgoppmipaa.Cl
open Go.RowKit Go.Proofs.YtglhhcgoppmipaaW.PrintWords

/-- A variable that is made by now: where it lies, and what set it holds. -/
def Al (B : Nat) (b : Bool) (v : Value) (m : Nat) (w : World) : Prop := b = true → ∃ g, v = .pointer (some ⟨g, 0, none⟩) ∧ B + 1 < g ∧ Var g m w
def Ap (b c : Bool) (v v' : Value) : Prop := b = true → c = true → v ≠ v'
theorem Al.below {B : Nat} {b : Bool} {v : Value} {m : Nat} {w w1 : World} (h : Al B b v m w) (hb : Below w.heap.size w w1) : Al B b v m w1 := fun e =>
  let ⟨g, h1, h2, h3⟩ := h e
  ⟨g, h1, h2, h3.below hb⟩
/-- The sets of the letters and figures. -/
def UP : Nat := wi 0 65 (90 + 1 - 65)
def LO : Nat := wi 0 97 (122 + 1 - 97)
def DI : Nat := wi 0 48 (57 + 1 - 48)
theorem Al.far {B k : Nat} {b : Bool} {v : Value} {m : Nat} {w : World} (h : Al B b v m w) (hne : b = true → v ≠ .pointer (some ⟨k, 0, none⟩)) (x y z t : Value) : Al B b v m ((((w.setCell ⟨k, 0, none⟩ x).setCell ⟨k, 1, none⟩ y).setCell ⟨k, 2, none⟩ z).setCell ⟨k, 3, none⟩ t) := fun e =>
  let ⟨g, h1, h2, h3⟩ := h e
  ⟨g, h1, h2, h3.far (fun hg => hne e (by rw [h1, hg])) _ _ _ _⟩
theorem Al.old {B : Nat} {b : Bool} {v : Value} {m : Nat} {w : World} (h : Al B b v m w) (c : Bool) : Ap b c v (.pointer (some ⟨w.heap.size, 0, none⟩)) := fun e _ hv => by
  obtain ⟨g, h1, _, h3⟩ := h e
  rw [h1] at hv
  have : g = w.heap.size := by simpa using hv
  have := h3.lt
  omega
theorem Ap.symm {b c : Bool} {v v' : Value} (h : Ap b c v v') : Ap c b v' v := fun e f g => h f e g.symm
theorem Al.alloc {B : Nat} {b : Bool} {v : Value} {m : Nat} {w : World} (h : Al B b v m w) (o : Obj) : Al B b v m (w.alloc o) := h.below ((Below.refl _ _).alloc (Nat.le_refl _) o)
theorem St_words (s : Nat) : St s = .agg #[.int .u64 (wd s 0), .int .u64 (wd s 1), .int .u64 (wd s 2), .int .u64 (wd s 3)] := rfl
theorem wpOp_held {P : Program} {ops : Array Oper} {Q : Exit → Act → World → Prop} {i : Nat} {o : Oper} {K : Act → World → Prop} {a : Act} {w : World} (ho : ops[i]? = some o) (hg : o.guard = none) (h : ∀ K' : Act → World → Prop, (∀ a w, K a w → K' a w) → o.wp P a w K' Q) : wpOp P ops Q i K a w :=
  Inv.wpOp_of ho hg (h K fun _ _ h => h)
/-- What stands while the region runs, in whatever order. -/
def NI (s : ByteArray) (B : Nat) (w : World) (L : Array Bool) (a : Act) (w' : World) : Prop :=
  ∃ b0 b1 b2 b3 b4 b5 b6 b7 b8 b9 b10 b11 : Bool, ∃ u1 u5 u6 u7 u8 u9 u10 u11 u12 u13 u14 u15 u16 u17 u18 u19 u20 u21 u22 u23 u24 u25 u26 u27 u28 u29 u30 u31 u32 u33 u34 u35 u36 u37 u38 u39 u40 u41 u42 u43 u44 u45 u46 u47 u48 u49 u50 u51 u52 u53 u54 u55 u56 u57 u58 u59 u60 u61 u62 u63 u64 u65 u66 u67 u68 u69 u70 u71 u72 u73 u74 u75 u76 u77 : Value, L = #[b0, b1, b2, b3, b4, b5, b6, b7, b8, b9, b10, b11] ∧ a = { tmps := #[.string s, u1, .pointer (some ⟨B, 0, none⟩), .bool false, .pointer (some ⟨B + 1, 0, none⟩), u5, u6, u7, u8, u9, u10, u11, u12, u13, u14, u15, u16, u17, u18, u19, u20, u21, u22, u23, u24, u25, u26, u27, u28, u29, u30, u31, u32, u33, u34, u35, u36, u37, u38, u39, u40, u41, u42, u43, u44, u45, u46, u47, u48, u49, u50, u51, u52, u53, u54, u55, u56, u57, u58, u59, u60, u61, u62, u63, u64, u65, u66, u67, u68, u69, u70, u71, u72, u73, u74, u75, u76, u77], defers := [] } ∧ Var B 0 w' ∧ Var (B + 1) 0 w' ∧ Below B w w' ∧ Aside0 ((b0 = true → u9 = St 0)) ∧ Aside0 ((b1 = true → u10 = St UP)) ∧ Aside0 ((b2 = true → u11 = St 0)) ∧ Aside0 ((b3 = true → u12 = St LO)) ∧ Aside0 ((b4 = true → u13 = St 0)) ∧ Aside0 ((b5 = true → u14 = St DI)) ∧ Aside0 (Al B b6 u5 (bif b9 then UP else 0) w') ∧ Aside0 (Al B b7 u6 (bif b10 then LO else 0) w') ∧ Aside0 (Al B b8 u7 (bif b11 then DI else 0) w') ∧ Aside0 (Ap b6 b7 u5 u6) ∧ Aside0 (Ap b6 b8 u5 u7) ∧ Aside0 (Ap b7 b8 u6 u7) ∧ Aside0 ((b9 = true → b6 = true)) ∧ Aside0 ((b10 = true → b7 = true)) ∧ Aside0 ((b11 = true → b8 = true))
/-- What stands while the second region runs. -/
def NJ (s : ByteArray) (B : Nat) (w : World) (g5 g6 g7 : Nat) (L : Array Bool) (a : Act) (w' : World) : Prop :=
  ∃ b0 b1 b2 b3 b4 b5 b6 : Bool, ∃ u1 u8 u9 u10 u11 u12 u13 u14 u15 u16 u17 u18 u19 u20 u21 u22 u23 u24 u25 u26 u27 u28 u29 u30 u31 u32 u33 u34 u35 u36 u37 u38 u39 u40 u41 u42 u43 u44 u45 u46 u47 u48 u49 u50 u51 u52 u53 u54 u55 u56 u57 u58 u59 u60 u61 u62 u63 u64 u65 u66 u67 u68 u69 u70 u71 u72 u73 u74 u75 u76 u77 : Value, L = #[b0, b1, b2, b3, b4, b5, b6] ∧ a = { tmps := #[.string s, u1, .pointer (some ⟨B, 0, none⟩), .bool false, .pointer (some ⟨B + 1, 0, none⟩), .pointer (some ⟨g5, 0, none⟩), .pointer (some ⟨g6, 0, none⟩), .pointer (some ⟨g7, 0, none⟩), u8, u9, u10, u11, u12, u13, u14, u15, u16, u17, u18, u19, u20, u21, u22, u23, u24, u25, u26, u27, u28, u29, u30, u31, u32, u33, u34, u35, u36, u37, u38, u39, u40, u41, u42, u43, u44, u45, u46, u47, u48, u49, u50, u51, u52, u53, u54, u55, u56, u57, u58, u59, u60, u61, u62, u63, u64, u65, u66, u67, u68, u69, u70, u71, u72, u73, u74, u75, u76, u77], defers := [] } ∧ Var B 0 w' ∧ Var (B + 1) 0 w' ∧ Below B w w' ∧ Var g5 UP w' ∧ Var g6 LO w' ∧ Var g7 DI w' ∧ Aside0 ((b0 = true → u15 = St UP)) ∧ Aside0 ((b1 = true → u16 = St LO)) ∧ Aside0 ((b2 = true → u17 = St (UP ||| LO))) ∧ Aside0 ((b3 = true → u18 = St DI)) ∧ Aside0 ((b4 = true → u19 = St (UP ||| LO ||| DI))) ∧ Aside0 (Al B b5 u8 (bif b6 then (UP ||| LO ||| DI) else 0) w') ∧ Aside0 (Ap b5 true u8 (.pointer (some ⟨g5, 0, none⟩))) ∧ Aside0 (Ap b5 true u8 (.pointer (some ⟨g6, 0, none⟩))) ∧ Aside0 (Ap b5 true u8 (.pointer (some ⟨g7, 0, none⟩))) ∧ Aside0 ((b6 = true → b5 = true))
theorem nm_lt (n : Nat) : ∀ s c, s < 2 ^ 256 → c + n ≤ 256 → wi s c n < 2 ^ 256 := by
  induction n with
  | zero => intro s c h _; exact h
  | succ n ih =>
    intro s c h hc
    exact ih _ _ (Nat.or_lt_two_pow h (Nat.pow_lt_pow_right (by decide) (by omega))) (by omega)
theorem AN_lt : UP ||| LO ||| DI < 2 ^ 256 := Nat.or_lt_two_pow (Nat.or_lt_two_pow (nm_lt _ _ _ (by decide) (by decide)) (nm_lt _ _ _ (by decide) (by decide))) (nm_lt _ _ _ (by decide) (by decide))
/-- The set of a name; 0: there is none. -/
def nset (l : List UInt8) : Nat :=
  if l = [97, 108, 112, 104, 97] then UP ||| LO else
  if l = [100, 105, 103, 105, 116] then DI else
  if l = [97, 108, 110, 117, 109] then UP ||| LO ||| DI else
  if l = [117, 112, 112, 101, 114] then UP else
  if l = [108, 111, 119, 101, 114] then LO else
  if l = [115, 112, 97, 99, 101] then wi (wi 0 9 (13 + 1 - 9)) 32 (32 + 1 - 32) else
  if l = [98, 108, 97, 110, 107] then wi (wi 0 9 (9 + 1 - 9)) 32 (32 + 1 - 32) else
  if l = [112, 117, 110, 99, 116] then compl (UP ||| LO ||| DI ||| compl (wi 0 33 (126 + 1 - 33))) else
  if l = [112, 114, 105, 110, 116] then wi 0 32 (126 + 1 - 32) else
  if l = [103, 114, 97, 112, 104] then wi 0 33 (126 + 1 - 33) else
  if l = [99, 110, 116, 114, 108] then wi (wi 0 0 (31 + 1 - 0)) 127 (127 + 1 - 127) else
  if l = [120, 100, 105, 103, 105, 116] then wi (wi DI 65 (70 + 1 - 65)) 97 (102 + 1 - 97) else
  0
/-- The state behind the switch. -/
def AtN (s : ByteArray) (B : Nat) (w : World) (n : Nat) (a : Act) (w' : World) : Prop :=
  ∃ u1 u5 u6 u7 u8 u9 u10 u11 u12 u13 u14 u15 u16 u17 u18 u19 u20 u21 u22 u23 u24 u25 u26 u27 u28 u29 u30 u31 u32 u33 u34 u35 u36 u37 u38 u39 u40 u41 u42 u43 u44 u45 u46 u47 u48 u49 u50 u51 u52 u53 u54 u55 u56 u57 u58 u59 u60 u61 u62 u63 u64 u65 u66 u67 u68 u69 u70 u71 u72 u73 u74 u75 u76 u77 : Value, a = { tmps := #[.string s, u1, .pointer (some ⟨B, 0, none⟩), .bool false, .pointer (some ⟨B + 1, 0, none⟩), u5, u6, u7, u8, u9, u10, u11, u12, u13, u14, u15, u16, u17, u18, u19, u20, u21, u22, u23, u24, u25, u26, u27, u28, u29, u30, u31, u32, u33, u34, u35, u36, u37, u38, u39, u40, u41, u42, u43, u44, u45, u46, u47, u48, u49, u50, u51, u52, u53, u54, u55, u56, u57, u58, u59, u60, u61, u62, u63, u64, u65, u66, u67, u68, u69, u70, u71, u72, u73, u74, u75, u76, u77], defers := [] } ∧ Aside0 (Var B 0 w') ∧ Aside0 (Var (B + 1) n w') ∧ Aside0 (Below B w w')
theorem ite_lt {c : Prop} [Decidable c] {a b B : Nat} (h1 : a < B) (h2 : b < B) : (if c then a else b) < B := by
  split <;> assumption
theorem nset_lt (l : List UInt8) : nset l < 2 ^ 256 := by
  unfold nset
  refine ite_lt ?_ (ite_lt ?_ (ite_lt ?_ (ite_lt ?_ (ite_lt ?_ (ite_lt ?_ (ite_lt ?_ (ite_lt ?_ (ite_lt ?_ (ite_lt ?_ (ite_lt ?_ (ite_lt ?_ ?_)))))))))))
  all_goals first
    | exact AN_lt
    | exact compl_lt _
    | exact Nat.or_lt_two_pow (nm_lt _ _ _ (by decide) (by decide)) (nm_lt _ _ _ (by decide) (by decide))
    | exact nm_lt _ _ _ (nm_lt _ _ _ (nm_lt _ _ _ (by decide) (by decide)) (by decide)) (by decide)
    | exact nm_lt _ _ _ (nm_lt _ _ _ (by decide) (by decide)) (by decide)
    | exact nm_lt _ _ _ (by decide) (by decide)
    | decide
theorem wn_zero (n : Nat) (hn : n < 2 ^ 256) (h0 : wn n 0 = 0) (h1 : wn n 1 = 0) (h2 : wn n 2 = 0) (h3 : wn n 3 = 0) : n = 0 := by
  unfold wn at h0 h1 h2 h3
  simp only [Nat.shiftRight_eq_div_pow, Nat.reduceMul, Nat.reducePow] at h0 h1 h2 h3 hn
  omega
theorem eq_zero (n : Nat) (hn : n < 2 ^ 256) (w : World) : (Op.equalIn 10000 24 (.agg #[.int .u64 (wd n 0), .int .u64 (wd n 1), .int .u64 (wd n 2), .int .u64 (wd n 3)]) (.agg #[.int .u64 0, .int .u64 0, .int .u64 0, .int .u64 0])).run Try.prog w = .ok (n == 0) w := by
  rw [eq4]
  congr 1
  by_cases h : n = 0
  · subst h
    decide
  · have e : (n == 0) = false := by simpa using h
    rw [e]
    cases hh : (wd n 0 == 0 && (wd n 1 == 0 && (wd n 2 == 0 && wd n 3 == 0))) with
    | false => rfl
    | true =>
      simp only [Bool.and_eq_true, beq_iff_eq] at hh
      unfold wd at hh
      exact absurd (wn_zero n hn (by omega) (by omega) (by omega) (by omega)) h
theorem Var.load1 {g m : Nat} {w : World} (h : Var g m w) : (loadVar 24 ⟨g, 0, none⟩).run Try.prog w = .ok (.agg (cs m)) w :=
  run_loadVar_row w g 24 24 (cs m) (0, 0) _ h Try.underlying24 rfl (by kernel_rfl)
theorem results_cell_tmp1 {fn : Func} {p u : Tmp} {ty : TypeId} {P : Program} (h : fn.results = #[.cell p ty, .tmp u]) (tmps : Array Value) (w : World) (g : Nat) (cs : Array Value)
    (hp : tmps.getD p undef = .pointer (some ⟨g, 0, none⟩)) (hl : (loadVar ty ⟨g, 0, none⟩).run P w = .ok (.agg cs) w) :
    (results fn tmps).run P w = .ok (.tuple #[.agg cs, tmps.getD u undef]) w := by
  have hp' : tmps[p]?.getD undef = .pointer (some ⟨g, 0, none⟩) := by simpa using hp
  simp [results, h, hp', asAddr, hl]
set_option maxHeartbeats 40000000 in
set_option maxRecDepth 100000 in
theorem named_calls (s : ByteArray) (w : World) :
    Calls Try.prog 20 #[.string s] w fun e w' => e = .returned (.tuple #[St (nset s.toList), .bool (nset s.toList != 0)]) ∧ Below w.heap.size w w' := by
  have mixed : Try.prog.follows Departure.mixedOrders = true := by kernel_rfl
  go_enter Try.func20, Try.ntmps20
  go_wp2
  have V2 : Var w.heap.size 0 ((w.alloc (.cells (cs 0) 24)).alloc (.cells (cs 0) 24)) := Go.heap_alloc2_old _ _ _
  have V4 : Var (w.heap.size + 1) 0 ((w.alloc (.cells (cs 0) 24)).alloc (.cells (cs 0) 24)) := Go.heap_alloc2_new _ _ _
  have HB0 : Below w.heap.size w ((w.alloc (.cells (cs 0) 24)).alloc (.cells (cs 0) 24)) := ((Below.refl _ _).alloc (Nat.le_refl _) _).alloc (by simp) _
  refine Code.wp_mono (Q := fun e a w' => e = .normal ∧ NI s w.heap.size w #[true, true, true, true, true, true, true, true, true, true, true, true] a w') ?rest ?reg
  case rest =>
    rintro e a w2 ⟨rfl, h⟩
    unfold NI at h
    obtain ⟨b0, b1, b2, b3, b4, b5, b6, b7, b8, b9, b10, b11, h⟩ := h
    obtain ⟨u1, u5, u6, u7, u8, u9, u10, u11, u12, u13, h⟩ := h
    obtain ⟨u14, u15, u16, u17, u18, u19, u20, u21, u22, u23, h⟩ := h
    obtain ⟨u24, u25, u26, u27, u28, u29, u30, u31, u32, u33, h⟩ := h
    obtain ⟨u34, u35, u36, u37, u38, u39, u40, u41, u42, u43, h⟩ := h
    obtain ⟨u44, u45, u46, u47, u48, u49, u50, u51, u52, u53, h⟩ := h
    obtain ⟨u54, u55, u56, u57, u58, u59, u60, u61, u62, u63, h⟩ := h
    obtain ⟨u64, u65, u66, u67, u68, u69, u70, u71, u72, u73, h⟩ := h
    obtain ⟨u74, u75, u76, u77, h⟩ := h
    obtain ⟨hL, rfl, V2, V4, HB, f9, f10, f11, f12, f13, f14, A5, A6, A7, n56, n57, n67, d9, d10, d11⟩ := h
    simp only [Array.mk.injEq, List.cons.injEq, and_true] at hL
    obtain ⟨rfl, rfl, rfl, rfl, rfl, rfl, rfl, rfl, rfl, rfl, rfl, rfl⟩ := hL
    obtain ⟨g5, e, l5, W5⟩ := A5.out rfl
    subst e
    obtain ⟨g6, e, l6, W6⟩ := A6.out rfl
    subst e
    obtain ⟨g7, e, l7, W7⟩ := A7.out rfl
    subst e
    change Var g5 UP w2 at W5
    change Var g6 LO w2 at W6
    change Var g7 DI w2 at W7
    clear f9 f10 f11 f12 f13 f14 A5 A6 A7 n56 n57 n67 d9 d10 d11
    go_wp2
    refine Code.wp_mono (Q := fun e a w' => e = .normal ∧ NJ s w.heap.size w g5 g6 g7 #[true, true, true, true, true, true, true] a w') ?rest2 ?reg2
    case rest2 =>
      rintro e a w3 ⟨rfl, h⟩
      unfold NJ at h
      obtain ⟨b0, b1, b2, b3, b4, b5, b6, h⟩ := h
      obtain ⟨u1, u8, u9, u10, u11, u12, u13, u14, u15, u16, h⟩ := h
      obtain ⟨u17, u18, u19, u20, u21, u22, u23, u24, u25, u26, h⟩ := h
      obtain ⟨u27, u28, u29, u30, u31, u32, u33, u34, u35, u36, h⟩ := h
      obtain ⟨u37, u38, u39, u40, u41, u42, u43, u44, u45, u46, h⟩ := h
      obtain ⟨u47, u48, u49, u50, u51, u52, u53, u54, u55, u56, h⟩ := h
      obtain ⟨u57, u58, u59, u60, u61, u62, u63, u64, u65, u66, h⟩ := h
      obtain ⟨u67, u68, u69, u70, u71, u72, u73, u74, u75, u76, h⟩ := h
      obtain ⟨u77, h⟩ := h
      obtain ⟨hL, rfl, XV2, XV4, XHB, XW5, XW6, XW7, f15, f16, f17, f18, f19, A8, n5, n6, n7, d6⟩ := h
      simp only [Array.mk.injEq, List.cons.injEq, and_true] at hL
      obtain ⟨rfl, rfl, rfl, rfl, rfl, rfl, rfl⟩ := hL
      obtain ⟨g8, e, l8, W8⟩ := A8.out rfl
      subst e
      change Var g8 (UP ||| LO ||| DI) w3 at W8
      clear V2 V4 HB HB0 W5 W6 W7
      have V2 := Aside0.mk XV2
      have V4 := Aside0.mk XV4
      have HB := Aside0.mk XHB
      have W5 := Aside0.mk XW5
      have W6 := Aside0.mk XW6
      have W7 := Aside0.mk XW7
      have W8' := Aside0.mk W8
      clear XV2 XV4 XHB XW5 XW6 XW7 W8 f15 f16 f17 f18 f19 A8 n5 n6 n7 d6
      go_step
      go_step
      refine wp_seq (Code.wp_mono (Q := fun e a w' => e = .normal ∧ AtN s w.heap.size w (nset s.toList) a w') ?fin3 ?sw)
      case fin3 =>
        clear V2 V4 HB W5 W6 W7 W8'
        rintro e a w4 ⟨rfl, h⟩
        unfold AtN at h
        obtain ⟨u1, u5, u6, u7, u8, u9, u10, u11, u12, u13, h⟩ := h
        obtain ⟨u14, u15, u16, u17, u18, u19, u20, u21, u22, u23, h⟩ := h
        obtain ⟨u24, u25, u26, u27, u28, u29, u30, u31, u32, u33, h⟩ := h
        obtain ⟨u34, u35, u36, u37, u38, u39, u40, u41, u42, u43, h⟩ := h
        obtain ⟨u44, u45, u46, u47, u48, u49, u50, u51, u52, u53, h⟩ := h
        obtain ⟨u54, u55, u56, u57, u58, u59, u60, u61, u62, u63, h⟩ := h
        obtain ⟨u64, u65, u66, u67, u68, u69, u70, u71, u72, u73, h⟩ := h
        obtain ⟨u74, u75, u76, u77, h⟩ := h
        obtain ⟨rfl, Z2, Z4, ZB⟩ := h
        obtain ⟨N, hN⟩ : ∃ N, nset s.toList = N := ⟨_, rfl⟩
        have hb : N < 2 ^ 256 := by rw [← hN]; exact nset_lt _
        rw [hN] at Z4
        have HN := Aside0.mk hN
        clear hN
        have hz := eq_zero N hb
        obtain ⟨c0, c1, c2, c3⟩ := Z4.out.cell
        obtain ⟨k0, k1, k2, k3⟩ := Z2.out.free
        obtain ⟨j0, j1, j2, j3⟩ := Z2.out.cell
        show Code.wp _ _ _ _ _
        go_wp2
        go_region_held3 (fun w' => w'.cell? ⟨w.heap.size + 1, 0, none⟩ = some (.int .u64 (wd N 0)) ∧ w'.cell? ⟨w.heap.size + 1, 1, none⟩ = some (.int .u64 (wd N 1)) ∧ w'.cell? ⟨w.heap.size + 1, 2, none⟩ = some (.int .u64 (wd N 2)) ∧ w'.cell? ⟨w.heap.size + 1, 3, none⟩ = some (.int .u64 (wd N 3))) (go_keep) (fail)
        all_goals
          go_wp2
          refine bodyPost_ret (results_cell_tmp1 rfl _ _ w.heap.size (cs N) rfl (Var.load1 ((show Var w.heap.size 0 w4.drew from Z2.out).put (n := N)))) rfl ?_
          rw [HN.out]
          refine ⟨?_, below_put ZB.out.drew (Nat.le_refl _) _ _ _ _⟩
          show Ending.returned (.tuple #[.agg (cs N), .bool (!(N == 0))]) = _
          cases hc : N == 0 <;> simp [bne, hc, St]
      case sw =>
        by_cases h0 : s.toList = [97, 108, 112, 104, 97]
        · have hn : nset s.toList = UP ||| LO := by unfold nset; rw [if_pos h0]
          have k0 := fun w => both_calls UP LO w
          obtain ⟨X0, hX0⟩ : ∃ X, UP ||| LO = X := ⟨_, rfl⟩
          simp only [hX0] at k0
          rw [hX0] at hn
          have K0 := Aside0.mk k0
          clear k0 hX0
          rw [hn]
          have e0 : (s.toList == [97, 108, 112, 104, 97]) = true := by rw [h0]; rfl
          clear hn h0
          obtain ⟨c00, c01, c02, c03⟩ := W5.out.cell
          obtain ⟨c10, c11, c12, c13⟩ := W6.out.cell
          go_wp2_with (fail)
          refine (K0.out _).mono ?_
          rintro e w4 ⟨rfl, hb⟩
          replace V2 := Aside0.mk (V2.out.below hb)
          replace V4 := Aside0.mk (V4.out.below hb)
          replace HB := Aside0.mk (HB.out.trans (hb.mono HB.out.size))
          clear hb c00 c01 c02 c03 c10 c11 c12 c13
          rw [St_words]
          obtain ⟨k0, k1, k2, k3⟩ := V4.out.free
          obtain ⟨j0, j1, j2, j3⟩ := V4.out.cell
          go_wp2
          first | exact ⟨rfl, _, _, _, _, _, _, _, _, _, _, _, _, _, _, _, _, _, _, _, _, _, _, _, _, _, _, _, _, _, _, _, _, _, _, _, _, _, _, _, _, _, _, _, _, _, _, _, _, _, _, _, _, _, _, _, _, _, _, _, _, _, _, _, _, _, _, _, _, _, _, _, _, _, _, rfl, ⟨V2.out.far (by omega) _ _ _ _⟩, ⟨V4.out.put⟩, ⟨below_put HB.out (by omega) _ _ _ _⟩⟩ | exact ⟨_, _, _, _, _, _, _, _, _, _, _, _, _, _, _, _, _, _, _, _, _, _, _, _, _, _, _, _, _, _, _, _, _, _, _, _, _, _, _, _, _, _, _, _, _, _, _, _, _, _, _, _, _, _, _, _, _, _, _, _, _, _, _, _, _, _, _, _, _, _, _, _, _, _, rfl, ⟨V2.out.far (by omega) _ _ _ _⟩, ⟨V4.out.put⟩, ⟨below_put HB.out (by omega) _ _ _ _⟩⟩
        have e0 : (s.toList == [97, 108, 112, 104, 97]) = false := by rw [beq_eq_false_iff_ne]; exact h0
        by_cases h1 : s.toList = [100, 105, 103, 105, 116]
        · have hn : nset s.toList = DI := by unfold nset; rw [if_neg h0, if_pos h1]

          rw [hn]
          have e1 : (s.toList == [100, 105, 103, 105, 116]) = true := by rw [h1]; rfl
          clear hn h0 h1
          obtain ⟨c00, c01, c02, c03⟩ := W7.out.cell
          obtain ⟨k0, k1, k2, k3⟩ := V4.out.free
          obtain ⟨j0, j1, j2, j3⟩ := V4.out.cell
          go_wp2
          first | exact ⟨rfl, _, _, _, _, _, _, _, _, _, _, _, _, _, _, _, _, _, _, _, _, _, _, _, _, _, _, _, _, _, _, _, _, _, _, _, _, _, _, _, _, _, _, _, _, _, _, _, _, _, _, _, _, _, _, _, _, _, _, _, _, _, _, _, _, _, _, _, _, _, _, _, _, _, _, rfl, ⟨V2.out.far (by omega) _ _ _ _⟩, ⟨V4.out.put⟩, ⟨below_put HB.out (by omega) _ _ _ _⟩⟩ | exact ⟨_, _, _, _, _, _, _, _, _, _, _, _, _, _, _, _, _, _, _, _, _, _, _, _, _, _, _, _, _, _, _, _, _, _, _, _, _, _, _, _, _, _, _, _, _, _, _, _, _, _, _, _, _, _, _, _, _, _, _, _, _, _, _, _, _, _, _, _, _, _, _, _, _, _, rfl, ⟨V2.out.far (by omega) _ _ _ _⟩, ⟨V4.out.put⟩, ⟨below_put HB.out (by omega) _ _ _ _⟩⟩
        have e1 : (s.toList == [100, 105, 103, 105, 116]) = false := by rw [beq_eq_false_iff_ne]; exact h1
        by_cases h2 : s.toList = [97, 108, 110, 117, 109]
        · have hn : nset s.toList = UP ||| LO ||| DI := by unfold nset; rw [if_neg h0, if_neg h1, if_pos h2]

          rw [hn]
          have e2 : (s.toList == [97, 108, 110, 117, 109]) = true := by rw [h2]; rfl
          clear hn h0 h1 h2
          obtain ⟨c00, c01, c02, c03⟩ := W8'.out.cell
          obtain ⟨k0, k1, k2, k3⟩ := V4.out.free
          obtain ⟨j0, j1, j2, j3⟩ := V4.out.cell
          go_wp2
          first | exact ⟨rfl, _, _, _, _, _, _, _, _, _, _, _, _, _, _, _, _, _, _, _, _, _, _, _, _, _, _, _, _, _, _, _, _, _, _, _, _, _, _, _, _, _, _, _, _, _, _, _, _, _, _, _, _, _, _, _, _, _, _, _, _, _, _, _, _, _, _, _, _, _, _, _, _, _, _, rfl, ⟨V2.out.far (by omega) _ _ _ _⟩, ⟨V4.out.put⟩, ⟨below_put HB.out (by omega) _ _ _ _⟩⟩ | exact ⟨_, _, _, _, _, _, _, _, _, _, _, _, _, _, _, _, _, _, _, _, _, _, _, _, _, _, _, _, _, _, _, _, _, _, _, _, _, _, _, _, _, _, _, _, _, _, _, _, _, _, _, _, _, _, _, _, _, _, _, _, _, _, _, _, _, _, _, _, _, _, _, _, _, _, rfl, ⟨V2.out.far (by omega) _ _ _ _⟩, ⟨V4.out.put⟩, ⟨below_put HB.out (by omega) _ _ _ _⟩⟩
        have e2 : (s.toList == [97, 108, 110, 117, 109]) = false := by rw [beq_eq_false_iff_ne]; exact h2
        by_cases h3 : s.toList = [117, 112, 112, 101, 114]
        · have hn : nset s.toList = UP := by unfold nset; rw [if_neg h0, if_neg h1, if_neg h2, if_pos h3]

          rw [hn]
          have e3 : (s.toList == [117, 112, 112, 101, 114]) = true := by rw [h3]; rfl
          clear hn h0 h1 h2 h3
          obtain ⟨c00, c01, c02, c03⟩ := W5.out.cell
          obtain ⟨k0, k1, k2, k3⟩ := V4.out.free
          obtain ⟨j0, j1, j2, j3⟩ := V4.out.cell
          go_wp2
          first | exact ⟨rfl, _, _, _, _, _, _, _, _, _, _, _, _, _, _, _, _, _, _, _, _, _, _, _, _, _, _, _, _, _, _, _, _, _, _, _, _, _, _, _, _, _, _, _, _, _, _, _, _, _, _, _, _, _, _, _, _, _, _, _, _, _, _, _, _, _, _, _, _, _, _, _, _, _, _, rfl, ⟨V2.out.far (by omega) _ _ _ _⟩, ⟨V4.out.put⟩, ⟨below_put HB.out (by omega) _ _ _ _⟩⟩ | exact ⟨_, _, _, _, _, _, _, _, _, _, _, _, _, _, _, _, _, _, _, _, _, _, _, _, _, _, _, _, _, _, _, _, _, _, _, _, _, _, _, _, _, _, _, _, _, _, _, _, _, _, _, _, _, _, _, _, _, _, _, _, _, _, _, _, _, _, _, _, _, _, _, _, _, _, rfl, ⟨V2.out.far (by omega) _ _ _ _⟩, ⟨V4.out.put⟩, ⟨below_put HB.out (by omega) _ _ _ _⟩⟩
        have e3 : (s.toList == [117, 112, 112, 101, 114]) = false := by rw [beq_eq_false_iff_ne]; exact h3
        by_cases h4 : s.toList = [108, 111, 119, 101, 114]
        · have hn : nset s.toList = LO := by unfold nset; rw [if_neg h0, if_neg h1, if_neg h2, if_neg h3, if_pos h4]

          rw [hn]
          have e4 : (s.toList == [108, 111, 119, 101, 114]) = true := by rw [h4]; rfl
          clear hn h0 h1 h2 h3 h4
          obtain ⟨c00, c01, c02, c03⟩ := W6.out.cell
          obtain ⟨k0, k1, k2, k3⟩ := V4.out.free
          obtain ⟨j0, j1, j2, j3⟩ := V4.out.cell
          go_wp2
          first | exact ⟨rfl, _, _, _, _, _, _, _, _, _, _, _, _, _, _, _, _, _, _, _, _, _, _, _, _, _, _, _, _, _, _, _, _, _, _, _, _, _, _, _, _, _, _, _, _, _, _, _, _, _, _, _, _, _, _, _, _, _, _, _, _, _, _, _, _, _, _, _, _, _, _, _, _, _, _, rfl, ⟨V2.out.far (by omega) _ _ _ _⟩, ⟨V4.out.put⟩, ⟨below_put HB.out (by omega) _ _ _ _⟩⟩ | exact ⟨_, _, _, _, _, _, _, _, _, _, _, _, _, _, _, _, _, _, _, _, _, _, _, _, _, _, _, _, _, _, _, _, _, _, _, _, _, _, _, _, _, _, _, _, _, _, _, _, _, _, _, _, _, _, _, _, _, _, _, _, _, _, _, _, _, _, _, _, _, _, _, _, _, _, rfl, ⟨V2.out.far (by omega) _ _ _ _⟩, ⟨V4.out.put⟩, ⟨below_put HB.out (by omega) _ _ _ _⟩⟩
        have e4 : (s.toList == [108, 111, 119, 101, 114]) = false := by rw [beq_eq_false_iff_ne]; exact h4
        by_cases h5 : s.toList = [115, 112, 97, 99, 101]
        · have hn : nset s.toList = wi (wi 0 9 (13 + 1 - 9)) 32 (32 + 1 - 32) := by unfold nset; rw [if_neg h0, if_neg h1, if_neg h2, if_neg h3, if_neg h4, if_pos h5]
          have k0 := fun w => with_calls 0 9 13 w (by decide) (by decide)
          obtain ⟨X0, hX0⟩ : ∃ X, wi 0 9 (13 + 1 - 9) = X := ⟨_, rfl⟩
          simp only [hX0] at k0
          rw [hX0] at hn
          have K0 := Aside0.mk k0
          clear k0 hX0
          have k1 := fun w => with_calls X0 32 32 w (by decide) (by decide)
          obtain ⟨X1, hX1⟩ : ∃ X, wi X0 32 (32 + 1 - 32) = X := ⟨_, rfl⟩
          simp only [hX1] at k1
          rw [hX1] at hn
          have K1 := Aside0.mk k1
          clear k1 hX1
          rw [hn]
          have e5 : (s.toList == [115, 112, 97, 99, 101]) = true := by rw [h5]; rfl
          clear hn h0 h1 h2 h3 h4 h5
          obtain ⟨c00, c01, c02, c03⟩ := V4.out.cell
          go_wp2_with (fail)
          refine (K0.out _).mono ?_
          rintro e w4 ⟨rfl, hb⟩
          replace V2 := Aside0.mk (V2.out.below hb)
          replace V4 := Aside0.mk (V4.out.below hb)
          replace HB := Aside0.mk (HB.out.trans (hb.mono HB.out.size))
          clear hb c00 c01 c02 c03
          go_wp2_with (fail)
          refine (K1.out _).mono ?_
          rintro e w4 ⟨rfl, hb⟩
          replace V2 := Aside0.mk (V2.out.below hb)
          replace V4 := Aside0.mk (V4.out.below hb)
          replace HB := Aside0.mk (HB.out.trans (hb.mono HB.out.size))
          clear hb
          rw [St_words]
          obtain ⟨k0, k1, k2, k3⟩ := V4.out.free
          obtain ⟨j0, j1, j2, j3⟩ := V4.out.cell
          go_wp2
          first | exact ⟨rfl, _, _, _, _, _, _, _, _, _, _, _, _, _, _, _, _, _, _, _, _, _, _, _, _, _, _, _, _, _, _, _, _, _, _, _, _, _, _, _, _, _, _, _, _, _, _, _, _, _, _, _, _, _, _, _, _, _, _, _, _, _, _, _, _, _, _, _, _, _, _, _, _, _, _, rfl, ⟨V2.out.far (by omega) _ _ _ _⟩, ⟨V4.out.put⟩, ⟨below_put HB.out (by omega) _ _ _ _⟩⟩ | exact ⟨_, _, _, _, _, _, _, _, _, _, _, _, _, _, _, _, _, _, _, _, _, _, _, _, _, _, _, _, _, _, _, _, _, _, _, _, _, _, _, _, _, _, _, _, _, _, _, _, _, _, _, _, _, _, _, _, _, _, _, _, _, _, _, _, _, _, _, _, _, _, _, _, _, _, rfl, ⟨V2.out.far (by omega) _ _ _ _⟩, ⟨V4.out.put⟩, ⟨below_put HB.out (by omega) _ _ _ _⟩⟩
        have e5 : (s.toList == [115, 112, 97, 99, 101]) = false := by rw [beq_eq_false_iff_ne]; exact h5
        by_cases h6 : s.toList = [98, 108, 97, 110, 107]
        · have hn : nset s.toList = wi (wi 0 9 (9 + 1 - 9)) 32 (32 + 1 - 32) := by unfold nset; rw [if_neg h0, if_neg h1, if_neg h2, if_neg h3, if_neg h4, if_neg h5, if_pos h6]
          have k0 := fun w => with_calls 0 9 9 w (by decide) (by decide)
          obtain ⟨X0, hX0⟩ : ∃ X, wi 0 9 (9 + 1 - 9) = X := ⟨_, rfl⟩
          simp only [hX0] at k0
          rw [hX0] at hn
          have K0 := Aside0.mk k0
          clear k0 hX0
          have k1 := fun w => with_calls X0 32 32 w (by decide) (by decide)
          obtain ⟨X1, hX1⟩ : ∃ X, wi X0 32 (32 + 1 - 32) = X := ⟨_, rfl⟩
          simp only [hX1] at k1
          rw [hX1] at hn
          have K1 := Aside0.mk k1
          clear k1 hX1
          rw [hn]
          have e6 : (s.toList == [98, 108, 97, 110, 107]) = true := by rw [h6]; rfl
          clear hn h0 h1 h2 h3 h4 h5 h6
          obtain ⟨c00, c01, c02, c03⟩ := V4.out.cell
          go_wp2_with (fail)
          refine (K0.out _).mono ?_
          rintro e w4 ⟨rfl, hb⟩
          replace V2 := Aside0.mk (V2.out.below hb)
          replace V4 := Aside0.mk (V4.out.below hb)
          replace HB := Aside0.mk (HB.out.trans (hb.mono HB.out.size))
          clear hb c00 c01 c02 c03
          go_wp2_with (fail)
          refine (K1.out _).mono ?_
          rintro e w4 ⟨rfl, hb⟩
          replace V2 := Aside0.mk (V2.out.below hb)
          replace V4 := Aside0.mk (V4.out.below hb)
          replace HB := Aside0.mk (HB.out.trans (hb.mono HB.out.size))
          clear hb
          rw [St_words]
          obtain ⟨k0, k1, k2, k3⟩ := V4.out.free
          obtain ⟨j0, j1, j2, j3⟩ := V4.out.cell
          go_wp2
          first | exact ⟨rfl, _, _, _, _, _, _, _, _, _, _, _, _, _, _, _, _, _, _, _, _, _, _, _, _, _, _, _, _, _, _, _, _, _, _, _, _, _, _, _, _, _, _, _, _, _, _, _, _, _, _, _, _, _, _, _, _, _, _, _, _, _, _, _, _, _, _, _, _, _, _, _, _, _, _, rfl, ⟨V2.out.far (by omega) _ _ _ _⟩, ⟨V4.out.put⟩, ⟨below_put HB.out (by omega) _ _ _ _⟩⟩ | exact ⟨_, _, _, _, _, _, _, _, _, _, _, _, _, _, _, _, _, _, _, _, _, _, _, _, _, _, _, _, _, _, _, _, _, _, _, _, _, _, _, _, _, _, _, _, _, _, _, _, _, _, _, _, _, _, _, _, _, _, _, _, _, _, _, _, _, _, _, _, _, _, _, _, _, _, rfl, ⟨V2.out.far (by omega) _ _ _ _⟩, ⟨V4.out.put⟩, ⟨below_put HB.out (by omega) _ _ _ _⟩⟩
        have e6 : (s.toList == [98, 108, 97, 110, 107]) = false := by rw [beq_eq_false_iff_ne]; exact h6
        by_cases h7 : s.toList = [112, 117, 110, 99, 116]
        · have hn : nset s.toList = compl (UP ||| LO ||| DI ||| compl (wi 0 33 (126 + 1 - 33))) := by unfold nset; rw [if_neg h0, if_neg h1, if_neg h2, if_neg h3, if_neg h4, if_neg h5, if_neg h6, if_pos h7]
          have k0 := fun w => with_calls 0 33 126 w (by decide) (by decide)
          obtain ⟨X0, hX0⟩ : ∃ X, wi 0 33 (126 + 1 - 33) = X := ⟨_, rfl⟩
          have bd0 : X0 < 2 ^ 256 := by rw [← hX0]; exact nm_lt _ _ _ (by decide) (by decide)
          simp only [hX0] at k0
          rw [hX0] at hn
          have K0 := Aside0.mk k0
          clear k0 hX0
          have k1 := fun w => not_calls X0 w bd0
          obtain ⟨X1, hX1⟩ : ∃ X, compl X0 = X := ⟨_, rfl⟩
          have bdc : X1 < 2 ^ 256 := by rw [← hX1]; exact compl_lt _
          simp only [hX1] at k1
          rw [hX1] at hn
          have K1 := Aside0.mk k1
          clear k1 hX1
          have k2 := fun w => both_calls (UP ||| LO ||| DI) X1 w
          obtain ⟨X2, hX2⟩ : ∃ X, UP ||| LO ||| DI ||| X1 = X := ⟨_, rfl⟩
          have bd2 : X2 < 2 ^ 256 := by rw [← hX2]; exact Nat.or_lt_two_pow AN_lt bdc
          simp only [hX2] at k2
          rw [hX2] at hn
          have K2 := Aside0.mk k2
          clear k2 hX2
          have k3 := fun w => not_calls X2 w bd2
          obtain ⟨X3, hX3⟩ : ∃ X, compl X2 = X := ⟨_, rfl⟩
          simp only [hX3] at k3
          rw [hX3] at hn
          have K3 := Aside0.mk k3
          clear k3 hX3
          rw [hn]
          have e7 : (s.toList == [112, 117, 110, 99, 116]) = true := by rw [h7]; rfl
          clear hn h0 h1 h2 h3 h4 h5 h6 h7
          go_wp2
          refine Tk.start #[false, false, false, false, false, false, false] 7 mixed rfl rfl ?_
          replace V2 := Aside0.mk (show Var w.heap.size 0 w3.drew from V2.out)
          replace V4 := Aside0.mk (show Var (w.heap.size + 1) 0 w3.drew from V4.out)
          replace W8' := Aside0.mk (show Var g8 (UP ||| LO ||| DI) w3.drew from W8'.out)
          replace HB := Aside0.mk HB.out.drew
          refine Tk.two (i := 0) (j := 1) #[true, false, false, false, false, false, false] #[false, true, false, false, false, false, false] rfl rfl (by kernel_rfl) rfl rfl (by kernel_rfl) (by kernel_rfl) (fun K hK => ?_) (fun K hK => ?_)
          · skip
            obtain ⟨c0, c1, c2, c3⟩ := W8'.out.cell
            go_simp
            clear c0 c1 c2 c3
            refine hK _ _ ?_
            clear hK K
            try simp only [Act.put, List.setIfInBounds_toArray, List.set_cons_zero, List.set_cons_succ]
            refine Tk.one (i := 1) #[true, true, false, false, false, false, false] rfl (by kernel_rfl) rfl (by kernel_rfl) (fun K hK => ?_)
            obtain ⟨c0, c1, c2, c3⟩ := V4.out.cell
            go_simp
            clear c0 c1 c2 c3
            refine hK _ _ ?_
            clear hK K
            try simp only [Act.put, List.setIfInBounds_toArray, List.set_cons_zero, List.set_cons_succ]
            refine Tk.one (i := 2) #[true, true, true, false, false, false, false] rfl (by kernel_rfl) rfl (by kernel_rfl) (fun K hK => ?_)
            go_simp
            refine (K0.out _).mono ?_
            rintro e w4 ⟨rfl, hb⟩
            replace V2 := Aside0.mk (V2.out.below hb)
            replace V4 := Aside0.mk (V4.out.below hb)
            replace HB := Aside0.mk (HB.out.trans (hb.mono HB.out.size))
            replace W8' := Aside0.mk (W8'.out.below hb)
            clear hb
            rw [St_words]
            refine hK _ _ ?_
            clear hK K
            try simp only [Act.put, List.setIfInBounds_toArray, List.set_cons_zero, List.set_cons_succ]
            refine Tk.one (i := 3) #[true, true, true, true, false, false, false] rfl (by kernel_rfl) rfl (by kernel_rfl) (fun K hK => ?_)
            go_simp
            refine (K1.out _).mono ?_
            rintro e w4 ⟨rfl, hb⟩
            replace V2 := Aside0.mk (V2.out.below hb)
            replace V4 := Aside0.mk (V4.out.below hb)
            replace HB := Aside0.mk (HB.out.trans (hb.mono HB.out.size))
            replace W8' := Aside0.mk (W8'.out.below hb)
            clear hb
            rw [St_words]
            refine hK _ _ ?_
            clear hK K
            try simp only [Act.put, List.setIfInBounds_toArray, List.set_cons_zero, List.set_cons_succ]
            refine Tk.one (i := 4) #[true, true, true, true, true, false, false] rfl (by kernel_rfl) rfl (by kernel_rfl) (fun K hK => ?_)
            go_simp
            refine (K2.out _).mono ?_
            rintro e w4 ⟨rfl, hb⟩
            replace V2 := Aside0.mk (V2.out.below hb)
            replace V4 := Aside0.mk (V4.out.below hb)
            replace HB := Aside0.mk (HB.out.trans (hb.mono HB.out.size))
            replace W8' := Aside0.mk (W8'.out.below hb)
            clear hb
            rw [St_words]
            refine hK _ _ ?_
            clear hK K
            try simp only [Act.put, List.setIfInBounds_toArray, List.set_cons_zero, List.set_cons_succ]
            refine Tk.one (i := 5) #[true, true, true, true, true, true, false] rfl (by kernel_rfl) rfl (by kernel_rfl) (fun K hK => ?_)
            go_simp
            refine (K3.out _).mono ?_
            rintro e w4 ⟨rfl, hb⟩
            replace V2 := Aside0.mk (V2.out.below hb)
            replace V4 := Aside0.mk (V4.out.below hb)
            replace HB := Aside0.mk (HB.out.trans (hb.mono HB.out.size))
            replace W8' := Aside0.mk (W8'.out.below hb)
            clear hb
            rw [St_words]
            refine hK _ _ ?_
            clear hK K
            try simp only [Act.put, List.setIfInBounds_toArray, List.set_cons_zero, List.set_cons_succ]
            refine Tk.one (i := 6) #[true, true, true, true, true, true, true] rfl (by kernel_rfl) rfl (by kernel_rfl) (fun K hK => ?_)
            obtain ⟨c0, c1, c2, c3⟩ := V4.out.cell
            obtain ⟨k0, k1, k2, k3⟩ := V4.out.free
            go_simp
            refine hK _ _ ?_
            clear hK K
            refine Tk.done (by kernel_rfl) ?_
            first | exact ⟨rfl, _, _, _, _, _, _, _, _, _, _, _, _, _, _, _, _, _, _, _, _, _, _, _, _, _, _, _, _, _, _, _, _, _, _, _, _, _, _, _, _, _, _, _, _, _, _, _, _, _, _, _, _, _, _, _, _, _, _, _, _, _, _, _, _, _, _, _, _, _, _, _, _, _, _, rfl, ⟨V2.out.far (by omega) _ _ _ _⟩, ⟨V4.out.put⟩, ⟨below_put HB.out (by omega) _ _ _ _⟩⟩ | exact ⟨_, _, _, _, _, _, _, _, _, _, _, _, _, _, _, _, _, _, _, _, _, _, _, _, _, _, _, _, _, _, _, _, _, _, _, _, _, _, _, _, _, _, _, _, _, _, _, _, _, _, _, _, _, _, _, _, _, _, _, _, _, _, _, _, _, _, _, _, _, _, _, _, _, _, rfl, ⟨V2.out.far (by omega) _ _ _ _⟩, ⟨V4.out.put⟩, ⟨below_put HB.out (by omega) _ _ _ _⟩⟩
          · skip
            obtain ⟨c0, c1, c2, c3⟩ := V4.out.cell
            go_simp
            clear c0 c1 c2 c3
            refine hK _ _ ?_
            clear hK K
            try simp only [Act.put, List.setIfInBounds_toArray, List.set_cons_zero, List.set_cons_succ]
            refine Tk.two (i := 0) (j := 2) #[true, true, false, false, false, false, false] #[false, true, true, false, false, false, false] rfl rfl (by kernel_rfl) rfl rfl (by kernel_rfl) (by kernel_rfl) (fun K hK => ?_) (fun K hK => ?_)
            · skip
              obtain ⟨c0, c1, c2, c3⟩ := W8'.out.cell
              go_simp
              clear c0 c1 c2 c3
              refine hK _ _ ?_
              clear hK K
              try simp only [Act.put, List.setIfInBounds_toArray, List.set_cons_zero, List.set_cons_succ]
              refine Tk.one (i := 2) #[true, true, true, false, false, false, false] rfl (by kernel_rfl) rfl (by kernel_rfl) (fun K hK => ?_)
              go_simp
              refine (K0.out _).mono ?_
              rintro e w4 ⟨rfl, hb⟩
              replace V2 := Aside0.mk (V2.out.below hb)
              replace V4 := Aside0.mk (V4.out.below hb)
              replace HB := Aside0.mk (HB.out.trans (hb.mono HB.out.size))
              replace W8' := Aside0.mk (W8'.out.below hb)
              clear hb
              rw [St_words]
              refine hK _ _ ?_
              clear hK K
              try simp only [Act.put, List.setIfInBounds_toArray, List.set_cons_zero, List.set_cons_succ]
              refine Tk.one (i := 3) #[true, true, true, true, false, false, false] rfl (by kernel_rfl) rfl (by kernel_rfl) (fun K hK => ?_)
              go_simp
              refine (K1.out _).mono ?_
              rintro e w4 ⟨rfl, hb⟩
              replace V2 := Aside0.mk (V2.out.below hb)
              replace V4 := Aside0.mk (V4.out.below hb)
              replace HB := Aside0.mk (HB.out.trans (hb.mono HB.out.size))
              replace W8' := Aside0.mk (W8'.out.below hb)
              clear hb
              rw [St_words]
              refine hK _ _ ?_
              clear hK K
              try simp only [Act.put, List.setIfInBounds_toArray, List.set_cons_zero, List.set_cons_succ]
              refine Tk.one (i := 4) #[true, true, true, true, true, false, false] rfl (by kernel_rfl) rfl (by kernel_rfl) (fun K hK => ?_)
              go_simp
              refine (K2.out _).mono ?_
              rintro e w4 ⟨rfl, hb⟩
              replace V2 := Aside0.mk (V2.out.below hb)
              replace V4 := Aside0.mk (V4.out.below hb)
              replace HB := Aside0.mk (HB.out.trans (hb.mono HB.out.size))
              replace W8' := Aside0.mk (W8'.out.below hb)
              clear hb
              rw [St_words]
              refine hK _ _ ?_
              clear hK K
              try simp only [Act.put, List.setIfInBounds_toArray, List.set_cons_zero, List.set_cons_succ]
              refine Tk.one (i := 5) #[true, true, true, true, true, true, false] rfl (by kernel_rfl) rfl (by kernel_rfl) (fun K hK => ?_)
              go_simp
              refine (K3.out _).mono ?_
              rintro e w4 ⟨rfl, hb⟩
              replace V2 := Aside0.mk (V2.out.below hb)
              replace V4 := Aside0.mk (V4.out.below hb)
              replace HB := Aside0.mk (HB.out.trans (hb.mono HB.out.size))
              replace W8' := Aside0.mk (W8'.out.below hb)
              clear hb
              rw [St_words]
              refine hK _ _ ?_
              clear hK K
              try simp only [Act.put, List.setIfInBounds_toArray, List.set_cons_zero, List.set_cons_succ]
              refine Tk.one (i := 6) #[true, true, true, true, true, true, true] rfl (by kernel_rfl) rfl (by kernel_rfl) (fun K hK => ?_)
              obtain ⟨c0, c1, c2, c3⟩ := V4.out.cell
              obtain ⟨k0, k1, k2, k3⟩ := V4.out.free
              go_simp
              refine hK _ _ ?_
              clear hK K
              refine Tk.done (by kernel_rfl) ?_
              first | exact ⟨rfl, _, _, _, _, _, _, _, _, _, _, _, _, _, _, _, _, _, _, _, _, _, _, _, _, _, _, _, _, _, _, _, _, _, _, _, _, _, _, _, _, _, _, _, _, _, _, _, _, _, _, _, _, _, _, _, _, _, _, _, _, _, _, _, _, _, _, _, _, _, _, _, _, _, _, rfl, ⟨V2.out.far (by omega) _ _ _ _⟩, ⟨V4.out.put⟩, ⟨below_put HB.out (by omega) _ _ _ _⟩⟩ | exact ⟨_, _, _, _, _, _, _, _, _, _, _, _, _, _, _, _, _, _, _, _, _, _, _, _, _, _, _, _, _, _, _, _, _, _, _, _, _, _, _, _, _, _, _, _, _, _, _, _, _, _, _, _, _, _, _, _, _, _, _, _, _, _, _, _, _, _, _, _, _, _, _, _, _, _, rfl, ⟨V2.out.far (by omega) _ _ _ _⟩, ⟨V4.out.put⟩, ⟨below_put HB.out (by omega) _ _ _ _⟩⟩
            · skip
              go_simp
              refine (K0.out _).mono ?_
              rintro e w4 ⟨rfl, hb⟩
              replace V2 := Aside0.mk (V2.out.below hb)
              replace V4 := Aside0.mk (V4.out.below hb)
              replace HB := Aside0.mk (HB.out.trans (hb.mono HB.out.size))
              replace W8' := Aside0.mk (W8'.out.below hb)
              clear hb
              rw [St_words]
              refine hK _ _ ?_
              clear hK K
              try simp only [Act.put, List.setIfInBounds_toArray, List.set_cons_zero, List.set_cons_succ]
              refine Tk.two (i := 0) (j := 3) #[true, true, true, false, false, false, false] #[false, true, true, true, false, false, false] rfl rfl (by kernel_rfl) rfl rfl (by kernel_rfl) (by kernel_rfl) (fun K hK => ?_) (fun K hK => ?_)
              · skip
                obtain ⟨c0, c1, c2, c3⟩ := W8'.out.cell
                go_simp
                clear c0 c1 c2 c3
                refine hK _ _ ?_
                clear hK K
                try simp only [Act.put, List.setIfInBounds_toArray, List.set_cons_zero, List.set_cons_succ]
                refine Tk.one (i := 3) #[true, true, true, true, false, false, false] rfl (by kernel_rfl) rfl (by kernel_rfl) (fun K hK => ?_)
                go_simp
                refine (K1.out _).mono ?_
                rintro e w4 ⟨rfl, hb⟩
                replace V2 := Aside0.mk (V2.out.below hb)
                replace V4 := Aside0.mk (V4.out.below hb)
                replace HB := Aside0.mk (HB.out.trans (hb.mono HB.out.size))
                replace W8' := Aside0.mk (W8'.out.below hb)
                clear hb
                rw [St_words]
                refine hK _ _ ?_
                clear hK K
                try simp only [Act.put, List.setIfInBounds_toArray, List.set_cons_zero, List.set_cons_succ]
                refine Tk.one (i := 4) #[true, true, true, true, true, false, false] rfl (by kernel_rfl) rfl (by kernel_rfl) (fun K hK => ?_)
                go_simp
                refine (K2.out _).mono ?_
                rintro e w4 ⟨rfl, hb⟩
                replace V2 := Aside0.mk (V2.out.below hb)
                replace V4 := Aside0.mk (V4.out.below hb)
                replace HB := Aside0.mk (HB.out.trans (hb.mono HB.out.size))
                replace W8' := Aside0.mk (W8'.out.below hb)
                clear hb
                rw [St_words]
                refine hK _ _ ?_
                clear hK K
                try simp only [Act.put, List.setIfInBounds_toArray, List.set_cons_zero, List.set_cons_succ]
                refine Tk.one (i := 5) #[true, true, true, true, true, true, false] rfl (by kernel_rfl) rfl (by kernel_rfl) (fun K hK => ?_)
                go_simp
                refine (K3.out _).mono ?_
                rintro e w4 ⟨rfl, hb⟩
                replace V2 := Aside0.mk (V2.out.below hb)
                replace V4 := Aside0.mk (V4.out.below hb)
                replace HB := Aside0.mk (HB.out.trans (hb.mono HB.out.size))
                replace W8' := Aside0.mk (W8'.out.below hb)
                clear hb
                rw [St_words]
                refine hK _ _ ?_
                clear hK K
                try simp only [Act.put, List.setIfInBounds_toArray, List.set_cons_zero, List.set_cons_succ]
                refine Tk.one (i := 6) #[true, true, true, true, true, true, true] rfl (by kernel_rfl) rfl (by kernel_rfl) (fun K hK => ?_)
                obtain ⟨c0, c1, c2, c3⟩ := V4.out.cell
                obtain ⟨k0, k1, k2, k3⟩ := V4.out.free
                go_simp
                refine hK _ _ ?_
                clear hK K
                refine Tk.done (by kernel_rfl) ?_
                first | exact ⟨rfl, _, _, _, _, _, _, _, _, _, _, _, _, _, _, _, _, _, _, _, _, _, _, _, _, _, _, _, _, _, _, _, _, _, _, _, _, _, _, _, _, _, _, _, _, _, _, _, _, _, _, _, _, _, _, _, _, _, _, _, _, _, _, _, _, _, _, _, _, _, _, _, _, _, _, rfl, ⟨V2.out.far (by omega) _ _ _ _⟩, ⟨V4.out.put⟩, ⟨below_put HB.out (by omega) _ _ _ _⟩⟩ | exact ⟨_, _, _, _, _, _, _, _, _, _, _, _, _, _, _, _, _, _, _, _, _, _, _, _, _, _, _, _, _, _, _, _, _, _, _, _, _, _, _, _, _, _, _, _, _, _, _, _, _, _, _, _, _, _, _, _, _, _, _, _, _, _, _, _, _, _, _, _, _, _, _, _, _, _, rfl, ⟨V2.out.far (by omega) _ _ _ _⟩, ⟨V4.out.put⟩, ⟨below_put HB.out (by omega) _ _ _ _⟩⟩
              · skip
                go_simp
                refine (K1.out _).mono ?_
                rintro e w4 ⟨rfl, hb⟩
                replace V2 := Aside0.mk (V2.out.below hb)
                replace V4 := Aside0.mk (V4.out.below hb)
                replace HB := Aside0.mk (HB.out.trans (hb.mono HB.out.size))
                replace W8' := Aside0.mk (W8'.out.below hb)
                clear hb
                rw [St_words]
                refine hK _ _ ?_
                clear hK K
                try simp only [Act.put, List.setIfInBounds_toArray, List.set_cons_zero, List.set_cons_succ]
                refine Tk.one (i := 0) #[true, true, true, true, false, false, false] rfl (by kernel_rfl) rfl (by kernel_rfl) (fun K hK => ?_)
                obtain ⟨c0, c1, c2, c3⟩ := W8'.out.cell
                go_simp
                clear c0 c1 c2 c3
                refine hK _ _ ?_
                clear hK K
                try simp only [Act.put, List.setIfInBounds_toArray, List.set_cons_zero, List.set_cons_succ]
                refine Tk.one (i := 4) #[true, true, true, true, true, false, false] rfl (by kernel_rfl) rfl (by kernel_rfl) (fun K hK => ?_)
                go_simp
                refine (K2.out _).mono ?_
                rintro e w4 ⟨rfl, hb⟩
                replace V2 := Aside0.mk (V2.out.below hb)
                replace V4 := Aside0.mk (V4.out.below hb)
                replace HB := Aside0.mk (HB.out.trans (hb.mono HB.out.size))
                replace W8' := Aside0.mk (W8'.out.below hb)
                clear hb
                rw [St_words]
                refine hK _ _ ?_
                clear hK K
                try simp only [Act.put, List.setIfInBounds_toArray, List.set_cons_zero, List.set_cons_succ]
                refine Tk.one (i := 5) #[true, true, true, true, true, true, false] rfl (by kernel_rfl) rfl (by kernel_rfl) (fun K hK => ?_)
                go_simp
                refine (K3.out _).mono ?_
                rintro e w4 ⟨rfl, hb⟩
                replace V2 := Aside0.mk (V2.out.below hb)
                replace V4 := Aside0.mk (V4.out.below hb)
                replace HB := Aside0.mk (HB.out.trans (hb.mono HB.out.size))
                replace W8' := Aside0.mk (W8'.out.below hb)
                clear hb
                rw [St_words]
                refine hK _ _ ?_
                clear hK K
                try simp only [Act.put, List.setIfInBounds_toArray, List.set_cons_zero, List.set_cons_succ]
                refine Tk.one (i := 6) #[true, true, true, true, true, true, true] rfl (by kernel_rfl) rfl (by kernel_rfl) (fun K hK => ?_)
                obtain ⟨c0, c1, c2, c3⟩ := V4.out.cell
                obtain ⟨k0, k1, k2, k3⟩ := V4.out.free
                go_simp
                refine hK _ _ ?_
                clear hK K
                refine Tk.done (by kernel_rfl) ?_
                first | exact ⟨rfl, _, _, _, _, _, _, _, _, _, _, _, _, _, _, _, _, _, _, _, _, _, _, _, _, _, _, _, _, _, _, _, _, _, _, _, _, _, _, _, _, _, _, _, _, _, _, _, _, _, _, _, _, _, _, _, _, _, _, _, _, _, _, _, _, _, _, _, _, _, _, _, _, _, _, rfl, ⟨V2.out.far (by omega) _ _ _ _⟩, ⟨V4.out.put⟩, ⟨below_put HB.out (by omega) _ _ _ _⟩⟩ | exact ⟨_, _, _, _, _, _, _, _, _, _, _, _, _, _, _, _, _, _, _, _, _, _, _, _, _, _, _, _, _, _, _, _, _, _, _, _, _, _, _, _, _, _, _, _, _, _, _, _, _, _, _, _, _, _, _, _, _, _, _, _, _, _, _, _, _, _, _, _, _, _, _, _, _, _, rfl, ⟨V2.out.far (by omega) _ _ _ _⟩, ⟨V4.out.put⟩, ⟨below_put HB.out (by omega) _ _ _ _⟩⟩
        have e7 : (s.toList == [112, 117, 110, 99, 116]) = false := by rw [beq_eq_false_iff_ne]; exact h7
        by_cases h8 : s.toList = [112, 114, 105, 110, 116]
        · have hn : nset s.toList = wi 0 32 (126 + 1 - 32) := by unfold nset; rw [if_neg h0, if_neg h1, if_neg h2, if_neg h3, if_neg h4, if_neg h5, if_neg h6, if_neg h7, if_pos h8]
          have k0 := fun w => with_calls 0 32 126 w (by decide) (by decide)
          obtain ⟨X0, hX0⟩ : ∃ X, wi 0 32 (126 + 1 - 32) = X := ⟨_, rfl⟩
          simp only [hX0] at k0
          rw [hX0] at hn
          have K0 := Aside0.mk k0
          clear k0 hX0
          rw [hn]
          have e8 : (s.toList == [112, 114, 105, 110, 116]) = true := by rw [h8]; rfl
          clear hn h0 h1 h2 h3 h4 h5 h6 h7 h8
          obtain ⟨c00, c01, c02, c03⟩ := V4.out.cell
          go_wp2_with (fail)
          refine (K0.out _).mono ?_
          rintro e w4 ⟨rfl, hb⟩
          replace V2 := Aside0.mk (V2.out.below hb)
          replace V4 := Aside0.mk (V4.out.below hb)
          replace HB := Aside0.mk (HB.out.trans (hb.mono HB.out.size))
          clear hb c00 c01 c02 c03
          rw [St_words]
          obtain ⟨k0, k1, k2, k3⟩ := V4.out.free
          obtain ⟨j0, j1, j2, j3⟩ := V4.out.cell
          go_wp2
          first | exact ⟨rfl, _, _, _, _, _, _, _, _, _, _, _, _, _, _, _, _, _, _, _, _, _, _, _, _, _, _, _, _, _, _, _, _, _, _, _, _, _, _, _, _, _, _, _, _, _, _, _, _, _, _, _, _, _, _, _, _, _, _, _, _, _, _, _, _, _, _, _, _, _, _, _, _, _, _, rfl, ⟨V2.out.far (by omega) _ _ _ _⟩, ⟨V4.out.put⟩, ⟨below_put HB.out (by omega) _ _ _ _⟩⟩ | exact ⟨_, _, _, _, _, _, _, _, _, _, _, _, _, _, _, _, _, _, _, _, _, _, _, _, _, _, _, _, _, _, _, _, _, _, _, _, _, _, _, _, _, _, _, _, _, _, _, _, _, _, _, _, _, _, _, _, _, _, _, _, _, _, _, _, _, _, _, _, _, _, _, _, _, _, rfl, ⟨V2.out.far (by omega) _ _ _ _⟩, ⟨V4.out.put⟩, ⟨below_put HB.out (by omega) _ _ _ _⟩⟩
        have e8 : (s.toList == [112, 114, 105, 110, 116]) = false := by rw [beq_eq_false_iff_ne]; exact h8
        by_cases h9 : s.toList = [103, 114, 97, 112, 104]
        · have hn : nset s.toList = wi 0 33 (126 + 1 - 33) := by unfold nset; rw [if_neg h0, if_neg h1, if_neg h2, if_neg h3, if_neg h4, if_neg h5, if_neg h6, if_neg h7, if_neg h8, if_pos h9]
          have k0 := fun w => with_calls 0 33 126 w (by decide) (by decide)
          obtain ⟨X0, hX0⟩ : ∃ X, wi 0 33 (126 + 1 - 33) = X := ⟨_, rfl⟩
          simp only [hX0] at k0
          rw [hX0] at hn
          have K0 := Aside0.mk k0
          clear k0 hX0
          rw [hn]
          have e9 : (s.toList == [103, 114, 97, 112, 104]) = true := by rw [h9]; rfl
          clear hn h0 h1 h2 h3 h4 h5 h6 h7 h8 h9
          obtain ⟨c00, c01, c02, c03⟩ := V4.out.cell
          go_wp2_with (fail)
          refine (K0.out _).mono ?_
          rintro e w4 ⟨rfl, hb⟩
          replace V2 := Aside0.mk (V2.out.below hb)
          replace V4 := Aside0.mk (V4.out.below hb)
          replace HB := Aside0.mk (HB.out.trans (hb.mono HB.out.size))
          clear hb c00 c01 c02 c03
          rw [St_words]
          obtain ⟨k0, k1, k2, k3⟩ := V4.out.free
          obtain ⟨j0, j1, j2, j3⟩ := V4.out.cell
          go_wp2
          first | exact ⟨rfl, _, _, _, _, _, _, _, _, _, _, _, _, _, _, _, _, _, _, _, _, _, _, _, _, _, _, _, _, _, _, _, _, _, _, _, _, _, _, _, _, _, _, _, _, _, _, _, _, _, _, _, _, _, _, _, _, _, _, _, _, _, _, _, _, _, _, _, _, _, _, _, _, _, _, rfl, ⟨V2.out.far (by omega) _ _ _ _⟩, ⟨V4.out.put⟩, ⟨below_put HB.out (by omega) _ _ _ _⟩⟩ | exact ⟨_, _, _, _, _, _, _, _, _, _, _, _, _, _, _, _, _, _, _, _, _, _, _, _, _, _, _, _, _, _, _, _, _, _, _, _, _, _, _, _, _, _, _, _, _, _, _, _, _, _, _, _, _, _, _, _, _, _, _, _, _, _, _, _, _, _, _, _, _, _, _, _, _, _, rfl, ⟨V2.out.far (by omega) _ _ _ _⟩, ⟨V4.out.put⟩, ⟨below_put HB.out (by omega) _ _ _ _⟩⟩
        have e9 : (s.toList == [103, 114, 97, 112, 104]) = false := by rw [beq_eq_false_iff_ne]; exact h9
        by_cases h10 : s.toList = [99, 110, 116, 114, 108]
        · have hn : nset s.toList = wi (wi 0 0 (31 + 1 - 0)) 127 (127 + 1 - 127) := by unfold nset; rw [if_neg h0, if_neg h1, if_neg h2, if_neg h3, if_neg h4, if_neg h5, if_neg h6, if_neg h7, if_neg h8, if_neg h9, if_pos h10]
          have k0 := fun w => with_calls 0 0 31 w (by decide) (by decide)
          obtain ⟨X0, hX0⟩ : ∃ X, wi 0 0 (31 + 1 - 0) = X := ⟨_, rfl⟩
          simp only [hX0] at k0
          rw [hX0] at hn
          have K0 := Aside0.mk k0
          clear k0 hX0
          have k1 := fun w => with_calls X0 127 127 w (by decide) (by decide)
          obtain ⟨X1, hX1⟩ : ∃ X, wi X0 127 (127 + 1 - 127) = X := ⟨_, rfl⟩
          simp only [hX1] at k1
          rw [hX1] at hn
          have K1 := Aside0.mk k1
          clear k1 hX1
          rw [hn]
          have e10 : (s.toList == [99, 110, 116, 114, 108]) = true := by rw [h10]; rfl
          clear hn h0 h1 h2 h3 h4 h5 h6 h7 h8 h9 h10
          obtain ⟨c00, c01, c02, c03⟩ := V4.out.cell
          go_wp2_with (fail)
          refine (K0.out _).mono ?_
          rintro e w4 ⟨rfl, hb⟩
          replace V2 := Aside0.mk (V2.out.below hb)
          replace V4 := Aside0.mk (V4.out.below hb)
          replace HB := Aside0.mk (HB.out.trans (hb.mono HB.out.size))
          clear hb c00 c01 c02 c03
          go_wp2_with (fail)
          refine (K1.out _).mono ?_
          rintro e w4 ⟨rfl, hb⟩
          replace V2 := Aside0.mk (V2.out.below hb)
          replace V4 := Aside0.mk (V4.out.below hb)
          replace HB := Aside0.mk (HB.out.trans (hb.mono HB.out.size))
          clear hb
          rw [St_words]
          obtain ⟨k0, k1, k2, k3⟩ := V4.out.free
          obtain ⟨j0, j1, j2, j3⟩ := V4.out.cell
          go_wp2
          first | exact ⟨rfl, _, _, _, _, _, _, _, _, _, _, _, _, _, _, _, _, _, _, _, _, _, _, _, _, _, _, _, _, _, _, _, _, _, _, _, _, _, _, _, _, _, _, _, _, _, _, _, _, _, _, _, _, _, _, _, _, _, _, _, _, _, _, _, _, _, _, _, _, _, _, _, _, _, _, rfl, ⟨V2.out.far (by omega) _ _ _ _⟩, ⟨V4.out.put⟩, ⟨below_put HB.out (by omega) _ _ _ _⟩⟩ | exact ⟨_, _, _, _, _, _, _, _, _, _, _, _, _, _, _, _, _, _, _, _, _, _, _, _, _, _, _, _, _, _, _, _, _, _, _, _, _, _, _, _, _, _, _, _, _, _, _, _, _, _, _, _, _, _, _, _, _, _, _, _, _, _, _, _, _, _, _, _, _, _, _, _, _, _, rfl, ⟨V2.out.far (by omega) _ _ _ _⟩, ⟨V4.out.put⟩, ⟨below_put HB.out (by omega) _ _ _ _⟩⟩
        have e10 : (s.toList == [99, 110, 116, 114, 108]) = false := by rw [beq_eq_false_iff_ne]; exact h10
        by_cases h11 : s.toList = [120, 100, 105, 103, 105, 116]
        · have hn : nset s.toList = wi (wi DI 65 (70 + 1 - 65)) 97 (102 + 1 - 97) := by unfold nset; rw [if_neg h0, if_neg h1, if_neg h2, if_neg h3, if_neg h4, if_neg h5, if_neg h6, if_neg h7, if_neg h8, if_neg h9, if_neg h10, if_pos h11]
          have k0 := fun w => with_calls DI 65 70 w (by decide) (by decide)
          obtain ⟨X0, hX0⟩ : ∃ X, wi DI 65 (70 + 1 - 65) = X := ⟨_, rfl⟩
          simp only [hX0] at k0
          rw [hX0] at hn
          have K0 := Aside0.mk k0
          clear k0 hX0
          have k1 := fun w => with_calls X0 97 102 w (by decide) (by decide)
          obtain ⟨X1, hX1⟩ : ∃ X, wi X0 97 (102 + 1 - 97) = X := ⟨_, rfl⟩
          simp only [hX1] at k1
          rw [hX1] at hn
          have K1 := Aside0.mk k1
          clear k1 hX1
          rw [hn]
          have e11 : (s.toList == [120, 100, 105, 103, 105, 116]) = true := by rw [h11]; rfl
          clear hn h0 h1 h2 h3 h4 h5 h6 h7 h8 h9 h10 h11
          obtain ⟨c00, c01, c02, c03⟩ := W7.out.cell
          go_wp2_with (fail)
          refine (K0.out _).mono ?_
          rintro e w4 ⟨rfl, hb⟩
          replace V2 := Aside0.mk (V2.out.below hb)
          replace V4 := Aside0.mk (V4.out.below hb)
          replace HB := Aside0.mk (HB.out.trans (hb.mono HB.out.size))
          clear hb c00 c01 c02 c03
          go_wp2_with (fail)
          refine (K1.out _).mono ?_
          rintro e w4 ⟨rfl, hb⟩
          replace V2 := Aside0.mk (V2.out.below hb)
          replace V4 := Aside0.mk (V4.out.below hb)
          replace HB := Aside0.mk (HB.out.trans (hb.mono HB.out.size))
          clear hb
          rw [St_words]
          obtain ⟨k0, k1, k2, k3⟩ := V4.out.free
          obtain ⟨j0, j1, j2, j3⟩ := V4.out.cell
          go_wp2
          first | exact ⟨rfl, _, _, _, _, _, _, _, _, _, _, _, _, _, _, _, _, _, _, _, _, _, _, _, _, _, _, _, _, _, _, _, _, _, _, _, _, _, _, _, _, _, _, _, _, _, _, _, _, _, _, _, _, _, _, _, _, _, _, _, _, _, _, _, _, _, _, _, _, _, _, _, _, _, _, rfl, ⟨V2.out.far (by omega) _ _ _ _⟩, ⟨V4.out.put⟩, ⟨below_put HB.out (by omega) _ _ _ _⟩⟩ | exact ⟨_, _, _, _, _, _, _, _, _, _, _, _, _, _, _, _, _, _, _, _, _, _, _, _, _, _, _, _, _, _, _, _, _, _, _, _, _, _, _, _, _, _, _, _, _, _, _, _, _, _, _, _, _, _, _, _, _, _, _, _, _, _, _, _, _, _, _, _, _, _, _, _, _, _, rfl, ⟨V2.out.far (by omega) _ _ _ _⟩, ⟨V4.out.put⟩, ⟨below_put HB.out (by omega) _ _ _ _⟩⟩
        have e11 : (s.toList == [120, 100, 105, 103, 105, 116]) = false := by rw [beq_eq_false_iff_ne]; exact h11
        have hn : nset s.toList = 0 := by unfold nset; rw [if_neg h0, if_neg h1, if_neg h2, if_neg h3, if_neg h4, if_neg h5, if_neg h6, if_neg h7, if_neg h8, if_neg h9, if_neg h10, if_neg h11]
        rw [hn]
        clear hn
        go_wp2
        exact ⟨_, _, _, _, _, _, _, _, _, _, _, _, _, _, _, _, _, _, _, _, _, _, _, _, _, _, _, _, _, _, _, _, _, _, _, _, _, _, _, _, _, _, _, _, _, _, _, _, _, _, _, _, _, _, _, _, _, _, _, _, _, _, _, _, _, _, _, _, _, _, _, _, _, _, rfl, V2, V4, HB⟩
    case reg2 =>
      refine Inv.region mixed (NJ s w.heap.size w g5 g6 g7) ?start2 ?step2 ?fin2
      case start2 =>
        exact ⟨false, false, false, false, false, false, false, _, _, _, _, _, _, _, _, _, _, _, _, _, _, _, _, _, _, _, _, _, _, _, _, _, _, _, _, _, _, _, _, _, _, _, _, _, _, _, _, _, _, _, _, _, _, _, _, _, _, _, _, _, _, _, _, _, _, _, _, _, _, _, _, _, _, _, _, _, _, _, rfl, rfl, V2, V4, HB.drew, W5, W6, W7, ⟨fun h => by cases h⟩, ⟨fun h => by cases h⟩, ⟨fun h => by cases h⟩, ⟨fun h => by cases h⟩, ⟨fun h => by cases h⟩, ⟨fun h => by cases h⟩, ⟨fun h _ => by cases h⟩, ⟨fun h _ => by cases h⟩, ⟨fun h _ => by cases h⟩, ⟨fun h => by cases h⟩⟩
      case fin2 =>
        intro L a w' h hr
        unfold NJ at h
        replace hr := List.eq_nil_iff_forall_not_mem.1 hr
        obtain ⟨b0, b1, b2, b3, b4, b5, b6, h⟩ := h
        obtain ⟨u1, u8, u9, u10, u11, u12, u13, u14, u15, u16, h⟩ := h
        obtain ⟨u17, u18, u19, u20, u21, u22, u23, u24, u25, u26, h⟩ := h
        obtain ⟨u27, u28, u29, u30, u31, u32, u33, u34, u35, u36, h⟩ := h
        obtain ⟨u37, u38, u39, u40, u41, u42, u43, u44, u45, u46, h⟩ := h
        obtain ⟨u47, u48, u49, u50, u51, u52, u53, u54, u55, u56, h⟩ := h
        obtain ⟨u57, u58, u59, u60, u61, u62, u63, u64, u65, u66, h⟩ := h
        obtain ⟨u67, u68, u69, u70, u71, u72, u73, u74, u75, u76, h⟩ := h
        obtain ⟨u77, h⟩ := h
        obtain ⟨rfl, rfl, V2, V4, HB, W5, W6, W7, f15, f16, f17, f18, f19, A8, n5, n6, n7, d6⟩ := h
        have hb0 : b0 = true := by
          cases h : b0 with
          | true => rfl
          | false =>
            subst h
            exact (hr 0 (mem_ready.2 ⟨by simp, _, rfl, by simp [Region.binds]⟩)).elim
        subst hb0
        have hb1 : b1 = true := by
          cases h : b1 with
          | true => rfl
          | false =>
            subst h
            exact (hr 1 (mem_ready.2 ⟨by simp, _, rfl, by simp [Region.binds]⟩)).elim
        subst hb1
        have hb3 : b3 = true := by
          cases h : b3 with
          | true => rfl
          | false =>
            subst h
            exact (hr 3 (mem_ready.2 ⟨by simp, _, rfl, by simp [Region.binds]⟩)).elim
        subst hb3
        have hb5 : b5 = true := by
          cases h : b5 with
          | true => rfl
          | false =>
            subst h
            exact (hr 5 (mem_ready.2 ⟨by simp, _, rfl, by simp [Region.binds]⟩)).elim
        subst hb5
        have hb2 : b2 = true := by
          cases h : b2 with
          | true => rfl
          | false =>
            subst h
            exact (hr 2 (mem_ready.2 ⟨by simp, _, rfl, by simp [Region.binds]⟩)).elim
        subst hb2
        have hb4 : b4 = true := by
          cases h : b4 with
          | true => rfl
          | false =>
            subst h
            exact (hr 4 (mem_ready.2 ⟨by simp, _, rfl, by simp [Region.binds]⟩)).elim
        subst hb4
        have hb6 : b6 = true := by
          cases h : b6 with
          | true => rfl
          | false =>
            subst h
            exact (hr 6 (mem_ready.2 ⟨by simp, _, rfl, by simp [Region.binds]⟩)).elim
        subst hb6
        exact ⟨rfl, true, true, true, true, true, true, true, u1, u8, u9, u10, u11, u12, u13, u14, u15, u16, u17, u18, u19, u20, u21, u22, u23, u24, u25, u26, u27, u28, u29, u30, u31, u32, u33, u34, u35, u36, u37, u38, u39, u40, u41, u42, u43, u44, u45, u46, u47, u48, u49, u50, u51, u52, u53, u54, u55, u56, u57, u58, u59, u60, u61, u62, u63, u64, u65, u66, u67, u68, u69, u70, u71, u72, u73, u74, u75, u76, u77, rfl, rfl, V2, V4, HB, W5, W6, W7, f15, f16, f17, f18, f19, A8, n5, n6, n7, d6⟩
      case step2 =>
        intro L a w' h i hi
        unfold NJ at h
        obtain ⟨b0, b1, b2, b3, b4, b5, b6, h⟩ := h
        obtain ⟨u1, u8, u9, u10, u11, u12, u13, u14, u15, u16, h⟩ := h
        obtain ⟨u17, u18, u19, u20, u21, u22, u23, u24, u25, u26, h⟩ := h
        obtain ⟨u27, u28, u29, u30, u31, u32, u33, u34, u35, u36, h⟩ := h
        obtain ⟨u37, u38, u39, u40, u41, u42, u43, u44, u45, u46, h⟩ := h
        obtain ⟨u47, u48, u49, u50, u51, u52, u53, u54, u55, u56, h⟩ := h
        obtain ⟨u57, u58, u59, u60, u61, u62, u63, u64, u65, u66, h⟩ := h
        obtain ⟨u67, u68, u69, u70, u71, u72, u73, u74, u75, u76, h⟩ := h
        obtain ⟨u77, h⟩ := h
        obtain ⟨rfl, rfl, V2, V4, HB, W5, W6, W7, f15, f16, f17, f18, f19, A8, n5, n6, n7, d6⟩ := h
        have hlt : i < 7 := by
          have := (List.mem_filter.1 hi).1
          simpa using this
        obtain ⟨hi1, hi2⟩ := mem_ready.1 hi
        clear hi
        match i, hlt with
        | 0, _ =>
          have hb0 : b0 = false := by simpa using hi1
          refine wpOp_held rfl rfl (fun K hK => ?_)
          obtain ⟨c0, c1, c2, c3⟩ := W5.cell
          go_simp
          refine hK _ _ ?_
          clear hK K
          exact ⟨true, b1, b2, b3, b4, b5, b6, u1, u8, u9, u10, u11, u12, u13, u14, St UP, u16, u17, u18, u19, u20, u21, u22, u23, u24, u25, u26, u27, u28, u29, u30, u31, u32, u33, u34, u35, u36, u37, u38, u39, u40, u41, u42, u43, u44, u45, u46, u47, u48, u49, u50, u51, u52, u53, u54, u55, u56, u57, u58, u59, u60, u61, u62, u63, u64, u65, u66, u67, u68, u69, u70, u71, u72, u73, u74, u75, u76, u77, rfl, rfl, V2, V4, HB, W5, W6, W7, ⟨fun _ => rfl⟩, f16, f17, f18, f19, A8, n5, n6, n7, d6⟩
        | 1, _ =>
          have hb1 : b1 = false := by simpa using hi1
          refine wpOp_held rfl rfl (fun K hK => ?_)
          obtain ⟨c0, c1, c2, c3⟩ := W6.cell
          go_simp
          refine hK _ _ ?_
          clear hK K
          exact ⟨b0, true, b2, b3, b4, b5, b6, u1, u8, u9, u10, u11, u12, u13, u14, u15, St LO, u17, u18, u19, u20, u21, u22, u23, u24, u25, u26, u27, u28, u29, u30, u31, u32, u33, u34, u35, u36, u37, u38, u39, u40, u41, u42, u43, u44, u45, u46, u47, u48, u49, u50, u51, u52, u53, u54, u55, u56, u57, u58, u59, u60, u61, u62, u63, u64, u65, u66, u67, u68, u69, u70, u71, u72, u73, u74, u75, u76, u77, rfl, rfl, V2, V4, HB, W5, W6, W7, f15, ⟨fun _ => rfl⟩, f17, f18, f19, A8, n5, n6, n7, d6⟩
        | 2, _ =>
          have hb2 : b2 = false := by simpa using hi1
          obtain ⟨o, ho, hall⟩ := hi2
          obtain rfl := Option.some.inj ho
          have hb0 : b0 = true := by simpa using hall ⟨0, .data⟩ (by simp) rfl
          have hb1 : b1 = true := by simpa using hall ⟨1, .data⟩ (by simp) rfl
          refine wpOp_held rfl rfl (fun K hK => ?_)
          have e := f15.out hb0
          subst e
          have e := f16.out hb1
          subst e
          go_simp
          refine (both_calls UP LO w').mono ?_
          rintro e w1 ⟨rfl, hb⟩
          refine hK _ _ ?_
          clear hK K
          exact ⟨b0, b1, true, b3, b4, b5, b6, u1, u8, u9, u10, u11, u12, u13, u14, St UP, St LO, St (UP ||| LO), u18, u19, u20, u21, u22, u23, u24, u25, u26, u27, u28, u29, u30, u31, u32, u33, u34, u35, u36, u37, u38, u39, u40, u41, u42, u43, u44, u45, u46, u47, u48, u49, u50, u51, u52, u53, u54, u55, u56, u57, u58, u59, u60, u61, u62, u63, u64, u65, u66, u67, u68, u69, u70, u71, u72, u73, u74, u75, u76, u77, rfl, rfl, V2.below hb, V4.below hb, HB.trans (hb.mono HB.size), W5.below hb, W6.below hb, W7.below hb, f15, f16, ⟨fun _ => rfl⟩, f18, f19, ⟨A8.out.below hb⟩, n5, n6, n7, d6⟩
        | 3, _ =>
          have hb3 : b3 = false := by simpa using hi1
          refine wpOp_held rfl rfl (fun K hK => ?_)
          obtain ⟨c0, c1, c2, c3⟩ := W7.cell
          go_simp
          refine hK _ _ ?_
          clear hK K
          exact ⟨b0, b1, b2, true, b4, b5, b6, u1, u8, u9, u10, u11, u12, u13, u14, u15, u16, u17, St DI, u19, u20, u21, u22, u23, u24, u25, u26, u27, u28, u29, u30, u31, u32, u33, u34, u35, u36, u37, u38, u39, u40, u41, u42, u43, u44, u45, u46, u47, u48, u49, u50, u51, u52, u53, u54, u55, u56, u57, u58, u59, u60, u61, u62, u63, u64, u65, u66, u67, u68, u69, u70, u71, u72, u73, u74, u75, u76, u77, rfl, rfl, V2, V4, HB, W5, W6, W7, f15, f16, f17, ⟨fun _ => rfl⟩, f19, A8, n5, n6, n7, d6⟩
        | 4, _ =>
          have hb4 : b4 = false := by simpa using hi1
          obtain ⟨o, ho, hall⟩ := hi2
          obtain rfl := Option.some.inj ho
          have hb2 : b2 = true := by simpa using hall ⟨2, .data⟩ (by simp) rfl
          have hb3 : b3 = true := by simpa using hall ⟨3, .data⟩ (by simp) rfl
          refine wpOp_held rfl rfl (fun K hK => ?_)
          have e := f17.out hb2
          subst e
          have e := f18.out hb3
          subst e
          go_simp
          refine (both_calls (UP ||| LO) DI w').mono ?_
          rintro e w1 ⟨rfl, hb⟩
          refine hK _ _ ?_
          clear hK K
          exact ⟨b0, b1, b2, b3, true, b5, b6, u1, u8, u9, u10, u11, u12, u13, u14, u15, u16, St (UP ||| LO), St DI, St (UP ||| LO ||| DI), u20, u21, u22, u23, u24, u25, u26, u27, u28, u29, u30, u31, u32, u33, u34, u35, u36, u37, u38, u39, u40, u41, u42, u43, u44, u45, u46, u47, u48, u49, u50, u51, u52, u53, u54, u55, u56, u57, u58, u59, u60, u61, u62, u63, u64, u65, u66, u67, u68, u69, u70, u71, u72, u73, u74, u75, u76, u77, rfl, rfl, V2.below hb, V4.below hb, HB.trans (hb.mono HB.size), W5.below hb, W6.below hb, W7.below hb, f15, f16, f17, f18, ⟨fun _ => rfl⟩, ⟨A8.out.below hb⟩, n5, n6, n7, d6⟩
        | 5, _ =>
          have hb5 : b5 = false := by simpa using hi1
          refine wpOp_held rfl rfl (fun K hK => ?_)
          have hst : b6 = false := by
            cases h : b6 with
            | false => rfl
            | true => rw [d6.out h] at hb5; cases hb5
          go_simp
          refine hK _ _ ?_
          clear hK K
          exact ⟨b0, b1, b2, b3, b4, true, b6, u1, .pointer (some ⟨w'.heap.size, 0, none⟩), u9, u10, u11, u12, u13, u14, u15, u16, u17, u18, u19, u20, u21, u22, u23, u24, u25, u26, u27, u28, u29, u30, u31, u32, u33, u34, u35, u36, u37, u38, u39, u40, u41, u42, u43, u44, u45, u46, u47, u48, u49, u50, u51, u52, u53, u54, u55, u56, u57, u58, u59, u60, u61, u62, u63, u64, u65, u66, u67, u68, u69, u70, u71, u72, u73, u74, u75, u76, u77, rfl, rfl, V2.below ((Below.refl _ _).alloc (Nat.le_refl _) _), V4.below ((Below.refl _ _).alloc (Nat.le_refl _) _), HB.alloc HB.size _, W5.below ((Below.refl _ _).alloc (Nat.le_refl _) _), W6.below ((Below.refl _ _).alloc (Nat.le_refl _) _), W7.below ((Below.refl _ _).alloc (Nat.le_refl _) _), f15, f16, f17, f18, f19, ⟨fun _ => ⟨w'.heap.size, rfl, V4.lt, by rw [hst]; exact Go.heap_alloc_new _ _⟩⟩, ⟨fun _ _ h => (by have := W5.lt; simp at h <;> omega)⟩, ⟨fun _ _ h => (by have := W6.lt; simp at h <;> omega)⟩, ⟨fun _ _ h => (by have := W7.lt; simp at h <;> omega)⟩, ⟨fun _ => rfl⟩⟩
        | 6, _ =>
          have hb6 : b6 = false := by simpa using hi1
          obtain ⟨o, ho, hall⟩ := hi2
          obtain rfl := Option.some.inj ho
          have hb5 : b5 = true := by simpa using hall ⟨5, .data⟩ (by simp) rfl
          have hb4 : b4 = true := by simpa using hall ⟨4, .data⟩ (by simp) rfl
          refine wpOp_held rfl rfl (fun K hK => ?_)
          have e := f19.out hb4
          subst e
          obtain ⟨g, e, hg, hv⟩ := A8.out hb5
          subst e
          rw [hb6] at hv
          change Var g 0 w' at hv
          obtain ⟨c0, c1, c2, c3⟩ := hv.cell
          obtain ⟨k0, k1, k2, k3⟩ := hv.free
          have m5 : g5 ≠ g := fun h => n5.out hb5 rfl (by rw [h])
          have m6 : g6 ≠ g := fun h => n6.out hb5 rfl (by rw [h])
          have m7 : g7 ≠ g := fun h => n7.out hb5 rfl (by rw [h])
          have hSt := St_words
          go_simp
          refine hK _ _ ?_
          clear hK K
          clear hSt
          exact ⟨b0, b1, b2, b3, b4, b5, true, u1, .pointer (some ⟨g, 0, none⟩), u9, u10, u11, u12, u13, u14, u15, u16, u17, u18, St (UP ||| LO ||| DI), u20, u21, u22, u23, u24, u25, u26, u27, u28, u29, u30, u31, u32, u33, u34, u35, u36, u37, u38, u39, u40, u41, u42, u43, u44, u45, u46, u47, u48, u49, u50, u51, u52, u53, u54, u55, u56, u57, u58, u59, u60, u61, u62, u63, u64, u65, u66, u67, u68, u69, u70, u71, u72, u73, u74, u75, u76, u77, rfl, rfl, V2.far (by omega) _ _ _ _, V4.far (by omega) _ _ _ _, below_put HB (by omega) _ _ _ _, W5.far m5 _ _ _ _, W6.far m6 _ _ _ _, W7.far m7 _ _ _ _, f15, f16, f17, f18, f19, ⟨fun _ => ⟨g, rfl, hg, hv.put⟩⟩, n5, n6, n7, ⟨fun _ => hb5⟩⟩
  case reg =>
    refine Inv.region mixed (NI s w.heap.size w) ?start ?step ?fin
    case start =>
      exact ⟨false, false, false, false, false, false, false, false, false, false, false, false, _, _, _, _, _, _, _, _, _, _, _, _, _, _, _, _, _, _, _, _, _, _, _, _, _, _, _, _, _, _, _, _, _, _, _, _, _, _, _, _, _, _, _, _, _, _, _, _, _, _, _, _, _, _, _, _, _, _, _, _, _, _, _, _, _, _, _, _, _, _, _, _, _, _, rfl, rfl, V2, V4, HB0.drew, ⟨fun h => by cases h⟩, ⟨fun h => by cases h⟩, ⟨fun h => by cases h⟩, ⟨fun h => by cases h⟩, ⟨fun h => by cases h⟩, ⟨fun h => by cases h⟩, ⟨fun h => by cases h⟩, ⟨fun h => by cases h⟩, ⟨fun h => by cases h⟩, ⟨fun h _ => by cases h⟩, ⟨fun h _ => by cases h⟩, ⟨fun h _ => by cases h⟩, ⟨fun h => by cases h⟩, ⟨fun h => by cases h⟩, ⟨fun h => by cases h⟩⟩
    case fin =>
      intro L a w' h hr
      unfold NI at h
      replace hr := List.eq_nil_iff_forall_not_mem.1 hr
      obtain ⟨b0, b1, b2, b3, b4, b5, b6, b7, b8, b9, b10, b11, h⟩ := h
      obtain ⟨u1, u5, u6, u7, u8, u9, u10, u11, u12, u13, h⟩ := h
      obtain ⟨u14, u15, u16, u17, u18, u19, u20, u21, u22, u23, h⟩ := h
      obtain ⟨u24, u25, u26, u27, u28, u29, u30, u31, u32, u33, h⟩ := h
      obtain ⟨u34, u35, u36, u37, u38, u39, u40, u41, u42, u43, h⟩ := h
      obtain ⟨u44, u45, u46, u47, u48, u49, u50, u51, u52, u53, h⟩ := h
      obtain ⟨u54, u55, u56, u57, u58, u59, u60, u61, u62, u63, h⟩ := h
      obtain ⟨u64, u65, u66, u67, u68, u69, u70, u71, u72, u73, h⟩ := h
      obtain ⟨u74, u75, u76, u77, h⟩ := h
      obtain ⟨rfl, rfl, V2, V4, HB, f9, f10, f11, f12, f13, f14, A5, A6, A7, n56, n57, n67, d9, d10, d11⟩ := h
      have hb0 : b0 = true := by
        cases h : b0 with
        | true => rfl
        | false =>
          subst h
          exact (hr 0 (mem_ready.2 ⟨by simp, _, rfl, by simp [Region.binds]⟩)).elim
      subst hb0
      have hb2 : b2 = true := by
        cases h : b2 with
        | true => rfl
        | false =>
          subst h
          exact (hr 2 (mem_ready.2 ⟨by simp, _, rfl, by simp [Region.binds]⟩)).elim
      subst hb2
      have hb4 : b4 = true := by
        cases h : b4 with
        | true => rfl
        | false =>
          subst h
          exact (hr 4 (mem_ready.2 ⟨by simp, _, rfl, by simp [Region.binds]⟩)).elim
      subst hb4
      have hb6 : b6 = true := by
        cases h : b6 with
        | true => rfl
        | false =>
          subst h
          exact (hr 6 (mem_ready.2 ⟨by simp, _, rfl, by simp [Region.binds]⟩)).elim
      subst hb6
      have hb7 : b7 = true := by
        cases h : b7 with
        | true => rfl
        | false =>
          subst h
          exact (hr 7 (mem_ready.2 ⟨by simp, _, rfl, by simp [Region.binds]⟩)).elim
      subst hb7
      have hb8 : b8 = true := by
        cases h : b8 with
        | true => rfl
        | false =>
          subst h
          exact (hr 8 (mem_ready.2 ⟨by simp, _, rfl, by simp [Region.binds]⟩)).elim
      subst hb8
      have hb1 : b1 = true := by
        cases h : b1 with
        | true => rfl
        | false =>
          subst h
          exact (hr 1 (mem_ready.2 ⟨by simp, _, rfl, by simp [Region.binds]⟩)).elim
      subst hb1
      have hb3 : b3 = true := by
        cases h : b3 with
        | true => rfl
        | false =>
          subst h
          exact (hr 3 (mem_ready.2 ⟨by simp, _, rfl, by simp [Region.binds]⟩)).elim
      subst hb3
      have hb5 : b5 = true := by
        cases h : b5 with
        | true => rfl
        | false =>
          subst h
          exact (hr 5 (mem_ready.2 ⟨by simp, _, rfl, by simp [Region.binds]⟩)).elim
      subst hb5
      have hb9 : b9 = true := by
        cases h : b9 with
        | true => rfl
        | false =>
          subst h
          exact (hr 9 (mem_ready.2 ⟨by simp, _, rfl, by simp [Region.binds]⟩)).elim
      subst hb9
      have hb10 : b10 = true := by
        cases h : b10 with
        | true => rfl
        | false =>
          subst h
          exact (hr 10 (mem_ready.2 ⟨by simp, _, rfl, by simp [Region.binds]⟩)).elim
      subst hb10
      have hb11 : b11 = true := by
        cases h : b11 with
        | true => rfl
        | false =>
          subst h
          exact (hr 11 (mem_ready.2 ⟨by simp, _, rfl, by simp [Region.binds]⟩)).elim
      subst hb11
      exact ⟨rfl, true, true, true, true, true, true, true, true, true, true, true, true, u1, u5, u6, u7, u8, u9, u10, u11, u12, u13, u14, u15, u16, u17, u18, u19, u20, u21, u22, u23, u24, u25, u26, u27, u28, u29, u30, u31, u32, u33, u34, u35, u36, u37, u38, u39, u40, u41, u42, u43, u44, u45, u46, u47, u48, u49, u50, u51, u52, u53, u54, u55, u56, u57, u58, u59, u60, u61, u62, u63, u64, u65, u66, u67, u68, u69, u70, u71, u72, u73, u74, u75, u76, u77, rfl, rfl, V2, V4, HB, f9, f10, f11, f12, f13, f14, A5, A6, A7, n56, n57, n67, d9, d10, d11⟩
    case step =>
      intro L a w' h i hi
      unfold NI at h
      obtain ⟨b0, b1, b2, b3, b4, b5, b6, b7, b8, b9, b10, b11, h⟩ := h
      obtain ⟨u1, u5, u6, u7, u8, u9, u10, u11, u12, u13, h⟩ := h
      obtain ⟨u14, u15, u16, u17, u18, u19, u20, u21, u22, u23, h⟩ := h
      obtain ⟨u24, u25, u26, u27, u28, u29, u30, u31, u32, u33, h⟩ := h
      obtain ⟨u34, u35, u36, u37, u38, u39, u40, u41, u42, u43, h⟩ := h
      obtain ⟨u44, u45, u46, u47, u48, u49, u50, u51, u52, u53, h⟩ := h
      obtain ⟨u54, u55, u56, u57, u58, u59, u60, u61, u62, u63, h⟩ := h
      obtain ⟨u64, u65, u66, u67, u68, u69, u70, u71, u72, u73, h⟩ := h
      obtain ⟨u74, u75, u76, u77, h⟩ := h
      obtain ⟨rfl, rfl, V2, V4, HB, f9, f10, f11, f12, f13, f14, A5, A6, A7, n56, n57, n67, d9, d10, d11⟩ := h
      have hlt : i < 12 := by
        have := (List.mem_filter.1 hi).1
        simpa using this
      obtain ⟨hi1, hi2⟩ := mem_ready.1 hi
      clear hi
      match i, hlt with
      | 0, _ =>
        have hb0 : b0 = false := by simpa using hi1
        refine wpOp_held rfl rfl (fun K hK => ?_)
        obtain ⟨c0, c1, c2, c3⟩ := V4.cell
        go_simp
        refine hK _ _ ?_
        clear hK K
        exact ⟨true, b1, b2, b3, b4, b5, b6, b7, b8, b9, b10, b11, u1, u5, u6, u7, u8, St 0, u10, u11, u12, u13, u14, u15, u16, u17, u18, u19, u20, u21, u22, u23, u24, u25, u26, u27, u28, u29, u30, u31, u32, u33, u34, u35, u36, u37, u38, u39, u40, u41, u42, u43, u44, u45, u46, u47, u48, u49, u50, u51, u52, u53, u54, u55, u56, u57, u58, u59, u60, u61, u62, u63, u64, u65, u66, u67, u68, u69, u70, u71, u72, u73, u74, u75, u76, u77, rfl, rfl, V2, V4, HB, ⟨fun _ => rfl⟩, f10, f11, f12, f13, f14, A5, A6, A7, n56, n57, n67, d9, d10, d11⟩
      | 1, _ =>
        have hb1 : b1 = false := by simpa using hi1
        obtain ⟨o, ho, hall⟩ := hi2
        obtain rfl := Option.some.inj ho
        have hb0 : b0 = true := by simpa using hall ⟨0, .data⟩ (by simp) rfl
        refine wpOp_held rfl rfl (fun K hK => ?_)
        have e := f9.out hb0
        subst e
        go_simp
        refine (with_calls 0 65 90 w' (by decide) (by decide)).mono ?_
        rintro e w1 ⟨rfl, hb⟩
        refine hK _ _ ?_
        clear hK K
        exact ⟨b0, true, b2, b3, b4, b5, b6, b7, b8, b9, b10, b11, u1, u5, u6, u7, u8, St 0, St UP, u11, u12, u13, u14, u15, u16, u17, u18, u19, u20, u21, u22, u23, u24, u25, u26, u27, u28, u29, u30, u31, u32, u33, u34, u35, u36, u37, u38, u39, u40, u41, u42, u43, u44, u45, u46, u47, u48, u49, u50, u51, u52, u53, u54, u55, u56, u57, u58, u59, u60, u61, u62, u63, u64, u65, u66, u67, u68, u69, u70, u71, u72, u73, u74, u75, u76, u77, rfl, rfl, V2.below hb, V4.below hb, HB.trans (hb.mono HB.size), f9, ⟨fun _ => rfl⟩, f11, f12, f13, f14, ⟨A5.out.below hb⟩, ⟨A6.out.below hb⟩, ⟨A7.out.below hb⟩, n56, n57, n67, d9, d10, d11⟩
      | 2, _ =>
        have hb2 : b2 = false := by simpa using hi1
        refine wpOp_held rfl rfl (fun K hK => ?_)
        obtain ⟨c0, c1, c2, c3⟩ := V4.cell
        go_simp
        refine hK _ _ ?_
        clear hK K
        exact ⟨b0, b1, true, b3, b4, b5, b6, b7, b8, b9, b10, b11, u1, u5, u6, u7, u8, u9, u10, St 0, u12, u13, u14, u15, u16, u17, u18, u19, u20, u21, u22, u23, u24, u25, u26, u27, u28, u29, u30, u31, u32, u33, u34, u35, u36, u37, u38, u39, u40, u41, u42, u43, u44, u45, u46, u47, u48, u49, u50, u51, u52, u53, u54, u55, u56, u57, u58, u59, u60, u61, u62, u63, u64, u65, u66, u67, u68, u69, u70, u71, u72, u73, u74, u75, u76, u77, rfl, rfl, V2, V4, HB, f9, f10, ⟨fun _ => rfl⟩, f12, f13, f14, A5, A6, A7, n56, n57, n67, d9, d10, d11⟩
      | 3, _ =>
        have hb3 : b3 = false := by simpa using hi1
        obtain ⟨o, ho, hall⟩ := hi2
        obtain rfl := Option.some.inj ho
        have hb2 : b2 = true := by simpa using hall ⟨2, .data⟩ (by simp) rfl
        have hb1 : b1 = true := by simpa using hall ⟨1, .chain⟩ (by simp) rfl
        refine wpOp_held rfl rfl (fun K hK => ?_)
        have e := f11.out hb2
        subst e
        go_simp
        refine (with_calls 0 97 122 w' (by decide) (by decide)).mono ?_
        rintro e w1 ⟨rfl, hb⟩
        refine hK _ _ ?_
        clear hK K
        exact ⟨b0, b1, b2, true, b4, b5, b6, b7, b8, b9, b10, b11, u1, u5, u6, u7, u8, u9, u10, St 0, St LO, u13, u14, u15, u16, u17, u18, u19, u20, u21, u22, u23, u24, u25, u26, u27, u28, u29, u30, u31, u32, u33, u34, u35, u36, u37, u38, u39, u40, u41, u42, u43, u44, u45, u46, u47, u48, u49, u50, u51, u52, u53, u54, u55, u56, u57, u58, u59, u60, u61, u62, u63, u64, u65, u66, u67, u68, u69, u70, u71, u72, u73, u74, u75, u76, u77, rfl, rfl, V2.below hb, V4.below hb, HB.trans (hb.mono HB.size), f9, f10, f11, ⟨fun _ => rfl⟩, f13, f14, ⟨A5.out.below hb⟩, ⟨A6.out.below hb⟩, ⟨A7.out.below hb⟩, n56, n57, n67, d9, d10, d11⟩
      | 4, _ =>
        have hb4 : b4 = false := by simpa using hi1
        refine wpOp_held rfl rfl (fun K hK => ?_)
        obtain ⟨c0, c1, c2, c3⟩ := V4.cell
        go_simp
        refine hK _ _ ?_
        clear hK K
        exact ⟨b0, b1, b2, b3, true, b5, b6, b7, b8, b9, b10, b11, u1, u5, u6, u7, u8, u9, u10, u11, u12, St 0, u14, u15, u16, u17, u18, u19, u20, u21, u22, u23, u24, u25, u26, u27, u28, u29, u30, u31, u32, u33, u34, u35, u36, u37, u38, u39, u40, u41, u42, u43, u44, u45, u46, u47, u48, u49, u50, u51, u52, u53, u54, u55, u56, u57, u58, u59, u60, u61, u62, u63, u64, u65, u66, u67, u68, u69, u70, u71, u72, u73, u74, u75, u76, u77, rfl, rfl, V2, V4, HB, f9, f10, f11, f12, ⟨fun _ => rfl⟩, f14, A5, A6, A7, n56, n57, n67, d9, d10, d11⟩
      | 5, _ =>
        have hb5 : b5 = false := by simpa using hi1
        obtain ⟨o, ho, hall⟩ := hi2
        obtain rfl := Option.some.inj ho
        have hb4 : b4 = true := by simpa using hall ⟨4, .data⟩ (by simp) rfl
        have hb3 : b3 = true := by simpa using hall ⟨3, .chain⟩ (by simp) rfl
        refine wpOp_held rfl rfl (fun K hK => ?_)
        have e := f13.out hb4
        subst e
        go_simp
        refine (with_calls 0 48 57 w' (by decide) (by decide)).mono ?_
        rintro e w1 ⟨rfl, hb⟩
        refine hK _ _ ?_
        clear hK K
        exact ⟨b0, b1, b2, b3, b4, true, b6, b7, b8, b9, b10, b11, u1, u5, u6, u7, u8, u9, u10, u11, u12, St 0, St DI, u15, u16, u17, u18, u19, u20, u21, u22, u23, u24, u25, u26, u27, u28, u29, u30, u31, u32, u33, u34, u35, u36, u37, u38, u39, u40, u41, u42, u43, u44, u45, u46, u47, u48, u49, u50, u51, u52, u53, u54, u55, u56, u57, u58, u59, u60, u61, u62, u63, u64, u65, u66, u67, u68, u69, u70, u71, u72, u73, u74, u75, u76, u77, rfl, rfl, V2.below hb, V4.below hb, HB.trans (hb.mono HB.size), f9, f10, f11, f12, f13, ⟨fun _ => rfl⟩, ⟨A5.out.below hb⟩, ⟨A6.out.below hb⟩, ⟨A7.out.below hb⟩, n56, n57, n67, d9, d10, d11⟩
      | 6, _ =>
        have hb6 : b6 = false := by simpa using hi1
        refine wpOp_held rfl rfl (fun K hK => ?_)
        have hst : b9 = false := by
          cases h : b9 with
          | false => rfl
          | true => rw [d9.out h] at hb6; cases hb6
        go_simp
        refine hK _ _ ?_
        clear hK K
        exact ⟨b0, b1, b2, b3, b4, b5, true, b7, b8, b9, b10, b11, u1, .pointer (some ⟨w'.heap.size, 0, none⟩), u6, u7, u8, u9, u10, u11, u12, u13, u14, u15, u16, u17, u18, u19, u20, u21, u22, u23, u24, u25, u26, u27, u28, u29, u30, u31, u32, u33, u34, u35, u36, u37, u38, u39, u40, u41, u42, u43, u44, u45, u46, u47, u48, u49, u50, u51, u52, u53, u54, u55, u56, u57, u58, u59, u60, u61, u62, u63, u64, u65, u66, u67, u68, u69, u70, u71, u72, u73, u74, u75, u76, u77, rfl, rfl, V2.below ((Below.refl _ _).alloc (Nat.le_refl _) _), V4.below ((Below.refl _ _).alloc (Nat.le_refl _) _), HB.alloc HB.size _, f9, f10, f11, f12, f13, f14, ⟨fun _ => ⟨w'.heap.size, rfl, V4.lt, by rw [hst]; exact Go.heap_alloc_new _ _⟩⟩, ⟨A6.out.alloc _⟩, ⟨A7.out.alloc _⟩, ⟨(A6.out.old _).symm⟩, ⟨(A7.out.old _).symm⟩, n67, ⟨fun _ => rfl⟩, d10, d11⟩
      | 7, _ =>
        have hb7 : b7 = false := by simpa using hi1
        refine wpOp_held rfl rfl (fun K hK => ?_)
        have hst : b10 = false := by
          cases h : b10 with
          | false => rfl
          | true => rw [d10.out h] at hb7; cases hb7
        go_simp
        refine hK _ _ ?_
        clear hK K
        exact ⟨b0, b1, b2, b3, b4, b5, b6, true, b8, b9, b10, b11, u1, u5, .pointer (some ⟨w'.heap.size, 0, none⟩), u7, u8, u9, u10, u11, u12, u13, u14, u15, u16, u17, u18, u19, u20, u21, u22, u23, u24, u25, u26, u27, u28, u29, u30, u31, u32, u33, u34, u35, u36, u37, u38, u39, u40, u41, u42, u43, u44, u45, u46, u47, u48, u49, u50, u51, u52, u53, u54, u55, u56, u57, u58, u59, u60, u61, u62, u63, u64, u65, u66, u67, u68, u69, u70, u71, u72, u73, u74, u75, u76, u77, rfl, rfl, V2.below ((Below.refl _ _).alloc (Nat.le_refl _) _), V4.below ((Below.refl _ _).alloc (Nat.le_refl _) _), HB.alloc HB.size _, f9, f10, f11, f12, f13, f14, ⟨A5.out.alloc _⟩, ⟨fun _ => ⟨w'.heap.size, rfl, V4.lt, by rw [hst]; exact Go.heap_alloc_new _ _⟩⟩, ⟨A7.out.alloc _⟩, ⟨A5.out.old _⟩, n57, ⟨(A7.out.old _).symm⟩, d9, ⟨fun _ => rfl⟩, d11⟩
      | 8, _ =>
        have hb8 : b8 = false := by simpa using hi1
        refine wpOp_held rfl rfl (fun K hK => ?_)
        have hst : b11 = false := by
          cases h : b11 with
          | false => rfl
          | true => rw [d11.out h] at hb8; cases hb8
        go_simp
        refine hK _ _ ?_
        clear hK K
        exact ⟨b0, b1, b2, b3, b4, b5, b6, b7, true, b9, b10, b11, u1, u5, u6, .pointer (some ⟨w'.heap.size, 0, none⟩), u8, u9, u10, u11, u12, u13, u14, u15, u16, u17, u18, u19, u20, u21, u22, u23, u24, u25, u26, u27, u28, u29, u30, u31, u32, u33, u34, u35, u36, u37, u38, u39, u40, u41, u42, u43, u44, u45, u46, u47, u48, u49, u50, u51, u52, u53, u54, u55, u56, u57, u58, u59, u60, u61, u62, u63, u64, u65, u66, u67, u68, u69, u70, u71, u72, u73, u74, u75, u76, u77, rfl, rfl, V2.below ((Below.refl _ _).alloc (Nat.le_refl _) _), V4.below ((Below.refl _ _).alloc (Nat.le_refl _) _), HB.alloc HB.size _, f9, f10, f11, f12, f13, f14, ⟨A5.out.alloc _⟩, ⟨A6.out.alloc _⟩, ⟨fun _ => ⟨w'.heap.size, rfl, V4.lt, by rw [hst]; exact Go.heap_alloc_new _ _⟩⟩, n56, ⟨A5.out.old _⟩, ⟨A6.out.old _⟩, d9, d10, ⟨fun _ => rfl⟩⟩
      | 9, _ =>
        have hb9 : b9 = false := by simpa using hi1
        obtain ⟨o, ho, hall⟩ := hi2
        obtain rfl := Option.some.inj ho
        have hb6 : b6 = true := by simpa using hall ⟨6, .data⟩ (by simp) rfl
        have hb1 : b1 = true := by simpa using hall ⟨1, .data⟩ (by simp) rfl
        have hb5 : b5 = true := by simpa using hall ⟨5, .chain⟩ (by simp) rfl
        refine wpOp_held rfl rfl (fun K hK => ?_)
        have e := f10.out hb1
        subst e
        obtain ⟨g, e, hg, hv⟩ := A5.out hb6
        subst e
        rw [hb9] at hv
        change Var g 0 w' at hv
        obtain ⟨c0, c1, c2, c3⟩ := hv.cell
        obtain ⟨k0, k1, k2, k3⟩ := hv.free
        have hSt := St_words
        go_simp
        refine hK _ _ ?_
        clear hK K
        clear hSt
        exact ⟨b0, b1, b2, b3, b4, b5, b6, b7, b8, true, b10, b11, u1, .pointer (some ⟨g, 0, none⟩), u6, u7, u8, u9, St UP, u11, u12, u13, u14, u15, u16, u17, u18, u19, u20, u21, u22, u23, u24, u25, u26, u27, u28, u29, u30, u31, u32, u33, u34, u35, u36, u37, u38, u39, u40, u41, u42, u43, u44, u45, u46, u47, u48, u49, u50, u51, u52, u53, u54, u55, u56, u57, u58, u59, u60, u61, u62, u63, u64, u65, u66, u67, u68, u69, u70, u71, u72, u73, u74, u75, u76, u77, rfl, rfl, V2.far (by omega) _ _ _ _, V4.far (by omega) _ _ _ _, below_put HB (by omega) _ _ _ _, f9, f10, f11, f12, f13, f14, ⟨fun _ => ⟨g, rfl, hg, hv.put⟩⟩, ⟨A6.out.far (fun e => (n56.out.symm e hb6)) _ _ _ _⟩, ⟨A7.out.far (fun e => (n57.out.symm e hb6)) _ _ _ _⟩, n56, n57, n67, ⟨fun _ => hb6⟩, d10, d11⟩
      | 10, _ =>
        have hb10 : b10 = false := by simpa using hi1
        obtain ⟨o, ho, hall⟩ := hi2
        obtain rfl := Option.some.inj ho
        have hb7 : b7 = true := by simpa using hall ⟨7, .data⟩ (by simp) rfl
        have hb3 : b3 = true := by simpa using hall ⟨3, .data⟩ (by simp) rfl
        have hb9 : b9 = true := by simpa using hall ⟨9, .chain⟩ (by simp) rfl
        refine wpOp_held rfl rfl (fun K hK => ?_)
        have e := f12.out hb3
        subst e
        obtain ⟨g, e, hg, hv⟩ := A6.out hb7
        subst e
        rw [hb10] at hv
        change Var g 0 w' at hv
        obtain ⟨c0, c1, c2, c3⟩ := hv.cell
        obtain ⟨k0, k1, k2, k3⟩ := hv.free
        have hSt := St_words
        go_simp
        refine hK _ _ ?_
        clear hK K
        clear hSt
        exact ⟨b0, b1, b2, b3, b4, b5, b6, b7, b8, b9, true, b11, u1, u5, .pointer (some ⟨g, 0, none⟩), u7, u8, u9, u10, u11, St LO, u13, u14, u15, u16, u17, u18, u19, u20, u21, u22, u23, u24, u25, u26, u27, u28, u29, u30, u31, u32, u33, u34, u35, u36, u37, u38, u39, u40, u41, u42, u43, u44, u45, u46, u47, u48, u49, u50, u51, u52, u53, u54, u55, u56, u57, u58, u59, u60, u61, u62, u63, u64, u65, u66, u67, u68, u69, u70, u71, u72, u73, u74, u75, u76, u77, rfl, rfl, V2.far (by omega) _ _ _ _, V4.far (by omega) _ _ _ _, below_put HB (by omega) _ _ _ _, f9, f10, f11, f12, f13, f14, ⟨A5.out.far (fun e => n56.out e hb7) _ _ _ _⟩, ⟨fun _ => ⟨g, rfl, hg, hv.put⟩⟩, ⟨A7.out.far (fun e => (n67.out.symm e hb7)) _ _ _ _⟩, n56, n57, n67, d9, ⟨fun _ => hb7⟩, d11⟩
      | 11, _ =>
        have hb11 : b11 = false := by simpa using hi1
        obtain ⟨o, ho, hall⟩ := hi2
        obtain rfl := Option.some.inj ho
        have hb8 : b8 = true := by simpa using hall ⟨8, .data⟩ (by simp) rfl
        have hb5 : b5 = true := by simpa using hall ⟨5, .data⟩ (by simp) rfl
        have hb10 : b10 = true := by simpa using hall ⟨10, .chain⟩ (by simp) rfl
        refine wpOp_held rfl rfl (fun K hK => ?_)
        have e := f14.out hb5
        subst e
        obtain ⟨g, e, hg, hv⟩ := A7.out hb8
        subst e
        rw [hb11] at hv
        change Var g 0 w' at hv
        obtain ⟨c0, c1, c2, c3⟩ := hv.cell
        obtain ⟨k0, k1, k2, k3⟩ := hv.free
        have hSt := St_words
        go_simp
        refine hK _ _ ?_
        clear hK K
        clear hSt
        exact ⟨b0, b1, b2, b3, b4, b5, b6, b7, b8, b9, b10, true, u1, u5, u6, .pointer (some ⟨g, 0, none⟩), u8, u9, u10, u11, u12, u13, St DI, u15, u16, u17, u18, u19, u20, u21, u22, u23, u24, u25, u26, u27, u28, u29, u30, u31, u32, u33, u34, u35, u36, u37, u38, u39, u40, u41, u42, u43, u44, u45, u46, u47, u48, u49, u50, u51, u52, u53, u54, u55, u56, u57, u58, u59, u60, u61, u62, u63, u64, u65, u66, u67, u68, u69, u70, u71, u72, u73, u74, u75, u76, u77, rfl, rfl, V2.far (by omega) _ _ _ _, V4.far (by omega) _ _ _ _, below_put HB (by omega) _ _ _ _, f9, f10, f11, f12, f13, f14, ⟨A5.out.far (fun e => n57.out e hb8) _ _ _ _⟩, ⟨A6.out.far (fun e => n67.out e hb8) _ _ _ _⟩, ⟨fun _ => ⟨g, rfl, hg, hv.put⟩⟩, n56, n57, n67, d9, d10, ⟨fun _ => hb8⟩⟩
end Go.Proofs.Ytglhhcgoppmipaa.Cl
