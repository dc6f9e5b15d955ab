/- Go's math/bits.Div64 as printed divides: for 0 < y < 2^64, 0 ≤ hi < y, 0 ≤ lo < 2^64 it comes to the quotient and the remainder of hi * 2^64 + lo by y. -/
import Derived.Test.YtcoininpcicgmaaNum
namespace Go.Proofs.Ytcoininpcicgmaa.PX
open Go.RowKit Go.Proofs.YtcoininpcicgmaaW.PrintWords Go.Proofs.YtcoininpcicgmaaW.PrintLast Go.Proofs.YtcoininpcicgmaaW.PrintMore
set_option linter.unusedVariables false
set_option linter.unusedSimpArgs false

theorem w64_sub {a b : Int} (h0 : 0 ≤ a - b) (h1 : a - b < 18446744073709551616) : IntKind.u64.wrap (IntKind.u64.wrap a - IntKind.u64.wrap b) = a - b := by
  simp only [IntKind.wrap_u64]; omega
/- one digit of the quotient -/
def KIn (y1 y0 u e q r : Int) : Prop := q * y1 + r = u ∧ 0 ≤ r ∧ r < 4294967296 ∧ (u * 4294967296 + e) / (y1 * 4294967296 + y0) ≤ q ∧ q ≤ 4294967297
structure KFix (y1 y0 u e : Int) : Prop where
  y1l : 2147483648 ≤ y1
  y1h : y1 < 4294967296
  y0l : 0 ≤ y0
  y0h : y0 < 4294967296
  ul : 0 ≤ u
  uh : u < y1 * 4294967296 + y0
  el : 0 ≤ e
  eh : e < 4294967296
theorem k_split (q y1 y0 : Int) : q * (y1 * 4294967296 + y0) = q * y1 * 4294967296 + q * y0 := by
  rw [Int.mul_add, Int.mul_assoc]
theorem k_stop {y1 y0 u e q r : Int} (F : KFix y1 y0 u e) (h : KIn y1 y0 u e q r) (ht : q * y0 ≤ 4294967296 * r + e) : q = (u * 4294967296 + e) / (y1 * 4294967296 + y0) := by
  obtain ⟨h1, h2, h3, h4, h5⟩ := h
  have : q * (y1 * 4294967296 + y0) ≤ u * 4294967296 + e := by rw [k_split]; omega
  have := Int.le_ediv_of_mul_le (by have := F.y1l; have := F.y0l; omega) this
  omega
theorem k_go {y1 y0 u e q r : Int} (F : KFix y1 y0 u e) (h : KIn y1 y0 u e q r) (ht : 4294967296 ≤ q ∨ 4294967296 * r + e < q * y0) : (u * 4294967296 + e) / (y1 * 4294967296 + y0) ≤ q - 1 := by
  obtain ⟨h1, h2, h3, h4, h5⟩ := h
  have hY : 0 < y1 * 4294967296 + y0 := by have := F.y1l; have := F.y0l; omega
  rcases ht with ht | ht
  · have : u * 4294967296 + e < 4294967296 * (y1 * 4294967296 + y0) := by have := F.uh; have := F.eh; omega
    have := Int.ediv_lt_of_lt_mul hY this
    omega
  · have : u * 4294967296 + e < q * (y1 * 4294967296 + y0) := by rw [k_split]; omega
    have := Int.ediv_lt_of_lt_mul hY this
    omega
theorem k_break {y1 y0 u e q r : Int} (F : KFix y1 y0 u e) (h : KIn y1 y0 u e q r) (hq : (u * 4294967296 + e) / (y1 * 4294967296 + y0) ≤ q - 1) (hr : 4294967296 ≤ r + y1) : q - 1 = (u * 4294967296 + e) / (y1 * 4294967296 + y0) := by
  obtain ⟨h1, h2, h3, h4, h5⟩ := h
  have hY : 0 < y1 * 4294967296 + y0 := by have := F.y1l; have := F.y0l; omega
  have e1 : (q - 1) * y1 = q * y1 - y1 := by rw [Int.sub_mul, Int.one_mul]
  have e2 : (q - 1) * y0 ≤ 4294967296 * 4294967295 := by
    by_cases hn : 0 ≤ q - 1
    · exact Int.mul_le_mul (by omega) (by have := F.y0h; omega) F.y0l (by omega)
    · have : (q - 1) * y0 ≤ 0 := Int.mul_nonpos_of_nonpos_of_nonneg (by omega) F.y0l
      omega
  have : (q - 1) * (y1 * 4294967296 + y0) ≤ u * 4294967296 + e := by rw [k_split, e1]; have := F.el; omega
  have := Int.le_ediv_of_mul_le hY this
  omega
theorem k_next {y1 y0 u e q r : Int} (F : KFix y1 y0 u e) (h : KIn y1 y0 u e q r) (hq : (u * 4294967296 + e) / (y1 * 4294967296 + y0) ≤ q - 1) (hr : r + y1 < 4294967296) : KIn y1 y0 u e (q - 1) (r + y1) := by
  obtain ⟨h1, h2, h3, h4, h5⟩ := h
  have e1 : (q - 1) * y1 = q * y1 - y1 := by rw [Int.sub_mul, Int.one_mul]
  exact ⟨by rw [e1]; omega, by have := F.y1l; omega, hr, hq, by omega⟩
theorem k_pos {y1 y0 u e : Int} (F : KFix y1 y0 u e) : 0 ≤ (u * 4294967296 + e) / (y1 * 4294967296 + y0) :=
  Int.ediv_nonneg (by have := F.ul; have := F.el; omega) (by have := F.y1l; have := F.y0l; omega)
theorem k_lt {y1 y0 u e : Int} (F : KFix y1 y0 u e) : (u * 4294967296 + e) / (y1 * 4294967296 + y0) < 4294967296 :=
  Int.ediv_lt_of_lt_mul (by have := F.y1l; have := F.y0l; omega) (by have := F.uh; have := F.eh; omega)
/- the guess to begin with -/
theorem k_first {y1 y0 u e : Int} (F : KFix y1 y0 u e) : KIn y1 y0 u e (u / y1) (u % y1) := by
  have hy := F.y1l
  have h0 := Int.emod_nonneg u (show y1 ≠ 0 by omega)
  have h1 := Int.emod_lt_of_pos u (show 0 < y1 by omega)
  have h2 := Int.ediv_mul_add_emod u y1
  refine ⟨h2, h0, by have := F.y1h; omega, ?_, ?_⟩
  · have hY : 0 < y1 * 4294967296 + y0 := by have := F.y0l; omega
    refine Int.lt_add_one_iff.mp (Int.ediv_lt_of_lt_mul hY ?_)
    have e1 : (u / y1 + 1) * (y1 * 4294967296 + y0) = (u / y1 * y1 + y1) * 4294967296 + (u / y1 + 1) * y0 := by
      rw [k_split, Int.add_mul (u / y1) 1 y1, Int.one_mul]
    have : 0 ≤ (u / y1 + 1) * y0 := Int.mul_nonneg (by have := Int.ediv_nonneg F.ul (show 0 ≤ y1 by omega); omega) F.y0l
    rw [e1]; have := F.eh; omega
  · refine Int.lt_add_one_iff.mp (Int.ediv_lt_of_lt_mul (by omega) ?_)
    have := F.uh; have := F.y0h
    omega
/- what the two tests of the loop ask -/
def kTest (y0 e q r : Int) : Bool := if q ≥ 4294967296 then true else decide ((IntKind.u64.wrap (q * y0)) > (IntKind.u64.wrap ((IntKind.u64.wrap (4294967296 * r)) + e)))
theorem kTest_is {y1 y0 u e q r : Int} (F : KFix y1 y0 u e) (h : KIn y1 y0 u e q r) : kTest y0 e q r = decide (4294967296 ≤ q ∨ 4294967296 * r + e < q * y0) := by
  unfold kTest
  obtain ⟨h1, h2, h3, h4, h5⟩ := h
  have hp := k_pos F
  by_cases c : q ≥ 4294967296
  · rw [if_pos c]; simp; omega
  · rw [if_neg c]
    have m0 : 0 ≤ q * y0 := Int.mul_nonneg (by omega) F.y0l
    have m1 : q * y0 ≤ 4294967295 * 4294967295 := Int.mul_le_mul (by omega) (by have := F.y0h; omega) F.y0l (by omega)
    rw [w64_in m0 (by omega), w64_in (x := 4294967296 * r) (by omega) (by omega), w64_in (by have := F.el; omega) (by have := F.eh; omega)]
    simp only [decide_eq_decide]; omega
theorem div64_l0 {Y s y1 y0 u e un0 : Int} {res : Int × Int} (F : KFix y1 y0 u e)
    (H : Ev (fun k => bits_Div64.j2 k Y s y1 y0 u e un0 ((u * 4294967296 + e) / (y1 * 4294967296 + y0))) res) (n : Nat) :
    ∀ q r, KIn y1 y0 u e q r → q - (u * 4294967296 + e) / (y1 * 4294967296 + y0) = n → Ev (fun k => bits_Div64.l0 k Y s y1 y0 u e un0 q r) res := by
  induction n with
  | zero =>
    intro q r hi hn
    have hs : kTest y0 e q r = false := by
      rw [kTest_is F hi, decide_eq_false_iff_not]; intro hc; have := k_go F hi hc; omega
    refine Ev.step (f := fun k => bits_Div64.j1 k Y s y1 y0 u e un0 q r false) (fun k => ?_) (Ev.step (f := fun k => bits_Div64.j2 k Y s y1 y0 u e un0 q) (fun k => ?_) ?_)
    · rw [← hs]; simp only [bits_Div64.l0, kTest]; split <;> rfl
    · simp only [bits_Div64.j1]; rfl
    · rw [show q = (u * 4294967296 + e) / (y1 * 4294967296 + y0) by omega]; exact H
  | succ n ih =>
    intro q r hi hn
    obtain ⟨h1, h2, h3, h4, h5⟩ := id hi
    have hp := k_pos F
    have hg : 4294967296 ≤ q ∨ 4294967296 * r + e < q * y0 := by
      by_cases c : 4294967296 ≤ q ∨ 4294967296 * r + e < q * y0
      · exact c
      · have := k_stop F hi (by omega); omega
    have hs : kTest y0 e q r = true := by rw [kTest_is F hi, decide_eq_true hg]
    have hq := k_go F hi hg
    have w1 : IntKind.u64.wrap (q - 1) = q - 1 := w64_in (by omega) (by omega)
    have w2 : IntKind.u64.wrap (r + y1) = r + y1 := w64_in (by have := F.y1l; omega) (by have := F.y1h; omega)
    refine Ev.step (f := fun k => bits_Div64.j1 k Y s y1 y0 u e un0 q r true) (fun k => ?_) ?_
    · rw [← hs]; simp only [bits_Div64.l0, kTest]; split <;> rfl
    · by_cases c : r + y1 ≥ 4294967296
      · refine Ev.step (f := fun k => bits_Div64.j2 k Y s y1 y0 u e un0 (q - 1)) (fun k => ?_) ?_
        · simp only [bits_Div64.j1]; rw [w2, if_pos trivial, if_pos c, w1]
        · rw [k_break F hi hq c]; exact H
      · refine Ev.step (f := fun k => bits_Div64.l0 k Y s y1 y0 u e un0 (q - 1) (r + y1)) (fun k => ?_) ?_
        · simp only [bits_Div64.j1]; rw [w2, if_pos trivial, if_neg c, w1]
        · exact ih _ _ (k_next F hi hq (by omega)) (by omega)
theorem div64_l1 {Y s y1 y0 u e q1 : Int} (hs0 : 0 ≤ s) (F : KFix y1 y0 u e) (n : Nat) :
    ∀ q r, KIn y1 y0 u e q r → q - (u * 4294967296 + e) / (y1 * 4294967296 + y0) = n → Ev (fun k => bits_Div64.l1 k Y s y1 y0 e q1 r u q)
      (IntKind.u64.wrap ((IntKind.u64.wrap (q1 * 4294967296)) + ((u * 4294967296 + e) / (y1 * 4294967296 + y0))), shr .u64 (IntKind.u64.wrap ((IntKind.u64.wrap ((IntKind.u64.wrap (u * 4294967296)) + e)) - (IntKind.u64.wrap (((u * 4294967296 + e) / (y1 * 4294967296 + y0)) * Y)))) s) := by
  induction n with
  | zero =>
    intro q r hi hn
    have hs : kTest y0 e q r = false := by
      rw [kTest_is F hi, decide_eq_false_iff_not]; intro hc; have := k_go F hi hc; omega
    refine Ev.step (f := fun k => bits_Div64.j4 k Y s y1 y0 e q1 r u q false) (fun k => ?_) (Ev.step (fun k => ?_) (Ev.now _))
    · rw [← hs]; simp only [bits_Div64.l1, kTest]; split <;> rfl
    · rw [← show q = (u * 4294967296 + e) / (y1 * 4294967296 + y0) by omega]
      simp only [bits_Div64.j4]; rw [if_neg (by decide), if_pos hs0]
  | succ n ih =>
    intro q r hi hn
    obtain ⟨h1, h2, h3, h4, h5⟩ := id hi
    have hp := k_pos F
    have hg : 4294967296 ≤ q ∨ 4294967296 * r + e < q * y0 := by
      by_cases c : 4294967296 ≤ q ∨ 4294967296 * r + e < q * y0
      · exact c
      · have := k_stop F hi (by omega); omega
    have hs : kTest y0 e q r = true := by rw [kTest_is F hi, decide_eq_true hg]
    have hq := k_go F hi hg
    have w1 : IntKind.u64.wrap (q - 1) = q - 1 := w64_in (by omega) (by omega)
    have w2 : IntKind.u64.wrap (r + y1) = r + y1 := w64_in (by have := F.y1l; omega) (by have := F.y1h; omega)
    refine Ev.step (f := fun k => bits_Div64.j4 k Y s y1 y0 e q1 r u q true) (fun k => ?_) ?_
    · rw [← hs]; simp only [bits_Div64.l1, kTest]; split <;> rfl
    · by_cases c : r + y1 ≥ 4294967296
      · refine Ev.step (fun k => ?_) (Ev.now _)
        rw [← k_break F hi hq c]
        simp only [bits_Div64.j4]; rw [w2, if_pos trivial, if_pos c, if_pos hs0, w1]
      · refine Ev.step (f := fun k => bits_Div64.l1 k Y s y1 y0 e q1 (r + y1) u (q - 1)) (fun k => ?_) ?_
        · simp only [bits_Div64.j4]; rw [w2, if_pos trivial, if_neg c, w1]
        · exact ih _ _ (k_next F hi hq (by omega)) (by omega)
theorem div_scaled {T y p q r : Int} (hy : 0 < y) (hp : 0 < p) (h : T * p = q * (y * p) + r) (h0 : 0 ≤ r) (h1 : r < y * p) : T / y = q ∧ r / p = T % y := by
  have e : r = (T - q * y) * p := by rw [Int.sub_mul, Int.mul_assoc, h]; omega
  have g0 : 0 ≤ T - q * y := by
    by_cases c : 0 ≤ T - q * y
    · exact c
    · exfalso; have : (T - q * y) * p < 0 := Int.mul_neg_of_neg_of_pos (by omega) hp
      omega
  have g1 : T - q * y < y := by
    by_cases c : T - q * y < y
    · exact c
    · exfalso; have : y * p ≤ (T - q * y) * p := Int.mul_le_mul_of_nonneg_right (by omega) (by omega)
      omega
  have hr : r / p = T - q * y := by rw [e]; exact Int.mul_ediv_cancel _ (by omega)
  have hq : T / y = q := by
    have : T = (T - q * y) + y * q := by rw [Int.mul_comm y q]; omega
    rw [this, Int.add_mul_ediv_left _ _ (by omega), Int.ediv_eq_zero_of_lt g0 g1]; omega
  refine ⟨hq, ?_⟩
  rw [hr]
  have := Int.ediv_mul_add_emod T y
  rw [hq] at this; omega
theorem shr_is (x s : Int) (S : Nat) (hs : s = S) (hS : S ≤ 64) : shr .u64 x s = x / 2 ^ S := by
  subst hs; unfold shr; rw [Int.toNat_natCast, Nat.min_eq_left (by simpa [IntKind.bits] using hS)]
theorem shl_is (x s : Int) (S : Nat) (hs : s = S) (hS : S ≤ 64) : shl .u64 x s = IntKind.u64.wrap (x * 2 ^ S) := by
  subst hs; unfold shl; rw [Int.toNat_natCast, Nat.min_eq_left (by simpa [IntKind.bits] using hS)]
theorem div64_ev (hi lo y : Int) (hy0 : 0 < y) (hy1 : y < 18446744073709551616) (hi0 : 0 ≤ hi) (hi1 : hi < y) (hl : U64 lo) :
    Ev (fun k => bits_Div64.f k hi lo y) ((hi * 18446744073709551616 + lo) / y, (hi * 18446744073709551616 + lo) % y) := by
  obtain ⟨hl0, hl1⟩ := hl
  by_cases hz : hi = 0
  · subst hz
    refine Ev.congr (fun k => ?_) (Ev.now _)
    unfold bits_Div64.f
    rw [if_neg (by omega), if_neg (by omega), if_pos rfl, Int.tdiv_eq_ediv_of_nonneg hl0, Int.tmod_eq_emod_of_nonneg hl0, Int.zero_mul, Int.zero_add]
    rw [w64_in (Int.ediv_nonneg hl0 (by omega)) (by have := Int.ediv_le_self y hl0; omega)]
  · obtain ⟨s, hs, hA, hB, hlz⟩ := lead64 y hy0 hy1
    have hp : 0 < (2 : Int) ^ s := Int.pow_pos (by decide)
    have hP : 0 < (2 : Int) ^ (64 - s) := Int.pow_pos (by decide)
    have hpP : (2 : Int) ^ s * 2 ^ (64 - s) = 18446744073709551616 := by rw [← Int.pow_add, show s + (64 - s) = 64 from by omega]; decide
    have e1 : shl .u64 y (s : Int) = y * 2 ^ s := by rw [shl_is _ _ s rfl (by omega), w64_in (by omega) hB]
    have hiY : hi * 2 ^ s + 2 ^ s ≤ y * 2 ^ s := by
      have : (hi + 1) * 2 ^ s ≤ y * 2 ^ s := Int.mul_le_mul_of_nonneg_right (by omega) (by omega)
      rw [Int.add_mul, Int.one_mul] at this; exact this
    have hi0' : 0 ≤ hi * 2 ^ s := Int.mul_nonneg hi0 (by omega)
    have e2 : shl .u64 hi (s : Int) = hi * 2 ^ s := by rw [shl_is _ _ s rfl (by omega), w64_in hi0' (by omega)]
    have e3 : IntKind.u64.wrap (s : Int) = s := w64_in (by omega) (by omega)
    have e4 : IntKind.u64.wrap (64 - (s : Int)) = ((64 - s : Nat) : Int) := by rw [w64_in (by omega) (by omega)]; omega
    have e5 : shr .u64 lo ((64 - s : Nat) : Int) = lo / 2 ^ (64 - s) := shr_is _ _ _ rfl (by omega)
    have hlo : lo / 2 ^ (64 - s) < 2 ^ s := Int.ediv_lt_of_lt_mul hP (by omega)
    have hlo0 : 0 ≤ lo / 2 ^ (64 - s) := Int.ediv_nonneg hl0 (by omega)
    have e6 : Go.bits .or .u64 (hi * 2 ^ s) (lo / 2 ^ (64 - s)) = hi * 2 ^ s + lo / 2 ^ (64 - s) :=
      or_join s hi0' (Int.mul_emod_left _ _) (by omega) hlo0 hlo (by omega)
    have e7 : shl .u64 lo (s : Int) = (lo * 2 ^ s) % 18446744073709551616 := by rw [shl_is _ _ s rfl (by omega), IntKind.wrap_u64]
    have e8 : lo * 2 ^ s = lo / 2 ^ (64 - s) * 18446744073709551616 + (lo * 2 ^ s) % 18446744073709551616 := by
      have a1 := Int.ediv_mul_add_emod (lo * 2 ^ s) 18446744073709551616
      have a2 : lo * 2 ^ s / 18446744073709551616 = lo / 2 ^ (64 - s) := by
        rw [← hpP, Int.mul_comm lo, Int.mul_ediv_mul_of_pos _ _ hp]
      rw [a2] at a1; omega
    generalize hYe : y * 2 ^ s = Y at *
    generalize hue : hi * 2 ^ s + lo / 2 ^ (64 - s) = u at *
    generalize hve : (lo * 2 ^ s) % 18446744073709551616 = v at *
    have hv0 : 0 ≤ v := by omega
    have hv1 : v < 18446744073709551616 := by omega
    have hT : (hi * 18446744073709551616 + lo) * 2 ^ s = u * 18446744073709551616 + v := by
      rw [Int.add_mul, Int.mul_right_comm, e8, ← hue]; omega
    have hYs : Y / 4294967296 * 4294967296 + Y % 4294967296 = Y := by omega
    have F1 : KFix (Y / 4294967296) (Y % 4294967296) u (v / 4294967296) := ⟨by omega, by omega, by omega, by omega, by omega, by omega, by omega, by omega⟩
    have p1 := k_pos F1
    have l1 := k_lt F1
    have g1 := k_first F1
    rw [hYs] at p1 l1
    have m1 := Int.ediv_mul_add_emod (u * 4294967296 + v / 4294967296) Y
    have m2 := Int.emod_nonneg (u * 4294967296 + v / 4294967296) (show Y ≠ 0 by omega)
    have m3 := Int.emod_lt_of_pos (u * 4294967296 + v / 4294967296) (show 0 < Y by omega)
    generalize hQ1 : (u * 4294967296 + v / 4294967296) / Y = Q1 at *
    generalize hR1 : (u * 4294967296 + v / 4294967296) % Y = R1 at *
    have F0 : KFix (Y / 4294967296) (Y % 4294967296) R1 (v % 4294967296) := ⟨by omega, by omega, by omega, by omega, by omega, by omega, by omega, by omega⟩
    have p0 := k_pos F0
    have l0 := k_lt F0
    have g0 := k_first F0
    rw [hYs] at p0 l0
    have n1 := Int.ediv_mul_add_emod (R1 * 4294967296 + v % 4294967296) Y
    have n2 := Int.emod_nonneg (R1 * 4294967296 + v % 4294967296) (show Y ≠ 0 by omega)
    have n3 := Int.emod_lt_of_pos (R1 * 4294967296 + v % 4294967296) (show 0 < Y by omega)
    have hw0 := div64_l1 (Y := Y) (s := (s : Int)) (q1 := Q1) (by omega) F0 (R1 / (Y / 4294967296) - (R1 * 4294967296 + v % 4294967296) / (Y / 4294967296 * 4294967296 + Y % 4294967296)).toNat (R1 / (Y / 4294967296)) (R1 % (Y / 4294967296)) g0 (by have := g0.2.2.2.1; omega)
    rw [hYs] at hw0
    generalize hQ0 : (R1 * 4294967296 + v % 4294967296) / Y = Q0 at *
    generalize hR0 : (R1 * 4294967296 + v % 4294967296) % Y = R0 at *
    have hfin := div_scaled (T := hi * 18446744073709551616 + lo) (y := y) (p := 2 ^ s) (q := Q1 * 4294967296 + Q0) (r := R0) hy0 hp
      (by rw [hT, hYe, Int.add_mul, Int.mul_right_comm]; omega) n2 (by rw [hYe]; exact n3)
    have r1 : IntKind.u64.wrap ((IntKind.u64.wrap (Q1 * 4294967296)) + Q0) = (hi * 18446744073709551616 + lo) / y := by
      rw [w64_in (x := Q1 * 4294967296) (by omega) (by omega), w64_in (by omega) (by omega), hfin.1]
    have r2 : shr .u64 (IntKind.u64.wrap ((IntKind.u64.wrap ((IntKind.u64.wrap (R1 * 4294967296)) + v % 4294967296)) - (IntKind.u64.wrap (Q0 * Y)))) (s : Int) = (hi * 18446744073709551616 + lo) % y := by
      rw [shr_is _ _ s rfl (by omega), ← hfin.2]
      congr 1
      simp only [IntKind.wrap_u64]; omega
    rw [r1, r2] at hw0
    have hj2 : Ev (fun k => bits_Div64.j2 k Y (s : Int) (Y / 4294967296) (Y % 4294967296) u (v / 4294967296) (v % 4294967296) Q1) ((hi * 18446744073709551616 + lo) / y, (hi * 18446744073709551616 + lo) % y) := by
      refine Ev.step (fun k => ?_) hw0
      have a1 : IntKind.u64.wrap ((IntKind.u64.wrap ((IntKind.u64.wrap (u * 4294967296)) + v / 4294967296)) - (IntKind.u64.wrap (Q1 * Y))) = R1 := by
        simp only [IntKind.wrap_u64]; omega
      have a2 : IntKind.u64.wrap (Int.tdiv R1 (Y / 4294967296)) = R1 / (Y / 4294967296) := by
        rw [Int.tdiv_eq_ediv_of_nonneg m2]
        have := g0.2.2.2.2
        exact w64_in (Int.ediv_nonneg m2 (by omega)) (by omega)
      have a3 : IntKind.u64.wrap (R1 - (IntKind.u64.wrap (R1 / (Y / 4294967296) * (Y / 4294967296)))) = R1 % (Y / 4294967296) := by
        have b1 := g0.1; have b2 := g0.2.1; have b3 := g0.2.2.1
        simp only [IntKind.wrap_u64]; omega
      simp only [bits_Div64.j2]
      rw [if_neg (by omega), a1, a2, a3]
    have hj0 := div64_l0 (Y := Y) (s := (s : Int)) (un0 := v % 4294967296) F1 (by rw [hYs, hQ1]; exact hj2) (u / (Y / 4294967296) - (u * 4294967296 + v / 4294967296) / (Y / 4294967296 * 4294967296 + Y % 4294967296)).toNat (u / (Y / 4294967296)) (u % (Y / 4294967296)) g1 (by have := g1.2.2.2.1; omega)
    obtain ⟨K, hK⟩ := hj0
    refine ⟨K + 1, fun k hk => ?_⟩
    obtain ⟨m, rfl⟩ : ∃ m, k = m + 1 := ⟨k - 1, by omega⟩
    have hK' := hK (m + 1) (by omega)
    simp only at hK'
    show bits_Div64.f (m + 1) hi lo y = _
    unfold bits_Div64.f
    rw [if_neg (by omega), if_neg (by omega), if_neg hz, hlz m]
    simp only [Option.bind_some]
    have c1 : IntKind.u64.wrap (Int.tdiv u (Y / 4294967296)) = u / (Y / 4294967296) := by
      rw [Int.tdiv_eq_ediv_of_nonneg F1.ul]
      have := g1.2.2.2.2
      exact w64_in (Int.ediv_nonneg F1.ul (by omega)) (by omega)
    have c2 : IntKind.u64.wrap (u - (IntKind.u64.wrap (u / (Y / 4294967296) * (Y / 4294967296)))) = u % (Y / 4294967296) := by
      have b1 := g1.1; have b2 := g1.2.1; have b3 := g1.2.2.1
      simp only [IntKind.wrap_u64]; omega
    rw [e3, e4, e1, e2, e5, e6, e7, if_pos (by omega), if_pos (by omega), if_neg (by omega), and32 (by omega) (by omega), and32 (by omega) (by omega), c1, c2, hK']
end Go.Proofs.Ytcoininpcicgmaa.PX
