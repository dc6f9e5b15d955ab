/- Plain laws of package exact and of its reference as printed: quotients with rounding, products, comparisons. -/
import Derived.Test.YtcoininpcicgmaaExact
import Derived.Test.YtcoininpcicgmaaPXexactMulDiv
import Derived.Test.YtcoininpcicgmaaPXexactMulMod
import Derived.Test.YtcoininpcicgmaaPXcustomsref01MulDiv
import Derived.Test.YtcoininpcicgmaaPXbitsRem64
namespace Go.Proofs.Ytcoininpcicgmaa.PX
open Go.RowKit Go.Proofs.YtcoininpcicgmaaW.PrintWords Go.Proofs.YtcoininpcicgmaaW.PrintLast Go.Proofs.YtcoininpcicgmaaW.PrintMore
set_option linter.unusedVariables false
set_option linter.unusedSimpArgs false

/- is the quotient q with the remainder r of a division by c rounded up in the mode m -/
def rup (m q r c : Int) : Bool := if m = 1 then decide (0 < r) else if m = 2 then decide (c ≤ 2 * r) else if m = 3 then decide (c < 2 * r ∨ c = 2 * r ∧ q % 2 = 1) else false
def rdiv (W c m : Int) : Int := W / c + (if rup m (W / c) (W % c) c = true then 1 else 0)
/- P1.2: the rounded quotient, and the error -/
def divS (W c m : Int) : Int × Int := if c = 0 ∨ m < 0 ∨ 3 < m then (0, 2) else if 18446744073709551616 ≤ rdiv W c m then (0, 3) else (rdiv W c m, 0)
theorem order_is (a b : Int) : exact_order.f a b = some (if a < b then -1 else if b < a then 1 else 0) := by
  unfold exact_order.f
  by_cases c : a < b
  · rw [if_pos c, if_pos c]
  · rw [if_neg c, if_neg c]
    by_cases d : a > b
    · rw [if_pos d, if_pos d]
    · rw [if_neg d, if_neg d]
theorem above_is (q r c m : Int) (hq : 0 ≤ q) (hr0 : 0 ≤ r) (hr1 : r < c) (hc : c < 18446744073709551616) : exact_above.f q r c m = some (rup m q r c) := by
  unfold exact_above.f rup
  rw [order_is, w64_in (by omega) (by omega)]
  simp only [Option.bind_some]
  by_cases c1 : m = 1
  · rw [if_pos c1, if_pos c1]
  · rw [if_neg c1, if_neg c1]
    by_cases c2 : m = 2
    · rw [if_pos c2, if_pos c2]
      by_cases d1 : r < c - r
      · rw [if_pos d1, decide_eq_false (by omega), decide_eq_false (by omega)]
      · rw [if_neg d1]
        by_cases d2 : c - r < r
        · rw [if_pos d2, decide_eq_true (by omega), decide_eq_true (by omega)]
        · rw [if_neg d2, decide_eq_true (by omega), decide_eq_true (by omega)]
    · rw [if_neg c2, if_neg c2]
      by_cases c3 : m = 3
      · rw [if_pos c3, if_pos c3, Int.tmod_eq_emod_of_nonneg hq]
        by_cases d1 : r < c - r
        · rw [if_pos d1, if_neg (by decide), if_neg (by decide), decide_eq_false (by omega)]
        · rw [if_neg d1]
          by_cases d2 : c - r < r
          · rw [if_pos d2, if_pos (by decide), decide_eq_true (by omega)]
          · rw [if_neg d2, if_neg (by decide), if_pos rfl]
            refine congrArg some ?_
            rw [Bool.eq_iff_iff]; simp only [beq_iff_eq, decide_eq_true_eq]; omega
      · rw [if_neg c3, if_neg c3]
theorem rdiv_big {W c m hi : Int} (hc : 0 < c) (h : c ≤ hi) (hW : hi * 18446744073709551616 ≤ W) : 18446744073709551616 ≤ rdiv W c m := by
  have : 18446744073709551616 ≤ W / c := Int.le_ediv_of_mul_le hc (by have := Int.mul_le_mul_of_nonneg_left h (show (0 : Int) ≤ 18446744073709551616 by omega); omega)
  unfold rdiv; split <;> omega
theorem exactDiv_ev (hi lo c m : Int) (hh : U64 hi) (hl : U64 lo) (hc : U64 c) : Ev (fun k => exact_Div.f k hi lo c m) (divS (hi * 18446744073709551616 + lo) c m) := by
  have hc1 := hc.2
  by_cases hb : c = 0 ∨ m < 0 ∨ 3 < m
  · have e : divS (hi * 18446744073709551616 + lo) c m = (0, 2) := by unfold divS; rw [if_pos hb]
    rw [e]
    refine Ev.congr (f := fun k => exact_Div.j0 k c m true hi lo) (fun k => ?_) (Ev.step (fun k => ?_) (Ev.now _))
    · unfold exact_Div.f
      by_cases c1 : c = 0
      · rw [if_pos c1]
      · rw [if_neg c1]
        by_cases c2 : m < 0
        · rw [if_pos c2]
        · rw [if_neg c2, decide_eq_true (by omega)]
    · simp only [exact_Div.j0]; rfl
  · have hc0 : 0 < c := by have := hc.1; omega
    have e0 : ∀ k, exact_Div.f k hi lo c m = exact_Div.j0 k c m false hi lo := fun k => by
      unfold exact_Div.f
      rw [if_neg (by omega), if_neg (by omega), decide_eq_false (by omega)]
    refine Ev.congr e0 ?_
    unfold divS
    rw [if_neg hb]
    by_cases c1 : hi ≥ c
    · rw [if_pos (rdiv_big hc0 c1 (by have := hl.1; omega))]
      refine Ev.step (fun k => ?_) (Ev.now _)
      simp only [exact_Div.j0]
      rw [if_neg (by decide), if_pos c1]
    · have hd := div64_ev hi lo c hc0 hc1 hh.1 (by omega) hl
      have hW0 : 0 ≤ hi * 18446744073709551616 + lo := by have := hh.1; have := hl.1; omega
      have q0 := Int.ediv_nonneg hW0 (show 0 ≤ c by omega)
      have q1 : (hi * 18446744073709551616 + lo) / c < 18446744073709551616 := by
        refine Int.ediv_lt_of_lt_mul hc0 ?_
        have : (hi + 1) * 18446744073709551616 ≤ c * 18446744073709551616 := Int.mul_le_mul_of_nonneg_right (by omega) (by omega)
        have := hl.2; omega
      have r0 := Int.emod_nonneg (hi * 18446744073709551616 + lo) (show c ≠ 0 by omega)
      have r1 := Int.emod_lt_of_pos (hi * 18446744073709551616 + lo) hc0
      unfold rdiv
      generalize hq : (hi * 18446744073709551616 + lo) / c = q at *
      generalize hr : (hi * 18446744073709551616 + lo) % c = r at *
      refine Ev.up ?_
      simp only [exact_Div.j0, if_neg c1, Bool.false_eq_true, if_false]
      refine Ev.bind hd (Ev.cst ?_)
      try simp only []
      rw [above_is q r c m q0 r0 r1 hc1]
      simp only [Option.bind_some]
      cases hu : rup m q r c
      · simp only [Bool.false_eq_true, if_false, Int.add_zero]
        rw [if_neg (by omega)]
      · simp only [if_true, IntKind.wrap_u64]
        by_cases cz : (q + 1) % 18446744073709551616 = 0
        · rw [if_pos cz, if_pos (by omega)]
        · rw [if_neg cz, if_neg (by omega), show (q + 1) % 18446744073709551616 = q + 1 by omega]
theorem refDiv_ev (hi lo c m : Int) (hh : U64 hi) (hl : U64 lo) (hc : U64 c) : Ev (fun k => customsref01_Div.f k hi lo c m) (divS (hi * 18446744073709551616 + lo) c m) := by
  have hc1 := hc.2
  by_cases hb : c = 0 ∨ m < 0 ∨ 3 < m
  · have e : divS (hi * 18446744073709551616 + lo) c m = (0, 2) := by unfold divS; rw [if_pos hb]
    rw [e]
    refine Ev.congr (f := fun k => customsref01_Div.j0 k c m true hi lo) (fun k => ?_) (Ev.step (fun k => ?_) (Ev.now _))
    · unfold customsref01_Div.f
      by_cases c1 : c = 0
      · rw [if_pos c1]
      · rw [if_neg c1]
        by_cases c2 : m < 0
        · rw [if_pos c2]
        · rw [if_neg c2, decide_eq_true (by omega)]
    · simp only [customsref01_Div.j0]; rfl
  · have hc0 : 0 < c := by have := hc.1; omega
    have e0 : ∀ k, customsref01_Div.f k hi lo c m = customsref01_Div.j0 k c m false hi lo := fun k => by
      unfold customsref01_Div.f
      rw [if_neg (by omega), if_neg (by omega), decide_eq_false (by omega)]
    refine Ev.congr e0 ?_
    unfold divS
    rw [if_neg hb]
    have hd := refDm_ev hi lo c hh hl hc hc0
    have hW0 : 0 ≤ hi * 18446744073709551616 + lo := by have := hh.1; have := hl.1; omega
    have hW1 : hi * 18446744073709551616 + lo < 340282366920938463463374607431768211456 := by have := hh.2; have := hl.2; omega
    have q0 := Int.ediv_nonneg hW0 (show 0 ≤ c by omega)
    have q1 := Int.ediv_le_self c hW0
    have r0 := Int.emod_nonneg (hi * 18446744073709551616 + lo) (show c ≠ 0 by omega)
    have r1 := Int.emod_lt_of_pos (hi * 18446744073709551616 + lo) hc0
    have hq2 : 1 < c → (hi * 18446744073709551616 + lo) / c + 1 < 340282366920938463463374607431768211456 := by
      intro h
      have : (hi * 18446744073709551616 + lo) / c * c ≤ hi * 18446744073709551616 + lo := Int.ediv_mul_le _ (by omega)
      have : (hi * 18446744073709551616 + lo) / c * 2 ≤ (hi * 18446744073709551616 + lo) / c * c := Int.mul_le_mul_of_nonneg_left (by omega) q0
      omega
    unfold rdiv
    generalize hq : (hi * 18446744073709551616 + lo) / c = q at *
    generalize hr : (hi * 18446744073709551616 + lo) % c = r at *
    have hj1 : Ev (fun k => customsref01_Div.j1 k (rup m q r c) (q / 18446744073709551616) (q % 18446744073709551616)) (if 18446744073709551616 ≤ q + (if rup m q r c = true then 1 else 0) then (0, 3) else (q + (if rup m q r c = true then 1 else 0), 0)) := by
      refine Ev.up ?_
      cases hu : rup m q r c
      · simp only [customsref01_Div.j1, Bool.false_eq_true, if_false, Int.add_zero]
        refine Ev.cst ?_
        by_cases cz : q / 18446744073709551616 > 0
        · rw [if_pos cz, if_pos (by omega)]
        · rw [if_neg cz, if_neg (by omega), show q % 18446744073709551616 = q by omega]
      · simp only [customsref01_Div.j1, if_true]
        have hne : 1 < c := by
          by_cases h1 : 1 < c
          · exact h1
          · exfalso
            have : r = 0 := by omega
            subst this
            unfold rup at hu
            by_cases m1 : m = 1
            · rw [if_pos m1] at hu; simp at hu
            · rw [if_neg m1] at hu
              by_cases m2 : m = 2
              · rw [if_pos m2] at hu; simp at hu; omega
              · rw [if_neg m2] at hu
                by_cases m3 : m = 3
                · rw [if_pos m3] at hu; simp only [decide_eq_true_eq] at hu; omega
                · rw [if_neg m3] at hu; cases hu
        have := hq2 hne
        have ha := refAdd_wide q 1 q0 (by decide) (by omega)
        rw [show (1 : Int) / 18446744073709551616 = 0 by decide, show (1 : Int) % 18446744073709551616 = 1 by decide] at ha
        rw [ha]
        refine Ev.cst ?_
        simp only [Option.bind_some]
        by_cases cz : (q + 1) / 18446744073709551616 > 0
        · rw [if_pos cz, if_pos (by omega)]
        · rw [if_neg cz, if_neg (by omega), show (q + 1) % 18446744073709551616 = q + 1 by omega]
    refine Ev.up ?_
    simp only [customsref01_Div.j0, Bool.false_eq_true, if_false]
    refine Ev.bind hd (Ev.congr (fun k => ?_) hj1)
    try simp only []
    rw [w64_in (x := c - r) (by omega) (by omega), and1 (by omega) (by omega)]
    unfold rup
    by_cases m1 : m = 1
    · rw [if_pos m1, if_pos m1]
    · rw [if_neg m1, if_neg m1]
      by_cases m2 : m = 2
      · rw [if_pos m2, if_pos m2]; congr 1; rw [decide_eq_decide]; omega
      · rw [if_neg m2, if_neg m2]
        by_cases m3 : m = 3
        · rw [if_pos m3, if_pos m3]
          by_cases d1 : r > c - r
          · rw [if_pos d1, decide_eq_true (by omega)]
          · rw [if_neg d1]
            by_cases d2 : r = c - r
            · rw [if_pos d2]; congr 1
              rw [Bool.eq_iff_iff]; simp only [beq_iff_eq, decide_eq_true_eq]; omega
            · rw [if_neg d2, decide_eq_false (by omega)]
        · rw [if_neg m3, if_neg m3]
theorem mul64_is (a b : Int) (ha : U64 a) (hb : U64 b) : bits_Mul64.f a b = some (a * b / 18446744073709551616, a * b % 18446744073709551616) := by
  obtain ⟨ha0, ha1⟩ := ha
  obtain ⟨hb0, hb1⟩ := hb
  unfold bits_Mul64.f
  rw [and32 ha0 ha1, and32 hb0 hb1]
  have ea : a = a / 4294967296 * 4294967296 + a % 4294967296 := by omega
  have eb : b = b / 4294967296 * 4294967296 + b % 4294967296 := by omega
  have hx1 : 0 ≤ a / 4294967296 ∧ a / 4294967296 ≤ 4294967295 := by omega
  have hx0 : 0 ≤ a % 4294967296 ∧ a % 4294967296 ≤ 4294967295 := by omega
  have hy1 : 0 ≤ b / 4294967296 ∧ b / 4294967296 ≤ 4294967295 := by omega
  have hy0 : 0 ≤ b % 4294967296 ∧ b % 4294967296 ≤ 4294967295 := by omega
  have hab : a * b = a / 4294967296 * (b / 4294967296) * 18446744073709551616 + (a / 4294967296 * (b % 4294967296) + a % 4294967296 * (b / 4294967296)) * 4294967296 + a % 4294967296 * (b % 4294967296) := by
    have : a * b = (a / 4294967296 * 4294967296 + a % 4294967296) * (b / 4294967296 * 4294967296 + b % 4294967296) := by rw [← ea, ← eb]
    rw [this, Int.add_mul, Int.mul_add, Int.mul_add]
    have e1 : a / 4294967296 * 4294967296 * (b / 4294967296 * 4294967296) = a / 4294967296 * (b / 4294967296) * 18446744073709551616 := by
      rw [Int.mul_assoc, Int.mul_left_comm 4294967296, Int.mul_assoc]; rfl
    have e2 : a / 4294967296 * 4294967296 * (b % 4294967296) = a / 4294967296 * (b % 4294967296) * 4294967296 := by
      rw [Int.mul_right_comm]
    have e3 : a % 4294967296 * (b / 4294967296 * 4294967296) = a % 4294967296 * (b / 4294967296) * 4294967296 := by
      rw [Int.mul_assoc]
    rw [e1, e2, e3]; omega
  have b11 := Int.mul_nonneg hx1.1 hy1.1
  have b10 := Int.mul_nonneg hx1.1 hy0.1
  have b01 := Int.mul_nonneg hx0.1 hy1.1
  have b00 := Int.mul_nonneg hx0.1 hy0.1
  have c11 := Int.mul_le_mul hx1.2 hy1.2 hy1.1 (by decide)
  have c10 := Int.mul_le_mul hx1.2 hy0.2 hy0.1 (by decide)
  have c01 := Int.mul_le_mul hx0.2 hy1.2 hy1.1 (by decide)
  have c00 := Int.mul_le_mul hx0.2 hy0.2 hy0.1 (by decide)
  rw [hab]
  generalize a / 4294967296 * (b / 4294967296) = p11 at *
  generalize a / 4294967296 * (b % 4294967296) = p10 at *
  generalize a % 4294967296 * (b / 4294967296) = p01 at *
  generalize a % 4294967296 * (b % 4294967296) = p00 at *
  rw [w64_in (x := p00) b00 (by omega), w64_in (x := p10) b10 (by omega), w64_in (x := p01) b01 (by omega), w64_in (x := p11) b11 (by omega)]
  rw [w64_in (x := p10 + p00 / 4294967296) (by omega) (by omega), and32 (by omega) (by omega)]
  rw [w64_in (x := (p10 + p00 / 4294967296) % 4294967296 + p01) (by omega) (by omega)]
  rw [w64_in (x := p11 + (p10 + p00 / 4294967296) / 4294967296) (by omega) (by omega)]
  rw [w64_in (x := p11 + (p10 + p00 / 4294967296) / 4294967296 + ((p10 + p00 / 4294967296) % 4294967296 + p01) / 4294967296) (by omega) (by omega), IntKind.wrap_u64]
  exact congrArg some (Prod.ext (by simp only []; omega) rfl)
theorem exactMul_is (a b : Int) (ha : U64 a) (hb : U64 b) : exact_Mul.f a b = some (a * b / 18446744073709551616, a * b % 18446744073709551616) := by
  unfold exact_Mul.f; rw [mul64_is a b ha hb]; rfl
theorem wide_u64 {W : Int} (h0 : 0 ≤ W) (h1 : W < 340282366920938463463374607431768211456) : U64 (W / 18446744073709551616) ∧ U64 (W % 18446744073709551616) ∧ W / 18446744073709551616 * 18446744073709551616 + W % 18446744073709551616 = W := by
  unfold U64; omega
theorem prod_wide {a b : Int} (ha : U64 a) (hb : U64 b) : 0 ≤ a * b ∧ a * b < 340282366920938463463374607431768211456 :=
  ⟨Int.mul_nonneg ha.1 hb.1, by have := mul_bound ha hb; omega⟩
theorem exactMulDiv_ev (a b c m : Int) (ha : U64 a) (hb : U64 b) (hc : U64 c) : Ev (fun k => exact_MulDiv.f k a b c m) (divS (a * b) c m) := by
  unfold exact_MulDiv.f
  obtain ⟨h0, h1⟩ := prod_wide ha hb
  obtain ⟨u1, u2, e⟩ := wide_u64 h0 h1
  rw [exactMul_is a b ha hb]
  simp only [Option.bind_some]
  have := exactDiv_ev _ _ c m u1 u2 hc
  rw [e] at this
  exact Ev.bind this (Ev.cst rfl)
theorem refMulDiv_ev (a b c m : Int) (ha : U64 a) (hb : U64 b) (hc : U64 c) : Ev (fun k => customsref01_MulDiv.f k a b c m) (divS (a * b) c m) := by
  unfold customsref01_MulDiv.f
  obtain ⟨h0, h1⟩ := prod_wide ha hb
  obtain ⟨u1, u2, e⟩ := wide_u64 h0 h1
  have := refDiv_ev _ _ c m u1 u2 hc
  rw [e] at this
  exact Ev.bind (refMul_ev a b ha hb) (Ev.bind this (Ev.cst rfl))
def modS (W c : Int) : Int := if c = 0 then 0 else W % c
theorem rem64_ev (hi lo c : Int) (hh : U64 hi) (hl : U64 lo) (hc : U64 c) (hc0 : 0 < c) : Ev (fun k => bits_Rem64.f k hi lo c) ((hi * 18446744073709551616 + lo) % c) := by
  unfold bits_Rem64.f
  simp only [if_neg (show ¬ c = 0 by omega)]
  rw [Int.tmod_eq_emod_of_nonneg hh.1]
  refine Ev.as (Ev.bind (div64_ev (hi % c) lo c hc0 hc.2 (Int.emod_nonneg _ (by omega)) (Int.emod_lt_of_pos _ hc0) hl) (Ev.cst rfl)) ?_
  try simp only []
  have e : hi * 18446744073709551616 + lo = (hi % c * 18446744073709551616 + lo) + c * (hi / c * 18446744073709551616) := by
    have := Int.ediv_mul_add_emod hi c
    rw [← Int.mul_assoc, Int.mul_comm c]
    generalize hi / c * c = z at *
    omega
  rw [e, Int.add_mul_emod_self_left]
theorem exactMulMod_ev (a b c : Int) (ha : U64 a) (hb : U64 b) (hc : U64 c) : Ev (fun k => exact_MulMod.f k a b c) (modS (a * b) c) := by
  unfold exact_MulMod.f modS
  by_cases c0 : c = 0
  · simp only [if_pos c0]; exact Ev.now _
  · simp only [if_neg c0]
    obtain ⟨h0, h1⟩ := prod_wide ha hb
    obtain ⟨u1, u2, e⟩ := wide_u64 h0 h1
    rw [exactMul_is a b ha hb]
    simp only [Option.bind_some]
    have := rem64_ev _ _ c u1 u2 hc (by have := hc.1; omega)
    rw [e] at this
    exact Ev.bind this (Ev.now _)
end Go.Proofs.Ytcoininpcicgmaa.PX
