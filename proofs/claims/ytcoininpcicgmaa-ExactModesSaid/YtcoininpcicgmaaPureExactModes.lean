/- The four rounding modes of package exact are related as the law ExactModes says, over the printed functions, whatever the numbers are. -/
import Derived.Test.YtcoininpcicgmaaPXcustomslaw01ExactModes
import Derived.Test.YtcoininpcicgmaaExact3
namespace Go.Proofs.Ytcoininpcicgmaa.Pure
open Go.RowKit Go.Proofs.Ytcoininpcicgmaa.PX Go.Proofs.YtcoininpcicgmaaW.PrintWords Go.Proofs.YtcoininpcicgmaaW.PrintLast Go.Proofs.YtcoininpcicgmaaW.PrintMore
set_option linter.unusedVariables false
set_option linter.unusedSimpArgs false

theorem divS_ok {W c m : Int} (hc : 0 < c) (h0 : 0 ≤ m) (h3 : m ≤ 3) (h : rdiv W c m < 18446744073709551616) : divS W c m = (rdiv W c m, 0) := by
  unfold divS; rw [if_neg (by omega), if_neg (by omega)]
theorem divS_over {W c m : Int} (hc : 0 < c) (h0 : 0 ≤ m) (h3 : m ≤ 3) (h : 18446744073709551616 ≤ rdiv W c m) : divS W c m = (0, 3) := by
  unfold divS; rw [if_neg (by omega), if_pos h]
theorem ExactModes : customslaw01_ExactModes.Pure := by
  intro a0 a1 a2 h0 h1 h2
  have u0 := u64_of_wf h0
  have u1 := u64_of_wf h1
  have u2 := u64_of_wf h2
  obtain ⟨uc, hc⟩ := mx_u64 u2
  refine Ev.rounds ?_
  unfold customslaw01_ExactModes.f
  generalize mx a2 1 = c at *
  have hm := exactMulMod_ev _ _ _ u0 u1 uc
  refine Ev.bind (exactMulDiv_ev _ _ _ 0 u0 u1 uc) (Ev.bind (exactMulDiv_ev _ _ _ 1 u0 u1 uc) (Ev.bind (exactMulDiv_ev _ _ _ 2 u0 u1 uc) (Ev.bind (exactMulDiv_ev _ _ _ 3 u0 u1 uc) ?_)))
  try simp only []
  have hW := prod_wide u0 u1
  have r0 := Int.emod_nonneg (a0 * a1) (show c ≠ 0 by omega)
  have r1 := Int.emod_lt_of_pos (a0 * a1) hc
  have q0 := Int.ediv_nonneg hW.1 (show 0 ≤ c by omega)
  have hm' : modS (a0 * a1) c = a0 * a1 % c := by unfold modS; rw [if_neg (by omega)]
  have d0 : rdiv (a0 * a1) c 0 = a0 * a1 / c := by unfold rdiv rup; simp
  have d1 : rdiv (a0 * a1) c 1 = a0 * a1 / c + (if 0 < a0 * a1 % c then 1 else 0) := by unfold rdiv rup; simp
  have d2 : rdiv (a0 * a1) c 2 = a0 * a1 / c + (if c ≤ 2 * (a0 * a1 % c) then 1 else 0) := by unfold rdiv rup; simp
  have d3 : rdiv (a0 * a1) c 3 = a0 * a1 / c + (if c < 2 * (a0 * a1 % c) ∨ c = 2 * (a0 * a1 % c) ∧ a0 * a1 / c % 2 = 1 then 1 else 0) := by unfold rdiv rup; simp
  rw [hm'] at hm
  have e0 := fun h => divS_ok (W := a0 * a1) (m := 0) hc (by decide) (by decide) h
  have e1 := fun h => divS_ok (W := a0 * a1) (m := 1) hc (by decide) (by decide) h
  have e2 := fun h => divS_ok (W := a0 * a1) (m := 2) hc (by decide) (by decide) h
  have e3 := fun h => divS_ok (W := a0 * a1) (m := 3) hc (by decide) (by decide) h
  have o0 := fun h => divS_over (W := a0 * a1) (m := 0) hc (by decide) (by decide) h
  have o1 := fun h => divS_over (W := a0 * a1) (m := 1) hc (by decide) (by decide) h
  rw [d0] at e0 o0
  rw [d1] at e1 o1
  rw [d2] at e2
  rw [d3] at e3
  clear d0 d1 d2 d3 hm' hW
  generalize a0 * a1 / c = q at *
  generalize a0 * a1 % c = r at *
  by_cases h1 : 18446744073709551616 ≤ q + (if 0 < r then 1 else 0)
  · -- the rounded-up quotient is too great
    have hj : ∀ x7 x9 x11 x12 x13 x14 : Int, Ev (fun k => customslaw01_ExactModes.j0 k a0 a1 c x7 x9 3 x11 x12 x13 x14 true) true := by
      intros
      refine Ev.up ?_
      simp only [customslaw01_ExactModes.j0, if_true]
      exact Ev.bind awake_ev (Ev.now _)
    rw [o1 h1]
    by_cases h0' : 18446744073709551616 ≤ q
    · rw [o0 h0']; simp only [show ¬ (3 : Int) = 0 by decide, if_false]; exact hj _ _ _ _ _ _
    · rw [e0 (by omega)]; simp only [if_true]; exact hj _ _ _ _ _ _
  · have hq : q < 18446744073709551616 := by split at h1 <;> omega
    rw [e0 hq, e1 (by omega), e2 (by split at h1 <;> split <;> omega), e3 (by split at h1 <;> split <;> omega)]
    simp only [if_true, bne_self_eq_false]
    refine Ev.up ?_
    simp only [customslaw01_ExactModes.j0, Bool.false_eq_true, if_false, if_true]
    refine Ev.bind hm ?_
    have ha : Ev (fun k => (customslaw01_awake.f k).bind fun t => some t) true := Ev.bind awake_ev (Ev.now _)
    have ha' := awake_ev
    clear e0 e1 e2 e3 o0 o1 hm
    have hw : IntKind.u64.wrap (c - r) = c - r := w64_in (by omega) (by have := uc.2; omega)
    rw [hw]
    by_cases c0 : r = 0
    · subst c0
      simp only [show ¬ (0 : Int) > 0 by decide, show ¬ (0 : Int) < 0 by decide, if_false, Int.add_zero, Int.mul_zero, if_neg (show ¬ c ≤ 0 by omega), if_neg (show ¬ (c < 0 ∨ c = 0 ∧ q % 2 = 1) by omega), if_true, Int.sub_self]
      simp [show IntKind.u64.wrap 0 = 0 from w64_in (by decide) (by decide)]
      exact ha'
    · have cp : r > 0 := by omega
      have cp' : 0 < r := by omega
      rw [if_pos cp'] at h1 ⊢
      have w1 : IntKind.u64.wrap (q + 1 - q) = 1 := by rw [show q + 1 - q = 1 by omega]; exact w64_in (by decide) (by decide)
      have n1 : ¬ q + 1 = q := by omega
      have n2 : ¬ q = q + 1 := by omega
      have a1' := and1 (x := q) q0 hq
      have a2' := and1 (x := q + 1) (by omega) (by omega)
      have b1 : (q + 1 == q) = false := beq_eq_false_iff_ne.mpr n1
      have b2 : (r == 0) = false := beq_eq_false_iff_ne.mpr c0
      rw [w1]
      by_cases ct : r = c - r
      · have k1 : c ≤ 2 * r := by omega
        rw [if_pos k1]
        by_cases cq : q % 2 = 1
        · rw [if_pos (by omega)]
          have z : (q + 1) % 2 = 0 := by omega
          simp only [if_pos cp, if_true, if_neg n1, if_neg n2, a2', z, if_pos ct, show ¬ (1 : Int) > 1 by decide, if_false]
          simp [b1, b2]
          exact ha'
        · rw [if_neg (by omega), Int.add_zero]
          have z : q % 2 = 0 := by omega
          simp only [if_pos cp, if_true, if_neg n1, if_neg n2, a1', z, if_pos ct, show ¬ (1 : Int) > 1 by decide, if_false]
          simp [b1, b2]
          exact ha'
      · by_cases k1 : c ≤ 2 * r
        · rw [if_pos k1, if_pos (by omega)]
          simp only [if_pos cp, if_true, if_neg n1, if_neg n2, if_neg ct, show ¬ (1 : Int) > 1 by decide, if_false]
          simp [b1, b2]
          exact ha'
        · rw [if_neg k1, if_neg (by omega), Int.add_zero]
          simp only [if_pos cp, if_true, if_neg n1, if_neg n2, if_neg ct, show ¬ (1 : Int) > 1 by decide, if_false]
          simp [b1, b2]
          exact ha'
end Go.Proofs.Ytcoininpcicgmaa.Pure
