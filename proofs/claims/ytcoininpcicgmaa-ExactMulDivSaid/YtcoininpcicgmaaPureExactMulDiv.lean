/- MulDiv of package exact divides the product as its reference does, and with Down the remainder is MulMod: the law ExactMulDiv over the printed functions. -/
import Derived.Test.YtcoininpcicgmaaPXcustomslaw01ExactMulDiv
import Derived.Test.YtcoininpcicgmaaExact4
namespace Go.Proofs.Ytcoininpcicgmaa.Pure
open Go.RowKit Go.Proofs.Ytcoininpcicgmaa.PX Go.Proofs.YtcoininpcicgmaaW.PrintWords Go.Proofs.YtcoininpcicgmaaW.PrintLast Go.Proofs.YtcoininpcicgmaaW.PrintMore
set_option linter.unusedVariables false
set_option linter.unusedSimpArgs false

theorem refMulMod_ev (a b c : Int) (ha : U64 a) (hb : U64 b) (hc : U64 c) : Ev (fun k => customsref01_MulMod.f k a b c) (modS (a * b) c) := by
  unfold customsref01_MulMod.f modS
  by_cases c0 : c = 0
  · simp only [if_pos c0]; exact Ev.now _
  · simp only [if_neg c0]
    obtain ⟨h0, h1⟩ := prod_wide ha hb
    obtain ⟨u1, u2, e⟩ := wide_u64 h0 h1
    have := refDm_ev _ _ c u1 u2 hc (by have := hc.1; omega)
    rw [e] at this
    exact Ev.bind (refMul_ev a b ha hb) (Ev.bind this (Ev.cst rfl))
theorem ExactMulDiv : customslaw01_ExactMulDiv.Pure := by
  intro a0 a1 a2 a3 h0 h1 h2 h3
  have u0 := u64_of_wf h0
  have u1 := u64_of_wf h1
  have u2 := u64_of_wf h2
  refine Ev.rounds ?_
  unfold customslaw01_ExactMulDiv.f
  refine Ev.bind (exactMulDiv_ev _ _ _ _ u0 u1 u2) (Ev.bind (refMulDiv_ev _ _ _ _ u0 u1 u2) ?_)
  simp only [if_true]
  refine Ev.bind (exactMulMod_ev _ _ _ u0 u1 u2) (Ev.bind (refMulMod_ev _ _ _ u0 u1 u2) ?_)
  simp only [bne_self_eq_false]
  refine Ev.up ?_
  simp only [customslaw01_ExactMulDiv.j0, Bool.false_eq_true, if_false]
  have hyes : ∀ q : Int, Ev (fun k => customslaw01_ExactMulDiv.j1 k a0 a1 a2 q true) true := by
    intro q
    refine Ev.up ?_
    simp only [customslaw01_ExactMulDiv.j1, if_true]
    exact Ev.bind awake_ev (Ev.now _)
  by_cases c1 : (divS (a0 * a1) a2 a3).2 = 0
  · simp only [if_pos c1]
    by_cases c2 : a3 = 0
    · subst c2
      rw [show ((0 : Int) != 0) = false from rfl]
      refine Ev.up ?_
      simp only [customslaw01_ExactMulDiv.j1, Bool.false_eq_true, if_false]
      have p := prod_wide u0 u1
      have hc0 : a2 ≠ 0 := by
        intro e; unfold divS at c1; rw [if_pos (.inl e)] at c1; exact absurd c1 (by decide)
      have hpos : 0 < a2 := by have := u2.1; omega
      have hr : rdiv (a0 * a1) a2 0 = a0 * a1 / a2 := by unfold rdiv rup; simp
      have hlt : a0 * a1 / a2 < 18446744073709551616 := by
        unfold divS at c1
        rw [if_neg (by omega), hr] at c1
        by_cases h : 18446744073709551616 ≤ a0 * a1 / a2
        · rw [if_pos h] at c1; exact absurd c1 (by decide)
        · omega
      have hq : (divS (a0 * a1) a2 0).1 = a0 * a1 / a2 := by
        unfold divS; rw [if_neg (by omega), hr, if_neg (by omega)]
      have uq : U64 (a0 * a1 / a2) := ⟨Int.ediv_nonneg p.1 (by omega), hlt⟩
      have hm : modS (a0 * a1) a2 = a0 * a1 % a2 := by unfold modS; rw [if_neg hc0]
      have r0 := Int.emod_nonneg (a0 * a1) hc0
      have r1 := Int.emod_lt_of_pos (a0 * a1) hpos
      have ur : U64 (a0 * a1 % a2) := ⟨r0, by have := u2.2; omega⟩
      rw [hq, exactMul_is _ _ uq u2, exactMul_is _ _ u0 u1]
      simp only [Option.bind_some]
      have he := Int.ediv_mul_add_emod (a0 * a1) a2
      have pq := prod_wide uq u2
      have ha := exactAdd_wide (a0 * a1 / a2 * a2) (a0 * a1 % a2) pq.1 r0 (by omega)
      rw [show a0 * a1 % a2 / 18446744073709551616 = 0 from Int.ediv_eq_zero_of_lt r0 ur.2, show a0 * a1 % a2 % 18446744073709551616 = a0 * a1 % a2 from Int.emod_eq_of_lt r0 ur.2, he] at ha
      refine Ev.bind (exactMulMod_ev _ _ _ u0 u1 u2) ?_
      simp only [hm, ha, Option.bind_some, beq_self_eq_true, Bool.and_self, if_true]
      refine Ev.bind (Ev.as (exactMulMod_ev _ _ _ u0 u1 u2) hm) ?_
      simp only [if_pos r1]
      exact Ev.bind awake_ev (Ev.now _)
    · rw [show (a3 != 0) = true from by simpa using c2]; exact hyes _
  · simp only [if_neg c1]; exact hyes _
end Go.Proofs.Ytcoininpcicgmaa.Pure
