/- The order of fractions that Compare of package exact tells is transitive: the law ExactOrder over the printed functions. -/
import Derived.Test.YtcoininpcicgmaaPXcustomslaw01ExactOrder
import Derived.Test.YtcoininpcicgmaaExact3
namespace Go.Proofs.Ytcoininpcicgmaa.Pure
open Go.RowKit Go.Proofs.Ytcoininpcicgmaa.PX Go.Proofs.YtcoininpcicgmaaW.PrintWords Go.Proofs.YtcoininpcicgmaaW.PrintLast Go.Proofs.YtcoininpcicgmaaW.PrintMore
set_option linter.unusedVariables false
set_option linter.unusedSimpArgs false

theorem frac_trans {a c p B D Q : Int} (hB : 0 < B) (hD : 0 < D) (hQ : 0 < Q) (h1 : a * D ≤ c * B) (h2 : c * Q ≤ p * D) : a * Q ≤ p * B := by
  have e1 := Int.mul_le_mul_of_nonneg_right h1 (show 0 ≤ Q by omega)
  have e2 := Int.mul_le_mul_of_nonneg_right h2 (show 0 ≤ B by omega)
  have e3 : D * (a * Q) ≤ D * (p * B) := by
    have x1 : a * D * Q = D * (a * Q) := by rw [Int.mul_comm a D, Int.mul_assoc]
    have x2 : p * D * B = D * (p * B) := by rw [Int.mul_comm p D, Int.mul_assoc]
    have x3 : c * B * Q = c * Q * B := Int.mul_right_comm _ _ _
    omega
  exact Int.le_of_mul_le_mul_left e3 hD
theorem ExactOrder : customslaw01_ExactOrder.Pure := by
  intro a0 a1 a2 a3 a4 a5 h0 h1 h2 h3 h4 h5
  have u0 := u64_of_wf h0
  have u1 := u64_of_wf h1
  have u2 := u64_of_wf h2
  have u3 := u64_of_wf h3
  have u4 := u64_of_wf h4
  have u5 := u64_of_wf h5
  refine Ev.rounds ?_
  unfold customslaw01_ExactOrder.f
  rw [compare_is _ _ _ _ u0 u1 u2 u3, compare_is _ _ _ _ u2 u3 u4 u5]
  simp only [Option.bind_some]
  have hno : Ev (fun k => customslaw01_ExactOrder.j0 k a0 a1 a4 a5 false) true := by
    refine Ev.up ?_
    simp only [customslaw01_ExactOrder.j0, Bool.false_eq_true, if_false]
    exact Ev.bind awake_ev (Ev.now _)
  by_cases c1 : cmpI (a0 * mx a3 1) (a2 * mx a1 1) ≤ 0
  · simp only [if_pos c1]
    by_cases c2 : cmpI (a2 * mx a5 1) (a4 * mx a3 1) ≤ 0
    · rw [decide_eq_true c2]
      refine Ev.up ?_
      simp only [customslaw01_ExactOrder.j0, if_true]
      rw [compare_is _ _ _ _ u0 u1 u4 u5]
      simp only [Option.bind_some]
      rw [cmpI_le] at c1 c2
      have := frac_trans (mx_u64 u1).2 (mx_u64 u3).2 (mx_u64 u5).2 c1 c2
      simp only [if_pos ((cmpI_le _ _).2 this)]
      exact Ev.bind awake_ev (Ev.now _)
    · rw [decide_eq_false c2]; exact hno
  · simp only [if_neg c1]; exact hno
end Go.Proofs.Ytcoininpcicgmaa.Pure
