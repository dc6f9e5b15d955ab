/- Mul of package exact comes to the product, whatever the order of the factors, and it distributes over a sum: the law ExactMul over the printed functions. -/
import Derived.Test.YtcoininpcicgmaaPXcustomslaw01ExactMul
import Derived.Test.YtcoininpcicgmaaExact4
namespace Go.Proofs.Ytcoininpcicgmaa.Pure
open Go.RowKit Go.Proofs.Ytcoininpcicgmaa.PX Go.Proofs.YtcoininpcicgmaaW.PrintWords Go.Proofs.YtcoininpcicgmaaW.PrintLast Go.Proofs.YtcoininpcicgmaaW.PrintMore
set_option linter.unusedVariables false
set_option linter.unusedSimpArgs false

theorem ExactMul : customslaw01_ExactMul.Pure := by
  intro a0 a1 a2 h0 h1 h2
  have u0 := u64_of_wf h0
  have u1 := u64_of_wf h1
  have u2 := u64_of_wf h2
  refine Ev.rounds ?_
  unfold customslaw01_ExactMul.f
  rw [exactMul_is _ _ u0 u1, exactMul_is _ _ u1 u0]
  simp only [Option.bind_some]
  refine Ev.bind (refMul_ev _ _ u0 u1) ?_
  have hs : customslaw01_same.f (a0 * a1 / 18446744073709551616) (a0 * a1 % 18446744073709551616) (a0 * a1 / 18446744073709551616) (a0 * a1 % 18446744073709551616) = some true := by
    unfold customslaw01_same.f; rw [if_pos rfl, beq_self_eq_true]
  simp only [hs, Option.bind_some, if_true]
  rw [Int.mul_comm a1 a0]
  simp only [beq_self_eq_true, Bool.not_true, Bool.or_self]
  refine Ev.up ?_
  simp only [customslaw01_ExactMul.j0, Bool.false_eq_true, if_false]
  by_cases c : IntKind.u64.wrap (a1 + a2) < a1
  · simp only [if_pos c]; exact Ev.bind awake_ev (Ev.now _)
  · simp only [if_neg c]
    have e : IntKind.u64.wrap (a1 + a2) = a1 + a2 := by
      unfold U64 at *; rw [IntKind.wrap_u64] at *; omega
    have u12 : U64 (a1 + a2) := by unfold U64 at *; rw [IntKind.wrap_u64] at e; omega
    have p1 := prod_wide u0 u1
    have p2 := prod_wide u0 u2
    have p3 := prod_wide u0 u12
    rw [Int.mul_add] at p3
    rw [e, exactMul_is _ _ u0 u2, exactMul_is _ _ u0 u12]
    simp only [Option.bind_some]
    rw [exactAdd_wide _ _ p1.1 p2.1 p3.2, ← Int.mul_add]
    simp only [Option.bind_some, beq_self_eq_true, Bool.and_self, if_true]
    exact Ev.bind awake_ev (Ev.now _)
end Go.Proofs.Ytcoininpcicgmaa.Pure
