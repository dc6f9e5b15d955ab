/- Add of package exact comes to the sum or the error, as its reference tells, and CompareWide to the order: the law ExactAdd over the printed functions. -/
import Derived.Test.YtcoininpcicgmaaPXcustomslaw01ExactAdd
import Derived.Test.YtcoininpcicgmaaExact4
namespace Go.Proofs.Ytcoininpcicgmaa.Pure
open Go.RowKit Go.Proofs.Ytcoininpcicgmaa.PX Go.Proofs.YtcoininpcicgmaaW.PrintWords Go.Proofs.YtcoininpcicgmaaW.PrintLast Go.Proofs.YtcoininpcicgmaaW.PrintMore
set_option linter.unusedVariables false
set_option linter.unusedSimpArgs false

theorem less_is (a b c d : Int) (hb : U64 b) (hd : U64 d) : customsref01_Less.f a b c d = some (decide (a * 18446744073709551616 + b < c * 18446744073709551616 + d)) := by
  unfold U64 at *
  unfold customsref01_Less.f
  by_cases h1 : a < c
  · rw [if_pos h1, decide_eq_true (by omega)]
  · rw [if_neg h1]
    by_cases h2 : a = c
    · rw [if_pos h2]; exact congrArg some (by rw [decide_eq_decide]; omega)
    · rw [if_neg h2, decide_eq_false (by omega)]
theorem order_ref (a b c d : Int) (hb : U64 b) (hd : U64 d) : customsref01_Order.f a b c d = some (cmpI (a * 18446744073709551616 + b) (c * 18446744073709551616 + d)) := by
  unfold customsref01_Order.f cmpI
  rw [less_is a b c d hb hd, less_is c d a b hd hb]
  simp only [Option.bind_some, decide_eq_true_eq]
  split <;> (try split) <;> rfl
theorem wide_cmp (a b c d : Int) (hb : U64 b) (hd : U64 d) : exact_CompareWide.f a b c d = some (cmpI (a * 18446744073709551616 + b) (c * 18446744073709551616 + d)) := by
  have := compareWide_is (a * 18446744073709551616 + b) (c * 18446744073709551616 + d)
  unfold U64 at *
  rw [show (a * 18446744073709551616 + b) / 18446744073709551616 = a by omega, show (a * 18446744073709551616 + b) % 18446744073709551616 = b by omega, show (c * 18446744073709551616 + d) / 18446744073709551616 = c by omega, show (c * 18446744073709551616 + d) % 18446744073709551616 = d by omega] at this
  exact this
theorem ExactAdd : customslaw01_ExactAdd.Pure := by
  intro a0 a1 a2 a3 h0 h1 h2 h3
  have u0 := u64_of_wf h0
  have u1 := u64_of_wf h1
  have u2 := u64_of_wf h2
  have u3 := u64_of_wf h3
  refine Ev.rounds ?_
  unfold customslaw01_ExactAdd.f
  rw [exactAdd_is _ _ _ _ u0 u1 u2 u3, refAdd_is _ _ _ _ u0 u1 u2 u3]
  by_cases h : 340282366920938463463374607431768211456 ≤ (a0 + a2) * 18446744073709551616 + (a1 + a3)
  · rw [if_pos h, decide_eq_true h]
    simp only [Option.bind_some, if_true]
    exact Ev.bind awake_ev (Ev.now _)
  · rw [if_neg h, decide_eq_false h]
    simp only [Option.bind_some, if_true, Bool.false_eq_true, if_false]
    have b0 := u0.1; have b1 := u1.1; have b2 := u2.1; have b3 := u3.1
    rw [show ((a0 + a2) * 18446744073709551616 + (a1 + a3)) / 18446744073709551616 % 18446744073709551616 = ((a0 + a2) * 18446744073709551616 + (a1 + a3)) / 18446744073709551616 by omega]
    have hs : customslaw01_same.f (((a0 + a2) * 18446744073709551616 + (a1 + a3)) / 18446744073709551616) ((a1 + a3) % 18446744073709551616) (((a0 + a2) * 18446744073709551616 + (a1 + a3)) / 18446744073709551616) ((a1 + a3) % 18446744073709551616) = some true := by
      unfold customslaw01_same.f; rw [if_pos rfl, beq_self_eq_true]
    rw [hs, wide_cmp _ _ _ _ u1 u3, order_ref _ _ _ _ u1 u3, wide_cmp _ _ _ _ ⟨by omega, by omega⟩ u1]
    simp only [Option.bind_some, if_true]
    have hge : cmpI (((a0 + a2) * 18446744073709551616 + (a1 + a3)) / 18446744073709551616 * 18446744073709551616 + (a1 + a3) % 18446744073709551616) (a0 * 18446744073709551616 + a1) ≥ 0 := by
      unfold cmpI; rw [if_neg (by omega)]; split <;> omega
    simp only [if_pos hge]
    exact Ev.bind awake_ev (Ev.now _)
end Go.Proofs.Ytcoininpcicgmaa.Pure
