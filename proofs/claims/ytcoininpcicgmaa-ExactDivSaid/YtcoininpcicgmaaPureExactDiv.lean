/- Div of package exact comes to what its reference comes to, whatever the numbers are: the law ExactDiv over the printed functions. -/
import Derived.Test.YtcoininpcicgmaaPXcustomslaw01ExactDiv
import Derived.Test.YtcoininpcicgmaaExact3
namespace Go.Proofs.Ytcoininpcicgmaa.Pure
open Go.RowKit Go.Proofs.Ytcoininpcicgmaa.PX Go.Proofs.YtcoininpcicgmaaW.PrintWords Go.Proofs.YtcoininpcicgmaaW.PrintLast Go.Proofs.YtcoininpcicgmaaW.PrintMore
set_option linter.unusedVariables false
set_option linter.unusedSimpArgs false

theorem div_step (hi lo c m : Int) (hh : U64 hi) (hl : U64 lo) (hc : U64 c) : Ev (fun k => (exact_Div.f k hi lo c m).bind fun bt => (customsref01_Div.f k hi lo c m).bind fun bu => if bt.1 = bu.1 then (if bt.2 = bu.2 then ((customslaw01_awake.f k).bind fun t => some t) else some false) else some false) true := by
  refine Ev.bind (exactDiv_ev hi lo c m hh hl hc) (Ev.bind (refDiv_ev hi lo c m hh hl hc) ?_)
  simp only [if_true]
  exact Ev.bind awake_ev (Ev.now _)
theorem ExactDiv : customslaw01_ExactDiv.Pure := by
  intro a0 a1 a2 a3 a4 h0 h1 h2 h4
  have u0 := u64_of_wf h0
  have u1 := u64_of_wf h1
  have u2 := u64_of_wf h2
  refine Ev.rounds ?_
  have hno : Ev (fun k => customslaw01_ExactDiv.j0 k a0 a1 a2 a4 false) true := by
    refine Ev.up ?_
    simp only [customslaw01_ExactDiv.j0, Bool.false_eq_true, if_false]
    exact div_step a0 a1 a2 a4 u0 u1 u2
  unfold customslaw01_ExactDiv.f
  cases a3 with
  | false => simp only [Bool.false_eq_true, if_false]; exact hno
  | true =>
    simp only [if_true]
    by_cases c : a2 > 0
    · rw [decide_eq_true c]
      refine Ev.up ?_
      simp only [customslaw01_ExactDiv.j0, if_true, if_neg (show ¬ a2 = 0 by omega)]
      rw [Int.tmod_eq_emod_of_nonneg u0.1]
      exact div_step (a0 % a2) a1 a2 a4 ⟨Int.emod_nonneg _ (by omega), by have := Int.emod_lt_of_pos a0 c; have := u2.2; omega⟩ u1 u2
    · rw [decide_eq_false c]; exact hno
end Go.Proofs.Ytcoininpcicgmaa.Pure
