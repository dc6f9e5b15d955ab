/- Compare of package exact comes to what its reference comes to, is antisymmetric, and does not change when a fraction is expanded: the law ExactCompare over the printed functions. -/
import Derived.Test.YtcoininpcicgmaaPXcustomslaw01ExactCompare
import Derived.Test.YtcoininpcicgmaaExact3
namespace Go.Proofs.Ytcoininpcicgmaa.Pure
open Go.RowKit Go.Proofs.Ytcoininpcicgmaa.PX Go.Proofs.YtcoininpcicgmaaW.PrintWords Go.Proofs.YtcoininpcicgmaaW.PrintLast Go.Proofs.YtcoininpcicgmaaW.PrintMore
set_option linter.unusedVariables false
set_option linter.unusedSimpArgs false

theorem less_is (a b c d : Int) (hb : U64 b) (hd : U64 d) : customsref01_Less.f a b c d = some (decide (a * 18446744073709551616 + b < c * 18446744073709551616 + d)) := by
  unfold U64 at *
  unfold customsref01_Less.f
  by_cases h1 : a < c
  · rw [if_pos h1, decide_eq_true (by omega)]
  · rw [if_neg h1]
    by_cases h2 : a = c
    · rw [if_pos h2]; exact congrArg some (by rw [decide_eq_decide]; omega)
    · rw [if_neg h2, decide_eq_false (by omega)]
theorem order_ref (a b c d : Int) (hb : U64 b) (hd : U64 d) : customsref01_Order.f a b c d = some (cmpI (a * 18446744073709551616 + b) (c * 18446744073709551616 + d)) := by
  unfold customsref01_Order.f cmpI
  rw [less_is a b c d hb hd, less_is c d a b hd hb]
  simp only [Option.bind_some, decide_eq_true_eq]
  split <;> (try split) <;> rfl
theorem refCompare_ev (a b c d : Int) (ha : U64 a) (hb : U64 b) (hc : U64 c) (hd : U64 d) : Ev (fun k => customsref01_Compare.f k a b c d) (cmpI (a * mx d 1) (c * mx b 1)) := by
  unfold customsref01_Compare.f
  refine Ev.bind (refMul_ev _ _ ha (mx_u64 hd).1) (Ev.bind (refMul_ev _ _ hc (mx_u64 hb).1) (Ev.cst ?_))
  try simp only []
  have p1 := prod_wide ha (mx_u64 hd).1
  have p2 := prod_wide hc (mx_u64 hb).1
  obtain ⟨_, v1, e1⟩ := wide_u64 p1.1 p1.2
  obtain ⟨_, v2, e2⟩ := wide_u64 p2.1 p2.2
  rw [order_ref _ _ _ _ v1 v2, e1, e2]
  rfl
theorem ExactCompare : customslaw01_ExactCompare.Pure := by
  intro a0 a1 a2 a3 a4 h0 h1 h2 h3 h4
  have u0 := u64_of_wf h0
  have u1 := u64_of_wf h1
  have u2 := u64_of_wf h2
  have u3 := u64_of_wf h3
  have u4 := u64_of_wf h4
  refine Ev.rounds ?_
  unfold customslaw01_ExactCompare.f
  rw [compare_is _ _ _ _ u0 u1 u2 u3, compare_is _ _ _ _ u2 u3 u0 u1]
  simp only [Option.bind_some]
  refine Ev.bind (refCompare_ev _ _ _ _ u0 u1 u2 u3) ?_
  simp only [if_true]
  have r := cmpI_range (a0 * mx a3 1) (a2 * mx a1 1)
  rw [wrap64_of (by omega) (by omega), cmpI_neg (a0 * mx a3 1)]
  simp only [bne_self_eq_false]
  refine Ev.up ?_
  simp only [customslaw01_ExactCompare.j0, Bool.false_eq_true, if_false]
  by_cases c1 : a4 / 4294967296 = 0
  · simp only [if_pos c1]; exact Ev.bind awake_ev (Ev.now _)
  · simp only [if_neg c1]
    by_cases c2 : a1 / 4294967296 = 0
    · simp only [if_pos c2]; exact Ev.bind awake_ev (Ev.now _)
    · simp only [if_neg c2]
      unfold U64 at u0 u1 u4
      have m : ∀ x y : Int, 0 ≤ x → x ≤ 4294967295 → 0 ≤ y → y ≤ 4294967295 → 0 ≤ x * y ∧ x * y < 18446744073709551616 := by
        intro x y a b c d
        exact ⟨Int.mul_nonneg a c, by have := Int.mul_le_mul b d c (by decide); omega⟩
      have m0 := m (a0 / 4294967296) (a4 / 4294967296) (by omega) (by omega) (by omega) (by omega)
      have m1 := m (a1 / 4294967296) (a4 / 4294967296) (by omega) (by omega) (by omega) (by omega)
      have pos : 0 < a1 / 4294967296 * (a4 / 4294967296) := Int.mul_pos (by omega) (by omega)
      rw [w64_in m0.1 m0.2, w64_in m1.1 m1.2, compare_is _ _ _ _ m0 m1 ⟨by omega, by omega⟩ ⟨by omega, by omega⟩]
      simp only [Option.bind_some]
      have e1 : mx (a1 / 4294967296) 1 = a1 / 4294967296 := by unfold mx; rw [if_neg (by omega)]
      have e2 : mx (a1 / 4294967296 * (a4 / 4294967296)) 1 = a1 / 4294967296 * (a4 / 4294967296) := by unfold mx; rw [if_neg (by omega)]
      have e3 : a0 / 4294967296 * (a4 / 4294967296) * (a1 / 4294967296) = a0 / 4294967296 * (a1 / 4294967296 * (a4 / 4294967296)) := by
        rw [Int.mul_right_comm, Int.mul_assoc]
      rw [e1, e2, e3, (cmpI_eq _ _).2 rfl]
      simp only [if_true]
      exact Ev.bind awake_ev (Ev.now _)
end Go.Proofs.Ytcoininpcicgmaa.Pure
