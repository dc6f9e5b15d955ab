/- Gcd of package exact comes to the greatest common divisor, and Reduce keeps the fraction and leaves no common divisor: the law ExactGcd over the printed functions. -/
import Derived.Test.YtcoininpcicgmaaPXcustomslaw01ExactGcd
import Derived.Test.YtcoininpcicgmaaExact3
namespace Go.Proofs.Ytcoininpcicgmaa.Pure
open Go.RowKit Go.Proofs.Ytcoininpcicgmaa.PX Go.Proofs.YtcoininpcicgmaaW.PrintWords Go.Proofs.YtcoininpcicgmaaW.PrintLast Go.Proofs.YtcoininpcicgmaaW.PrintMore
set_option linter.unusedVariables false
set_option linter.unusedSimpArgs false

theorem refGcd_l0 (n : Nat) : ∀ a b : Int, 0 ≤ a → 0 ≤ b → b.toNat ≤ n → Ev (fun k => customsref01_Gcd.l0 k a b) (gcdI a b) := by
  induction n with
  | zero =>
    intro a b ha hb hn
    obtain rfl : b = 0 := by omega
    rw [gcdI_zero a ha]
    refine Ev.step (fun k => ?_) (Ev.now _)
    simp only [customsref01_Gcd.l0]; rfl
  | succ n ih =>
    intro a b ha hb hn
    by_cases c : b = 0
    · subst c; rw [gcdI_zero a ha]
      refine Ev.step (fun k => ?_) (Ev.now _)
      simp only [customsref01_Gcd.l0]; rfl
    · have h1 := Int.emod_nonneg a c
      have h2 := Int.emod_lt_of_pos a (show 0 < b by omega)
      refine Ev.step (fun k => ?_) ((gcdI_step a b ha (by omega)) ▸ ih b (a % b) hb h1 (by omega))
      simp only [customsref01_Gcd.l0]
      rw [if_pos (by omega), if_neg c, Int.tmod_eq_emod_of_nonneg ha]
theorem refGcd_ev (a b : Int) (ha : 0 ≤ a) (hb : 0 ≤ b) : Ev (fun k => customsref01_Gcd.f k a b) (gcdI a b) := refGcd_l0 b.toNat a b ha hb (Nat.le_refl _)
theorem gcdI_parts (a b : Int) (ha : 0 ≤ a) (hb : 0 < b) : 0 < gcdI a b ∧ ∃ x y : Int, 0 ≤ x ∧ 0 < y ∧ a = x * gcdI a b ∧ b = y * gcdI a b ∧ gcdI x y = 1 := by
  obtain ⟨m, rfl⟩ := Int.eq_ofNat_of_zero_le ha
  obtain ⟨n, rfl⟩ := Int.eq_ofNat_of_zero_le (show 0 ≤ b by omega)
  have hn : 0 < n := by omega
  have hg : 0 < Nat.gcd m n := Nat.gcd_pos_of_pos_right m hn
  have h1 : m / Nat.gcd m n * Nat.gcd m n = m := Nat.div_mul_cancel (Nat.gcd_dvd_left m n)
  have h2 : n / Nat.gcd m n * Nat.gcd m n = n := Nat.div_mul_cancel (Nat.gcd_dvd_right m n)
  have hg' : gcdI (m : Int) (n : Int) = ((Nat.gcd m n : Nat) : Int) := by unfold gcdI; simp
  rw [hg']
  refine ⟨by omega, ((m / Nat.gcd m n : Nat) : Int), ((n / Nat.gcd m n : Nat) : Int), Int.natCast_nonneg _, ?_, ?_, ?_, ?_⟩
  · have : 0 < n / Nat.gcd m n := Nat.div_pos (Nat.gcd_le_right m hn) hg
    omega
  · rw [← Int.natCast_mul, h1]
  · rw [← Int.natCast_mul, h2]
  · unfold gcdI
    simp only [Int.toNat_natCast]
    rw [Nat.gcd_div (Nat.gcd_dvd_left m n) (Nat.gcd_dvd_right m n), Nat.div_self hg]; rfl
theorem ExactGcd : customslaw01_ExactGcd.Pure := by
  intro a0 a1 a2 h0 h1 h2
  have u0 := u64_of_wf h0
  have u1 := u64_of_wf h1
  have u2 := u64_of_wf h2
  refine Ev.rounds ?_
  have um := mx_u64 u1
  obtain ⟨hg, x, y, hx, hy, ex, ey, hxy⟩ := gcdI_parts a0 (mx a1 1) u0.1 um.2
  have hx1 : x ≤ a0 := by have := Int.mul_le_mul_of_nonneg_left (show 1 ≤ gcdI a0 (mx a1 1) by omega) hx; omega
  have hy1 : y ≤ mx a1 1 := by have := Int.mul_le_mul_of_nonneg_left (show 1 ≤ gcdI a0 (mx a1 1) by omega) (show 0 ≤ y by omega); omega
  have dx : a0 / gcdI a0 (mx a1 1) = x := by
    have := Int.mul_ediv_cancel x (show gcdI a0 (mx a1 1) ≠ 0 by omega)
    rw [← ex] at this; exact this
  have dy : mx a1 1 / gcdI a0 (mx a1 1) = y := by
    have := Int.mul_ediv_cancel y (show gcdI a0 (mx a1 1) ≠ 0 by omega)
    rw [← ey] at this; exact this
  have hxu : U64 x := ⟨hx, by have := u0.2; omega⟩
  have hyu : U64 y := ⟨by omega, by have := um.1.2; omega⟩
  have hx0 : a0 = 0 → x = 0 ∧ y = 1 := by
    intro h
    have hx' : x = 0 := by rw [h, Int.zero_ediv] at dx; exact dx.symm
    refine ⟨hx', ?_⟩
    rw [hx'] at hxy
    unfold gcdI at hxy; simp at hxy; omega
  have hred : Ev (fun k => exact_Reduce.f k a0 a1) (x, y) := by
    unfold exact_Reduce.f
    by_cases c : a0 = 0
    · simp only [if_pos c]; obtain ⟨e1, e2⟩ := hx0 c; rw [e1, e2]; exact Ev.now _
    · simp only [if_neg c]
      refine Ev.bind (exactGcd_ev _ _ u0.1 um.1.1) (Ev.cst ?_)
      try simp only []
      rw [if_neg (by omega), Int.tdiv_eq_ediv_of_nonneg u0.1, dx, dy, w64_in hxu.1 hxu.2, w64_in hyu.1 hyu.2]
  have hrr : Ev (fun k => customsref01_Reduce.f k a0 a1) (x, y) := by
    unfold customsref01_Reduce.f
    refine Ev.bind (refGcd_ev _ _ u0.1 um.1.1) (Ev.cst ?_)
    try simp only []
    rw [if_neg (by omega), Int.tdiv_eq_ediv_of_nonneg u0.1, dx, dy, w64_in hxu.1 hxu.2, w64_in hyu.1 hyu.2]
  unfold customslaw01_ExactGcd.f
  refine Ev.bind (exactGcd_ev _ _ u0.1 u1.1) (Ev.bind hred (Ev.bind hrr (Ev.bind (refGcd_ev _ _ u0.1 u1.1) ?_)))
  simp only [if_true]
  rw [compare_is _ _ _ _ hxu hyu u0 u1]
  have emy : mx y 1 = y := by unfold mx; rw [if_neg (by omega)]
  have ecr : x * mx a1 1 = a0 * mx y 1 := by
    rw [emy]
    have e1 : x * mx a1 1 = x * (y * gcdI a0 (mx a1 1)) := by rw [← ey]
    have e2 : a0 * y = x * gcdI a0 (mx a1 1) * y := by rw [← ex]
    rw [e1, e2, Int.mul_assoc, Int.mul_comm y]
  rw [(cmpI_eq _ _).2 ecr]
  simp only [Option.bind_some, if_true]
  refine Ev.bind (exactGcd_ev _ _ hxu.1 hyu.1) ?_
  simp only [hxy, bne_self_eq_false]
  refine Ev.up ?_
  simp only [customslaw01_ExactGcd.j0, Bool.false_eq_true, if_false]
  unfold U64 at u0 u1 u2
  have m : ∀ x y : Int, 0 ≤ x → x ≤ 4294967295 → 0 ≤ y → y ≤ 4294967295 → 0 ≤ x * y ∧ x * y < 18446744073709551616 := by
    intro x y a b c d
    exact ⟨Int.mul_nonneg a c, by have := Int.mul_le_mul b d c (by decide); omega⟩
  have m0 := m (a2 / 4294967296) (a0 / 4294967296) (by omega) (by omega) (by omega) (by omega)
  have m1 := m (a2 / 4294967296) (a1 / 4294967296) (by omega) (by omega) (by omega) (by omega)
  rw [w64_in m0.1 m0.2, w64_in m1.1 m1.2]
  refine Ev.bind (exactGcd_ev _ _ m0.1 m1.1) (Ev.bind (exactGcd_ev _ _ (by omega) (by omega)) ?_)
  have hz0 : 0 ≤ a0 / 4294967296 := by omega
  have hz1 : 0 ≤ a1 / 4294967296 := by omega
  have hz2 : 0 ≤ a2 / 4294967296 := by omega
  have hb0 : a0 / 4294967296 ≤ 4294967295 := by omega
  have hb1 : a1 / 4294967296 ≤ 4294967295 := by omega
  have hb2 : a2 / 4294967296 ≤ 4294967295 := by omega
  generalize a0 / 4294967296 = p at *
  generalize a1 / 4294967296 = q at *
  generalize a2 / 4294967296 = r at *
  have e : gcdI (r * p) (r * q) = r * gcdI p q := by
    obtain ⟨p, rfl⟩ := Int.eq_ofNat_of_zero_le hz0
    obtain ⟨q, rfl⟩ := Int.eq_ofNat_of_zero_le hz1
    obtain ⟨r, rfl⟩ := Int.eq_ofNat_of_zero_le hz2
    unfold gcdI
    rw [← Int.natCast_mul, ← Int.natCast_mul]
    simp only [Int.toNat_natCast]
    rw [Nat.gcd_mul_left]; simp
  have hgb : 0 ≤ gcdI p q ∧ gcdI p q ≤ 4294967295 := by
    refine ⟨by unfold gcdI; omega, ?_⟩
    by_cases hp : p = 0
    · unfold gcdI; rw [hp]; simp; omega
    · have := Nat.gcd_le_left q.toNat (show 0 < p.toNat by omega)
      unfold gcdI; omega
  have m2 := m r (gcdI p q) hz2 hb2 hgb.1 hgb.2
  rw [w64_in m2.1 m2.2]
  simp only [e, if_true]
  exact Ev.bind awake_ev (Ev.now _)
end Go.Proofs.Ytcoininpcicgmaa.Pure
