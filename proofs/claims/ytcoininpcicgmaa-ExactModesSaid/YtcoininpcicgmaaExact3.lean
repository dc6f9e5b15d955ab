/- Plain laws of package exact and of its reference as printed: the greatest common divisor, the comparisons, and the law's check at fixed numbers. -/
import Derived.Test.YtcoininpcicgmaaExact2
import Derived.Test.YtcoininpcicgmaaPXexactCompare
import Derived.Test.YtcoininpcicgmaaPXcustomslaw01awake
import Derived.Test.YtcoininpcicgmaaPXexactGcd
namespace Go.Proofs.Ytcoininpcicgmaa.PX
open Go.RowKit Go.Proofs.YtcoininpcicgmaaW.PrintWords Go.Proofs.YtcoininpcicgmaaW.PrintLast Go.Proofs.YtcoininpcicgmaaW.PrintMore
set_option linter.unusedVariables false
set_option linter.unusedSimpArgs false

def gcdI (a b : Int) : Int := (Nat.gcd a.toNat b.toNat : Nat)
theorem gcdI_zero (a : Int) (h : 0 ≤ a) : gcdI a 0 = a := by unfold gcdI; simp; omega
theorem gcdI_step (a b : Int) (ha : 0 ≤ a) (hb : 0 < b) : gcdI b (a % b) = gcdI a b := by
  obtain ⟨m, rfl⟩ := Int.eq_ofNat_of_zero_le ha
  obtain ⟨n, rfl⟩ := Int.eq_ofNat_of_zero_le (show 0 ≤ b by omega)
  unfold gcdI
  rw [show ((m : Int) % (n : Int)) = ((m % n : Nat) : Int) from rfl]
  simp only [Int.toNat_natCast]
  rw [Nat.gcd_comm m n, Nat.gcd_rec n m, Nat.gcd_comm]
theorem exactGcd_l0 (n : Nat) : ∀ a b : Int, 0 ≤ a → 0 ≤ b → b.toNat ≤ n → Ev (fun k => exact_Gcd.l0 k a b) (gcdI a b) := by
  induction n with
  | zero =>
    intro a b ha hb hn
    obtain rfl : b = 0 := by omega
    rw [gcdI_zero a ha]
    refine Ev.step (fun k => ?_) (Ev.now _)
    simp only [exact_Gcd.l0]; rfl
  | succ n ih =>
    intro a b ha hb hn
    by_cases c : b = 0
    · subst c; rw [gcdI_zero a ha]
      refine Ev.step (fun k => ?_) (Ev.now _)
      simp only [exact_Gcd.l0]; rfl
    · have h1 := Int.emod_nonneg a c
      have h2 := Int.emod_lt_of_pos a (show 0 < b by omega)
      refine Ev.step (fun k => ?_) ((gcdI_step a b ha (by omega)) ▸ ih b (a % b) hb h1 (by omega))
      simp only [exact_Gcd.l0]
      rw [if_neg c, Int.tmod_eq_emod_of_nonneg ha]
theorem exactGcd_ev (a b : Int) (ha : 0 ≤ a) (hb : 0 ≤ b) : Ev (fun k => exact_Gcd.f k a b) (gcdI a b) := exactGcd_l0 b.toNat a b ha hb (Nat.le_refl _)
theorem awake_ev : Ev (fun k => customslaw01_awake.f k) true := by
  unfold customslaw01_awake.f
  refine Ev.bind (exactMulDiv_ev 7 1 2 3 (by unfold U64; omega) (by unfold U64; omega) (by unfold U64; omega)) ?_
  refine Ev.bind (exactMulDiv_ev 5 1 2 3 (by unfold U64; omega) (by unfold U64; omega) (by unfold U64; omega)) ?_
  refine Ev.bind (exactMulDiv_ev 9223372036854775808 4 8 0 (by unfold U64; omega) (by unfold U64; omega) (by unfold U64; omega)) ?_
  rw [show divS (7 * 1) 2 3 = (4, 0) by decide, show divS (5 * 1) 2 3 = (2, 0) by decide, show divS (9223372036854775808 * 4) 8 0 = (4611686018427387904, 0) by decide]
  simp only [if_true]
  refine Ev.bind (exactGcd_ev 12 18 (by decide) (by decide)) (Ev.cst ?_)
  decide
/- -1, 0 or 1 -/
def cmpI (a b : Int) : Int := if a < b then -1 else if b < a then 1 else 0
theorem compareWide_is (A B : Int) : exact_CompareWide.f (A / 18446744073709551616) (A % 18446744073709551616) (B / 18446744073709551616) (B % 18446744073709551616) = some (cmpI A B) := by
  unfold exact_CompareWide.f cmpI
  simp only [order_is, Option.bind_some]
  by_cases h1 : A / 18446744073709551616 < B / 18446744073709551616
  · rw [if_pos h1, if_neg (by decide), if_pos (by omega)]
  · rw [if_neg h1]
    by_cases h2 : B / 18446744073709551616 < A / 18446744073709551616
    · rw [if_pos h2, if_neg (by decide), if_neg (by omega), if_pos (by omega)]
    · rw [if_neg h2, if_pos rfl]
      by_cases h3 : A % 18446744073709551616 < B % 18446744073709551616
      · rw [if_pos h3, if_pos (by omega)]
      · rw [if_neg h3]
        by_cases h4 : B % 18446744073709551616 < A % 18446744073709551616
        · rw [if_pos h4, if_neg (by omega), if_pos (by omega)]
        · rw [if_neg h4, if_neg (by omega), if_neg (by omega)]
theorem mx_u64 {a : Int} (h : U64 a) : U64 (mx a 1) ∧ 0 < mx a 1 := by
  unfold mx U64 at *; split <;> omega
theorem compare_is (a b c d : Int) (ha : U64 a) (hb : U64 b) (hc : U64 c) (hd : U64 d) : exact_Compare.f a b c d = some (cmpI (a * mx d 1) (c * mx b 1)) := by
  unfold exact_Compare.f
  rw [exactMul_is _ _ ha (mx_u64 hd).1, exactMul_is _ _ hc (mx_u64 hb).1]
  simp only [Option.bind_some]
  rw [compareWide_is]; rfl
theorem cmpI_neg (a b : Int) : cmpI b a = -cmpI a b := by unfold cmpI; split <;> (try split) <;> (try split) <;> omega
theorem cmpI_range (a b : Int) : -1 ≤ cmpI a b ∧ cmpI a b ≤ 1 := by unfold cmpI; split <;> (try split) <;> omega
theorem cmpI_eq (a b : Int) : cmpI a b = 0 ↔ a = b := by unfold cmpI; split <;> (try split) <;> omega
theorem cmpI_le (a b : Int) : cmpI a b ≤ 0 ↔ a ≤ b := by unfold cmpI; split <;> (try split) <;> omega
end Go.Proofs.Ytcoininpcicgmaa.PX
