/- Add of package exact as printed comes to the sum of two numbers of 128 bits, or to the error. -/
import Derived.Test.YtcoininpcicgmaaExact3
import Derived.Test.YtcoininpcicgmaaPXexactAdd
namespace Go.Proofs.Ytcoininpcicgmaa.PX
open Go.RowKit Go.Proofs.YtcoininpcicgmaaW.PrintWords Go.Proofs.YtcoininpcicgmaaW.PrintLast Go.Proofs.YtcoininpcicgmaaW.PrintMore
set_option linter.unusedVariables false
set_option linter.unusedSimpArgs false

theorem exactAdd_is (a b c d : Int) (ha : U64 a) (hb : U64 b) (hc : U64 c) (hd : U64 d) : exact_Add.f a b c d =
    if 340282366920938463463374607431768211456 ≤ (a + c) * 18446744073709551616 + (b + d) then some (0, 0, 3) else some (((a + c) * 18446744073709551616 + (b + d)) / 18446744073709551616, (b + d) % 18446744073709551616, 0) := by
  unfold U64 at *
  unfold exact_Add.f addHi addLo M64
  rw [if_pos (by omega)]
  by_cases h : 340282366920938463463374607431768211456 ≤ (a + c) * 18446744073709551616 + (b + d)
  · rw [if_pos h, if_neg (by omega)]
  · rw [if_neg h, if_pos (by omega)]
    exact congrArg some (Prod.ext (by simp only []; omega) (Prod.ext (by simp only []; omega) rfl))
theorem exactAdd_wide (A B : Int) (hA : 0 ≤ A) (hB : 0 ≤ B) (h : A + B < 340282366920938463463374607431768211456) :
    exact_Add.f (A / 18446744073709551616) (A % 18446744073709551616) (B / 18446744073709551616) (B % 18446744073709551616) = some ((A + B) / 18446744073709551616, (A + B) % 18446744073709551616, 0) := by
  rw [exactAdd_is _ _ _ _ ⟨by omega, by omega⟩ ⟨by omega, by omega⟩ ⟨by omega, by omega⟩ ⟨by omega, by omega⟩, if_neg (by omega)]
  exact congrArg some (Prod.ext (by simp only []; omega) (Prod.ext (by simp only []; omega) rfl))
end Go.Proofs.Ytcoininpcicgmaa.PX
