/- Written by a program of this session (a changed printer): plain Lean functions with the answers of Go functions of this seat, each with a proof that the machine's call comes to them. -/
import Derived.Test.YtcoininpcicgmaaPX0
namespace Go.Proofs.Ytcoininpcicgmaa.PX
open Go.RowKit Go.Proofs.YtcoininpcicgmaaW.PrintWords Go.Proofs.YtcoininpcicgmaaW.PrintLast Go.Proofs.YtcoininpcicgmaaW.PrintMore
attribute [local go_sem] max2_int min2_int max_two min_two max_three min_three max_four min_four   -- for this text's walks alone
set_option linter.unusedVariables false
set_option linter.unusedSimpArgs false

/-! ### exact_Add: function 23 -/
def M64 : Int := 18446744073709551616
def addLo (x y c : Int) : Int := (x + y + c) % M64
def addHi (x y c : Int) : Int := (x + y + c) / M64
def exact_Add.f (a0_0 : Int) (a0_1 : Int) (a1_0 : Int) (a1_1 : Int) : Option (Int × Int × Int) :=
  if 0 ≤ a0_0 ∧ 0 ≤ a0_1 ∧ 0 ≤ a1_0 ∧ 0 ≤ a1_1 ∧ a0_1 < M64 ∧ a1_1 < M64 then
    (if addHi a0_0 a1_0 (addHi a0_1 a1_1 0) = 0 then some (addLo a0_0 a1_0 (addHi a0_1 a1_1 0), addLo a0_1 a1_1 0, 0) else some (0, 0, 3))
  else none
theorem add64_run (x y c : Int) (hx : 0 ≤ x) (hy : 0 ≤ y) (hc0 : 0 ≤ c) (hc : c ≤ 1) (W : World) :
    (callFunc 35 #[.int .u64 x, .int .u64 y, .int .u64 c]).run Try.prog W = .ok (.value (.tuple #[.int .u64 (addLo x y c), .int .u64 (addHi x y c)])) W := by
  rw [run_callFunc_extern (P := Try.prog) (fn := Try.f35) Try.func35 (by kernel_rfl) (by kernel_rfl) (by kernel_rfl) (e := add64Entry) (by kernel_rfl), run_add64 x y c hx hy hc0 hc]
  rfl
theorem addHi_01 (x y : Int) (hx : 0 ≤ x) (hy : 0 ≤ y) (hx2 : x < M64) (hy2 : y < M64) : 0 ≤ addHi x y 0 ∧ addHi x y 0 ≤ 1 := by
  unfold addHi M64 at *; omega
set_option maxHeartbeats 8000000 in
set_option maxRecDepth 100000 in
theorem exact_Add.calls (a0_0 : Int) (a0_1 : Int) (a1_0 : Int) (a1_1 : Int) (r1 : Int) (r2 : Int) (r3 : Int) (w : World) (h : exact_Add.f a0_0 a0_1 a1_0 a1_1 = some (r1, r2, r3)) :
    Calls Try.prog 23 #[.agg #[.int .u64 a0_0, .int .u64 a0_1], .agg #[.int .u64 a1_0, .int .u64 a1_1]] w fun e w' => e = .returned (.tuple #[.agg #[.int .u64 r1, .int .u64 r2], .int .i64 r3]) ∧ Below w.heap.size w w' := by
  unfold exact_Add.f at h
  by_cases hb : 0 ≤ a0_0 ∧ 0 ≤ a0_1 ∧ 0 ≤ a1_0 ∧ 0 ≤ a1_1 ∧ a0_1 < M64 ∧ a1_1 < M64
  · rw [if_pos hb] at h
    obtain ⟨h1, h2, h3, h4, h5, h6⟩ := hb
    have hc := addHi_01 a0_1 a1_1 h2 h4 h5 h6
    have hu27 := Try.underlying27
    have hA1 := fun W => add64_run a0_1 a1_1 0 h2 h4 (by omega) (by omega) W
    have hA2 := fun W => add64_run a0_0 a1_0 (addHi a0_1 a1_1 0) h1 h3 hc.1 hc.2 W
    clear h1 h2 h3 h4 h5 h6 hc
    by_cases hz : addHi a0_0 a1_0 (addHi a0_1 a1_1 0) = 0
    · rw [if_pos hz] at h
      have hz' : (addHi a0_0 a1_0 (addHi a0_1 a1_1 0) != 0) = false := by rw [hz]; rfl
      clear hz
      simp only [Option.some.injEq, Prod.mk.injEq] at h
      obtain ⟨rfl, rfl, rfl⟩ := h
      go_enter Try.func23, Try.ntmps23
      go_wp2
      exact bodyPost_ret (v := .tuple #[.agg #[.int .u64 (addLo a0_0 a1_0 (addHi a0_1 a1_1 0)), .int .u64 (addLo a0_1 a1_1 0)], .int .i64 0]) (by simp [results, Try.results23, go_sem]) rfl ⟨rfl, (by repeat (first | exact Below.refl _ _ | refine Below.setCell ?_ (by simp <;> omega) _ | refine Below.alloc ?_ (by simp <;> omega) _))⟩
    · rw [if_neg hz] at h
      have hz' : (addHi a0_0 a1_0 (addHi a0_1 a1_1 0) != 0) = true := by simpa using hz
      clear hz
      simp only [Option.some.injEq, Prod.mk.injEq] at h
      obtain ⟨rfl, rfl, rfl⟩ := h
      go_enter Try.func23, Try.ntmps23
      go_wp2
      exact bodyPost_ret (v := .tuple #[.agg #[.int .u64 0, .int .u64 0], .int .i64 3]) (by simp [results, Try.results23, go_sem]) rfl ⟨rfl, (by repeat (first | exact Below.refl _ _ | refine Below.setCell ?_ (by simp <;> omega) _ | refine Below.alloc ?_ (by simp <;> omega) _))⟩
  · rw [if_neg hb] at h; exact absurd h (by simp)

end Go.Proofs.Ytcoininpcicgmaa.PX
