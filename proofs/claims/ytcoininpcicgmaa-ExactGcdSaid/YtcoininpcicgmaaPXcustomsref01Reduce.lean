/- Written by a program of this session (a changed printer): plain Lean functions with the answers of Go functions of this seat, each with a proof that the machine's call comes to them. -/
import Derived.Test.YtcoininpcicgmaaPX0
import Derived.Test.YtcoininpcicgmaaPXcustomsref01Gcd
namespace Go.Proofs.Ytcoininpcicgmaa.PX
open Go.RowKit Go.Proofs.YtcoininpcicgmaaW.PrintWords Go.Proofs.YtcoininpcicgmaaW.PrintLast Go.Proofs.YtcoininpcicgmaaW.PrintMore
attribute [local go_sem] max2_int min2_int max_two min_two max_three min_three max_four min_four   -- for this text's walks alone
set_option linter.unusedVariables false
set_option linter.unusedSimpArgs false

/-! ### customsref01_Reduce: function 18 -/
def customsref01_Reduce.f (k : Nat) (a0 : Int) (a1 : Int) : Option (Int × Int) := (customsref01_Gcd.f k a0 (mx a1 1)).bind fun t193 => (if t193 = 0 then (none) else (some (IntKind.u64.wrap (Int.tdiv a0 t193), IntKind.u64.wrap ((mx a1 1) / t193))))
theorem customsref01_Reduce.mono : ∀ a0 a1 k, LeO (customsref01_Reduce.f k a0 a1) (customsref01_Reduce.f (k + 1) a0 a1) := by
  intro a0 a1 k
  unfold customsref01_Reduce.f
  repeat' first
      | (with_reducible exact customsref01_Gcd.mono _ _ _)
      | (with_reducible exact LeO.refl _)
      | (with_reducible exact LeO.none _)
      | (with_reducible refine LeO.ite ?_ ?_)
      | (with_reducible refine LeO.bind ?_ (fun _ => ?_))
      | exact customsref01_Gcd.mono _ _ _
      | exact LeO.none _
      | refine LeO.ite ?_ ?_
      | refine LeO.bind ?_ (fun _ => ?_)
set_option maxHeartbeats 8000000 in
set_option maxRecDepth 100000 in
theorem customsref01_Reduce.calls (k : Nat) (a0 : Int) (a1 : Int) (r1 : Int) (r2 : Int) (w : World) (h : customsref01_Reduce.f k a0 a1 = some (r1, r2)) :
    Calls Try.prog 18 #[.int .u64 a0, .int .u64 a1] w fun e w' => e = .returned (.tuple #[.int .u64 r1, .int .u64 r2]) ∧ Below w.heap.size w w' := by
  have HB := Aside0.mk (Below.refl w.heap.size w)
  have H : ((customsref01_Gcd.f k a0 (mx a1 1)).bind fun t193 => (if t193 = 0 then (none) else (some (IntKind.u64.wrap (Int.tdiv a0 t193), IntKind.u64.wrap ((mx a1 1) / t193))))) = some (r1, r2) := h
  clear h
  obtain ⟨ji3, hji3⟩ : ∃ j_ : Int, (mx a1 1) = j_ := ⟨_, rfl⟩
  replace H : ((customsref01_Gcd.f k a0 (ji3)).bind fun t193 => (if t193 = 0 then (none) else (some (IntKind.u64.wrap (Int.tdiv a0 t193), IntKind.u64.wrap ((ji3) / t193))))) = some (r1, r2) := by first | (rw [hji3] at H; exact H) | (simp only [hji3] at H ⊢; exact H)
  (try (have hji3l : 1 ≤ ji3 := by (rw [← hji3]; unfold mx; (repeat' split) <;> omega)))
  (try (have hji3m : 0 ≤ ji3 := by omega))
  have hji3_ : (if a1 < 1 then 1 else a1) = ji3 := hji3
  replace H := Option.bind_eq_some_iff.mp H
  obtain ⟨t193, A40, H⟩ := H
  replace H : (if t193 = 0 then (none) else (some (IntKind.u64.wrap (Int.tdiv a0 t193), IntKind.u64.wrap ((ji3) / t193)))) = some (r1, r2) := H
  have A4 := Aside0.mk A40
  clear A40
  by_cases c5 : t193 = 0
  · rw [if_pos c5] at H
    exact absurd H (by simp)
  · rw [if_neg c5] at H
    have c5b0 : (t193 == 0) = false := beq_eq_false_iff_ne.mpr c5
    have c5b1 : (t193 != 0) = true := bne_iff_ne.mpr c5
    simp only [Option.some.injEq, Prod.mk.injEq] at H
    obtain ⟨rfl, rfl⟩ := H
    go_enter Try.func18, Try.ntmps18
    go_wp2_with (first | (go_at_call 19; (with_reducible refine (customsref01_Gcd.calls k a0 ji3 t193 _ A4.out).mono ?_); rintro e w' ⟨rfl, ⟨nd, rfl⟩⟩; (try first | exact ⟨rfl, _, World.drewN_drewN _ _ _⟩ | exact ⟨rfl, _, Eq.trans (World.drewN_drewN _ _ _) (congrArg (World.drewN _) (Nat.add_assoc _ _ _))⟩)))
    repeat (go_quiet (first | (go_at_call 19; (with_reducible refine (customsref01_Gcd.calls k a0 ji3 t193 _ A4.out).mono ?_); rintro e w' ⟨rfl, ⟨nd, rfl⟩⟩; (try first | exact ⟨rfl, _, World.drewN_drewN _ _ _⟩ | exact ⟨rfl, _, Eq.trans (World.drewN_drewN _ _ _) (congrArg (World.drewN _) (Nat.add_assoc _ _ _))⟩))); try go_wp2_with (first | (go_at_call 19; (with_reducible refine (customsref01_Gcd.calls k a0 ji3 t193 _ A4.out).mono ?_); rintro e w' ⟨rfl, ⟨nd, rfl⟩⟩; (try first | exact ⟨rfl, _, World.drewN_drewN _ _ _⟩ | exact ⟨rfl, _, Eq.trans (World.drewN_drewN _ _ _) (congrArg (World.drewN _) (Nat.add_assoc _ _ _))⟩))))
    go_ret2
    exact ⟨by first | rfl | (simp [errW_none, errW_some] <;> rfl) | (simp only [← hji3]; first | rfl | (simp [errW_none, errW_some] <;> rfl)) | (simp [*, errW_none, errW_some] <;> rfl) | (simp (disch := first | assumption | omega) only [Int.tdiv_eq_ediv_of_nonneg, Int.tmod_eq_emod_of_nonneg]; rfl), by repeat (first | (with_reducible first | exact HB.out | apply below_alloc | apply pw_below_drewN | apply below_drew1) | exact HB.out)⟩

end Go.Proofs.Ytcoininpcicgmaa.PX
