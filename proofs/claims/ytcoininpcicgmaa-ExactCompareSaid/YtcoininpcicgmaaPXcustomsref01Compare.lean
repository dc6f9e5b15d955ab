/- Written by a program of this session (a changed printer): plain Lean functions with the answers of Go functions of this seat, each with a proof that the machine's call comes to them. -/
import Derived.Test.YtcoininpcicgmaaPX0
import Derived.Test.YtcoininpcicgmaaPXcustomsref01Mul
import Derived.Test.YtcoininpcicgmaaPXcustomsref01Order
namespace Go.Proofs.Ytcoininpcicgmaa.PX
open Go.RowKit Go.Proofs.YtcoininpcicgmaaW.PrintWords Go.Proofs.YtcoininpcicgmaaW.PrintLast Go.Proofs.YtcoininpcicgmaaW.PrintMore
attribute [local go_sem] max2_int min2_int max_two min_two max_three min_three max_four min_four   -- for this text's walks alone
set_option linter.unusedVariables false
set_option linter.unusedSimpArgs false

/-! ### customsref01_Compare: function 15 -/
def customsref01_Compare.f (k : Nat) (a0 : Int) (a1 : Int) (a2 : Int) (a3 : Int) : Option (Int) := (customsref01_Mul.f k a0 (mx a3 1)).bind fun bt175 => ((customsref01_Mul.f k a2 (mx a1 1)).bind fun bt177 => ((customsref01_Order.f bt175.1 bt175.2 bt177.1 bt177.2).bind fun t179 => (some t179)))
theorem customsref01_Compare.mono : ∀ a0 a1 a2 a3 k, LeO (customsref01_Compare.f k a0 a1 a2 a3) (customsref01_Compare.f (k + 1) a0 a1 a2 a3) := by
  intro a0 a1 a2 a3 k
  unfold customsref01_Compare.f
  repeat' first
      | (with_reducible exact customsref01_Mul.mono _ _ _)
      | (with_reducible exact LeO.refl _)
      | (with_reducible exact LeO.none _)
      | (with_reducible refine LeO.ite ?_ ?_)
      | (with_reducible refine LeO.bind ?_ (fun _ => ?_))
      | exact customsref01_Mul.mono _ _ _
      | exact LeO.none _
      | refine LeO.ite ?_ ?_
      | refine LeO.bind ?_ (fun _ => ?_)
set_option maxHeartbeats 8000000 in
set_option maxRecDepth 100000 in
theorem customsref01_Compare.calls (k : Nat) (a0 : Int) (a1 : Int) (a2 : Int) (a3 : Int) (r : Int) (w : World) (h : customsref01_Compare.f k a0 a1 a2 a3 = some r) :
    Calls Try.prog 15 #[.int .u64 a0, .int .u64 a1, .int .u64 a2, .int .u64 a3] w fun e w' => e = .returned (.int .i64 r) ∧ Below w.heap.size w w' := by
  have HB := Aside0.mk (Below.refl w.heap.size w)
  have H : ((customsref01_Mul.f k a0 (mx a3 1)).bind fun bt175 => ((customsref01_Mul.f k a2 (mx a1 1)).bind fun bt177 => ((customsref01_Order.f bt175.1 bt175.2 bt177.1 bt177.2).bind fun t179 => (some t179)))) = some r := h
  clear h
  obtain ⟨ji5, hji5⟩ : ∃ j_ : Int, (mx a3 1) = j_ := ⟨_, rfl⟩
  replace H : ((customsref01_Mul.f k a0 (ji5)).bind fun bt175 => ((customsref01_Mul.f k a2 (mx a1 1)).bind fun bt177 => ((customsref01_Order.f bt175.1 bt175.2 bt177.1 bt177.2).bind fun t179 => (some t179)))) = some r := by first | (rw [hji5] at H; exact H) | (simp only [hji5] at H ⊢; exact H)
  (try (have hji5l : 1 ≤ ji5 := by (rw [← hji5]; unfold mx; (repeat' split) <;> omega)))
  (try (have hji5m : 0 ≤ ji5 := by omega))
  have hji5_ : (if a3 < 1 then 1 else a3) = ji5 := hji5
  replace H := Option.bind_eq_some_iff.mp H
  obtain ⟨⟨t175, t176⟩, A60, H⟩ := H
  replace H : ((customsref01_Mul.f k a2 (mx a1 1)).bind fun bt177 => ((customsref01_Order.f t175 t176 bt177.1 bt177.2).bind fun t179 => (some t179))) = some r := H
  have A6 := Aside0.mk A60
  clear A60
  obtain ⟨ji7, hji7⟩ : ∃ j_ : Int, (mx a1 1) = j_ := ⟨_, rfl⟩
  replace H : ((customsref01_Mul.f k a2 (ji7)).bind fun bt177 => ((customsref01_Order.f t175 t176 bt177.1 bt177.2).bind fun t179 => (some t179))) = some r := by first | (rw [hji7] at H; exact H) | (simp only [hji7] at H ⊢; exact H)
  (try rw [hji7] at A6)
  (try (have hji7l : 1 ≤ ji7 := by (rw [← hji7]; unfold mx; (repeat' split) <;> omega)))
  (try (have hji7m : 0 ≤ ji7 := by omega))
  have hji7_ : (if a1 < 1 then 1 else a1) = ji7 := hji7
  replace H := Option.bind_eq_some_iff.mp H
  obtain ⟨⟨t177, t178⟩, A80, H⟩ := H
  replace H : ((customsref01_Order.f t175 t176 t177 t178).bind fun t179 => (some t179)) = some r := H
  have A8 := Aside0.mk A80
  clear A80
  replace H := Option.bind_eq_some_iff.mp H
  obtain ⟨t179, A90, H⟩ := H
  replace H : (some t179) = some r := H
  have A9 := Aside0.mk A90
  clear A90
  obtain rfl := Option.some.inj H
  go_enter Try.func15, Try.ntmps15
  go_wp2_with (first | ((with_reducible refine gate_callee (f := 22) rfl ?_); refine goesL_ (some 12) rfl rfl Try.func22 (by kernel_rfl) rfl #[.int .u64 a0, .int .u64 ji5] rfl (by (try simp only [List.map_toArray, List.map_cons, List.map_nil]); first | done | (simp only [hji5]; rfl) | rfl | (simp only [List.length_drop, List.length_take]; rfl)) ?_; (with_reducible refine (customsref01_Mul.calls k a0 ji5 t175 t176 _ A6.out).mono ?_); rintro e w10 ⟨rfl, hb⟩; refine ⟨_, rfl, ?_⟩; have n0_ := Aside0.mk (below_step (by repeat (first | (with_reducible first | exact HB.out | apply below_alloc | apply pw_below_drewN | apply below_drew1) | exact HB.out)) hb); clear HB; have HB := n0_; clear n0_; (try clear hb); (try clear hb2); (try clear hk); (try clear hi)) | ((with_reducible refine gate_callee (f := 22) rfl ?_); refine goesL_ (some 16) rfl rfl Try.func22 (by kernel_rfl) rfl #[.int .u64 a2, .int .u64 ji7] rfl (by (try simp only [List.map_toArray, List.map_cons, List.map_nil]); first | done | (simp only [hji7]; rfl) | rfl | (simp only [List.length_drop, List.length_take]; rfl)) ?_; (with_reducible refine (customsref01_Mul.calls k a2 ji7 t177 t178 _ A8.out).mono ?_); rintro e w11 ⟨rfl, hb⟩; refine ⟨_, rfl, ?_⟩; have n0_ := Aside0.mk (below_step (by repeat (first | (with_reducible first | exact HB.out | apply below_alloc | apply pw_below_drewN | apply below_drew1) | exact HB.out)) hb); clear HB; have HB := n0_; clear n0_; (try clear hb); (try clear hb2); (try clear hk); (try clear hi)) | ((with_reducible refine gate_callee (f := 28) rfl ?_); refine goesL_ (some 17) rfl rfl Try.func28 (by kernel_rfl) rfl #[.agg #[.int .u64 t175, .int .u64 t176], .agg #[.int .u64 t177, .int .u64 t178]] rfl (by (try simp only [List.map_toArray, List.map_cons, List.map_nil]); first | done | rfl | (simp only [List.length_drop, List.length_take]; rfl)) ?_; (with_reducible refine (customsref01_Order.calls t175 t176 t177 t178 t179 _ A9.out).mono ?_); rintro e w12 ⟨rfl, hb⟩; refine ⟨_, rfl, ?_⟩; have n0_ := Aside0.mk (below_step (by repeat (first | (with_reducible first | exact HB.out | apply below_alloc | apply pw_below_drewN | apply below_drew1) | exact HB.out)) hb); clear HB; have HB := n0_; clear n0_; (try clear hb); (try clear hb2); (try clear hk); (try clear hi)))
  go_ret
  exact ⟨by first | rfl | (simp [errW_none, errW_some] <;> rfl) | (simp only [← hji5, ← hji7]; first | rfl | (simp [errW_none, errW_some] <;> rfl)) | (simp [*, errW_none, errW_some] <;> rfl) | (simp (disch := first | assumption | omega) only [Int.tdiv_eq_ediv_of_nonneg, Int.tmod_eq_emod_of_nonneg]; rfl), by repeat (first | (with_reducible first | exact HB.out | apply below_alloc | apply pw_below_drewN | apply below_drew1) | exact HB.out)⟩

end Go.Proofs.Ytcoininpcicgmaa.PX
