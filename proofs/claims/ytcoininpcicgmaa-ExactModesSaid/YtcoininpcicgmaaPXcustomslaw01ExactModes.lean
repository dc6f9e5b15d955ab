/- Written by a program of this session (a changed printer): plain Lean functions with the answers of Go functions of this seat, each with a proof that the machine's call comes to them. -/
import Derived.Test.YtcoininpcicgmaaPX0
import Derived.Test.YtcoininpcicgmaaPXcustomslaw01awake
import Derived.Test.YtcoininpcicgmaaPXexactMulDiv
import Derived.Test.YtcoininpcicgmaaPXexactMulMod
namespace Go.Proofs.Ytcoininpcicgmaa.PX
open Go.RowKit Go.Proofs.YtcoininpcicgmaaW.PrintWords Go.Proofs.YtcoininpcicgmaaW.PrintLast Go.Proofs.YtcoininpcicgmaaW.PrintMore
attribute [local go_sem] max2_int min2_int max_two min_two max_three min_three max_four min_four   -- for this text's walks alone
set_option linter.unusedVariables false
set_option linter.unusedSimpArgs false

/-! ### customslaw01_ExactModes: function 8 -/
def customslaw01_ExactModes.j0 : Nat → Int → Int → Int → Int → Int → Int → Int → Int → Int → Int → Bool → Option (Bool)
  | 0, _, _, _, _, _, _, _, _, _, _, _ => none
  | k + 1, x0, x1, x2, x7, x9, x10, x11, x12, x13, x14, x52 => if x52 = true then (if x10 = 3 then ((customslaw01_awake.f k).bind fun t239 => (some t239)) else (if x10 = 0 then ((customslaw01_awake.f k).bind fun t240 => (some t240)) else (some false))) else ((exact_MulMod.f k x0 x1 x2).bind fun t241 => (if t241 > 0 then (if x12 = 0 then (if x14 = 0 then (if (IntKind.u64.wrap (x9 - x7)) > 1 then (some false) else (if ((x9 == x7) != (t241 == 0)) = true then (some false) else (if x11 = x7 then (if x13 = x7 then (if t241 = (IntKind.u64.wrap (x2 - t241)) then (if x11 = x9 then (if (Go.bits .and .u64 x13 1) = 0 then ((customslaw01_awake.f k).bind fun t242 => (some t242)) else (some false)) else (some false)) else (if x11 = x13 then ((customslaw01_awake.f k).bind fun t243 => (some t243)) else (some false))) else (if x13 = x9 then (if t241 = (IntKind.u64.wrap (x2 - t241)) then (if x11 = x9 then (if (Go.bits .and .u64 x13 1) = 0 then ((customslaw01_awake.f k).bind fun t244 => (some t244)) else (some false)) else (some false)) else (if x11 = x13 then ((customslaw01_awake.f k).bind fun t245 => (some t245)) else (some false))) else (some false))) else (if x11 = x9 then (if x13 = x7 then (if t241 = (IntKind.u64.wrap (x2 - t241)) then (if (Go.bits .and .u64 x13 1) = 0 then ((customslaw01_awake.f k).bind fun t246 => (some t246)) else (some false)) else (if x11 = x13 then ((customslaw01_awake.f k).bind fun t247 => (some t247)) else (some false))) else (if x13 = x9 then (if t241 = (IntKind.u64.wrap (x2 - t241)) then (if (Go.bits .and .u64 x13 1) = 0 then ((customslaw01_awake.f k).bind fun t248 => (some t248)) else (some false)) else (if x11 = x13 then ((customslaw01_awake.f k).bind fun t249 => (some t249)) else (some false))) else (some false))) else (some false))))) else (some false)) else (some false)) else (if x12 = 0 then (if x14 = 0 then (if (IntKind.u64.wrap (x9 - x7)) > 1 then (some false) else (if ((x9 == x7) != (t241 == 0)) = true then (some false) else (if x11 = x7 then (if x13 = x7 then (if x11 = x13 then ((customslaw01_awake.f k).bind fun t250 => (some t250)) else (some false)) else (if x13 = x9 then (if x11 = x13 then ((customslaw01_awake.f k).bind fun t251 => (some t251)) else (some false)) else (some false))) else (if x11 = x9 then (if x13 = x7 then (if x11 = x13 then ((customslaw01_awake.f k).bind fun t252 => (some t252)) else (some false)) else (if x13 = x9 then (if x11 = x13 then ((customslaw01_awake.f k).bind fun t253 => (some t253)) else (some false)) else (some false))) else (some false))))) else (some false)) else (some false))))
def customslaw01_ExactModes.f (k : Nat) (a0 : Int) (a1 : Int) (a2 : Int) : Option (Bool) := (exact_MulDiv.f k a0 a1 (mx a2 1) 0).bind fun bt231 => ((exact_MulDiv.f k a0 a1 (mx a2 1) 1).bind fun bt233 => ((exact_MulDiv.f k a0 a1 (mx a2 1) 2).bind fun bt235 => ((exact_MulDiv.f k a0 a1 (mx a2 1) 3).bind fun bt237 => (if bt231.2 = 0 then (customslaw01_ExactModes.j0 k a0 a1 (mx a2 1) bt231.1 bt233.1 bt233.2 bt235.1 bt235.2 bt237.1 bt237.2 (bt233.2 != 0)) else (customslaw01_ExactModes.j0 k a0 a1 (mx a2 1) bt231.1 bt233.1 bt233.2 bt235.1 bt235.2 bt237.1 bt237.2 true)))))
theorem customslaw01_ExactModes.mono_l : ∀ k, (∀ y0 y1 y2 y3 y4 y5 y6 y7 y8 y9 y10, LeO (customslaw01_ExactModes.j0 k y0 y1 y2 y3 y4 y5 y6 y7 y8 y9 y10) (customslaw01_ExactModes.j0 (k + 1) y0 y1 y2 y3 y4 y5 y6 y7 y8 y9 y10))
  | 0 => fun _ _ _ _ _ _ _ _ _ _ _ r h => by simp [customslaw01_ExactModes.j0] at h
  | k + 1 => by
    have ih0 := customslaw01_ExactModes.mono_l k
    · intro y0 y1 y2 y3 y4 y5 y6 y7 y8 y9 y10
      unfold customslaw01_ExactModes.j0
      repeat' first
      | (with_reducible exact ih0 _ _ _ _ _ _ _ _ _ _ _)
      | (with_reducible exact customslaw01_awake.mono _)
      | (with_reducible exact exact_MulDiv.mono _ _ _ _ _)
      | (with_reducible exact exact_MulMod.mono _ _ _ _)
      | (with_reducible exact LeO.refl _)
      | (with_reducible exact LeO.none _)
      | (with_reducible refine LeO.ite ?_ ?_)
      | (with_reducible refine LeO.bind ?_ (fun _ => ?_))
      | exact ih0 _ _ _ _ _ _ _ _ _ _ _
      | exact customslaw01_awake.mono _
      | exact exact_MulDiv.mono _ _ _ _ _
      | exact exact_MulMod.mono _ _ _ _
      | exact LeO.none _
      | refine LeO.ite ?_ ?_
      | refine LeO.bind ?_ (fun _ => ?_)
theorem customslaw01_ExactModes.mono : ∀ a0 a1 a2 k, LeO (customslaw01_ExactModes.f k a0 a1 a2) (customslaw01_ExactModes.f (k + 1) a0 a1 a2) := by
  intro a0 a1 a2 k
  have ih0 := customslaw01_ExactModes.mono_l k
  unfold customslaw01_ExactModes.f
  repeat' first
      | (with_reducible exact ih0 _ _ _ _ _ _ _ _ _ _ _)
      | (with_reducible exact customslaw01_awake.mono _)
      | (with_reducible exact exact_MulDiv.mono _ _ _ _ _)
      | (with_reducible exact exact_MulMod.mono _ _ _ _)
      | (with_reducible exact LeO.refl _)
      | (with_reducible exact LeO.none _)
      | (with_reducible refine LeO.ite ?_ ?_)
      | (with_reducible refine LeO.bind ?_ (fun _ => ?_))
      | exact ih0 _ _ _ _ _ _ _ _ _ _ _
      | exact customslaw01_awake.mono _
      | exact exact_MulDiv.mono _ _ _ _ _
      | exact exact_MulMod.mono _ _ _ _
      | exact LeO.none _
      | refine LeO.ite ?_ ?_
      | refine LeO.bind ?_ (fun _ => ?_)
set_option maxHeartbeats 8000000 in
set_option maxRecDepth 100000 in
theorem customslaw01_ExactModes.calls (k : Nat) (a0 : Int) (a1 : Int) (a2 : Int) (r : Bool) (w : World) (h : customslaw01_ExactModes.f k a0 a1 a2 = some r) :
    Calls Try.prog 8 #[.int .u64 a0, .int .u64 a1, .int .u64 a2] w fun e w' => e = .returned (.bool r) ∧ Below w.heap.size w w' := by
  have HB := Aside0.mk (Below.refl w.heap.size w)
  have H : ((exact_MulDiv.f k a0 a1 (mx a2 1) 0).bind fun bt231 => ((exact_MulDiv.f k a0 a1 (mx a2 1) 1).bind fun bt233 => ((exact_MulDiv.f k a0 a1 (mx a2 1) 2).bind fun bt235 => ((exact_MulDiv.f k a0 a1 (mx a2 1) 3).bind fun bt237 => (if bt231.2 = 0 then (customslaw01_ExactModes.j0 k a0 a1 (mx a2 1) bt231.1 bt233.1 bt233.2 bt235.1 bt235.2 bt237.1 bt237.2 (bt233.2 != 0)) else (customslaw01_ExactModes.j0 k a0 a1 (mx a2 1) bt231.1 bt233.1 bt233.2 bt235.1 bt235.2 bt237.1 bt237.2 true)))))) = some r := h
  clear h
  obtain ⟨ji4, hji4⟩ : ∃ j_ : Int, (mx a2 1) = j_ := ⟨_, rfl⟩
  replace H : ((exact_MulDiv.f k a0 a1 (ji4) 0).bind fun bt231 => ((exact_MulDiv.f k a0 a1 (ji4) 1).bind fun bt233 => ((exact_MulDiv.f k a0 a1 (ji4) 2).bind fun bt235 => ((exact_MulDiv.f k a0 a1 (ji4) 3).bind fun bt237 => (if bt231.2 = 0 then (customslaw01_ExactModes.j0 k a0 a1 ji4 bt231.1 bt233.1 bt233.2 bt235.1 bt235.2 bt237.1 bt237.2 (bt233.2 != 0)) else (customslaw01_ExactModes.j0 k a0 a1 ji4 bt231.1 bt233.1 bt233.2 bt235.1 bt235.2 bt237.1 bt237.2 true)))))) = some r := by first | (rw [hji4] at H; exact H) | (simp only [hji4] at H ⊢; exact H)
  (try (have hji4l : 1 ≤ ji4 := by (rw [← hji4]; unfold mx; (repeat' split) <;> omega)))
  (try (have hji4m : 0 ≤ ji4 := by omega))
  have hji4_ : (if a2 < 1 then 1 else a2) = ji4 := hji4
  replace H := Option.bind_eq_some_iff.mp H
  obtain ⟨⟨t231, t232⟩, A50, H⟩ := H
  replace H : ((exact_MulDiv.f k a0 a1 (ji4) 1).bind fun bt233 => ((exact_MulDiv.f k a0 a1 (ji4) 2).bind fun bt235 => ((exact_MulDiv.f k a0 a1 (ji4) 3).bind fun bt237 => (if t232 = 0 then (customslaw01_ExactModes.j0 k a0 a1 ji4 t231 bt233.1 bt233.2 bt235.1 bt235.2 bt237.1 bt237.2 (bt233.2 != 0)) else (customslaw01_ExactModes.j0 k a0 a1 ji4 t231 bt233.1 bt233.2 bt235.1 bt235.2 bt237.1 bt237.2 true))))) = some r := H
  have A5 := Aside0.mk A50
  clear A50
  replace H := Option.bind_eq_some_iff.mp H
  obtain ⟨⟨t233, t234⟩, A60, H⟩ := H
  replace H : ((exact_MulDiv.f k a0 a1 (ji4) 2).bind fun bt235 => ((exact_MulDiv.f k a0 a1 (ji4) 3).bind fun bt237 => (if t232 = 0 then (customslaw01_ExactModes.j0 k a0 a1 ji4 t231 t233 t234 bt235.1 bt235.2 bt237.1 bt237.2 (t234 != 0)) else (customslaw01_ExactModes.j0 k a0 a1 ji4 t231 t233 t234 bt235.1 bt235.2 bt237.1 bt237.2 true)))) = some r := H
  have A6 := Aside0.mk A60
  clear A60
  replace H := Option.bind_eq_some_iff.mp H
  obtain ⟨⟨t235, t236⟩, A70, H⟩ := H
  replace H : ((exact_MulDiv.f k a0 a1 (ji4) 3).bind fun bt237 => (if t232 = 0 then (customslaw01_ExactModes.j0 k a0 a1 ji4 t231 t233 t234 t235 t236 bt237.1 bt237.2 (t234 != 0)) else (customslaw01_ExactModes.j0 k a0 a1 ji4 t231 t233 t234 t235 t236 bt237.1 bt237.2 true))) = some r := H
  have A7 := Aside0.mk A70
  clear A70
  replace H := Option.bind_eq_some_iff.mp H
  obtain ⟨⟨t237, t238⟩, A80, H⟩ := H
  replace H : (if t232 = 0 then (customslaw01_ExactModes.j0 k a0 a1 ji4 t231 t233 t234 t235 t236 t237 t238 (t234 != 0)) else (customslaw01_ExactModes.j0 k a0 a1 ji4 t231 t233 t234 t235 t236 t237 t238 true)) = some r := H
  have A8 := Aside0.mk A80
  clear A80
  have HC9 := Aside0.mk H
  clear H
  go_enter Try.func8, Try.ntmps8
  go_upto_region 6 with (first | ((with_reducible refine gate_callee (f := 24) rfl ?_); refine goesL_ (some 23) rfl rfl Try.func24 (by kernel_rfl) rfl #[.int .u64 a0, .int .u64 a1, .int .u64 ji4, .int .i64 0] rfl (by (try simp only [List.map_toArray, List.map_cons, List.map_nil]); first | done | (simp only [hji4]; rfl) | rfl | (simp only [List.length_drop, List.length_take]; rfl)) ?_; (with_reducible refine (exact_MulDiv.calls k a0 a1 ji4 0 t231 t232 _ A5.out).mono ?_); rintro e w10 ⟨rfl, hb⟩; refine ⟨_, rfl, ?_⟩; have n0_ := Aside0.mk (below_step (by repeat (first | (with_reducible first | exact HB.out | apply below_alloc | apply pw_below_drewN | apply below_drew1) | exact HB.out)) hb); clear HB; have HB := n0_; clear n0_; (try clear hb); (try clear hb2); (try clear hk); (try clear hi)) | ((with_reducible refine gate_callee (f := 24) rfl ?_); refine goesL_ (some 30) rfl rfl Try.func24 (by kernel_rfl) rfl #[.int .u64 a0, .int .u64 a1, .int .u64 ji4, .int .i64 1] rfl (by (try simp only [List.map_toArray, List.map_cons, List.map_nil]); first | done | (simp only [hji4]; rfl) | rfl | (simp only [List.length_drop, List.length_take]; rfl)) ?_; (with_reducible refine (exact_MulDiv.calls k a0 a1 ji4 1 t233 t234 _ A6.out).mono ?_); rintro e w11 ⟨rfl, hb⟩; refine ⟨_, rfl, ?_⟩; have n0_ := Aside0.mk (below_step (by repeat (first | (with_reducible first | exact HB.out | apply below_alloc | apply pw_below_drewN | apply below_drew1) | exact HB.out)) hb); clear HB; have HB := n0_; clear n0_; (try clear hb); (try clear hb2); (try clear hk); (try clear hi)) | ((with_reducible refine gate_callee (f := 24) rfl ?_); refine goesL_ (some 37) rfl rfl Try.func24 (by kernel_rfl) rfl #[.int .u64 a0, .int .u64 a1, .int .u64 ji4, .int .i64 2] rfl (by (try simp only [List.map_toArray, List.map_cons, List.map_nil]); first | done | (simp only [hji4]; rfl) | rfl | (simp only [List.length_drop, List.length_take]; rfl)) ?_; (with_reducible refine (exact_MulDiv.calls k a0 a1 ji4 2 t235 t236 _ A7.out).mono ?_); rintro e w12 ⟨rfl, hb⟩; refine ⟨_, rfl, ?_⟩; have n0_ := Aside0.mk (below_step (by repeat (first | (with_reducible first | exact HB.out | apply below_alloc | apply pw_below_drewN | apply below_drew1) | exact HB.out)) hb); clear HB; have HB := n0_; clear n0_; (try clear hb); (try clear hb2); (try clear hk); (try clear hi)) | ((with_reducible refine gate_callee (f := 24) rfl ?_); refine goesL_ (some 44) rfl rfl Try.func24 (by kernel_rfl) rfl #[.int .u64 a0, .int .u64 a1, .int .u64 ji4, .int .i64 3] rfl (by (try simp only [List.map_toArray, List.map_cons, List.map_nil]); first | done | (simp only [hji4]; rfl) | rfl | (simp only [List.length_drop, List.length_take]; rfl)) ?_; (with_reducible refine (exact_MulDiv.calls k a0 a1 ji4 3 t237 t238 _ A8.out).mono ?_); rintro e w13 ⟨rfl, hb⟩; refine ⟨_, rfl, ?_⟩; have n0_ := Aside0.mk (below_step (by repeat (first | (with_reducible first | exact HB.out | apply below_alloc | apply pw_below_drewN | apply below_drew1) | exact HB.out)) hb); clear HB; have HB := n0_; clear n0_; (try clear hb); (try clear hb2); (try clear hk); (try clear hi)))
  (try simp only [Act.put, List.setIfInBounds_toArray, List.set_cons_zero, List.set_cons_succ])
  go_cut [52] (fun v52 wc => ∃ (kq : Nat) (x52_8 : Bool), v52 = .bool x52_8 ∧ Aside0 (customslaw01_ExactModes.j0 kq a0 a1 ji4 t231 t233 t234 t235 t236 t237 t238 x52_8 = some r) ∧ Aside0 (kq ≤ k) ∧ Aside0 (Below w.heap.size w wc))
  case first =>
    have H := HC9.out
    clear HC9
    by_cases c14 : t232 = 0
    · rw [if_pos c14] at H
      have c14b0 : (t232 == 0) = true := beq_iff_eq.mpr c14
      have c14b1 : (t232 != 0) = false := bne_eq_false_iff_eq.mpr c14
      clear c14
      (first | rw [c14b0] | (simp only [i64_w, i32_w]; rw [c14b0]) | skip)
      have H' := Aside0.mk H
      clear H
      go_wp2
      go_meet
      case rel => exact ⟨_, ((t234 != 0)), (by first | rfl | (simp; done) | (simp [*]; done)), H', ⟨by first | omega | exact Nat.le_refl _⟩, ⟨by repeat (first | (with_reducible first | exact HB.out | apply below_alloc | apply pw_below_drewN | apply below_drew1) | exact HB.out)⟩⟩
    · rw [if_neg c14] at H
      have c14b0 : (t232 == 0) = false := beq_eq_false_iff_ne.mpr c14
      have c14b1 : (t232 != 0) = true := bne_iff_ne.mpr c14
      (first | rw [c14b0] | (simp only [i64_w, i32_w]; rw [c14b0]) | skip)
      have H' := Aside0.mk H
      clear H
      go_wp2
      go_meet
      case rel => exact ⟨_, (true), (by first | rfl | (simp; done) | (simp [*]; done)), H', ⟨by first | omega | exact Nat.le_refl _⟩, ⟨by repeat (first | (with_reducible first | exact HB.out | apply below_alloc | apply pw_below_drewN | apply below_drew1) | exact HB.out)⟩⟩
  case rest =>
    clear HC9
    try clear c1
    try clear c2
    try clear p2
    try clear c8
    try clear c14
    try clear c14b0
    try clear c14b1
    obtain ⟨kq, x52_8, rfl, HA, HJ8, HB⟩ := hcut
    cases kq with
    | zero => exact absurd HA.out (by simp [customslaw01_ExactModes.j0])
    | succ kj8 =>
      have H := HA.out
      clear HA
      simp only [customslaw01_ExactModes.j0] at H
      by_cases c15 : x52_8 = true
      · subst c15
        have H1 : (if t234 = 3 then ((customslaw01_awake.f kj8).bind fun t239 => (some t239)) else (if t234 = 0 then ((customslaw01_awake.f kj8).bind fun t240 => (some t240)) else (some false))) = some r := by rw [if_pos rfl] at H; exact H
        clear H
        have H := H1
        clear H1
        by_cases c16 : t234 = 3
        · rw [if_pos c16] at H
          have c16b0 : (t234 == 3) = true := beq_iff_eq.mpr c16
          have c16b1 : (t234 != 3) = false := bne_eq_false_iff_eq.mpr c16
          clear c16
          replace H := Option.bind_eq_some_iff.mp H
          obtain ⟨t239, A170, H⟩ := H
          replace H : (some t239) = some r := H
          have A17 := Aside0.mk A170
          clear A170
          obtain rfl := Option.some.inj H
          go_wp2_with (first | (go_at_call 13; (with_reducible refine (customslaw01_awake.calls kj8  t239 _ A17.out).mono ?_); rintro e w18 ⟨rfl, hb⟩; have n0_ := Aside0.mk (below_step (by repeat (first | (with_reducible first | exact HB.out | apply below_alloc | apply pw_below_drewN | apply below_drew1) | exact HB.out)) hb); clear HB; have HB := n0_; clear n0_; (try clear hb); (try clear hb2); (try clear hk); (try clear hi)))
          go_ret
          exact ⟨by first | rfl | (simp [errW_none, errW_some] <;> rfl) | (simp only [← hji4]; first | rfl | (simp [errW_none, errW_some] <;> rfl)) | (simp [*, errW_none, errW_some] <;> rfl) | (simp (disch := first | assumption | omega) only [Int.tdiv_eq_ediv_of_nonneg, Int.tmod_eq_emod_of_nonneg]; rfl), by repeat (first | (with_reducible first | exact HB.out | apply below_alloc | apply pw_below_drewN | apply below_drew1) | exact HB.out)⟩
        · rw [if_neg c16] at H
          have c16b0 : (t234 == 3) = false := beq_eq_false_iff_ne.mpr c16
          have c16b1 : (t234 != 3) = true := bne_iff_ne.mpr c16
          by_cases c19 : t234 = 0
          · rw [if_pos c19] at H
            have c19b0 : (t234 == 0) = true := beq_iff_eq.mpr c19
            have c19b1 : (t234 != 0) = false := bne_eq_false_iff_eq.mpr c19
            clear c19
            replace H := Option.bind_eq_some_iff.mp H
            obtain ⟨t240, A200, H⟩ := H
            replace H : (some t240) = some r := H
            have A20 := Aside0.mk A200
            clear A200
            obtain rfl := Option.some.inj H
            go_wp2_with (first | (go_at_call 13; (with_reducible refine (customslaw01_awake.calls kj8  t240 _ A20.out).mono ?_); rintro e w21 ⟨rfl, hb⟩; have n0_ := Aside0.mk (below_step (by repeat (first | (with_reducible first | exact HB.out | apply below_alloc | apply pw_below_drewN | apply below_drew1) | exact HB.out)) hb); clear HB; have HB := n0_; clear n0_; (try clear hb); (try clear hb2); (try clear hk); (try clear hi)))
            go_ret
            exact ⟨by first | rfl | (simp [errW_none, errW_some] <;> rfl) | (simp only [← hji4]; first | rfl | (simp [errW_none, errW_some] <;> rfl)) | (simp [*, errW_none, errW_some] <;> rfl) | (simp (disch := first | assumption | omega) only [Int.tdiv_eq_ediv_of_nonneg, Int.tmod_eq_emod_of_nonneg]; rfl), by repeat (first | (with_reducible first | exact HB.out | apply below_alloc | apply pw_below_drewN | apply below_drew1) | exact HB.out)⟩
          · rw [if_neg c19] at H
            have c19b0 : (t234 == 0) = false := beq_eq_false_iff_ne.mpr c19
            have c19b1 : (t234 != 0) = true := bne_iff_ne.mpr c19
            obtain rfl := Option.some.inj H
            go_wp2
            go_ret
            exact ⟨by first | rfl | (simp [errW_none, errW_some] <;> rfl) | (simp only [← hji4]; first | rfl | (simp [errW_none, errW_some] <;> rfl)) | (simp [*, errW_none, errW_some] <;> rfl) | (simp (disch := first | assumption | omega) only [Int.tdiv_eq_ediv_of_nonneg, Int.tmod_eq_emod_of_nonneg]; rfl), by repeat (first | (with_reducible first | exact HB.out | apply below_alloc | apply pw_below_drewN | apply below_drew1) | exact HB.out)⟩
      · replace c15 := Bool.eq_false_iff.mpr c15
        subst c15
        have H1 : ((exact_MulMod.f kj8 a0 a1 ji4).bind fun t241 => (if t241 > 0 then (if t236 = 0 then (if t238 = 0 then (if (IntKind.u64.wrap (t233 - t231)) > 1 then (some false) else (if ((t233 == t231) != (t241 == 0)) = true then (some false) else (if t235 = t231 then (if t237 = t231 then (if t241 = (IntKind.u64.wrap (ji4 - t241)) then (if t235 = t233 then (if (Go.bits .and .u64 t237 1) = 0 then ((customslaw01_awake.f kj8).bind fun t242 => (some t242)) else (some false)) else (some false)) else (if t235 = t237 then ((customslaw01_awake.f kj8).bind fun t243 => (some t243)) else (some false))) else (if t237 = t233 then (if t241 = (IntKind.u64.wrap (ji4 - t241)) then (if t235 = t233 then (if (Go.bits .and .u64 t237 1) = 0 then ((customslaw01_awake.f kj8).bind fun t244 => (some t244)) else (some false)) else (some false)) else (if t235 = t237 then ((customslaw01_awake.f kj8).bind fun t245 => (some t245)) else (some false))) else (some false))) else (if t235 = t233 then (if t237 = t231 then (if t241 = (IntKind.u64.wrap (ji4 - t241)) then (if (Go.bits .and .u64 t237 1) = 0 then ((customslaw01_awake.f kj8).bind fun t246 => (some t246)) else (some false)) else (if t235 = t237 then ((customslaw01_awake.f kj8).bind fun t247 => (some t247)) else (some false))) else (if t237 = t233 then (if t241 = (IntKind.u64.wrap (ji4 - t241)) then (if (Go.bits .and .u64 t237 1) = 0 then ((customslaw01_awake.f kj8).bind fun t248 => (some t248)) else (some false)) else (if t235 = t237 then ((customslaw01_awake.f kj8).bind fun t249 => (some t249)) else (some false))) else (some false))) else (some false))))) else (some false)) else (some false)) else (if t236 = 0 then (if t238 = 0 then (if (IntKind.u64.wrap (t233 - t231)) > 1 then (some false) else (if ((t233 == t231) != (t241 == 0)) = true then (some false) else (if t235 = t231 then (if t237 = t231 then (if t235 = t237 then ((customslaw01_awake.f kj8).bind fun t250 => (some t250)) else (some false)) else (if t237 = t233 then (if t235 = t237 then ((customslaw01_awake.f kj8).bind fun t251 => (some t251)) else (some false)) else (some false))) else (if t235 = t233 then (if t237 = t231 then (if t235 = t237 then ((customslaw01_awake.f kj8).bind fun t252 => (some t252)) else (some false)) else (if t237 = t233 then (if t235 = t237 then ((customslaw01_awake.f kj8).bind fun t253 => (some t253)) else (some false)) else (some false))) else (some false))))) else (some false)) else (some false)))) = some r := by rw [if_neg (show ¬ (false = true) by decide)] at H; exact H
        clear H
        have H := H1
        clear H1
        replace H := Option.bind_eq_some_iff.mp H
        obtain ⟨t241, A220, H⟩ := H
        replace H : (if t241 > 0 then (if t236 = 0 then (if t238 = 0 then (if (IntKind.u64.wrap (t233 - t231)) > 1 then (some false) else (if ((t233 == t231) != (t241 == 0)) = true then (some false) else (if t235 = t231 then (if t237 = t231 then (if t241 = (IntKind.u64.wrap (ji4 - t241)) then (if t235 = t233 then (if (Go.bits .and .u64 t237 1) = 0 then ((customslaw01_awake.f kj8).bind fun t242 => (some t242)) else (some false)) else (some false)) else (if t235 = t237 then ((customslaw01_awake.f kj8).bind fun t243 => (some t243)) else (some false))) else (if t237 = t233 then (if t241 = (IntKind.u64.wrap (ji4 - t241)) then (if t235 = t233 then (if (Go.bits .and .u64 t237 1) = 0 then ((customslaw01_awake.f kj8).bind fun t244 => (some t244)) else (some false)) else (some false)) else (if t235 = t237 then ((customslaw01_awake.f kj8).bind fun t245 => (some t245)) else (some false))) else (some false))) else (if t235 = t233 then (if t237 = t231 then (if t241 = (IntKind.u64.wrap (ji4 - t241)) then (if (Go.bits .and .u64 t237 1) = 0 then ((customslaw01_awake.f kj8).bind fun t246 => (some t246)) else (some false)) else (if t235 = t237 then ((customslaw01_awake.f kj8).bind fun t247 => (some t247)) else (some false))) else (if t237 = t233 then (if t241 = (IntKind.u64.wrap (ji4 - t241)) then (if (Go.bits .and .u64 t237 1) = 0 then ((customslaw01_awake.f kj8).bind fun t248 => (some t248)) else (some false)) else (if t235 = t237 then ((customslaw01_awake.f kj8).bind fun t249 => (some t249)) else (some false))) else (some false))) else (some false))))) else (some false)) else (some false)) else (if t236 = 0 then (if t238 = 0 then (if (IntKind.u64.wrap (t233 - t231)) > 1 then (some false) else (if ((t233 == t231) != (t241 == 0)) = true then (some false) else (if t235 = t231 then (if t237 = t231 then (if t235 = t237 then ((customslaw01_awake.f kj8).bind fun t250 => (some t250)) else (some false)) else (if t237 = t233 then (if t235 = t237 then ((customslaw01_awake.f kj8).bind fun t251 => (some t251)) else (some false)) else (some false))) else (if t235 = t233 then (if t237 = t231 then (if t235 = t237 then ((customslaw01_awake.f kj8).bind fun t252 => (some t252)) else (some false)) else (if t237 = t233 then (if t235 = t237 then ((customslaw01_awake.f kj8).bind fun t253 => (some t253)) else (some false)) else (some false))) else (some false))))) else (some false)) else (some false))) = some r := H
        have A22 := Aside0.mk A220
        clear A220
        by_cases c23 : t241 > 0
        · rw [if_pos c23] at H
          have c23b0 : decide (0 < t241) = true := decide_eq_true c23
          clear c23
          by_cases c24 : t236 = 0
          · rw [if_pos c24] at H
            have c24b0 : (t236 == 0) = true := beq_iff_eq.mpr c24
            have c24b1 : (t236 != 0) = false := bne_eq_false_iff_eq.mpr c24
            clear c24
            by_cases c25 : t238 = 0
            · rw [if_pos c25] at H
              have c25b0 : (t238 == 0) = true := beq_iff_eq.mpr c25
              have c25b1 : (t238 != 0) = false := bne_eq_false_iff_eq.mpr c25
              clear c25
              by_cases c26 : (IntKind.u64.wrap (t233 - t231)) > 1
              · rw [if_pos c26] at H
                have c26b0 : decide (1 < (IntKind.u64.wrap (t233 - t231))) = true := decide_eq_true c26
                clear c26
                obtain rfl := Option.some.inj H
                go_wp2_with (first | ((with_reducible refine gate_callee (f := 25) rfl ?_); refine goesL_ (some 65) rfl rfl Try.func25 (by kernel_rfl) rfl #[.int .u64 a0, .int .u64 a1, .int .u64 ji4] rfl (by (try simp only [List.map_toArray, List.map_cons, List.map_nil]); first | done | (simp only [hji4]; rfl) | rfl | (simp only [List.length_drop, List.length_take]; rfl)) ?_; (with_reducible refine (exact_MulMod.calls kj8 a0 a1 ji4 t241 _ A22.out).mono ?_); rintro e w27 ⟨rfl, hb⟩; refine ⟨_, rfl, ?_⟩; have n0_ := Aside0.mk (below_step (by repeat (first | (with_reducible first | exact HB.out | apply below_alloc | apply pw_below_drewN | apply below_drew1) | exact HB.out)) hb); clear HB; have HB := n0_; clear n0_; (try clear hb); (try clear hb2); (try clear hk); (try clear hi)))
                go_ret
                exact ⟨by first | rfl | (simp [errW_none, errW_some] <;> rfl) | (simp only [← hji4]; first | rfl | (simp [errW_none, errW_some] <;> rfl)) | (simp [*, errW_none, errW_some] <;> rfl) | (simp (disch := first | assumption | omega) only [Int.tdiv_eq_ediv_of_nonneg, Int.tmod_eq_emod_of_nonneg]; rfl), by repeat (first | (with_reducible first | exact HB.out | apply below_alloc | apply pw_below_drewN | apply below_drew1) | exact HB.out)⟩
              · rw [if_neg c26] at H
                have c26b0 : decide (1 < (IntKind.u64.wrap (t233 - t231))) = false := decide_eq_false c26
                clear c26
                by_cases c28 : ((t233 == t231) != (t241 == 0)) = true
                · rw [if_pos c28] at H
                  have c28b0 : ((t233 == t231) != (t241 == 0)) = true := c28
                  (try (have c28b1 : decide ((t233 == t231) = (t241 == 0)) = false := by simpa using c28))
                  (try (have c28b2 : ((t233 == t231) == (t241 == 0)) = false := by simpa using c28))
                  (try (have c28b3 : ¬ ((t233 == t231) = (t241 == 0)) := by simpa using c28))
                  clear c28
                  obtain rfl := Option.some.inj H
                  go_wp2_with (first | ((with_reducible refine gate_callee (f := 25) rfl ?_); refine goesL_ (some 65) rfl rfl Try.func25 (by kernel_rfl) rfl #[.int .u64 a0, .int .u64 a1, .int .u64 ji4] rfl (by (try simp only [List.map_toArray, List.map_cons, List.map_nil]); first | done | (simp only [hji4]; rfl) | rfl | (simp only [List.length_drop, List.length_take]; rfl)) ?_; (with_reducible refine (exact_MulMod.calls kj8 a0 a1 ji4 t241 _ A22.out).mono ?_); rintro e w29 ⟨rfl, hb⟩; refine ⟨_, rfl, ?_⟩; have n0_ := Aside0.mk (below_step (by repeat (first | (with_reducible first | exact HB.out | apply below_alloc | apply pw_below_drewN | apply below_drew1) | exact HB.out)) hb); clear HB; have HB := n0_; clear n0_; (try clear hb); (try clear hb2); (try clear hk); (try clear hi)))
                  go_ret
                  exact ⟨by first | rfl | (simp [errW_none, errW_some] <;> rfl) | (simp only [← hji4]; first | rfl | (simp [errW_none, errW_some] <;> rfl)) | (simp [*, errW_none, errW_some] <;> rfl) | (simp (disch := first | assumption | omega) only [Int.tdiv_eq_ediv_of_nonneg, Int.tmod_eq_emod_of_nonneg]; rfl), by repeat (first | (with_reducible first | exact HB.out | apply below_alloc | apply pw_below_drewN | apply below_drew1) | exact HB.out)⟩
                · rw [if_neg c28] at H
                  have c28b0 : ((t233 == t231) != (t241 == 0)) = false := by simpa using c28
                  (try (have c28b1 : decide ((t233 == t231) = (t241 == 0)) = true := by simpa using c28))
                  (try (have c28b2 : ((t233 == t231) == (t241 == 0)) = true := by simpa using c28))
                  clear c28
                  by_cases c30 : t235 = t231
                  · rw [if_pos c30] at H
                    have c30b0 : (t235 == t231) = true := beq_iff_eq.mpr c30
                    have c30b1 : (t235 != t231) = false := bne_eq_false_iff_eq.mpr c30
                    clear c30
                    by_cases c31 : t237 = t231
                    · rw [if_pos c31] at H
                      have c31b0 : (t237 == t231) = true := beq_iff_eq.mpr c31
                      have c31b1 : (t237 != t231) = false := bne_eq_false_iff_eq.mpr c31
                      clear c31
                      by_cases c32 : t241 = (IntKind.u64.wrap (ji4 - t241))
                      · rw [if_pos c32] at H
                        have c32b0 : (t241 == (IntKind.u64.wrap (ji4 - t241))) = true := beq_iff_eq.mpr c32
                        have c32b1 : (t241 != (IntKind.u64.wrap (ji4 - t241))) = false := bne_eq_false_iff_eq.mpr c32
                        clear c32
                        by_cases c33 : t235 = t233
                        · rw [if_pos c33] at H
                          have c33b0 : (t235 == t233) = true := beq_iff_eq.mpr c33
                          have c33b1 : (t235 != t233) = false := bne_eq_false_iff_eq.mpr c33
                          clear c33
                          by_cases c34 : (Go.bits .and .u64 t237 1) = 0
                          · rw [if_pos c34] at H
                            have c34b0 : ((Go.bits .and .u64 t237 1) == 0) = true := beq_iff_eq.mpr c34
                            have c34b1 : ((Go.bits .and .u64 t237 1) != 0) = false := bne_eq_false_iff_eq.mpr c34
                            clear c34
                            replace H := Option.bind_eq_some_iff.mp H
                            obtain ⟨t242, A350, H⟩ := H
                            replace H : (some t242) = some r := H
                            have A35 := Aside0.mk A350
                            clear A350
                            obtain rfl := Option.some.inj H
                            go_wp2_with (first | ((with_reducible refine gate_callee (f := 25) rfl ?_); refine goesL_ (some 65) rfl rfl Try.func25 (by kernel_rfl) rfl #[.int .u64 a0, .int .u64 a1, .int .u64 ji4] rfl (by (try simp only [List.map_toArray, List.map_cons, List.map_nil]); first | done | (simp only [hji4]; rfl) | rfl | (simp only [List.length_drop, List.length_take]; rfl)) ?_; (with_reducible refine (exact_MulMod.calls kj8 a0 a1 ji4 t241 _ A22.out).mono ?_); rintro e w36 ⟨rfl, hb⟩; refine ⟨_, rfl, ?_⟩; have n0_ := Aside0.mk (below_step (by repeat (first | (with_reducible first | exact HB.out | apply below_alloc | apply pw_below_drewN | apply below_drew1) | exact HB.out)) hb); clear HB; have HB := n0_; clear n0_; (try clear hb); (try clear hb2); (try clear hk); (try clear hi)) | (go_at_call 13; (with_reducible refine (customslaw01_awake.calls kj8  t242 _ A35.out).mono ?_); rintro e w37 ⟨rfl, hb⟩; have n0_ := Aside0.mk (below_step (by repeat (first | (with_reducible first | exact HB.out | apply below_alloc | apply pw_below_drewN | apply below_drew1) | exact HB.out)) hb); clear HB; have HB := n0_; clear n0_; (try clear hb); (try clear hb2); (try clear hk); (try clear hi)))
                            go_ret
                            exact ⟨by first | rfl | (simp [errW_none, errW_some] <;> rfl) | (simp only [← hji4]; first | rfl | (simp [errW_none, errW_some] <;> rfl)) | (simp [*, errW_none, errW_some] <;> rfl) | (simp (disch := first | assumption | omega) only [Int.tdiv_eq_ediv_of_nonneg, Int.tmod_eq_emod_of_nonneg]; rfl), by repeat (first | (with_reducible first | exact HB.out | apply below_alloc | apply pw_below_drewN | apply below_drew1) | exact HB.out)⟩
                          · rw [if_neg c34] at H
                            have c34b0 : ((Go.bits .and .u64 t237 1) == 0) = false := beq_eq_false_iff_ne.mpr c34
                            have c34b1 : ((Go.bits .and .u64 t237 1) != 0) = true := bne_iff_ne.mpr c34
                            obtain rfl := Option.some.inj H
                            go_wp2_with (first | ((with_reducible refine gate_callee (f := 25) rfl ?_); refine goesL_ (some 65) rfl rfl Try.func25 (by kernel_rfl) rfl #[.int .u64 a0, .int .u64 a1, .int .u64 ji4] rfl (by (try simp only [List.map_toArray, List.map_cons, List.map_nil]); first | done | (simp only [hji4]; rfl) | rfl | (simp only [List.length_drop, List.length_take]; rfl)) ?_; (with_reducible refine (exact_MulMod.calls kj8 a0 a1 ji4 t241 _ A22.out).mono ?_); rintro e w38 ⟨rfl, hb⟩; refine ⟨_, rfl, ?_⟩; have n0_ := Aside0.mk (below_step (by repeat (first | (with_reducible first | exact HB.out | apply below_alloc | apply pw_below_drewN | apply below_drew1) | exact HB.out)) hb); clear HB; have HB := n0_; clear n0_; (try clear hb); (try clear hb2); (try clear hk); (try clear hi)))
                            go_ret
                            exact ⟨by first | rfl | (simp [errW_none, errW_some] <;> rfl) | (simp only [← hji4]; first | rfl | (simp [errW_none, errW_some] <;> rfl)) | (simp [*, errW_none, errW_some] <;> rfl) | (simp (disch := first | assumption | omega) only [Int.tdiv_eq_ediv_of_nonneg, Int.tmod_eq_emod_of_nonneg]; rfl), by repeat (first | (with_reducible first | exact HB.out | apply below_alloc | apply pw_below_drewN | apply below_drew1) | exact HB.out)⟩
                        · rw [if_neg c33] at H
                          have c33b0 : (t235 == t233) = false := beq_eq_false_iff_ne.mpr c33
                          have c33b1 : (t235 != t233) = true := bne_iff_ne.mpr c33
                          obtain rfl := Option.some.inj H
                          go_wp2_with (first | ((with_reducible refine gate_callee (f := 25) rfl ?_); refine goesL_ (some 65) rfl rfl Try.func25 (by kernel_rfl) rfl #[.int .u64 a0, .int .u64 a1, .int .u64 ji4] rfl (by (try simp only [List.map_toArray, List.map_cons, List.map_nil]); first | done | (simp only [hji4]; rfl) | rfl | (simp only [List.length_drop, List.length_take]; rfl)) ?_; (with_reducible refine (exact_MulMod.calls kj8 a0 a1 ji4 t241 _ A22.out).mono ?_); rintro e w39 ⟨rfl, hb⟩; refine ⟨_, rfl, ?_⟩; have n0_ := Aside0.mk (below_step (by repeat (first | (with_reducible first | exact HB.out | apply below_alloc | apply pw_below_drewN | apply below_drew1) | exact HB.out)) hb); clear HB; have HB := n0_; clear n0_; (try clear hb); (try clear hb2); (try clear hk); (try clear hi)))
                          go_ret
                          exact ⟨by first | rfl | (simp [errW_none, errW_some] <;> rfl) | (simp only [← hji4]; first | rfl | (simp [errW_none, errW_some] <;> rfl)) | (simp [*, errW_none, errW_some] <;> rfl) | (simp (disch := first | assumption | omega) only [Int.tdiv_eq_ediv_of_nonneg, Int.tmod_eq_emod_of_nonneg]; rfl), by repeat (first | (with_reducible first | exact HB.out | apply below_alloc | apply pw_below_drewN | apply below_drew1) | exact HB.out)⟩
                      · rw [if_neg c32] at H
                        have c32b0 : (t241 == (IntKind.u64.wrap (ji4 - t241))) = false := beq_eq_false_iff_ne.mpr c32
                        have c32b1 : (t241 != (IntKind.u64.wrap (ji4 - t241))) = true := bne_iff_ne.mpr c32
                        by_cases c40 : t235 = t237
                        · rw [if_pos c40] at H
                          have c40b0 : (t235 == t237) = true := beq_iff_eq.mpr c40
                          have c40b1 : (t235 != t237) = false := bne_eq_false_iff_eq.mpr c40
                          clear c40
                          replace H := Option.bind_eq_some_iff.mp H
                          obtain ⟨t243, A410, H⟩ := H
                          replace H : (some t243) = some r := H
                          have A41 := Aside0.mk A410
                          clear A410
                          obtain rfl := Option.some.inj H
                          go_wp2_with (first | ((with_reducible refine gate_callee (f := 25) rfl ?_); refine goesL_ (some 65) rfl rfl Try.func25 (by kernel_rfl) rfl #[.int .u64 a0, .int .u64 a1, .int .u64 ji4] rfl (by (try simp only [List.map_toArray, List.map_cons, List.map_nil]); first | done | (simp only [hji4]; rfl) | rfl | (simp only [List.length_drop, List.length_take]; rfl)) ?_; (with_reducible refine (exact_MulMod.calls kj8 a0 a1 ji4 t241 _ A22.out).mono ?_); rintro e w42 ⟨rfl, hb⟩; refine ⟨_, rfl, ?_⟩; have n0_ := Aside0.mk (below_step (by repeat (first | (with_reducible first | exact HB.out | apply below_alloc | apply pw_below_drewN | apply below_drew1) | exact HB.out)) hb); clear HB; have HB := n0_; clear n0_; (try clear hb); (try clear hb2); (try clear hk); (try clear hi)) | (go_at_call 13; (with_reducible refine (customslaw01_awake.calls kj8  t243 _ A41.out).mono ?_); rintro e w43 ⟨rfl, hb⟩; have n0_ := Aside0.mk (below_step (by repeat (first | (with_reducible first | exact HB.out | apply below_alloc | apply pw_below_drewN | apply below_drew1) | exact HB.out)) hb); clear HB; have HB := n0_; clear n0_; (try clear hb); (try clear hb2); (try clear hk); (try clear hi)))
                          go_ret
                          exact ⟨by first | rfl | (simp [errW_none, errW_some] <;> rfl) | (simp only [← hji4]; first | rfl | (simp [errW_none, errW_some] <;> rfl)) | (simp [*, errW_none, errW_some] <;> rfl) | (simp (disch := first | assumption | omega) only [Int.tdiv_eq_ediv_of_nonneg, Int.tmod_eq_emod_of_nonneg]; rfl), by repeat (first | (with_reducible first | exact HB.out | apply below_alloc | apply pw_below_drewN | apply below_drew1) | exact HB.out)⟩
                        · rw [if_neg c40] at H
                          have c40b0 : (t235 == t237) = false := beq_eq_false_iff_ne.mpr c40
                          have c40b1 : (t235 != t237) = true := bne_iff_ne.mpr c40
                          obtain rfl := Option.some.inj H
                          go_wp2_with (first | ((with_reducible refine gate_callee (f := 25) rfl ?_); refine goesL_ (some 65) rfl rfl Try.func25 (by kernel_rfl) rfl #[.int .u64 a0, .int .u64 a1, .int .u64 ji4] rfl (by (try simp only [List.map_toArray, List.map_cons, List.map_nil]); first | done | (simp only [hji4]; rfl) | rfl | (simp only [List.length_drop, List.length_take]; rfl)) ?_; (with_reducible refine (exact_MulMod.calls kj8 a0 a1 ji4 t241 _ A22.out).mono ?_); rintro e w44 ⟨rfl, hb⟩; refine ⟨_, rfl, ?_⟩; have n0_ := Aside0.mk (below_step (by repeat (first | (with_reducible first | exact HB.out | apply below_alloc | apply pw_below_drewN | apply below_drew1) | exact HB.out)) hb); clear HB; have HB := n0_; clear n0_; (try clear hb); (try clear hb2); (try clear hk); (try clear hi)))
                          go_ret
                          exact ⟨by first | rfl | (simp [errW_none, errW_some] <;> rfl) | (simp only [← hji4]; first | rfl | (simp [errW_none, errW_some] <;> rfl)) | (simp [*, errW_none, errW_some] <;> rfl) | (simp (disch := first | assumption | omega) only [Int.tdiv_eq_ediv_of_nonneg, Int.tmod_eq_emod_of_nonneg]; rfl), by repeat (first | (with_reducible first | exact HB.out | apply below_alloc | apply pw_below_drewN | apply below_drew1) | exact HB.out)⟩
                    · rw [if_neg c31] at H
                      have c31b0 : (t237 == t231) = false := beq_eq_false_iff_ne.mpr c31
                      have c31b1 : (t237 != t231) = true := bne_iff_ne.mpr c31
                      by_cases c45 : t237 = t233
                      · rw [if_pos c45] at H
                        have c45b0 : (t237 == t233) = true := beq_iff_eq.mpr c45
                        have c45b1 : (t237 != t233) = false := bne_eq_false_iff_eq.mpr c45
                        clear c45
                        by_cases c46 : t241 = (IntKind.u64.wrap (ji4 - t241))
                        · rw [if_pos c46] at H
                          have c46b0 : (t241 == (IntKind.u64.wrap (ji4 - t241))) = true := beq_iff_eq.mpr c46
                          have c46b1 : (t241 != (IntKind.u64.wrap (ji4 - t241))) = false := bne_eq_false_iff_eq.mpr c46
                          clear c46
                          by_cases c47 : t235 = t233
                          · rw [if_pos c47] at H
                            have c47b0 : (t235 == t233) = true := beq_iff_eq.mpr c47
                            have c47b1 : (t235 != t233) = false := bne_eq_false_iff_eq.mpr c47
                            clear c47
                            by_cases c48 : (Go.bits .and .u64 t237 1) = 0
                            · rw [if_pos c48] at H
                              have c48b0 : ((Go.bits .and .u64 t237 1) == 0) = true := beq_iff_eq.mpr c48
                              have c48b1 : ((Go.bits .and .u64 t237 1) != 0) = false := bne_eq_false_iff_eq.mpr c48
                              clear c48
                              replace H := Option.bind_eq_some_iff.mp H
                              obtain ⟨t244, A490, H⟩ := H
                              replace H : (some t244) = some r := H
                              have A49 := Aside0.mk A490
                              clear A490
                              obtain rfl := Option.some.inj H
                              go_wp2_with (first | ((with_reducible refine gate_callee (f := 25) rfl ?_); refine goesL_ (some 65) rfl rfl Try.func25 (by kernel_rfl) rfl #[.int .u64 a0, .int .u64 a1, .int .u64 ji4] rfl (by (try simp only [List.map_toArray, List.map_cons, List.map_nil]); first | done | (simp only [hji4]; rfl) | rfl | (simp only [List.length_drop, List.length_take]; rfl)) ?_; (with_reducible refine (exact_MulMod.calls kj8 a0 a1 ji4 t241 _ A22.out).mono ?_); rintro e w50 ⟨rfl, hb⟩; refine ⟨_, rfl, ?_⟩; have n0_ := Aside0.mk (below_step (by repeat (first | (with_reducible first | exact HB.out | apply below_alloc | apply pw_below_drewN | apply below_drew1) | exact HB.out)) hb); clear HB; have HB := n0_; clear n0_; (try clear hb); (try clear hb2); (try clear hk); (try clear hi)) | (go_at_call 13; (with_reducible refine (customslaw01_awake.calls kj8  t244 _ A49.out).mono ?_); rintro e w51 ⟨rfl, hb⟩; have n0_ := Aside0.mk (below_step (by repeat (first | (with_reducible first | exact HB.out | apply below_alloc | apply pw_below_drewN | apply below_drew1) | exact HB.out)) hb); clear HB; have HB := n0_; clear n0_; (try clear hb); (try clear hb2); (try clear hk); (try clear hi)))
                              go_ret
                              exact ⟨by first | rfl | (simp [errW_none, errW_some] <;> rfl) | (simp only [← hji4]; first | rfl | (simp [errW_none, errW_some] <;> rfl)) | (simp [*, errW_none, errW_some] <;> rfl) | (simp (disch := first | assumption | omega) only [Int.tdiv_eq_ediv_of_nonneg, Int.tmod_eq_emod_of_nonneg]; rfl), by repeat (first | (with_reducible first | exact HB.out | apply below_alloc | apply pw_below_drewN | apply below_drew1) | exact HB.out)⟩
                            · rw [if_neg c48] at H
                              have c48b0 : ((Go.bits .and .u64 t237 1) == 0) = false := beq_eq_false_iff_ne.mpr c48
                              have c48b1 : ((Go.bits .and .u64 t237 1) != 0) = true := bne_iff_ne.mpr c48
                              obtain rfl := Option.some.inj H
                              go_wp2_with (first | ((with_reducible refine gate_callee (f := 25) rfl ?_); refine goesL_ (some 65) rfl rfl Try.func25 (by kernel_rfl) rfl #[.int .u64 a0, .int .u64 a1, .int .u64 ji4] rfl (by (try simp only [List.map_toArray, List.map_cons, List.map_nil]); first | done | (simp only [hji4]; rfl) | rfl | (simp only [List.length_drop, List.length_take]; rfl)) ?_; (with_reducible refine (exact_MulMod.calls kj8 a0 a1 ji4 t241 _ A22.out).mono ?_); rintro e w52 ⟨rfl, hb⟩; refine ⟨_, rfl, ?_⟩; have n0_ := Aside0.mk (below_step (by repeat (first | (with_reducible first | exact HB.out | apply below_alloc | apply pw_below_drewN | apply below_drew1) | exact HB.out)) hb); clear HB; have HB := n0_; clear n0_; (try clear hb); (try clear hb2); (try clear hk); (try clear hi)))
                              go_ret
                              exact ⟨by first | rfl | (simp [errW_none, errW_some] <;> rfl) | (simp only [← hji4]; first | rfl | (simp [errW_none, errW_some] <;> rfl)) | (simp [*, errW_none, errW_some] <;> rfl) | (simp (disch := first | assumption | omega) only [Int.tdiv_eq_ediv_of_nonneg, Int.tmod_eq_emod_of_nonneg]; rfl), by repeat (first | (with_reducible first | exact HB.out | apply below_alloc | apply pw_below_drewN | apply below_drew1) | exact HB.out)⟩
                          · rw [if_neg c47] at H
                            have c47b0 : (t235 == t233) = false := beq_eq_false_iff_ne.mpr c47
                            have c47b1 : (t235 != t233) = true := bne_iff_ne.mpr c47
                            obtain rfl := Option.some.inj H
                            go_wp2_with (first | ((with_reducible refine gate_callee (f := 25) rfl ?_); refine goesL_ (some 65) rfl rfl Try.func25 (by kernel_rfl) rfl #[.int .u64 a0, .int .u64 a1, .int .u64 ji4] rfl (by (try simp only [List.map_toArray, List.map_cons, List.map_nil]); first | done | (simp only [hji4]; rfl) | rfl | (simp only [List.length_drop, List.length_take]; rfl)) ?_; (with_reducible refine (exact_MulMod.calls kj8 a0 a1 ji4 t241 _ A22.out).mono ?_); rintro e w53 ⟨rfl, hb⟩; refine ⟨_, rfl, ?_⟩; have n0_ := Aside0.mk (below_step (by repeat (first | (with_reducible first | exact HB.out | apply below_alloc | apply pw_below_drewN | apply below_drew1) | exact HB.out)) hb); clear HB; have HB := n0_; clear n0_; (try clear hb); (try clear hb2); (try clear hk); (try clear hi)))
                            go_ret
                            exact ⟨by first | rfl | (simp [errW_none, errW_some] <;> rfl) | (simp only [← hji4]; first | rfl | (simp [errW_none, errW_some] <;> rfl)) | (simp [*, errW_none, errW_some] <;> rfl) | (simp (disch := first | assumption | omega) only [Int.tdiv_eq_ediv_of_nonneg, Int.tmod_eq_emod_of_nonneg]; rfl), by repeat (first | (with_reducible first | exact HB.out | apply below_alloc | apply pw_below_drewN | apply below_drew1) | exact HB.out)⟩
                        · rw [if_neg c46] at H
                          have c46b0 : (t241 == (IntKind.u64.wrap (ji4 - t241))) = false := beq_eq_false_iff_ne.mpr c46
                          have c46b1 : (t241 != (IntKind.u64.wrap (ji4 - t241))) = true := bne_iff_ne.mpr c46
                          by_cases c54 : t235 = t237
                          · rw [if_pos c54] at H
                            have c54b0 : (t235 == t237) = true := beq_iff_eq.mpr c54
                            have c54b1 : (t235 != t237) = false := bne_eq_false_iff_eq.mpr c54
                            clear c54
                            replace H := Option.bind_eq_some_iff.mp H
                            obtain ⟨t245, A550, H⟩ := H
                            replace H : (some t245) = some r := H
                            have A55 := Aside0.mk A550
                            clear A550
                            obtain rfl := Option.some.inj H
                            go_wp2_with (first | ((with_reducible refine gate_callee (f := 25) rfl ?_); refine goesL_ (some 65) rfl rfl Try.func25 (by kernel_rfl) rfl #[.int .u64 a0, .int .u64 a1, .int .u64 ji4] rfl (by (try simp only [List.map_toArray, List.map_cons, List.map_nil]); first | done | (simp only [hji4]; rfl) | rfl | (simp only [List.length_drop, List.length_take]; rfl)) ?_; (with_reducible refine (exact_MulMod.calls kj8 a0 a1 ji4 t241 _ A22.out).mono ?_); rintro e w56 ⟨rfl, hb⟩; refine ⟨_, rfl, ?_⟩; have n0_ := Aside0.mk (below_step (by repeat (first | (with_reducible first | exact HB.out | apply below_alloc | apply pw_below_drewN | apply below_drew1) | exact HB.out)) hb); clear HB; have HB := n0_; clear n0_; (try clear hb); (try clear hb2); (try clear hk); (try clear hi)) | (go_at_call 13; (with_reducible refine (customslaw01_awake.calls kj8  t245 _ A55.out).mono ?_); rintro e w57 ⟨rfl, hb⟩; have n0_ := Aside0.mk (below_step (by repeat (first | (with_reducible first | exact HB.out | apply below_alloc | apply pw_below_drewN | apply below_drew1) | exact HB.out)) hb); clear HB; have HB := n0_; clear n0_; (try clear hb); (try clear hb2); (try clear hk); (try clear hi)))
                            go_ret
                            exact ⟨by first | rfl | (simp [errW_none, errW_some] <;> rfl) | (simp only [← hji4]; first | rfl | (simp [errW_none, errW_some] <;> rfl)) | (simp [*, errW_none, errW_some] <;> rfl) | (simp (disch := first | assumption | omega) only [Int.tdiv_eq_ediv_of_nonneg, Int.tmod_eq_emod_of_nonneg]; rfl), by repeat (first | (with_reducible first | exact HB.out | apply below_alloc | apply pw_below_drewN | apply below_drew1) | exact HB.out)⟩
                          · rw [if_neg c54] at H
                            have c54b0 : (t235 == t237) = false := beq_eq_false_iff_ne.mpr c54
                            have c54b1 : (t235 != t237) = true := bne_iff_ne.mpr c54
                            obtain rfl := Option.some.inj H
                            go_wp2_with (first | ((with_reducible refine gate_callee (f := 25) rfl ?_); refine goesL_ (some 65) rfl rfl Try.func25 (by kernel_rfl) rfl #[.int .u64 a0, .int .u64 a1, .int .u64 ji4] rfl (by (try simp only [List.map_toArray, List.map_cons, List.map_nil]); first | done | (simp only [hji4]; rfl) | rfl | (simp only [List.length_drop, List.length_take]; rfl)) ?_; (with_reducible refine (exact_MulMod.calls kj8 a0 a1 ji4 t241 _ A22.out).mono ?_); rintro e w58 ⟨rfl, hb⟩; refine ⟨_, rfl, ?_⟩; have n0_ := Aside0.mk (below_step (by repeat (first | (with_reducible first | exact HB.out | apply below_alloc | apply pw_below_drewN | apply below_drew1) | exact HB.out)) hb); clear HB; have HB := n0_; clear n0_; (try clear hb); (try clear hb2); (try clear hk); (try clear hi)))
                            go_ret
                            exact ⟨by first | rfl | (simp [errW_none, errW_some] <;> rfl) | (simp only [← hji4]; first | rfl | (simp [errW_none, errW_some] <;> rfl)) | (simp [*, errW_none, errW_some] <;> rfl) | (simp (disch := first | assumption | omega) only [Int.tdiv_eq_ediv_of_nonneg, Int.tmod_eq_emod_of_nonneg]; rfl), by repeat (first | (with_reducible first | exact HB.out | apply below_alloc | apply pw_below_drewN | apply below_drew1) | exact HB.out)⟩
                      · rw [if_neg c45] at H
                        have c45b0 : (t237 == t233) = false := beq_eq_false_iff_ne.mpr c45
                        have c45b1 : (t237 != t233) = true := bne_iff_ne.mpr c45
                        obtain rfl := Option.some.inj H
                        go_wp2_with (first | ((with_reducible refine gate_callee (f := 25) rfl ?_); refine goesL_ (some 65) rfl rfl Try.func25 (by kernel_rfl) rfl #[.int .u64 a0, .int .u64 a1, .int .u64 ji4] rfl (by (try simp only [List.map_toArray, List.map_cons, List.map_nil]); first | done | (simp only [hji4]; rfl) | rfl | (simp only [List.length_drop, List.length_take]; rfl)) ?_; (with_reducible refine (exact_MulMod.calls kj8 a0 a1 ji4 t241 _ A22.out).mono ?_); rintro e w59 ⟨rfl, hb⟩; refine ⟨_, rfl, ?_⟩; have n0_ := Aside0.mk (below_step (by repeat (first | (with_reducible first | exact HB.out | apply below_alloc | apply pw_below_drewN | apply below_drew1) | exact HB.out)) hb); clear HB; have HB := n0_; clear n0_; (try clear hb); (try clear hb2); (try clear hk); (try clear hi)))
                        go_ret
                        exact ⟨by first | rfl | (simp [errW_none, errW_some] <;> rfl) | (simp only [← hji4]; first | rfl | (simp [errW_none, errW_some] <;> rfl)) | (simp [*, errW_none, errW_some] <;> rfl) | (simp (disch := first | assumption | omega) only [Int.tdiv_eq_ediv_of_nonneg, Int.tmod_eq_emod_of_nonneg]; rfl), by repeat (first | (with_reducible first | exact HB.out | apply below_alloc | apply pw_below_drewN | apply below_drew1) | exact HB.out)⟩
                  · rw [if_neg c30] at H
                    have c30b0 : (t235 == t231) = false := beq_eq_false_iff_ne.mpr c30
                    have c30b1 : (t235 != t231) = true := bne_iff_ne.mpr c30
                    by_cases c60 : t235 = t233
                    · rw [if_pos c60] at H
                      have c60b0 : (t235 == t233) = true := beq_iff_eq.mpr c60
                      have c60b1 : (t235 != t233) = false := bne_eq_false_iff_eq.mpr c60
                      clear c60
                      by_cases c61 : t237 = t231
                      · rw [if_pos c61] at H
                        have c61b0 : (t237 == t231) = true := beq_iff_eq.mpr c61
                        have c61b1 : (t237 != t231) = false := bne_eq_false_iff_eq.mpr c61
                        clear c61
                        by_cases c62 : t241 = (IntKind.u64.wrap (ji4 - t241))
                        · rw [if_pos c62] at H
                          have c62b0 : (t241 == (IntKind.u64.wrap (ji4 - t241))) = true := beq_iff_eq.mpr c62
                          have c62b1 : (t241 != (IntKind.u64.wrap (ji4 - t241))) = false := bne_eq_false_iff_eq.mpr c62
                          clear c62
                          by_cases c63 : (Go.bits .and .u64 t237 1) = 0
                          · rw [if_pos c63] at H
                            have c63b0 : ((Go.bits .and .u64 t237 1) == 0) = true := beq_iff_eq.mpr c63
                            have c63b1 : ((Go.bits .and .u64 t237 1) != 0) = false := bne_eq_false_iff_eq.mpr c63
                            clear c63
                            replace H := Option.bind_eq_some_iff.mp H
                            obtain ⟨t246, A640, H⟩ := H
                            replace H : (some t246) = some r := H
                            have A64 := Aside0.mk A640
                            clear A640
                            obtain rfl := Option.some.inj H
                            go_wp2_with (first | ((with_reducible refine gate_callee (f := 25) rfl ?_); refine goesL_ (some 65) rfl rfl Try.func25 (by kernel_rfl) rfl #[.int .u64 a0, .int .u64 a1, .int .u64 ji4] rfl (by (try simp only [List.map_toArray, List.map_cons, List.map_nil]); first | done | (simp only [hji4]; rfl) | rfl | (simp only [List.length_drop, List.length_take]; rfl)) ?_; (with_reducible refine (exact_MulMod.calls kj8 a0 a1 ji4 t241 _ A22.out).mono ?_); rintro e w65 ⟨rfl, hb⟩; refine ⟨_, rfl, ?_⟩; have n0_ := Aside0.mk (below_step (by repeat (first | (with_reducible first | exact HB.out | apply below_alloc | apply pw_below_drewN | apply below_drew1) | exact HB.out)) hb); clear HB; have HB := n0_; clear n0_; (try clear hb); (try clear hb2); (try clear hk); (try clear hi)) | (go_at_call 13; (with_reducible refine (customslaw01_awake.calls kj8  t246 _ A64.out).mono ?_); rintro e w66 ⟨rfl, hb⟩; have n0_ := Aside0.mk (below_step (by repeat (first | (with_reducible first | exact HB.out | apply below_alloc | apply pw_below_drewN | apply below_drew1) | exact HB.out)) hb); clear HB; have HB := n0_; clear n0_; (try clear hb); (try clear hb2); (try clear hk); (try clear hi)))
                            go_ret
                            exact ⟨by first | rfl | (simp [errW_none, errW_some] <;> rfl) | (simp only [← hji4]; first | rfl | (simp [errW_none, errW_some] <;> rfl)) | (simp [*, errW_none, errW_some] <;> rfl) | (simp (disch := first | assumption | omega) only [Int.tdiv_eq_ediv_of_nonneg, Int.tmod_eq_emod_of_nonneg]; rfl), by repeat (first | (with_reducible first | exact HB.out | apply below_alloc | apply pw_below_drewN | apply below_drew1) | exact HB.out)⟩
                          · rw [if_neg c63] at H
                            have c63b0 : ((Go.bits .and .u64 t237 1) == 0) = false := beq_eq_false_iff_ne.mpr c63
                            have c63b1 : ((Go.bits .and .u64 t237 1) != 0) = true := bne_iff_ne.mpr c63
                            obtain rfl := Option.some.inj H
                            go_wp2_with (first | ((with_reducible refine gate_callee (f := 25) rfl ?_); refine goesL_ (some 65) rfl rfl Try.func25 (by kernel_rfl) rfl #[.int .u64 a0, .int .u64 a1, .int .u64 ji4] rfl (by (try simp only [List.map_toArray, List.map_cons, List.map_nil]); first | done | (simp only [hji4]; rfl) | rfl | (simp only [List.length_drop, List.length_take]; rfl)) ?_; (with_reducible refine (exact_MulMod.calls kj8 a0 a1 ji4 t241 _ A22.out).mono ?_); rintro e w67 ⟨rfl, hb⟩; refine ⟨_, rfl, ?_⟩; have n0_ := Aside0.mk (below_step (by repeat (first | (with_reducible first | exact HB.out | apply below_alloc | apply pw_below_drewN | apply below_drew1) | exact HB.out)) hb); clear HB; have HB := n0_; clear n0_; (try clear hb); (try clear hb2); (try clear hk); (try clear hi)))
                            go_ret
                            exact ⟨by first | rfl | (simp [errW_none, errW_some] <;> rfl) | (simp only [← hji4]; first | rfl | (simp [errW_none, errW_some] <;> rfl)) | (simp [*, errW_none, errW_some] <;> rfl) | (simp (disch := first | assumption | omega) only [Int.tdiv_eq_ediv_of_nonneg, Int.tmod_eq_emod_of_nonneg]; rfl), by repeat (first | (with_reducible first | exact HB.out | apply below_alloc | apply pw_below_drewN | apply below_drew1) | exact HB.out)⟩
                        · rw [if_neg c62] at H
                          have c62b0 : (t241 == (IntKind.u64.wrap (ji4 - t241))) = false := beq_eq_false_iff_ne.mpr c62
                          have c62b1 : (t241 != (IntKind.u64.wrap (ji4 - t241))) = true := bne_iff_ne.mpr c62
                          by_cases c68 : t235 = t237
                          · rw [if_pos c68] at H
                            have c68b0 : (t235 == t237) = true := beq_iff_eq.mpr c68
                            have c68b1 : (t235 != t237) = false := bne_eq_false_iff_eq.mpr c68
                            clear c68
                            replace H := Option.bind_eq_some_iff.mp H
                            obtain ⟨t247, A690, H⟩ := H
                            replace H : (some t247) = some r := H
                            have A69 := Aside0.mk A690
                            clear A690
                            obtain rfl := Option.some.inj H
                            go_wp2_with (first | ((with_reducible refine gate_callee (f := 25) rfl ?_); refine goesL_ (some 65) rfl rfl Try.func25 (by kernel_rfl) rfl #[.int .u64 a0, .int .u64 a1, .int .u64 ji4] rfl (by (try simp only [List.map_toArray, List.map_cons, List.map_nil]); first | done | (simp only [hji4]; rfl) | rfl | (simp only [List.length_drop, List.length_take]; rfl)) ?_; (with_reducible refine (exact_MulMod.calls kj8 a0 a1 ji4 t241 _ A22.out).mono ?_); rintro e w70 ⟨rfl, hb⟩; refine ⟨_, rfl, ?_⟩; have n0_ := Aside0.mk (below_step (by repeat (first | (with_reducible first | exact HB.out | apply below_alloc | apply pw_below_drewN | apply below_drew1) | exact HB.out)) hb); clear HB; have HB := n0_; clear n0_; (try clear hb); (try clear hb2); (try clear hk); (try clear hi)) | (go_at_call 13; (with_reducible refine (customslaw01_awake.calls kj8  t247 _ A69.out).mono ?_); rintro e w71 ⟨rfl, hb⟩; have n0_ := Aside0.mk (below_step (by repeat (first | (with_reducible first | exact HB.out | apply below_alloc | apply pw_below_drewN | apply below_drew1) | exact HB.out)) hb); clear HB; have HB := n0_; clear n0_; (try clear hb); (try clear hb2); (try clear hk); (try clear hi)))
                            go_ret
                            exact ⟨by first | rfl | (simp [errW_none, errW_some] <;> rfl) | (simp only [← hji4]; first | rfl | (simp [errW_none, errW_some] <;> rfl)) | (simp [*, errW_none, errW_some] <;> rfl) | (simp (disch := first | assumption | omega) only [Int.tdiv_eq_ediv_of_nonneg, Int.tmod_eq_emod_of_nonneg]; rfl), by repeat (first | (with_reducible first | exact HB.out | apply below_alloc | apply pw_below_drewN | apply below_drew1) | exact HB.out)⟩
                          · rw [if_neg c68] at H
                            have c68b0 : (t235 == t237) = false := beq_eq_false_iff_ne.mpr c68
                            have c68b1 : (t235 != t237) = true := bne_iff_ne.mpr c68
                            obtain rfl := Option.some.inj H
                            go_wp2_with (first | ((with_reducible refine gate_callee (f := 25) rfl ?_); refine goesL_ (some 65) rfl rfl Try.func25 (by kernel_rfl) rfl #[.int .u64 a0, .int .u64 a1, .int .u64 ji4] rfl (by (try simp only [List.map_toArray, List.map_cons, List.map_nil]); first | done | (simp only [hji4]; rfl) | rfl | (simp only [List.length_drop, List.length_take]; rfl)) ?_; (with_reducible refine (exact_MulMod.calls kj8 a0 a1 ji4 t241 _ A22.out).mono ?_); rintro e w72 ⟨rfl, hb⟩; refine ⟨_, rfl, ?_⟩; have n0_ := Aside0.mk (below_step (by repeat (first | (with_reducible first | exact HB.out | apply below_alloc | apply pw_below_drewN | apply below_drew1) | exact HB.out)) hb); clear HB; have HB := n0_; clear n0_; (try clear hb); (try clear hb2); (try clear hk); (try clear hi)))
                            go_ret
                            exact ⟨by first | rfl | (simp [errW_none, errW_some] <;> rfl) | (simp only [← hji4]; first | rfl | (simp [errW_none, errW_some] <;> rfl)) | (simp [*, errW_none, errW_some] <;> rfl) | (simp (disch := first | assumption | omega) only [Int.tdiv_eq_ediv_of_nonneg, Int.tmod_eq_emod_of_nonneg]; rfl), by repeat (first | (with_reducible first | exact HB.out | apply below_alloc | apply pw_below_drewN | apply below_drew1) | exact HB.out)⟩
                      · rw [if_neg c61] at H
                        have c61b0 : (t237 == t231) = false := beq_eq_false_iff_ne.mpr c61
                        have c61b1 : (t237 != t231) = true := bne_iff_ne.mpr c61
                        by_cases c73 : t237 = t233
                        · rw [if_pos c73] at H
                          have c73b0 : (t237 == t233) = true := beq_iff_eq.mpr c73
                          have c73b1 : (t237 != t233) = false := bne_eq_false_iff_eq.mpr c73
                          clear c73
                          by_cases c74 : t241 = (IntKind.u64.wrap (ji4 - t241))
                          · rw [if_pos c74] at H
                            have c74b0 : (t241 == (IntKind.u64.wrap (ji4 - t241))) = true := beq_iff_eq.mpr c74
                            have c74b1 : (t241 != (IntKind.u64.wrap (ji4 - t241))) = false := bne_eq_false_iff_eq.mpr c74
                            clear c74
                            by_cases c75 : (Go.bits .and .u64 t237 1) = 0
                            · rw [if_pos c75] at H
                              have c75b0 : ((Go.bits .and .u64 t237 1) == 0) = true := beq_iff_eq.mpr c75
                              have c75b1 : ((Go.bits .and .u64 t237 1) != 0) = false := bne_eq_false_iff_eq.mpr c75
                              clear c75
                              replace H := Option.bind_eq_some_iff.mp H
                              obtain ⟨t248, A760, H⟩ := H
                              replace H : (some t248) = some r := H
                              have A76 := Aside0.mk A760
                              clear A760
                              obtain rfl := Option.some.inj H
                              go_wp2_with (first | ((with_reducible refine gate_callee (f := 25) rfl ?_); refine goesL_ (some 65) rfl rfl Try.func25 (by kernel_rfl) rfl #[.int .u64 a0, .int .u64 a1, .int .u64 ji4] rfl (by (try simp only [List.map_toArray, List.map_cons, List.map_nil]); first | done | (simp only [hji4]; rfl) | rfl | (simp only [List.length_drop, List.length_take]; rfl)) ?_; (with_reducible refine (exact_MulMod.calls kj8 a0 a1 ji4 t241 _ A22.out).mono ?_); rintro e w77 ⟨rfl, hb⟩; refine ⟨_, rfl, ?_⟩; have n0_ := Aside0.mk (below_step (by repeat (first | (with_reducible first | exact HB.out | apply below_alloc | apply pw_below_drewN | apply below_drew1) | exact HB.out)) hb); clear HB; have HB := n0_; clear n0_; (try clear hb); (try clear hb2); (try clear hk); (try clear hi)) | (go_at_call 13; (with_reducible refine (customslaw01_awake.calls kj8  t248 _ A76.out).mono ?_); rintro e w78 ⟨rfl, hb⟩; have n0_ := Aside0.mk (below_step (by repeat (first | (with_reducible first | exact HB.out | apply below_alloc | apply pw_below_drewN | apply below_drew1) | exact HB.out)) hb); clear HB; have HB := n0_; clear n0_; (try clear hb); (try clear hb2); (try clear hk); (try clear hi)))
                              go_ret
                              exact ⟨by first | rfl | (simp [errW_none, errW_some] <;> rfl) | (simp only [← hji4]; first | rfl | (simp [errW_none, errW_some] <;> rfl)) | (simp [*, errW_none, errW_some] <;> rfl) | (simp (disch := first | assumption | omega) only [Int.tdiv_eq_ediv_of_nonneg, Int.tmod_eq_emod_of_nonneg]; rfl), by repeat (first | (with_reducible first | exact HB.out | apply below_alloc | apply pw_below_drewN | apply below_drew1) | exact HB.out)⟩
                            · rw [if_neg c75] at H
                              have c75b0 : ((Go.bits .and .u64 t237 1) == 0) = false := beq_eq_false_iff_ne.mpr c75
                              have c75b1 : ((Go.bits .and .u64 t237 1) != 0) = true := bne_iff_ne.mpr c75
                              obtain rfl := Option.some.inj H
                              go_wp2_with (first | ((with_reducible refine gate_callee (f := 25) rfl ?_); refine goesL_ (some 65) rfl rfl Try.func25 (by kernel_rfl) rfl #[.int .u64 a0, .int .u64 a1, .int .u64 ji4] rfl (by (try simp only [List.map_toArray, List.map_cons, List.map_nil]); first | done | (simp only [hji4]; rfl) | rfl | (simp only [List.length_drop, List.length_take]; rfl)) ?_; (with_reducible refine (exact_MulMod.calls kj8 a0 a1 ji4 t241 _ A22.out).mono ?_); rintro e w79 ⟨rfl, hb⟩; refine ⟨_, rfl, ?_⟩; have n0_ := Aside0.mk (below_step (by repeat (first | (with_reducible first | exact HB.out | apply below_alloc | apply pw_below_drewN | apply below_drew1) | exact HB.out)) hb); clear HB; have HB := n0_; clear n0_; (try clear hb); (try clear hb2); (try clear hk); (try clear hi)))
                              go_ret
                              exact ⟨by first | rfl | (simp [errW_none, errW_some] <;> rfl) | (simp only [← hji4]; first | rfl | (simp [errW_none, errW_some] <;> rfl)) | (simp [*, errW_none, errW_some] <;> rfl) | (simp (disch := first | assumption | omega) only [Int.tdiv_eq_ediv_of_nonneg, Int.tmod_eq_emod_of_nonneg]; rfl), by repeat (first | (with_reducible first | exact HB.out | apply below_alloc | apply pw_below_drewN | apply below_drew1) | exact HB.out)⟩
                          · rw [if_neg c74] at H
                            have c74b0 : (t241 == (IntKind.u64.wrap (ji4 - t241))) = false := beq_eq_false_iff_ne.mpr c74
                            have c74b1 : (t241 != (IntKind.u64.wrap (ji4 - t241))) = true := bne_iff_ne.mpr c74
                            by_cases c80 : t235 = t237
                            · rw [if_pos c80] at H
                              have c80b0 : (t235 == t237) = true := beq_iff_eq.mpr c80
                              have c80b1 : (t235 != t237) = false := bne_eq_false_iff_eq.mpr c80
                              clear c80
                              replace H := Option.bind_eq_some_iff.mp H
                              obtain ⟨t249, A810, H⟩ := H
                              replace H : (some t249) = some r := H
                              have A81 := Aside0.mk A810
                              clear A810
                              obtain rfl := Option.some.inj H
                              go_wp2_with (first | ((with_reducible refine gate_callee (f := 25) rfl ?_); refine goesL_ (some 65) rfl rfl Try.func25 (by kernel_rfl) rfl #[.int .u64 a0, .int .u64 a1, .int .u64 ji4] rfl (by (try simp only [List.map_toArray, List.map_cons, List.map_nil]); first | done | (simp only [hji4]; rfl) | rfl | (simp only [List.length_drop, List.length_take]; rfl)) ?_; (with_reducible refine (exact_MulMod.calls kj8 a0 a1 ji4 t241 _ A22.out).mono ?_); rintro e w82 ⟨rfl, hb⟩; refine ⟨_, rfl, ?_⟩; have n0_ := Aside0.mk (below_step (by repeat (first | (with_reducible first | exact HB.out | apply below_alloc | apply pw_below_drewN | apply below_drew1) | exact HB.out)) hb); clear HB; have HB := n0_; clear n0_; (try clear hb); (try clear hb2); (try clear hk); (try clear hi)) | (go_at_call 13; (with_reducible refine (customslaw01_awake.calls kj8  t249 _ A81.out).mono ?_); rintro e w83 ⟨rfl, hb⟩; have n0_ := Aside0.mk (below_step (by repeat (first | (with_reducible first | exact HB.out | apply below_alloc | apply pw_below_drewN | apply below_drew1) | exact HB.out)) hb); clear HB; have HB := n0_; clear n0_; (try clear hb); (try clear hb2); (try clear hk); (try clear hi)))
                              go_ret
                              exact ⟨by first | rfl | (simp [errW_none, errW_some] <;> rfl) | (simp only [← hji4]; first | rfl | (simp [errW_none, errW_some] <;> rfl)) | (simp [*, errW_none, errW_some] <;> rfl) | (simp (disch := first | assumption | omega) only [Int.tdiv_eq_ediv_of_nonneg, Int.tmod_eq_emod_of_nonneg]; rfl), by repeat (first | (with_reducible first | exact HB.out | apply below_alloc | apply pw_below_drewN | apply below_drew1) | exact HB.out)⟩
                            · rw [if_neg c80] at H
                              have c80b0 : (t235 == t237) = false := beq_eq_false_iff_ne.mpr c80
                              have c80b1 : (t235 != t237) = true := bne_iff_ne.mpr c80
                              obtain rfl := Option.some.inj H
                              go_wp2_with (first | ((with_reducible refine gate_callee (f := 25) rfl ?_); refine goesL_ (some 65) rfl rfl Try.func25 (by kernel_rfl) rfl #[.int .u64 a0, .int .u64 a1, .int .u64 ji4] rfl (by (try simp only [List.map_toArray, List.map_cons, List.map_nil]); first | done | (simp only [hji4]; rfl) | rfl | (simp only [List.length_drop, List.length_take]; rfl)) ?_; (with_reducible refine (exact_MulMod.calls kj8 a0 a1 ji4 t241 _ A22.out).mono ?_); rintro e w84 ⟨rfl, hb⟩; refine ⟨_, rfl, ?_⟩; have n0_ := Aside0.mk (below_step (by repeat (first | (with_reducible first | exact HB.out | apply below_alloc | apply pw_below_drewN | apply below_drew1) | exact HB.out)) hb); clear HB; have HB := n0_; clear n0_; (try clear hb); (try clear hb2); (try clear hk); (try clear hi)))
                              go_ret
                              exact ⟨by first | rfl | (simp [errW_none, errW_some] <;> rfl) | (simp only [← hji4]; first | rfl | (simp [errW_none, errW_some] <;> rfl)) | (simp [*, errW_none, errW_some] <;> rfl) | (simp (disch := first | assumption | omega) only [Int.tdiv_eq_ediv_of_nonneg, Int.tmod_eq_emod_of_nonneg]; rfl), by repeat (first | (with_reducible first | exact HB.out | apply below_alloc | apply pw_below_drewN | apply below_drew1) | exact HB.out)⟩
                        · rw [if_neg c73] at H
                          have c73b0 : (t237 == t233) = false := beq_eq_false_iff_ne.mpr c73
                          have c73b1 : (t237 != t233) = true := bne_iff_ne.mpr c73
                          obtain rfl := Option.some.inj H
                          go_wp2_with (first | ((with_reducible refine gate_callee (f := 25) rfl ?_); refine goesL_ (some 65) rfl rfl Try.func25 (by kernel_rfl) rfl #[.int .u64 a0, .int .u64 a1, .int .u64 ji4] rfl (by (try simp only [List.map_toArray, List.map_cons, List.map_nil]); first | done | (simp only [hji4]; rfl) | rfl | (simp only [List.length_drop, List.length_take]; rfl)) ?_; (with_reducible refine (exact_MulMod.calls kj8 a0 a1 ji4 t241 _ A22.out).mono ?_); rintro e w85 ⟨rfl, hb⟩; refine ⟨_, rfl, ?_⟩; have n0_ := Aside0.mk (below_step (by repeat (first | (with_reducible first | exact HB.out | apply below_alloc | apply pw_below_drewN | apply below_drew1) | exact HB.out)) hb); clear HB; have HB := n0_; clear n0_; (try clear hb); (try clear hb2); (try clear hk); (try clear hi)))
                          go_ret
                          exact ⟨by first | rfl | (simp [errW_none, errW_some] <;> rfl) | (simp only [← hji4]; first | rfl | (simp [errW_none, errW_some] <;> rfl)) | (simp [*, errW_none, errW_some] <;> rfl) | (simp (disch := first | assumption | omega) only [Int.tdiv_eq_ediv_of_nonneg, Int.tmod_eq_emod_of_nonneg]; rfl), by repeat (first | (with_reducible first | exact HB.out | apply below_alloc | apply pw_below_drewN | apply below_drew1) | exact HB.out)⟩
                    · rw [if_neg c60] at H
                      have c60b0 : (t235 == t233) = false := beq_eq_false_iff_ne.mpr c60
                      have c60b1 : (t235 != t233) = true := bne_iff_ne.mpr c60
                      obtain rfl := Option.some.inj H
                      go_wp2_with (first | ((with_reducible refine gate_callee (f := 25) rfl ?_); refine goesL_ (some 65) rfl rfl Try.func25 (by kernel_rfl) rfl #[.int .u64 a0, .int .u64 a1, .int .u64 ji4] rfl (by (try simp only [List.map_toArray, List.map_cons, List.map_nil]); first | done | (simp only [hji4]; rfl) | rfl | (simp only [List.length_drop, List.length_take]; rfl)) ?_; (with_reducible refine (exact_MulMod.calls kj8 a0 a1 ji4 t241 _ A22.out).mono ?_); rintro e w86 ⟨rfl, hb⟩; refine ⟨_, rfl, ?_⟩; have n0_ := Aside0.mk (below_step (by repeat (first | (with_reducible first | exact HB.out | apply below_alloc | apply pw_below_drewN | apply below_drew1) | exact HB.out)) hb); clear HB; have HB := n0_; clear n0_; (try clear hb); (try clear hb2); (try clear hk); (try clear hi)))
                      go_ret
                      exact ⟨by first | rfl | (simp [errW_none, errW_some] <;> rfl) | (simp only [← hji4]; first | rfl | (simp [errW_none, errW_some] <;> rfl)) | (simp [*, errW_none, errW_some] <;> rfl) | (simp (disch := first | assumption | omega) only [Int.tdiv_eq_ediv_of_nonneg, Int.tmod_eq_emod_of_nonneg]; rfl), by repeat (first | (with_reducible first | exact HB.out | apply below_alloc | apply pw_below_drewN | apply below_drew1) | exact HB.out)⟩
            · rw [if_neg c25] at H
              have c25b0 : (t238 == 0) = false := beq_eq_false_iff_ne.mpr c25
              have c25b1 : (t238 != 0) = true := bne_iff_ne.mpr c25
              obtain rfl := Option.some.inj H
              go_wp2_with (first | ((with_reducible refine gate_callee (f := 25) rfl ?_); refine goesL_ (some 65) rfl rfl Try.func25 (by kernel_rfl) rfl #[.int .u64 a0, .int .u64 a1, .int .u64 ji4] rfl (by (try simp only [List.map_toArray, List.map_cons, List.map_nil]); first | done | (simp only [hji4]; rfl) | rfl | (simp only [List.length_drop, List.length_take]; rfl)) ?_; (with_reducible refine (exact_MulMod.calls kj8 a0 a1 ji4 t241 _ A22.out).mono ?_); rintro e w87 ⟨rfl, hb⟩; refine ⟨_, rfl, ?_⟩; have n0_ := Aside0.mk (below_step (by repeat (first | (with_reducible first | exact HB.out | apply below_alloc | apply pw_below_drewN | apply below_drew1) | exact HB.out)) hb); clear HB; have HB := n0_; clear n0_; (try clear hb); (try clear hb2); (try clear hk); (try clear hi)))
              go_ret
              exact ⟨by first | rfl | (simp [errW_none, errW_some] <;> rfl) | (simp only [← hji4]; first | rfl | (simp [errW_none, errW_some] <;> rfl)) | (simp [*, errW_none, errW_some] <;> rfl) | (simp (disch := first | assumption | omega) only [Int.tdiv_eq_ediv_of_nonneg, Int.tmod_eq_emod_of_nonneg]; rfl), by repeat (first | (with_reducible first | exact HB.out | apply below_alloc | apply pw_below_drewN | apply below_drew1) | exact HB.out)⟩
          · rw [if_neg c24] at H
            have c24b0 : (t236 == 0) = false := beq_eq_false_iff_ne.mpr c24
            have c24b1 : (t236 != 0) = true := bne_iff_ne.mpr c24
            obtain rfl := Option.some.inj H
            go_wp2_with (first | ((with_reducible refine gate_callee (f := 25) rfl ?_); refine goesL_ (some 65) rfl rfl Try.func25 (by kernel_rfl) rfl #[.int .u64 a0, .int .u64 a1, .int .u64 ji4] rfl (by (try simp only [List.map_toArray, List.map_cons, List.map_nil]); first | done | (simp only [hji4]; rfl) | rfl | (simp only [List.length_drop, List.length_take]; rfl)) ?_; (with_reducible refine (exact_MulMod.calls kj8 a0 a1 ji4 t241 _ A22.out).mono ?_); rintro e w88 ⟨rfl, hb⟩; refine ⟨_, rfl, ?_⟩; have n0_ := Aside0.mk (below_step (by repeat (first | (with_reducible first | exact HB.out | apply below_alloc | apply pw_below_drewN | apply below_drew1) | exact HB.out)) hb); clear HB; have HB := n0_; clear n0_; (try clear hb); (try clear hb2); (try clear hk); (try clear hi)))
            go_ret
            exact ⟨by first | rfl | (simp [errW_none, errW_some] <;> rfl) | (simp only [← hji4]; first | rfl | (simp [errW_none, errW_some] <;> rfl)) | (simp [*, errW_none, errW_some] <;> rfl) | (simp (disch := first | assumption | omega) only [Int.tdiv_eq_ediv_of_nonneg, Int.tmod_eq_emod_of_nonneg]; rfl), by repeat (first | (with_reducible first | exact HB.out | apply below_alloc | apply pw_below_drewN | apply below_drew1) | exact HB.out)⟩
        · rw [if_neg c23] at H
          have c23b0 : decide (0 < t241) = false := decide_eq_false c23
          clear c23
          by_cases c89 : t236 = 0
          · rw [if_pos c89] at H
            have c89b0 : (t236 == 0) = true := beq_iff_eq.mpr c89
            have c89b1 : (t236 != 0) = false := bne_eq_false_iff_eq.mpr c89
            clear c89
            by_cases c90 : t238 = 0
            · rw [if_pos c90] at H
              have c90b0 : (t238 == 0) = true := beq_iff_eq.mpr c90
              have c90b1 : (t238 != 0) = false := bne_eq_false_iff_eq.mpr c90
              clear c90
              by_cases c91 : (IntKind.u64.wrap (t233 - t231)) > 1
              · rw [if_pos c91] at H
                have c91b0 : decide (1 < (IntKind.u64.wrap (t233 - t231))) = true := decide_eq_true c91
                clear c91
                obtain rfl := Option.some.inj H
                go_wp2_with (first | ((with_reducible refine gate_callee (f := 25) rfl ?_); refine goesL_ (some 65) rfl rfl Try.func25 (by kernel_rfl) rfl #[.int .u64 a0, .int .u64 a1, .int .u64 ji4] rfl (by (try simp only [List.map_toArray, List.map_cons, List.map_nil]); first | done | (simp only [hji4]; rfl) | rfl | (simp only [List.length_drop, List.length_take]; rfl)) ?_; (with_reducible refine (exact_MulMod.calls kj8 a0 a1 ji4 t241 _ A22.out).mono ?_); rintro e w92 ⟨rfl, hb⟩; refine ⟨_, rfl, ?_⟩; have n0_ := Aside0.mk (below_step (by repeat (first | (with_reducible first | exact HB.out | apply below_alloc | apply pw_below_drewN | apply below_drew1) | exact HB.out)) hb); clear HB; have HB := n0_; clear n0_; (try clear hb); (try clear hb2); (try clear hk); (try clear hi)))
                go_ret
                exact ⟨by first | rfl | (simp [errW_none, errW_some] <;> rfl) | (simp only [← hji4]; first | rfl | (simp [errW_none, errW_some] <;> rfl)) | (simp [*, errW_none, errW_some] <;> rfl) | (simp (disch := first | assumption | omega) only [Int.tdiv_eq_ediv_of_nonneg, Int.tmod_eq_emod_of_nonneg]; rfl), by repeat (first | (with_reducible first | exact HB.out | apply below_alloc | apply pw_below_drewN | apply below_drew1) | exact HB.out)⟩
              · rw [if_neg c91] at H
                have c91b0 : decide (1 < (IntKind.u64.wrap (t233 - t231))) = false := decide_eq_false c91
                clear c91
                by_cases c93 : ((t233 == t231) != (t241 == 0)) = true
                · rw [if_pos c93] at H
                  have c93b0 : ((t233 == t231) != (t241 == 0)) = true := c93
                  (try (have c93b1 : decide ((t233 == t231) = (t241 == 0)) = false := by simpa using c93))
                  (try (have c93b2 : ((t233 == t231) == (t241 == 0)) = false := by simpa using c93))
                  (try (have c93b3 : ¬ ((t233 == t231) = (t241 == 0)) := by simpa using c93))
                  clear c93
                  obtain rfl := Option.some.inj H
                  go_wp2_with (first | ((with_reducible refine gate_callee (f := 25) rfl ?_); refine goesL_ (some 65) rfl rfl Try.func25 (by kernel_rfl) rfl #[.int .u64 a0, .int .u64 a1, .int .u64 ji4] rfl (by (try simp only [List.map_toArray, List.map_cons, List.map_nil]); first | done | (simp only [hji4]; rfl) | rfl | (simp only [List.length_drop, List.length_take]; rfl)) ?_; (with_reducible refine (exact_MulMod.calls kj8 a0 a1 ji4 t241 _ A22.out).mono ?_); rintro e w94 ⟨rfl, hb⟩; refine ⟨_, rfl, ?_⟩; have n0_ := Aside0.mk (below_step (by repeat (first | (with_reducible first | exact HB.out | apply below_alloc | apply pw_below_drewN | apply below_drew1) | exact HB.out)) hb); clear HB; have HB := n0_; clear n0_; (try clear hb); (try clear hb2); (try clear hk); (try clear hi)))
                  go_ret
                  exact ⟨by first | rfl | (simp [errW_none, errW_some] <;> rfl) | (simp only [← hji4]; first | rfl | (simp [errW_none, errW_some] <;> rfl)) | (simp [*, errW_none, errW_some] <;> rfl) | (simp (disch := first | assumption | omega) only [Int.tdiv_eq_ediv_of_nonneg, Int.tmod_eq_emod_of_nonneg]; rfl), by repeat (first | (with_reducible first | exact HB.out | apply below_alloc | apply pw_below_drewN | apply below_drew1) | exact HB.out)⟩
                · rw [if_neg c93] at H
                  have c93b0 : ((t233 == t231) != (t241 == 0)) = false := by simpa using c93
                  (try (have c93b1 : decide ((t233 == t231) = (t241 == 0)) = true := by simpa using c93))
                  (try (have c93b2 : ((t233 == t231) == (t241 == 0)) = true := by simpa using c93))
                  clear c93
                  by_cases c95 : t235 = t231
                  · rw [if_pos c95] at H
                    have c95b0 : (t235 == t231) = true := beq_iff_eq.mpr c95
                    have c95b1 : (t235 != t231) = false := bne_eq_false_iff_eq.mpr c95
                    clear c95
                    by_cases c96 : t237 = t231
                    · rw [if_pos c96] at H
                      have c96b0 : (t237 == t231) = true := beq_iff_eq.mpr c96
                      have c96b1 : (t237 != t231) = false := bne_eq_false_iff_eq.mpr c96
                      clear c96
                      by_cases c97 : t235 = t237
                      · rw [if_pos c97] at H
                        have c97b0 : (t235 == t237) = true := beq_iff_eq.mpr c97
                        have c97b1 : (t235 != t237) = false := bne_eq_false_iff_eq.mpr c97
                        clear c97
                        replace H := Option.bind_eq_some_iff.mp H
                        obtain ⟨t250, A980, H⟩ := H
                        replace H : (some t250) = some r := H
                        have A98 := Aside0.mk A980
                        clear A980
                        obtain rfl := Option.some.inj H
                        go_wp2_with (first | ((with_reducible refine gate_callee (f := 25) rfl ?_); refine goesL_ (some 65) rfl rfl Try.func25 (by kernel_rfl) rfl #[.int .u64 a0, .int .u64 a1, .int .u64 ji4] rfl (by (try simp only [List.map_toArray, List.map_cons, List.map_nil]); first | done | (simp only [hji4]; rfl) | rfl | (simp only [List.length_drop, List.length_take]; rfl)) ?_; (with_reducible refine (exact_MulMod.calls kj8 a0 a1 ji4 t241 _ A22.out).mono ?_); rintro e w99 ⟨rfl, hb⟩; refine ⟨_, rfl, ?_⟩; have n0_ := Aside0.mk (below_step (by repeat (first | (with_reducible first | exact HB.out | apply below_alloc | apply pw_below_drewN | apply below_drew1) | exact HB.out)) hb); clear HB; have HB := n0_; clear n0_; (try clear hb); (try clear hb2); (try clear hk); (try clear hi)) | (go_at_call 13; (with_reducible refine (customslaw01_awake.calls kj8  t250 _ A98.out).mono ?_); rintro e w100 ⟨rfl, hb⟩; have n0_ := Aside0.mk (below_step (by repeat (first | (with_reducible first | exact HB.out | apply below_alloc | apply pw_below_drewN | apply below_drew1) | exact HB.out)) hb); clear HB; have HB := n0_; clear n0_; (try clear hb); (try clear hb2); (try clear hk); (try clear hi)))
                        go_ret
                        exact ⟨by first | rfl | (simp [errW_none, errW_some] <;> rfl) | (simp only [← hji4]; first | rfl | (simp [errW_none, errW_some] <;> rfl)) | (simp [*, errW_none, errW_some] <;> rfl) | (simp (disch := first | assumption | omega) only [Int.tdiv_eq_ediv_of_nonneg, Int.tmod_eq_emod_of_nonneg]; rfl), by repeat (first | (with_reducible first | exact HB.out | apply below_alloc | apply pw_below_drewN | apply below_drew1) | exact HB.out)⟩
                      · rw [if_neg c97] at H
                        have c97b0 : (t235 == t237) = false := beq_eq_false_iff_ne.mpr c97
                        have c97b1 : (t235 != t237) = true := bne_iff_ne.mpr c97
                        obtain rfl := Option.some.inj H
                        go_wp2_with (first | ((with_reducible refine gate_callee (f := 25) rfl ?_); refine goesL_ (some 65) rfl rfl Try.func25 (by kernel_rfl) rfl #[.int .u64 a0, .int .u64 a1, .int .u64 ji4] rfl (by (try simp only [List.map_toArray, List.map_cons, List.map_nil]); first | done | (simp only [hji4]; rfl) | rfl | (simp only [List.length_drop, List.length_take]; rfl)) ?_; (with_reducible refine (exact_MulMod.calls kj8 a0 a1 ji4 t241 _ A22.out).mono ?_); rintro e w101 ⟨rfl, hb⟩; refine ⟨_, rfl, ?_⟩; have n0_ := Aside0.mk (below_step (by repeat (first | (with_reducible first | exact HB.out | apply below_alloc | apply pw_below_drewN | apply below_drew1) | exact HB.out)) hb); clear HB; have HB := n0_; clear n0_; (try clear hb); (try clear hb2); (try clear hk); (try clear hi)))
                        go_ret
                        exact ⟨by first | rfl | (simp [errW_none, errW_some] <;> rfl) | (simp only [← hji4]; first | rfl | (simp [errW_none, errW_some] <;> rfl)) | (simp [*, errW_none, errW_some] <;> rfl) | (simp (disch := first | assumption | omega) only [Int.tdiv_eq_ediv_of_nonneg, Int.tmod_eq_emod_of_nonneg]; rfl), by repeat (first | (with_reducible first | exact HB.out | apply below_alloc | apply pw_below_drewN | apply below_drew1) | exact HB.out)⟩
                    · rw [if_neg c96] at H
                      have c96b0 : (t237 == t231) = false := beq_eq_false_iff_ne.mpr c96
                      have c96b1 : (t237 != t231) = true := bne_iff_ne.mpr c96
                      by_cases c102 : t237 = t233
                      · rw [if_pos c102] at H
                        have c102b0 : (t237 == t233) = true := beq_iff_eq.mpr c102
                        have c102b1 : (t237 != t233) = false := bne_eq_false_iff_eq.mpr c102
                        clear c102
                        by_cases c103 : t235 = t237
                        · rw [if_pos c103] at H
                          have c103b0 : (t235 == t237) = true := beq_iff_eq.mpr c103
                          have c103b1 : (t235 != t237) = false := bne_eq_false_iff_eq.mpr c103
                          clear c103
                          replace H := Option.bind_eq_some_iff.mp H
                          obtain ⟨t251, A1040, H⟩ := H
                          replace H : (some t251) = some r := H
                          have A104 := Aside0.mk A1040
                          clear A1040
                          obtain rfl := Option.some.inj H
                          go_wp2_with (first | ((with_reducible refine gate_callee (f := 25) rfl ?_); refine goesL_ (some 65) rfl rfl Try.func25 (by kernel_rfl) rfl #[.int .u64 a0, .int .u64 a1, .int .u64 ji4] rfl (by (try simp only [List.map_toArray, List.map_cons, List.map_nil]); first | done | (simp only [hji4]; rfl) | rfl | (simp only [List.length_drop, List.length_take]; rfl)) ?_; (with_reducible refine (exact_MulMod.calls kj8 a0 a1 ji4 t241 _ A22.out).mono ?_); rintro e w105 ⟨rfl, hb⟩; refine ⟨_, rfl, ?_⟩; have n0_ := Aside0.mk (below_step (by repeat (first | (with_reducible first | exact HB.out | apply below_alloc | apply pw_below_drewN | apply below_drew1) | exact HB.out)) hb); clear HB; have HB := n0_; clear n0_; (try clear hb); (try clear hb2); (try clear hk); (try clear hi)) | (go_at_call 13; (with_reducible refine (customslaw01_awake.calls kj8  t251 _ A104.out).mono ?_); rintro e w106 ⟨rfl, hb⟩; have n0_ := Aside0.mk (below_step (by repeat (first | (with_reducible first | exact HB.out | apply below_alloc | apply pw_below_drewN | apply below_drew1) | exact HB.out)) hb); clear HB; have HB := n0_; clear n0_; (try clear hb); (try clear hb2); (try clear hk); (try clear hi)))
                          go_ret
                          exact ⟨by first | rfl | (simp [errW_none, errW_some] <;> rfl) | (simp only [← hji4]; first | rfl | (simp [errW_none, errW_some] <;> rfl)) | (simp [*, errW_none, errW_some] <;> rfl) | (simp (disch := first | assumption | omega) only [Int.tdiv_eq_ediv_of_nonneg, Int.tmod_eq_emod_of_nonneg]; rfl), by repeat (first | (with_reducible first | exact HB.out | apply below_alloc | apply pw_below_drewN | apply below_drew1) | exact HB.out)⟩
                        · rw [if_neg c103] at H
                          have c103b0 : (t235 == t237) = false := beq_eq_false_iff_ne.mpr c103
                          have c103b1 : (t235 != t237) = true := bne_iff_ne.mpr c103
                          obtain rfl := Option.some.inj H
                          go_wp2_with (first | ((with_reducible refine gate_callee (f := 25) rfl ?_); refine goesL_ (some 65) rfl rfl Try.func25 (by kernel_rfl) rfl #[.int .u64 a0, .int .u64 a1, .int .u64 ji4] rfl (by (try simp only [List.map_toArray, List.map_cons, List.map_nil]); first | done | (simp only [hji4]; rfl) | rfl | (simp only [List.length_drop, List.length_take]; rfl)) ?_; (with_reducible refine (exact_MulMod.calls kj8 a0 a1 ji4 t241 _ A22.out).mono ?_); rintro e w107 ⟨rfl, hb⟩; refine ⟨_, rfl, ?_⟩; have n0_ := Aside0.mk (below_step (by repeat (first | (with_reducible first | exact HB.out | apply below_alloc | apply pw_below_drewN | apply below_drew1) | exact HB.out)) hb); clear HB; have HB := n0_; clear n0_; (try clear hb); (try clear hb2); (try clear hk); (try clear hi)))
                          go_ret
                          exact ⟨by first | rfl | (simp [errW_none, errW_some] <;> rfl) | (simp only [← hji4]; first | rfl | (simp [errW_none, errW_some] <;> rfl)) | (simp [*, errW_none, errW_some] <;> rfl) | (simp (disch := first | assumption | omega) only [Int.tdiv_eq_ediv_of_nonneg, Int.tmod_eq_emod_of_nonneg]; rfl), by repeat (first | (with_reducible first | exact HB.out | apply below_alloc | apply pw_below_drewN | apply below_drew1) | exact HB.out)⟩
                      · rw [if_neg c102] at H
                        have c102b0 : (t237 == t233) = false := beq_eq_false_iff_ne.mpr c102
                        have c102b1 : (t237 != t233) = true := bne_iff_ne.mpr c102
                        obtain rfl := Option.some.inj H
                        go_wp2_with (first | ((with_reducible refine gate_callee (f := 25) rfl ?_); refine goesL_ (some 65) rfl rfl Try.func25 (by kernel_rfl) rfl #[.int .u64 a0, .int .u64 a1, .int .u64 ji4] rfl (by (try simp only [List.map_toArray, List.map_cons, List.map_nil]); first | done | (simp only [hji4]; rfl) | rfl | (simp only [List.length_drop, List.length_take]; rfl)) ?_; (with_reducible refine (exact_MulMod.calls kj8 a0 a1 ji4 t241 _ A22.out).mono ?_); rintro e w108 ⟨rfl, hb⟩; refine ⟨_, rfl, ?_⟩; have n0_ := Aside0.mk (below_step (by repeat (first | (with_reducible first | exact HB.out | apply below_alloc | apply pw_below_drewN | apply below_drew1) | exact HB.out)) hb); clear HB; have HB := n0_; clear n0_; (try clear hb); (try clear hb2); (try clear hk); (try clear hi)))
                        go_ret
                        exact ⟨by first | rfl | (simp [errW_none, errW_some] <;> rfl) | (simp only [← hji4]; first | rfl | (simp [errW_none, errW_some] <;> rfl)) | (simp [*, errW_none, errW_some] <;> rfl) | (simp (disch := first | assumption | omega) only [Int.tdiv_eq_ediv_of_nonneg, Int.tmod_eq_emod_of_nonneg]; rfl), by repeat (first | (with_reducible first | exact HB.out | apply below_alloc | apply pw_below_drewN | apply below_drew1) | exact HB.out)⟩
                  · rw [if_neg c95] at H
                    have c95b0 : (t235 == t231) = false := beq_eq_false_iff_ne.mpr c95
                    have c95b1 : (t235 != t231) = true := bne_iff_ne.mpr c95
                    by_cases c109 : t235 = t233
                    · rw [if_pos c109] at H
                      have c109b0 : (t235 == t233) = true := beq_iff_eq.mpr c109
                      have c109b1 : (t235 != t233) = false := bne_eq_false_iff_eq.mpr c109
                      clear c109
                      by_cases c110 : t237 = t231
                      · rw [if_pos c110] at H
                        have c110b0 : (t237 == t231) = true := beq_iff_eq.mpr c110
                        have c110b1 : (t237 != t231) = false := bne_eq_false_iff_eq.mpr c110
                        clear c110
                        by_cases c111 : t235 = t237
                        · rw [if_pos c111] at H
                          have c111b0 : (t235 == t237) = true := beq_iff_eq.mpr c111
                          have c111b1 : (t235 != t237) = false := bne_eq_false_iff_eq.mpr c111
                          clear c111
                          replace H := Option.bind_eq_some_iff.mp H
                          obtain ⟨t252, A1120, H⟩ := H
                          replace H : (some t252) = some r := H
                          have A112 := Aside0.mk A1120
                          clear A1120
                          obtain rfl := Option.some.inj H
                          go_wp2_with (first | ((with_reducible refine gate_callee (f := 25) rfl ?_); refine goesL_ (some 65) rfl rfl Try.func25 (by kernel_rfl) rfl #[.int .u64 a0, .int .u64 a1, .int .u64 ji4] rfl (by (try simp only [List.map_toArray, List.map_cons, List.map_nil]); first | done | (simp only [hji4]; rfl) | rfl | (simp only [List.length_drop, List.length_take]; rfl)) ?_; (with_reducible refine (exact_MulMod.calls kj8 a0 a1 ji4 t241 _ A22.out).mono ?_); rintro e w113 ⟨rfl, hb⟩; refine ⟨_, rfl, ?_⟩; have n0_ := Aside0.mk (below_step (by repeat (first | (with_reducible first | exact HB.out | apply below_alloc | apply pw_below_drewN | apply below_drew1) | exact HB.out)) hb); clear HB; have HB := n0_; clear n0_; (try clear hb); (try clear hb2); (try clear hk); (try clear hi)) | (go_at_call 13; (with_reducible refine (customslaw01_awake.calls kj8  t252 _ A112.out).mono ?_); rintro e w114 ⟨rfl, hb⟩; have n0_ := Aside0.mk (below_step (by repeat (first | (with_reducible first | exact HB.out | apply below_alloc | apply pw_below_drewN | apply below_drew1) | exact HB.out)) hb); clear HB; have HB := n0_; clear n0_; (try clear hb); (try clear hb2); (try clear hk); (try clear hi)))
                          go_ret
                          exact ⟨by first | rfl | (simp [errW_none, errW_some] <;> rfl) | (simp only [← hji4]; first | rfl | (simp [errW_none, errW_some] <;> rfl)) | (simp [*, errW_none, errW_some] <;> rfl) | (simp (disch := first | assumption | omega) only [Int.tdiv_eq_ediv_of_nonneg, Int.tmod_eq_emod_of_nonneg]; rfl), by repeat (first | (with_reducible first | exact HB.out | apply below_alloc | apply pw_below_drewN | apply below_drew1) | exact HB.out)⟩
                        · rw [if_neg c111] at H
                          have c111b0 : (t235 == t237) = false := beq_eq_false_iff_ne.mpr c111
                          have c111b1 : (t235 != t237) = true := bne_iff_ne.mpr c111
                          obtain rfl := Option.some.inj H
                          go_wp2_with (first | ((with_reducible refine gate_callee (f := 25) rfl ?_); refine goesL_ (some 65) rfl rfl Try.func25 (by kernel_rfl) rfl #[.int .u64 a0, .int .u64 a1, .int .u64 ji4] rfl (by (try simp only [List.map_toArray, List.map_cons, List.map_nil]); first | done | (simp only [hji4]; rfl) | rfl | (simp only [List.length_drop, List.length_take]; rfl)) ?_; (with_reducible refine (exact_MulMod.calls kj8 a0 a1 ji4 t241 _ A22.out).mono ?_); rintro e w115 ⟨rfl, hb⟩; refine ⟨_, rfl, ?_⟩; have n0_ := Aside0.mk (below_step (by repeat (first | (with_reducible first | exact HB.out | apply below_alloc | apply pw_below_drewN | apply below_drew1) | exact HB.out)) hb); clear HB; have HB := n0_; clear n0_; (try clear hb); (try clear hb2); (try clear hk); (try clear hi)))
                          go_ret
                          exact ⟨by first | rfl | (simp [errW_none, errW_some] <;> rfl) | (simp only [← hji4]; first | rfl | (simp [errW_none, errW_some] <;> rfl)) | (simp [*, errW_none, errW_some] <;> rfl) | (simp (disch := first | assumption | omega) only [Int.tdiv_eq_ediv_of_nonneg, Int.tmod_eq_emod_of_nonneg]; rfl), by repeat (first | (with_reducible first | exact HB.out | apply below_alloc | apply pw_below_drewN | apply below_drew1) | exact HB.out)⟩
                      · rw [if_neg c110] at H
                        have c110b0 : (t237 == t231) = false := beq_eq_false_iff_ne.mpr c110
                        have c110b1 : (t237 != t231) = true := bne_iff_ne.mpr c110
                        by_cases c116 : t237 = t233
                        · rw [if_pos c116] at H
                          have c116b0 : (t237 == t233) = true := beq_iff_eq.mpr c116
                          have c116b1 : (t237 != t233) = false := bne_eq_false_iff_eq.mpr c116
                          clear c116
                          by_cases c117 : t235 = t237
                          · rw [if_pos c117] at H
                            have c117b0 : (t235 == t237) = true := beq_iff_eq.mpr c117
                            have c117b1 : (t235 != t237) = false := bne_eq_false_iff_eq.mpr c117
                            clear c117
                            replace H := Option.bind_eq_some_iff.mp H
                            obtain ⟨t253, A1180, H⟩ := H
                            replace H : (some t253) = some r := H
                            have A118 := Aside0.mk A1180
                            clear A1180
                            obtain rfl := Option.some.inj H
                            go_wp2_with (first | ((with_reducible refine gate_callee (f := 25) rfl ?_); refine goesL_ (some 65) rfl rfl Try.func25 (by kernel_rfl) rfl #[.int .u64 a0, .int .u64 a1, .int .u64 ji4] rfl (by (try simp only [List.map_toArray, List.map_cons, List.map_nil]); first | done | (simp only [hji4]; rfl) | rfl | (simp only [List.length_drop, List.length_take]; rfl)) ?_; (with_reducible refine (exact_MulMod.calls kj8 a0 a1 ji4 t241 _ A22.out).mono ?_); rintro e w119 ⟨rfl, hb⟩; refine ⟨_, rfl, ?_⟩; have n0_ := Aside0.mk (below_step (by repeat (first | (with_reducible first | exact HB.out | apply below_alloc | apply pw_below_drewN | apply below_drew1) | exact HB.out)) hb); clear HB; have HB := n0_; clear n0_; (try clear hb); (try clear hb2); (try clear hk); (try clear hi)) | (go_at_call 13; (with_reducible refine (customslaw01_awake.calls kj8  t253 _ A118.out).mono ?_); rintro e w120 ⟨rfl, hb⟩; have n0_ := Aside0.mk (below_step (by repeat (first | (with_reducible first | exact HB.out | apply below_alloc | apply pw_below_drewN | apply below_drew1) | exact HB.out)) hb); clear HB; have HB := n0_; clear n0_; (try clear hb); (try clear hb2); (try clear hk); (try clear hi)))
                            go_ret
                            exact ⟨by first | rfl | (simp [errW_none, errW_some] <;> rfl) | (simp only [← hji4]; first | rfl | (simp [errW_none, errW_some] <;> rfl)) | (simp [*, errW_none, errW_some] <;> rfl) | (simp (disch := first | assumption | omega) only [Int.tdiv_eq_ediv_of_nonneg, Int.tmod_eq_emod_of_nonneg]; rfl), by repeat (first | (with_reducible first | exact HB.out | apply below_alloc | apply pw_below_drewN | apply below_drew1) | exact HB.out)⟩
                          · rw [if_neg c117] at H
                            have c117b0 : (t235 == t237) = false := beq_eq_false_iff_ne.mpr c117
                            have c117b1 : (t235 != t237) = true := bne_iff_ne.mpr c117
                            obtain rfl := Option.some.inj H
                            go_wp2_with (first | ((with_reducible refine gate_callee (f := 25) rfl ?_); refine goesL_ (some 65) rfl rfl Try.func25 (by kernel_rfl) rfl #[.int .u64 a0, .int .u64 a1, .int .u64 ji4] rfl (by (try simp only [List.map_toArray, List.map_cons, List.map_nil]); first | done | (simp only [hji4]; rfl) | rfl | (simp only [List.length_drop, List.length_take]; rfl)) ?_; (with_reducible refine (exact_MulMod.calls kj8 a0 a1 ji4 t241 _ A22.out).mono ?_); rintro e w121 ⟨rfl, hb⟩; refine ⟨_, rfl, ?_⟩; have n0_ := Aside0.mk (below_step (by repeat (first | (with_reducible first | exact HB.out | apply below_alloc | apply pw_below_drewN | apply below_drew1) | exact HB.out)) hb); clear HB; have HB := n0_; clear n0_; (try clear hb); (try clear hb2); (try clear hk); (try clear hi)))
                            go_ret
                            exact ⟨by first | rfl | (simp [errW_none, errW_some] <;> rfl) | (simp only [← hji4]; first | rfl | (simp [errW_none, errW_some] <;> rfl)) | (simp [*, errW_none, errW_some] <;> rfl) | (simp (disch := first | assumption | omega) only [Int.tdiv_eq_ediv_of_nonneg, Int.tmod_eq_emod_of_nonneg]; rfl), by repeat (first | (with_reducible first | exact HB.out | apply below_alloc | apply pw_below_drewN | apply below_drew1) | exact HB.out)⟩
                        · rw [if_neg c116] at H
                          have c116b0 : (t237 == t233) = false := beq_eq_false_iff_ne.mpr c116
                          have c116b1 : (t237 != t233) = true := bne_iff_ne.mpr c116
                          obtain rfl := Option.some.inj H
                          go_wp2_with (first | ((with_reducible refine gate_callee (f := 25) rfl ?_); refine goesL_ (some 65) rfl rfl Try.func25 (by kernel_rfl) rfl #[.int .u64 a0, .int .u64 a1, .int .u64 ji4] rfl (by (try simp only [List.map_toArray, List.map_cons, List.map_nil]); first | done | (simp only [hji4]; rfl) | rfl | (simp only [List.length_drop, List.length_take]; rfl)) ?_; (with_reducible refine (exact_MulMod.calls kj8 a0 a1 ji4 t241 _ A22.out).mono ?_); rintro e w122 ⟨rfl, hb⟩; refine ⟨_, rfl, ?_⟩; have n0_ := Aside0.mk (below_step (by repeat (first | (with_reducible first | exact HB.out | apply below_alloc | apply pw_below_drewN | apply below_drew1) | exact HB.out)) hb); clear HB; have HB := n0_; clear n0_; (try clear hb); (try clear hb2); (try clear hk); (try clear hi)))
                          go_ret
                          exact ⟨by first | rfl | (simp [errW_none, errW_some] <;> rfl) | (simp only [← hji4]; first | rfl | (simp [errW_none, errW_some] <;> rfl)) | (simp [*, errW_none, errW_some] <;> rfl) | (simp (disch := first | assumption | omega) only [Int.tdiv_eq_ediv_of_nonneg, Int.tmod_eq_emod_of_nonneg]; rfl), by repeat (first | (with_reducible first | exact HB.out | apply below_alloc | apply pw_below_drewN | apply below_drew1) | exact HB.out)⟩
                    · rw [if_neg c109] at H
                      have c109b0 : (t235 == t233) = false := beq_eq_false_iff_ne.mpr c109
                      have c109b1 : (t235 != t233) = true := bne_iff_ne.mpr c109
                      obtain rfl := Option.some.inj H
                      go_wp2_with (first | ((with_reducible refine gate_callee (f := 25) rfl ?_); refine goesL_ (some 65) rfl rfl Try.func25 (by kernel_rfl) rfl #[.int .u64 a0, .int .u64 a1, .int .u64 ji4] rfl (by (try simp only [List.map_toArray, List.map_cons, List.map_nil]); first | done | (simp only [hji4]; rfl) | rfl | (simp only [List.length_drop, List.length_take]; rfl)) ?_; (with_reducible refine (exact_MulMod.calls kj8 a0 a1 ji4 t241 _ A22.out).mono ?_); rintro e w123 ⟨rfl, hb⟩; refine ⟨_, rfl, ?_⟩; have n0_ := Aside0.mk (below_step (by repeat (first | (with_reducible first | exact HB.out | apply below_alloc | apply pw_below_drewN | apply below_drew1) | exact HB.out)) hb); clear HB; have HB := n0_; clear n0_; (try clear hb); (try clear hb2); (try clear hk); (try clear hi)))
                      go_ret
                      exact ⟨by first | rfl | (simp [errW_none, errW_some] <;> rfl) | (simp only [← hji4]; first | rfl | (simp [errW_none, errW_some] <;> rfl)) | (simp [*, errW_none, errW_some] <;> rfl) | (simp (disch := first | assumption | omega) only [Int.tdiv_eq_ediv_of_nonneg, Int.tmod_eq_emod_of_nonneg]; rfl), by repeat (first | (with_reducible first | exact HB.out | apply below_alloc | apply pw_below_drewN | apply below_drew1) | exact HB.out)⟩
            · rw [if_neg c90] at H
              have c90b0 : (t238 == 0) = false := beq_eq_false_iff_ne.mpr c90
              have c90b1 : (t238 != 0) = true := bne_iff_ne.mpr c90
              obtain rfl := Option.some.inj H
              go_wp2_with (first | ((with_reducible refine gate_callee (f := 25) rfl ?_); refine goesL_ (some 65) rfl rfl Try.func25 (by kernel_rfl) rfl #[.int .u64 a0, .int .u64 a1, .int .u64 ji4] rfl (by (try simp only [List.map_toArray, List.map_cons, List.map_nil]); first | done | (simp only [hji4]; rfl) | rfl | (simp only [List.length_drop, List.length_take]; rfl)) ?_; (with_reducible refine (exact_MulMod.calls kj8 a0 a1 ji4 t241 _ A22.out).mono ?_); rintro e w124 ⟨rfl, hb⟩; refine ⟨_, rfl, ?_⟩; have n0_ := Aside0.mk (below_step (by repeat (first | (with_reducible first | exact HB.out | apply below_alloc | apply pw_below_drewN | apply below_drew1) | exact HB.out)) hb); clear HB; have HB := n0_; clear n0_; (try clear hb); (try clear hb2); (try clear hk); (try clear hi)))
              go_ret
              exact ⟨by first | rfl | (simp [errW_none, errW_some] <;> rfl) | (simp only [← hji4]; first | rfl | (simp [errW_none, errW_some] <;> rfl)) | (simp [*, errW_none, errW_some] <;> rfl) | (simp (disch := first | assumption | omega) only [Int.tdiv_eq_ediv_of_nonneg, Int.tmod_eq_emod_of_nonneg]; rfl), by repeat (first | (with_reducible first | exact HB.out | apply below_alloc | apply pw_below_drewN | apply below_drew1) | exact HB.out)⟩
          · rw [if_neg c89] at H
            have c89b0 : (t236 == 0) = false := beq_eq_false_iff_ne.mpr c89
            have c89b1 : (t236 != 0) = true := bne_iff_ne.mpr c89
            obtain rfl := Option.some.inj H
            go_wp2_with (first | ((with_reducible refine gate_callee (f := 25) rfl ?_); refine goesL_ (some 65) rfl rfl Try.func25 (by kernel_rfl) rfl #[.int .u64 a0, .int .u64 a1, .int .u64 ji4] rfl (by (try simp only [List.map_toArray, List.map_cons, List.map_nil]); first | done | (simp only [hji4]; rfl) | rfl | (simp only [List.length_drop, List.length_take]; rfl)) ?_; (with_reducible refine (exact_MulMod.calls kj8 a0 a1 ji4 t241 _ A22.out).mono ?_); rintro e w125 ⟨rfl, hb⟩; refine ⟨_, rfl, ?_⟩; have n0_ := Aside0.mk (below_step (by repeat (first | (with_reducible first | exact HB.out | apply below_alloc | apply pw_below_drewN | apply below_drew1) | exact HB.out)) hb); clear HB; have HB := n0_; clear n0_; (try clear hb); (try clear hb2); (try clear hk); (try clear hi)))
            go_ret
            exact ⟨by first | rfl | (simp [errW_none, errW_some] <;> rfl) | (simp only [← hji4]; first | rfl | (simp [errW_none, errW_some] <;> rfl)) | (simp [*, errW_none, errW_some] <;> rfl) | (simp (disch := first | assumption | omega) only [Int.tdiv_eq_ediv_of_nonneg, Int.tmod_eq_emod_of_nonneg]; rfl), by repeat (first | (with_reducible first | exact HB.out | apply below_alloc | apply pw_below_drewN | apply below_drew1) | exact HB.out)⟩

/-- THE ONE PURE STATEMENT of customslaw01_ExactModes: yours. -/
def customslaw01_ExactModes.Pure : Prop := ∀ (a0 : Int) (a1 : Int) (a2 : Int), (Lit.int .u64 a0).wf = true → (Lit.int .u64 a1).wf = true → (Lit.int .u64 a2).wf = true → ∃ k, customslaw01_ExactModes.f k a0 a1 a2 = some true
theorem customslaw01_ExactModes.walk (P : customslaw01_ExactModes.Pure) (a0 : Int) (a1 : Int) (a2 : Int) (w : World) (w0 : (Lit.int .u64 a0).wf = true) (w1 : (Lit.int .u64 a1).wf = true) (w2 : (Lit.int .u64 a2).wf = true) :
    Calls Try.prog 8 #[.int .u64 a0, .int .u64 a1, .int .u64 a2] w fun e w' => e = .returned (.bool true) ∧ Below w.heap.size w w' := by
  obtain ⟨k, h⟩ := P a0 a1 a2 w0 w1 w2
  refine (customslaw01_ExactModes.calls k a0 a1 a2 true w h).mono ?_
  rintro e w' ⟨rfl, hd⟩
  exact ⟨rfl, hd⟩

end Go.Proofs.Ytcoininpcicgmaa.PX
