/- Written by a program of this session (a changed printer): plain Lean functions with the answers of Go functions of this seat, each with a proof that the machine's call comes to them. -/
import Derived.Test.YtcoininpcicgmaaPX0
import Derived.Test.YtcoininpcicgmaaPXcustomslaw01awake
import Derived.Test.YtcoininpcicgmaaPXcustomsref01Compare
import Derived.Test.YtcoininpcicgmaaPXexactCompare
namespace Go.Proofs.Ytcoininpcicgmaa.PX
open Go.RowKit Go.Proofs.YtcoininpcicgmaaW.PrintWords Go.Proofs.YtcoininpcicgmaaW.PrintLast Go.Proofs.YtcoininpcicgmaaW.PrintMore
attribute [local go_sem] max2_int min2_int max_two min_two max_three min_three max_four min_four   -- for this text's walks alone
set_option linter.unusedVariables false
set_option linter.unusedSimpArgs false

/-! ### customslaw01_ExactCompare: function 4 -/
def customslaw01_ExactCompare.j0 : Nat → Int → Int → Int → Bool → Option (Bool)
  | 0, _, _, _, _ => none
  | k + 1, x0, x1, x4, x33 => if x33 = true then (some false) else (if (x4 / 4294967296) = 0 then ((customslaw01_awake.f k).bind fun t183 => (some t183)) else (if (x1 / 4294967296) = 0 then ((customslaw01_awake.f k).bind fun t184 => (some t184)) else ((exact_Compare.f (IntKind.u64.wrap ((x0 / 4294967296) * (x4 / 4294967296))) (IntKind.u64.wrap ((x1 / 4294967296) * (x4 / 4294967296))) (x0 / 4294967296) (x1 / 4294967296)).bind fun t185 => (if t185 = 0 then ((customslaw01_awake.f k).bind fun t186 => (some t186)) else (some false)))))
def customslaw01_ExactCompare.f (k : Nat) (a0 : Int) (a1 : Int) (a2 : Int) (a3 : Int) (a4 : Int) : Option (Bool) := (exact_Compare.f a0 a1 a2 a3).bind fun t180 => ((customsref01_Compare.f k a0 a1 a2 a3).bind fun t181 => (if t180 = t181 then ((exact_Compare.f a2 a3 a0 a1).bind fun t182 => (customslaw01_ExactCompare.j0 k a0 a1 a4 (t182 != (wrap64 (-t180))))) else (customslaw01_ExactCompare.j0 k a0 a1 a4 true)))
theorem customslaw01_ExactCompare.mono_l : ∀ k, (∀ y0 y1 y2 y3, LeO (customslaw01_ExactCompare.j0 k y0 y1 y2 y3) (customslaw01_ExactCompare.j0 (k + 1) y0 y1 y2 y3))
  | 0 => fun _ _ _ _ r h => by simp [customslaw01_ExactCompare.j0] at h
  | k + 1 => by
    have ih0 := customslaw01_ExactCompare.mono_l k
    · intro y0 y1 y2 y3
      unfold customslaw01_ExactCompare.j0
      repeat' first
      | (with_reducible exact ih0 _ _ _ _)
      | (with_reducible exact customslaw01_awake.mono _)
      | (with_reducible exact customsref01_Compare.mono _ _ _ _ _)
      | (with_reducible exact LeO.refl _)
      | (with_reducible exact LeO.none _)
      | (with_reducible refine LeO.ite ?_ ?_)
      | (with_reducible refine LeO.bind ?_ (fun _ => ?_))
      | exact ih0 _ _ _ _
      | exact customslaw01_awake.mono _
      | exact customsref01_Compare.mono _ _ _ _ _
      | exact LeO.none _
      | refine LeO.ite ?_ ?_
      | refine LeO.bind ?_ (fun _ => ?_)
theorem customslaw01_ExactCompare.mono : ∀ a0 a1 a2 a3 a4 k, LeO (customslaw01_ExactCompare.f k a0 a1 a2 a3 a4) (customslaw01_ExactCompare.f (k + 1) a0 a1 a2 a3 a4) := by
  intro a0 a1 a2 a3 a4 k
  have ih0 := customslaw01_ExactCompare.mono_l k
  unfold customslaw01_ExactCompare.f
  repeat' first
      | (with_reducible exact ih0 _ _ _ _)
      | (with_reducible exact customslaw01_awake.mono _)
      | (with_reducible exact customsref01_Compare.mono _ _ _ _ _)
      | (with_reducible exact LeO.refl _)
      | (with_reducible exact LeO.none _)
      | (with_reducible refine LeO.ite ?_ ?_)
      | (with_reducible refine LeO.bind ?_ (fun _ => ?_))
      | exact ih0 _ _ _ _
      | exact customslaw01_awake.mono _
      | exact customsref01_Compare.mono _ _ _ _ _
      | exact LeO.none _
      | refine LeO.ite ?_ ?_
      | refine LeO.bind ?_ (fun _ => ?_)
set_option maxHeartbeats 8000000 in
set_option maxRecDepth 100000 in
theorem customslaw01_ExactCompare.calls (k : Nat) (a0 : Int) (a1 : Int) (a2 : Int) (a3 : Int) (a4 : Int) (r : Bool) (w : World) (h : customslaw01_ExactCompare.f k a0 a1 a2 a3 a4 = some r) :
    Calls Try.prog 4 #[.int .u64 a0, .int .u64 a1, .int .u64 a2, .int .u64 a3, .int .u64 a4] w fun e w' => e = .returned (.bool r) ∧ Below w.heap.size w w' := by
  have HB := Aside0.mk (Below.refl w.heap.size w)
  have H : ((exact_Compare.f a0 a1 a2 a3).bind fun t180 => ((customsref01_Compare.f k a0 a1 a2 a3).bind fun t181 => (if t180 = t181 then ((exact_Compare.f a2 a3 a0 a1).bind fun t182 => (customslaw01_ExactCompare.j0 k a0 a1 a4 (t182 != (wrap64 (-t180))))) else (customslaw01_ExactCompare.j0 k a0 a1 a4 true)))) = some r := h
  clear h
  replace H := Option.bind_eq_some_iff.mp H
  obtain ⟨t180, A60, H⟩ := H
  replace H : ((customsref01_Compare.f k a0 a1 a2 a3).bind fun t181 => (if t180 = t181 then ((exact_Compare.f a2 a3 a0 a1).bind fun t182 => (customslaw01_ExactCompare.j0 k a0 a1 a4 (t182 != (wrap64 (-t180))))) else (customslaw01_ExactCompare.j0 k a0 a1 a4 true))) = some r := H
  have A6 := Aside0.mk A60
  clear A60
  have HC7 := Aside0.mk H
  clear H
  go_enter Try.func4, Try.ntmps4
  go_upto_region 2 with (first | ((with_reducible refine gate_callee (f := 14) rfl ?_); refine goesL_ (some 16) rfl rfl Try.func14 (by kernel_rfl) rfl #[.int .u64 a0, .int .u64 a1, .int .u64 a2, .int .u64 a3] rfl (by (try simp only [List.map_toArray, List.map_cons, List.map_nil]); first | done | rfl | (simp only [List.length_drop, List.length_take]; rfl)) ?_; (with_reducible refine (exact_Compare.calls a0 a1 a2 a3 t180 _ A6.out).mono ?_); rintro e w8 ⟨rfl, hb⟩; refine ⟨_, rfl, ?_⟩; have n0_ := Aside0.mk (below_step (by repeat (first | (with_reducible first | exact HB.out | apply below_alloc | apply pw_below_drewN | apply below_drew1) | exact HB.out)) hb); clear HB; have HB := n0_; clear n0_; (try clear hb); (try clear hb2); (try clear hk); (try clear hi)))
  (try simp only [Act.put, List.setIfInBounds_toArray, List.set_cons_zero, List.set_cons_succ])
  go_cut [33] (fun v33 wc => ∃ (kq : Nat) (x33_6 : Bool), v33 = .bool x33_6 ∧ Aside0 (customslaw01_ExactCompare.j0 kq a0 a1 a4 x33_6 = some r) ∧ Aside0 (kq ≤ k) ∧ Aside0 (Below w.heap.size w wc))
  case first =>
    have H := HC7.out
    clear HC7
    replace H := Option.bind_eq_some_iff.mp H
    obtain ⟨t181, A90, H⟩ := H
    replace H : (if t180 = t181 then ((exact_Compare.f a2 a3 a0 a1).bind fun t182 => (customslaw01_ExactCompare.j0 k a0 a1 a4 (t182 != (wrap64 (-t180))))) else (customslaw01_ExactCompare.j0 k a0 a1 a4 true)) = some r := H
    have A9 := Aside0.mk A90
    clear A90
    by_cases c10 : t180 = t181
    · rw [if_pos c10] at H
      have c10b0 : (t180 == t181) = true := beq_iff_eq.mpr c10
      have c10b1 : (t180 != t181) = false := bne_eq_false_iff_eq.mpr c10
      clear c10
      (first | rw [c10b0] | (simp only [i64_w, i32_w]; rw [c10b0]) | skip)
      replace H := Option.bind_eq_some_iff.mp H
      obtain ⟨t182, A110, H⟩ := H
      replace H : (customslaw01_ExactCompare.j0 k a0 a1 a4 (t182 != (wrap64 (-t180)))) = some r := H
      have A11 := Aside0.mk A110
      clear A110
      have H' := Aside0.mk H
      clear H
      go_wp2_with (first | ((with_reducible refine gate_callee (f := 15) rfl ?_); refine goesL_ (some 22) rfl rfl Try.func15 (by kernel_rfl) rfl #[.int .u64 a0, .int .u64 a1, .int .u64 a2, .int .u64 a3] rfl (by (try simp only [List.map_toArray, List.map_cons, List.map_nil]); first | done | rfl | (simp only [List.length_drop, List.length_take]; rfl)) ?_; (with_reducible refine (customsref01_Compare.calls k a0 a1 a2 a3 t181 _ A9.out).mono ?_); rintro e w12 ⟨rfl, hb⟩; refine ⟨_, rfl, ?_⟩; have n0_ := Aside0.mk (below_step (by repeat (first | (with_reducible first | exact HB.out | apply below_alloc | apply pw_below_drewN | apply below_drew1) | exact HB.out)) hb); clear HB; have HB := n0_; clear n0_; (try clear hb); (try clear hb2); (try clear hk); (try clear hi)) | (go_at_call 14; (with_reducible refine (exact_Compare.calls a2 a3 a0 a1 t182 _ A11.out).mono ?_); rintro e w13 ⟨rfl, hb⟩; have n0_ := Aside0.mk (below_step (by repeat (first | (with_reducible first | exact HB.out | apply below_alloc | apply pw_below_drewN | apply below_drew1) | exact HB.out)) hb); clear HB; have HB := n0_; clear n0_; (try clear hb); (try clear hb2); (try clear hk); (try clear hi)))
      go_meet
      case rel => exact ⟨_, ((t182 != (wrap64 (-t180)))), (by first | rfl | (simp; done) | (simp [*]; done)), H', ⟨by first | omega | exact Nat.le_refl _⟩, ⟨by repeat (first | (with_reducible first | exact HB.out | apply below_alloc | apply pw_below_drewN | apply below_drew1) | exact HB.out)⟩⟩
    · rw [if_neg c10] at H
      have c10b0 : (t180 == t181) = false := beq_eq_false_iff_ne.mpr c10
      have c10b1 : (t180 != t181) = true := bne_iff_ne.mpr c10
      (first | rw [c10b0] | (simp only [i64_w, i32_w]; rw [c10b0]) | skip)
      have H' := Aside0.mk H
      clear H
      go_wp2_with (first | ((with_reducible refine gate_callee (f := 15) rfl ?_); refine goesL_ (some 22) rfl rfl Try.func15 (by kernel_rfl) rfl #[.int .u64 a0, .int .u64 a1, .int .u64 a2, .int .u64 a3] rfl (by (try simp only [List.map_toArray, List.map_cons, List.map_nil]); first | done | rfl | (simp only [List.length_drop, List.length_take]; rfl)) ?_; (with_reducible refine (customsref01_Compare.calls k a0 a1 a2 a3 t181 _ A9.out).mono ?_); rintro e w14 ⟨rfl, hb⟩; refine ⟨_, rfl, ?_⟩; have n0_ := Aside0.mk (below_step (by repeat (first | (with_reducible first | exact HB.out | apply below_alloc | apply pw_below_drewN | apply below_drew1) | exact HB.out)) hb); clear HB; have HB := n0_; clear n0_; (try clear hb); (try clear hb2); (try clear hk); (try clear hi)))
      go_meet
      case rel => exact ⟨_, (true), (by first | rfl | (simp; done) | (simp [*]; done)), H', ⟨by first | omega | exact Nat.le_refl _⟩, ⟨by repeat (first | (with_reducible first | exact HB.out | apply below_alloc | apply pw_below_drewN | apply below_drew1) | exact HB.out)⟩⟩
  case rest =>
    clear HC7
    try clear c1
    try clear p2
    try clear c4
    try clear p6
    try clear c10
    try clear c10b0
    try clear c10b1
    try clear c14
    obtain ⟨kq, x33_6, rfl, HA, HJ6, HB⟩ := hcut
    cases kq with
    | zero => exact absurd HA.out (by simp [customslaw01_ExactCompare.j0])
    | succ kj6 =>
      have H := HA.out
      clear HA
      simp only [customslaw01_ExactCompare.j0] at H
      by_cases c15 : x33_6 = true
      · subst c15
        have H1 : (some false) = some r := by rw [if_pos rfl] at H; exact H
        clear H
        have H := H1
        clear H1
        obtain rfl := Option.some.inj H
        go_wp2
        go_ret
        exact ⟨by first | rfl | (simp [errW_none, errW_some] <;> rfl) | (simp [*, errW_none, errW_some] <;> rfl) | (simp (disch := first | assumption | omega) only [Int.tdiv_eq_ediv_of_nonneg, Int.tmod_eq_emod_of_nonneg]; rfl), by repeat (first | (with_reducible first | exact HB.out | apply below_alloc | apply pw_below_drewN | apply below_drew1) | exact HB.out)⟩
      · replace c15 := Bool.eq_false_iff.mpr c15
        subst c15
        have H1 : (if (a4 / 4294967296) = 0 then ((customslaw01_awake.f kj6).bind fun t183 => (some t183)) else (if (a1 / 4294967296) = 0 then ((customslaw01_awake.f kj6).bind fun t184 => (some t184)) else ((exact_Compare.f (IntKind.u64.wrap ((a0 / 4294967296) * (a4 / 4294967296))) (IntKind.u64.wrap ((a1 / 4294967296) * (a4 / 4294967296))) (a0 / 4294967296) (a1 / 4294967296)).bind fun t185 => (if t185 = 0 then ((customslaw01_awake.f kj6).bind fun t186 => (some t186)) else (some false))))) = some r := by rw [if_neg (show ¬ (false = true) by decide)] at H; exact H
        clear H
        have H := H1
        clear H1
        by_cases c16 : (a4 / 4294967296) = 0
        · rw [if_pos c16] at H
          have c16b0 : ((a4 / 4294967296) == 0) = true := beq_iff_eq.mpr c16
          have c16b1 : ((a4 / 4294967296) != 0) = false := bne_eq_false_iff_eq.mpr c16
          clear c16
          replace H := Option.bind_eq_some_iff.mp H
          obtain ⟨t183, A170, H⟩ := H
          replace H : (some t183) = some r := H
          have A17 := Aside0.mk A170
          clear A170
          obtain rfl := Option.some.inj H
          go_wp2_with (first | (go_at_call 13; (with_reducible refine (customslaw01_awake.calls kj6  t183 _ A17.out).mono ?_); rintro e w18 ⟨rfl, hb⟩; have n0_ := Aside0.mk (below_step (by repeat (first | (with_reducible first | exact HB.out | apply below_alloc | apply pw_below_drewN | apply below_drew1) | exact HB.out)) hb); clear HB; have HB := n0_; clear n0_; (try clear hb); (try clear hb2); (try clear hk); (try clear hi)))
          go_ret
          exact ⟨by first | rfl | (simp [errW_none, errW_some] <;> rfl) | (simp [*, errW_none, errW_some] <;> rfl) | (simp (disch := first | assumption | omega) only [Int.tdiv_eq_ediv_of_nonneg, Int.tmod_eq_emod_of_nonneg]; rfl), by repeat (first | (with_reducible first | exact HB.out | apply below_alloc | apply pw_below_drewN | apply below_drew1) | exact HB.out)⟩
        · rw [if_neg c16] at H
          have c16b0 : ((a4 / 4294967296) == 0) = false := beq_eq_false_iff_ne.mpr c16
          have c16b1 : ((a4 / 4294967296) != 0) = true := bne_iff_ne.mpr c16
          by_cases c19 : (a1 / 4294967296) = 0
          · rw [if_pos c19] at H
            have c19b0 : ((a1 / 4294967296) == 0) = true := beq_iff_eq.mpr c19
            have c19b1 : ((a1 / 4294967296) != 0) = false := bne_eq_false_iff_eq.mpr c19
            clear c19
            replace H := Option.bind_eq_some_iff.mp H
            obtain ⟨t184, A200, H⟩ := H
            replace H : (some t184) = some r := H
            have A20 := Aside0.mk A200
            clear A200
            obtain rfl := Option.some.inj H
            go_wp2_with (first | (go_at_call 13; (with_reducible refine (customslaw01_awake.calls kj6  t184 _ A20.out).mono ?_); rintro e w21 ⟨rfl, hb⟩; have n0_ := Aside0.mk (below_step (by repeat (first | (with_reducible first | exact HB.out | apply below_alloc | apply pw_below_drewN | apply below_drew1) | exact HB.out)) hb); clear HB; have HB := n0_; clear n0_; (try clear hb); (try clear hb2); (try clear hk); (try clear hi)))
            go_ret
            exact ⟨by first | rfl | (simp [errW_none, errW_some] <;> rfl) | (simp [*, errW_none, errW_some] <;> rfl) | (simp (disch := first | assumption | omega) only [Int.tdiv_eq_ediv_of_nonneg, Int.tmod_eq_emod_of_nonneg]; rfl), by repeat (first | (with_reducible first | exact HB.out | apply below_alloc | apply pw_below_drewN | apply below_drew1) | exact HB.out)⟩
          · rw [if_neg c19] at H
            have c19b0 : ((a1 / 4294967296) == 0) = false := beq_eq_false_iff_ne.mpr c19
            have c19b1 : ((a1 / 4294967296) != 0) = true := bne_iff_ne.mpr c19
            replace H := Option.bind_eq_some_iff.mp H
            obtain ⟨t185, A220, H⟩ := H
            replace H : (if t185 = 0 then ((customslaw01_awake.f kj6).bind fun t186 => (some t186)) else (some false)) = some r := H
            have A22 := Aside0.mk A220
            clear A220
            by_cases c23 : t185 = 0
            · rw [if_pos c23] at H
              have c23b0 : (t185 == 0) = true := beq_iff_eq.mpr c23
              have c23b1 : (t185 != 0) = false := bne_eq_false_iff_eq.mpr c23
              clear c23
              replace H := Option.bind_eq_some_iff.mp H
              obtain ⟨t186, A240, H⟩ := H
              replace H : (some t186) = some r := H
              have A24 := Aside0.mk A240
              clear A240
              obtain rfl := Option.some.inj H
              go_wp2_with (first | (go_at_call 14; (with_reducible refine (exact_Compare.calls (IntKind.u64.wrap ((a0 / 4294967296) * (a4 / 4294967296))) (IntKind.u64.wrap ((a1 / 4294967296) * (a4 / 4294967296))) (a0 / 4294967296) (a1 / 4294967296) t185 _ A22.out).mono ?_); rintro e w25 ⟨rfl, hb⟩; have n0_ := Aside0.mk (below_step (by repeat (first | (with_reducible first | exact HB.out | apply below_alloc | apply pw_below_drewN | apply below_drew1) | exact HB.out)) hb); clear HB; have HB := n0_; clear n0_; (try clear hb); (try clear hb2); (try clear hk); (try clear hi)) | (go_at_call 13; (with_reducible refine (customslaw01_awake.calls kj6  t186 _ A24.out).mono ?_); rintro e w26 ⟨rfl, hb⟩; have n0_ := Aside0.mk (below_step (by repeat (first | (with_reducible first | exact HB.out | apply below_alloc | apply pw_below_drewN | apply below_drew1) | exact HB.out)) hb); clear HB; have HB := n0_; clear n0_; (try clear hb); (try clear hb2); (try clear hk); (try clear hi)))
              go_ret
              exact ⟨by first | rfl | (simp [errW_none, errW_some] <;> rfl) | (simp [*, errW_none, errW_some] <;> rfl) | (simp (disch := first | assumption | omega) only [Int.tdiv_eq_ediv_of_nonneg, Int.tmod_eq_emod_of_nonneg]; rfl), by repeat (first | (with_reducible first | exact HB.out | apply below_alloc | apply pw_below_drewN | apply below_drew1) | exact HB.out)⟩
            · rw [if_neg c23] at H
              have c23b0 : (t185 == 0) = false := beq_eq_false_iff_ne.mpr c23
              have c23b1 : (t185 != 0) = true := bne_iff_ne.mpr c23
              obtain rfl := Option.some.inj H
              go_wp2_with (first | (go_at_call 14; (with_reducible refine (exact_Compare.calls (IntKind.u64.wrap ((a0 / 4294967296) * (a4 / 4294967296))) (IntKind.u64.wrap ((a1 / 4294967296) * (a4 / 4294967296))) (a0 / 4294967296) (a1 / 4294967296) t185 _ A22.out).mono ?_); rintro e w27 ⟨rfl, hb⟩; have n0_ := Aside0.mk (below_step (by repeat (first | (with_reducible first | exact HB.out | apply below_alloc | apply pw_below_drewN | apply below_drew1) | exact HB.out)) hb); clear HB; have HB := n0_; clear n0_; (try clear hb); (try clear hb2); (try clear hk); (try clear hi)))
              go_ret
              exact ⟨by first | rfl | (simp [errW_none, errW_some] <;> rfl) | (simp [*, errW_none, errW_some] <;> rfl) | (simp (disch := first | assumption | omega) only [Int.tdiv_eq_ediv_of_nonneg, Int.tmod_eq_emod_of_nonneg]; rfl), by repeat (first | (with_reducible first | exact HB.out | apply below_alloc | apply pw_below_drewN | apply below_drew1) | exact HB.out)⟩

/-- THE ONE PURE STATEMENT of customslaw01_ExactCompare: yours. -/
def customslaw01_ExactCompare.Pure : Prop := ∀ (a0 : Int) (a1 : Int) (a2 : Int) (a3 : Int) (a4 : Int), (Lit.int .u64 a0).wf = true → (Lit.int .u64 a1).wf = true → (Lit.int .u64 a2).wf = true → (Lit.int .u64 a3).wf = true → (Lit.int .u64 a4).wf = true → ∃ k, customslaw01_ExactCompare.f k a0 a1 a2 a3 a4 = some true
theorem customslaw01_ExactCompare.walk (P : customslaw01_ExactCompare.Pure) (a0 : Int) (a1 : Int) (a2 : Int) (a3 : Int) (a4 : Int) (w : World) (w0 : (Lit.int .u64 a0).wf = true) (w1 : (Lit.int .u64 a1).wf = true) (w2 : (Lit.int .u64 a2).wf = true) (w3 : (Lit.int .u64 a3).wf = true) (w4 : (Lit.int .u64 a4).wf = true) :
    Calls Try.prog 4 #[.int .u64 a0, .int .u64 a1, .int .u64 a2, .int .u64 a3, .int .u64 a4] w fun e w' => e = .returned (.bool true) ∧ Below w.heap.size w w' := by
  obtain ⟨k, h⟩ := P a0 a1 a2 a3 a4 w0 w1 w2 w3 w4
  refine (customslaw01_ExactCompare.calls k a0 a1 a2 a3 a4 true w h).mono ?_
  rintro e w' ⟨rfl, hd⟩
  exact ⟨rfl, hd⟩

end Go.Proofs.Ytcoininpcicgmaa.PX
