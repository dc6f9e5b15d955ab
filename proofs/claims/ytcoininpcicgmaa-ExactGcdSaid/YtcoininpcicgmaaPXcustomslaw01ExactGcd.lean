/- Written by a program of this session (a changed printer): plain Lean functions with the answers of Go functions of this seat, each with a proof that the machine's call comes to them. -/
import Derived.Test.YtcoininpcicgmaaPX0
import Derived.Test.YtcoininpcicgmaaPXcustomslaw01awake
import Derived.Test.YtcoininpcicgmaaPXcustomsref01Gcd
import Derived.Test.YtcoininpcicgmaaPXcustomsref01Reduce
import Derived.Test.YtcoininpcicgmaaPXexactCompare
import Derived.Test.YtcoininpcicgmaaPXexactGcd
import Derived.Test.YtcoininpcicgmaaPXexactReduce
namespace Go.Proofs.Ytcoininpcicgmaa.PX
open Go.RowKit Go.Proofs.YtcoininpcicgmaaW.PrintWords Go.Proofs.YtcoininpcicgmaaW.PrintLast Go.Proofs.YtcoininpcicgmaaW.PrintMore
attribute [local go_sem] max2_int min2_int max_two min_two max_three min_three max_four min_four   -- for this text's walks alone
set_option linter.unusedVariables false
set_option linter.unusedSimpArgs false

/-! ### customslaw01_ExactGcd: function 6 -/
def customslaw01_ExactGcd.j0 : Nat → Int → Int → Int → Bool → Option (Bool)
  | 0, _, _, _, _ => none
  | k + 1, x0, x1, x2, x55 => if x55 = true then (some false) else ((exact_Gcd.f k (IntKind.u64.wrap ((x2 / 4294967296) * (x0 / 4294967296))) (IntKind.u64.wrap ((x2 / 4294967296) * (x1 / 4294967296)))).bind fun t202 => ((exact_Gcd.f k (x0 / 4294967296) (x1 / 4294967296)).bind fun t203 => (if t202 = (IntKind.u64.wrap ((x2 / 4294967296) * t203)) then ((customslaw01_awake.f k).bind fun t204 => (some t204)) else (some false))))
def customslaw01_ExactGcd.f (k : Nat) (a0 : Int) (a1 : Int) (a2 : Int) : Option (Bool) := (exact_Gcd.f k a0 a1).bind fun t194 => ((exact_Reduce.f k a0 a1).bind fun bt195 => ((customsref01_Reduce.f k a0 a1).bind fun bt197 => ((customsref01_Gcd.f k a0 a1).bind fun t199 => (if t194 = t199 then (if bt195.1 = bt197.1 then (if bt195.2 = bt197.2 then ((exact_Compare.f bt195.1 bt195.2 a0 a1).bind fun t200 => (if t200 = 0 then ((exact_Gcd.f k bt195.1 bt195.2).bind fun t201 => (customslaw01_ExactGcd.j0 k a0 a1 a2 (t201 != 1))) else (customslaw01_ExactGcd.j0 k a0 a1 a2 true))) else (customslaw01_ExactGcd.j0 k a0 a1 a2 true)) else (customslaw01_ExactGcd.j0 k a0 a1 a2 true)) else (customslaw01_ExactGcd.j0 k a0 a1 a2 true)))))
theorem customslaw01_ExactGcd.mono_l : ∀ k, (∀ y0 y1 y2 y3, LeO (customslaw01_ExactGcd.j0 k y0 y1 y2 y3) (customslaw01_ExactGcd.j0 (k + 1) y0 y1 y2 y3))
  | 0 => fun _ _ _ _ r h => by simp [customslaw01_ExactGcd.j0] at h
  | k + 1 => by
    have ih0 := customslaw01_ExactGcd.mono_l k
    · intro y0 y1 y2 y3
      unfold customslaw01_ExactGcd.j0
      repeat' first
      | (with_reducible exact ih0 _ _ _ _)
      | (with_reducible exact customslaw01_awake.mono _)
      | (with_reducible exact customsref01_Gcd.mono _ _ _)
      | (with_reducible exact customsref01_Reduce.mono _ _ _)
      | (with_reducible exact exact_Gcd.mono _ _ _)
      | (with_reducible exact exact_Reduce.mono _ _ _)
      | (with_reducible exact LeO.refl _)
      | (with_reducible exact LeO.none _)
      | (with_reducible refine LeO.ite ?_ ?_)
      | (with_reducible refine LeO.bind ?_ (fun _ => ?_))
      | exact ih0 _ _ _ _
      | exact customslaw01_awake.mono _
      | exact customsref01_Gcd.mono _ _ _
      | exact customsref01_Reduce.mono _ _ _
      | exact exact_Gcd.mono _ _ _
      | exact exact_Reduce.mono _ _ _
      | exact LeO.none _
      | refine LeO.ite ?_ ?_
      | refine LeO.bind ?_ (fun _ => ?_)
theorem customslaw01_ExactGcd.mono : ∀ a0 a1 a2 k, LeO (customslaw01_ExactGcd.f k a0 a1 a2) (customslaw01_ExactGcd.f (k + 1) a0 a1 a2) := by
  intro a0 a1 a2 k
  have ih0 := customslaw01_ExactGcd.mono_l k
  unfold customslaw01_ExactGcd.f
  repeat' first
      | (with_reducible exact ih0 _ _ _ _)
      | (with_reducible exact customslaw01_awake.mono _)
      | (with_reducible exact customsref01_Gcd.mono _ _ _)
      | (with_reducible exact customsref01_Reduce.mono _ _ _)
      | (with_reducible exact exact_Gcd.mono _ _ _)
      | (with_reducible exact exact_Reduce.mono _ _ _)
      | (with_reducible exact LeO.refl _)
      | (with_reducible exact LeO.none _)
      | (with_reducible refine LeO.ite ?_ ?_)
      | (with_reducible refine LeO.bind ?_ (fun _ => ?_))
      | exact ih0 _ _ _ _
      | exact customslaw01_awake.mono _
      | exact customsref01_Gcd.mono _ _ _
      | exact customsref01_Reduce.mono _ _ _
      | exact exact_Gcd.mono _ _ _
      | exact exact_Reduce.mono _ _ _
      | exact LeO.none _
      | refine LeO.ite ?_ ?_
      | refine LeO.bind ?_ (fun _ => ?_)
set_option maxHeartbeats 8000000 in
set_option maxRecDepth 100000 in
theorem customslaw01_ExactGcd.calls (k : Nat) (a0 : Int) (a1 : Int) (a2 : Int) (r : Bool) (w : World) (h : customslaw01_ExactGcd.f k a0 a1 a2 = some r) :
    Calls Try.prog 6 #[.int .u64 a0, .int .u64 a1, .int .u64 a2] w fun e w' => e = .returned (.bool r) ∧ Below w.heap.size w w' := by
  have HB := Aside0.mk (Below.refl w.heap.size w)
  have H : ((exact_Gcd.f k a0 a1).bind fun t194 => ((exact_Reduce.f k a0 a1).bind fun bt195 => ((customsref01_Reduce.f k a0 a1).bind fun bt197 => ((customsref01_Gcd.f k a0 a1).bind fun t199 => (if t194 = t199 then (if bt195.1 = bt197.1 then (if bt195.2 = bt197.2 then ((exact_Compare.f bt195.1 bt195.2 a0 a1).bind fun t200 => (if t200 = 0 then ((exact_Gcd.f k bt195.1 bt195.2).bind fun t201 => (customslaw01_ExactGcd.j0 k a0 a1 a2 (t201 != 1))) else (customslaw01_ExactGcd.j0 k a0 a1 a2 true))) else (customslaw01_ExactGcd.j0 k a0 a1 a2 true)) else (customslaw01_ExactGcd.j0 k a0 a1 a2 true)) else (customslaw01_ExactGcd.j0 k a0 a1 a2 true)))))) = some r := h
  clear h
  replace H := Option.bind_eq_some_iff.mp H
  obtain ⟨t194, A40, H⟩ := H
  replace H : ((exact_Reduce.f k a0 a1).bind fun bt195 => ((customsref01_Reduce.f k a0 a1).bind fun bt197 => ((customsref01_Gcd.f k a0 a1).bind fun t199 => (if t194 = t199 then (if bt195.1 = bt197.1 then (if bt195.2 = bt197.2 then ((exact_Compare.f bt195.1 bt195.2 a0 a1).bind fun t200 => (if t200 = 0 then ((exact_Gcd.f k bt195.1 bt195.2).bind fun t201 => (customslaw01_ExactGcd.j0 k a0 a1 a2 (t201 != 1))) else (customslaw01_ExactGcd.j0 k a0 a1 a2 true))) else (customslaw01_ExactGcd.j0 k a0 a1 a2 true)) else (customslaw01_ExactGcd.j0 k a0 a1 a2 true)) else (customslaw01_ExactGcd.j0 k a0 a1 a2 true))))) = some r := H
  have A4 := Aside0.mk A40
  clear A40
  replace H := Option.bind_eq_some_iff.mp H
  obtain ⟨⟨t195, t196⟩, A50, H⟩ := H
  replace H : ((customsref01_Reduce.f k a0 a1).bind fun bt197 => ((customsref01_Gcd.f k a0 a1).bind fun t199 => (if t194 = t199 then (if t195 = bt197.1 then (if t196 = bt197.2 then ((exact_Compare.f t195 t196 a0 a1).bind fun t200 => (if t200 = 0 then ((exact_Gcd.f k t195 t196).bind fun t201 => (customslaw01_ExactGcd.j0 k a0 a1 a2 (t201 != 1))) else (customslaw01_ExactGcd.j0 k a0 a1 a2 true))) else (customslaw01_ExactGcd.j0 k a0 a1 a2 true)) else (customslaw01_ExactGcd.j0 k a0 a1 a2 true)) else (customslaw01_ExactGcd.j0 k a0 a1 a2 true)))) = some r := H
  have A5 := Aside0.mk A50
  clear A50
  replace H := Option.bind_eq_some_iff.mp H
  obtain ⟨⟨t197, t198⟩, A60, H⟩ := H
  replace H : ((customsref01_Gcd.f k a0 a1).bind fun t199 => (if t194 = t199 then (if t195 = t197 then (if t196 = t198 then ((exact_Compare.f t195 t196 a0 a1).bind fun t200 => (if t200 = 0 then ((exact_Gcd.f k t195 t196).bind fun t201 => (customslaw01_ExactGcd.j0 k a0 a1 a2 (t201 != 1))) else (customslaw01_ExactGcd.j0 k a0 a1 a2 true))) else (customslaw01_ExactGcd.j0 k a0 a1 a2 true)) else (customslaw01_ExactGcd.j0 k a0 a1 a2 true)) else (customslaw01_ExactGcd.j0 k a0 a1 a2 true))) = some r := H
  have A6 := Aside0.mk A60
  clear A60
  have HC7 := Aside0.mk H
  clear H
  go_enter Try.func6, Try.ntmps6
  go_upto_region 4 with (first | ((with_reducible refine gate_callee (f := 16) rfl ?_); refine goesL_ (some 14) rfl rfl Try.func16 (by kernel_rfl) rfl #[.int .u64 a0, .int .u64 a1] rfl (by (try simp only [List.map_toArray, List.map_cons, List.map_nil]); first | done | rfl | (simp only [List.length_drop, List.length_take]; rfl)) ?_; (with_reducible refine (exact_Gcd.calls k a0 a1 t194 _ A4.out).mono ?_); rintro e w' ⟨rfl, ⟨nd, rfl⟩⟩; refine ⟨_, rfl, ?_⟩) | ((with_reducible refine gate_callee (f := 17) rfl ?_); refine goesL_ (some 18) rfl rfl Try.func17 (by kernel_rfl) rfl #[.int .u64 a0, .int .u64 a1] rfl (by (try simp only [List.map_toArray, List.map_cons, List.map_nil]); first | done | rfl | (simp only [List.length_drop, List.length_take]; rfl)) ?_; (with_reducible refine (exact_Reduce.calls k a0 a1 t195 t196 _ A5.out).mono ?_); rintro e w8 ⟨rfl, hb⟩; refine ⟨_, rfl, ?_⟩; have n0_ := Aside0.mk (below_step (by repeat (first | (with_reducible first | exact HB.out | apply below_alloc | apply pw_below_drewN | apply below_drew1) | exact HB.out)) hb); clear HB; have HB := n0_; clear n0_; (try clear hb); (try clear hb2); (try clear hk); (try clear hi)) | ((with_reducible refine gate_callee (f := 18) rfl ?_); refine goesL_ (some 24) rfl rfl Try.func18 (by kernel_rfl) rfl #[.int .u64 a0, .int .u64 a1] rfl (by (try simp only [List.map_toArray, List.map_cons, List.map_nil]); first | done | rfl | (simp only [List.length_drop, List.length_take]; rfl)) ?_; (with_reducible refine (customsref01_Reduce.calls k a0 a1 t197 t198 _ A6.out).mono ?_); rintro e w9 ⟨rfl, hb⟩; refine ⟨_, rfl, ?_⟩; have n0_ := Aside0.mk (below_step (by repeat (first | (with_reducible first | exact HB.out | apply below_alloc | apply pw_below_drewN | apply below_drew1) | exact HB.out)) hb); clear HB; have HB := n0_; clear n0_; (try clear hb); (try clear hb2); (try clear hk); (try clear hi)))
  (try simp only [Act.put, List.setIfInBounds_toArray, List.set_cons_zero, List.set_cons_succ])
  go_cut [55] (fun v55 wc => ∃ (kq : Nat) (x55_6 : Bool), v55 = .bool x55_6 ∧ Aside0 (customslaw01_ExactGcd.j0 kq a0 a1 a2 x55_6 = some r) ∧ Aside0 (kq ≤ k) ∧ Aside0 (Below w.heap.size w wc))
  case first =>
    have H := HC7.out
    clear HC7
    replace H := Option.bind_eq_some_iff.mp H
    obtain ⟨t199, A100, H⟩ := H
    replace H : (if t194 = t199 then (if t195 = t197 then (if t196 = t198 then ((exact_Compare.f t195 t196 a0 a1).bind fun t200 => (if t200 = 0 then ((exact_Gcd.f k t195 t196).bind fun t201 => (customslaw01_ExactGcd.j0 k a0 a1 a2 (t201 != 1))) else (customslaw01_ExactGcd.j0 k a0 a1 a2 true))) else (customslaw01_ExactGcd.j0 k a0 a1 a2 true)) else (customslaw01_ExactGcd.j0 k a0 a1 a2 true)) else (customslaw01_ExactGcd.j0 k a0 a1 a2 true)) = some r := H
    have A10 := Aside0.mk A100
    clear A100
    by_cases c11 : t194 = t199
    · rw [if_pos c11] at H
      have c11b0 : (t194 == t199) = true := beq_iff_eq.mpr c11
      have c11b1 : (t194 != t199) = false := bne_eq_false_iff_eq.mpr c11
      clear c11
      (first | rw [c11b0] | (simp only [i64_w, i32_w]; rw [c11b0]) | skip)
      by_cases c12 : t195 = t197
      · rw [if_pos c12] at H
        have c12b0 : (t195 == t197) = true := beq_iff_eq.mpr c12
        have c12b1 : (t195 != t197) = false := bne_eq_false_iff_eq.mpr c12
        clear c12
        by_cases c13 : t196 = t198
        · rw [if_pos c13] at H
          have c13b0 : (t196 == t198) = true := beq_iff_eq.mpr c13
          have c13b1 : (t196 != t198) = false := bne_eq_false_iff_eq.mpr c13
          clear c13
          replace H := Option.bind_eq_some_iff.mp H
          obtain ⟨t200, A140, H⟩ := H
          replace H : (if t200 = 0 then ((exact_Gcd.f k t195 t196).bind fun t201 => (customslaw01_ExactGcd.j0 k a0 a1 a2 (t201 != 1))) else (customslaw01_ExactGcd.j0 k a0 a1 a2 true)) = some r := H
          have A14 := Aside0.mk A140
          clear A140
          by_cases c15 : t200 = 0
          · rw [if_pos c15] at H
            have c15b0 : (t200 == 0) = true := beq_iff_eq.mpr c15
            have c15b1 : (t200 != 0) = false := bne_eq_false_iff_eq.mpr c15
            clear c15
            replace H := Option.bind_eq_some_iff.mp H
            obtain ⟨t201, A160, H⟩ := H
            replace H : (customslaw01_ExactGcd.j0 k a0 a1 a2 (t201 != 1)) = some r := H
            have A16 := Aside0.mk A160
            clear A160
            have H' := Aside0.mk H
            clear H
            go_wp2_with (first | ((with_reducible refine gate_callee (f := 19) rfl ?_); refine goesL_ (some 30) rfl rfl Try.func19 (by kernel_rfl) rfl #[.int .u64 a0, .int .u64 a1] rfl (by (try simp only [List.map_toArray, List.map_cons, List.map_nil]); first | done | rfl | (simp only [List.length_drop, List.length_take]; rfl)) ?_; (with_reducible refine (customsref01_Gcd.calls k a0 a1 t199 _ A10.out).mono ?_); rintro e w' ⟨rfl, ⟨nd, rfl⟩⟩; refine ⟨_, rfl, ?_⟩) | (go_at_call 14; (with_reducible refine (exact_Compare.calls t195 t196 a0 a1 t200 _ A14.out).mono ?_); rintro e w17 ⟨rfl, hb⟩; have n0_ := Aside0.mk (below_step (by repeat (first | (with_reducible first | exact HB.out | apply below_alloc | apply pw_below_drewN | apply below_drew1) | exact HB.out)) hb); clear HB; have HB := n0_; clear n0_; (try clear hb); (try clear hb2); (try clear hk); (try clear hi)) | (go_at_call 16; (with_reducible refine (exact_Gcd.calls k t195 t196 t201 _ A16.out).mono ?_); rintro e w' ⟨rfl, ⟨nd, rfl⟩⟩))
            go_meet
            case rel => exact ⟨_, ((t201 != 1)), (by first | rfl | (simp; done) | (simp [*]; done)), H', ⟨by first | omega | exact Nat.le_refl _⟩, ⟨by repeat (first | (with_reducible first | exact HB.out | apply below_alloc | apply pw_below_drewN | apply below_drew1) | exact HB.out)⟩⟩
          · rw [if_neg c15] at H
            have c15b0 : (t200 == 0) = false := beq_eq_false_iff_ne.mpr c15
            have c15b1 : (t200 != 0) = true := bne_iff_ne.mpr c15
            have H' := Aside0.mk H
            clear H
            go_wp2_with (first | ((with_reducible refine gate_callee (f := 19) rfl ?_); refine goesL_ (some 30) rfl rfl Try.func19 (by kernel_rfl) rfl #[.int .u64 a0, .int .u64 a1] rfl (by (try simp only [List.map_toArray, List.map_cons, List.map_nil]); first | done | rfl | (simp only [List.length_drop, List.length_take]; rfl)) ?_; (with_reducible refine (customsref01_Gcd.calls k a0 a1 t199 _ A10.out).mono ?_); rintro e w' ⟨rfl, ⟨nd, rfl⟩⟩; refine ⟨_, rfl, ?_⟩) | (go_at_call 14; (with_reducible refine (exact_Compare.calls t195 t196 a0 a1 t200 _ A14.out).mono ?_); rintro e w18 ⟨rfl, hb⟩; have n0_ := Aside0.mk (below_step (by repeat (first | (with_reducible first | exact HB.out | apply below_alloc | apply pw_below_drewN | apply below_drew1) | exact HB.out)) hb); clear HB; have HB := n0_; clear n0_; (try clear hb); (try clear hb2); (try clear hk); (try clear hi)))
            go_meet
            case rel => exact ⟨_, (true), (by first | rfl | (simp; done) | (simp [*]; done)), H', ⟨by first | omega | exact Nat.le_refl _⟩, ⟨by repeat (first | (with_reducible first | exact HB.out | apply below_alloc | apply pw_below_drewN | apply below_drew1) | exact HB.out)⟩⟩
        · rw [if_neg c13] at H
          have c13b0 : (t196 == t198) = false := beq_eq_false_iff_ne.mpr c13
          have c13b1 : (t196 != t198) = true := bne_iff_ne.mpr c13
          have H' := Aside0.mk H
          clear H
          go_wp2_with (first | ((with_reducible refine gate_callee (f := 19) rfl ?_); refine goesL_ (some 30) rfl rfl Try.func19 (by kernel_rfl) rfl #[.int .u64 a0, .int .u64 a1] rfl (by (try simp only [List.map_toArray, List.map_cons, List.map_nil]); first | done | rfl | (simp only [List.length_drop, List.length_take]; rfl)) ?_; (with_reducible refine (customsref01_Gcd.calls k a0 a1 t199 _ A10.out).mono ?_); rintro e w' ⟨rfl, ⟨nd, rfl⟩⟩; refine ⟨_, rfl, ?_⟩))
          go_meet
          case rel => exact ⟨_, (true), (by first | rfl | (simp; done) | (simp [*]; done)), H', ⟨by first | omega | exact Nat.le_refl _⟩, ⟨by repeat (first | (with_reducible first | exact HB.out | apply below_alloc | apply pw_below_drewN | apply below_drew1) | exact HB.out)⟩⟩
      · rw [if_neg c12] at H
        have c12b0 : (t195 == t197) = false := beq_eq_false_iff_ne.mpr c12
        have c12b1 : (t195 != t197) = true := bne_iff_ne.mpr c12
        have H' := Aside0.mk H
        clear H
        go_wp2_with (first | ((with_reducible refine gate_callee (f := 19) rfl ?_); refine goesL_ (some 30) rfl rfl Try.func19 (by kernel_rfl) rfl #[.int .u64 a0, .int .u64 a1] rfl (by (try simp only [List.map_toArray, List.map_cons, List.map_nil]); first | done | rfl | (simp only [List.length_drop, List.length_take]; rfl)) ?_; (with_reducible refine (customsref01_Gcd.calls k a0 a1 t199 _ A10.out).mono ?_); rintro e w' ⟨rfl, ⟨nd, rfl⟩⟩; refine ⟨_, rfl, ?_⟩))
        go_meet
        case rel => exact ⟨_, (true), (by first | rfl | (simp; done) | (simp [*]; done)), H', ⟨by first | omega | exact Nat.le_refl _⟩, ⟨by repeat (first | (with_reducible first | exact HB.out | apply below_alloc | apply pw_below_drewN | apply below_drew1) | exact HB.out)⟩⟩
    · rw [if_neg c11] at H
      have c11b0 : (t194 == t199) = false := beq_eq_false_iff_ne.mpr c11
      have c11b1 : (t194 != t199) = true := bne_iff_ne.mpr c11
      (first | rw [c11b0] | (simp only [i64_w, i32_w]; rw [c11b0]) | skip)
      have H' := Aside0.mk H
      clear H
      go_wp2_with (first | ((with_reducible refine gate_callee (f := 19) rfl ?_); refine goesL_ (some 30) rfl rfl Try.func19 (by kernel_rfl) rfl #[.int .u64 a0, .int .u64 a1] rfl (by (try simp only [List.map_toArray, List.map_cons, List.map_nil]); first | done | rfl | (simp only [List.length_drop, List.length_take]; rfl)) ?_; (with_reducible refine (customsref01_Gcd.calls k a0 a1 t199 _ A10.out).mono ?_); rintro e w' ⟨rfl, ⟨nd, rfl⟩⟩; refine ⟨_, rfl, ?_⟩))
      go_meet
      case rel => exact ⟨_, (true), (by first | rfl | (simp; done) | (simp [*]; done)), H', ⟨by first | omega | exact Nat.le_refl _⟩, ⟨by repeat (first | (with_reducible first | exact HB.out | apply below_alloc | apply pw_below_drewN | apply below_drew1) | exact HB.out)⟩⟩
  case rest =>
    clear HC7
    try clear c1
    try clear p2
    try clear c6
    try clear c11
    try clear c11b0
    try clear c11b1
    try clear c12
    try clear c12b0
    try clear c12b1
    try clear c13
    try clear c13b0
    try clear c13b1
    try clear c15
    try clear c15b0
    try clear c15b1
    try clear c16
    try clear c17
    try clear c18
    obtain ⟨kq, x55_6, rfl, HA, HJ6, HB⟩ := hcut
    cases kq with
    | zero => exact absurd HA.out (by simp [customslaw01_ExactGcd.j0])
    | succ kj6 =>
      have H := HA.out
      clear HA
      simp only [customslaw01_ExactGcd.j0] at H
      by_cases c19 : x55_6 = true
      · subst c19
        have H1 : (some false) = some r := by rw [if_pos rfl] at H; exact H
        clear H
        have H := H1
        clear H1
        obtain rfl := Option.some.inj H
        go_wp2
        go_ret
        exact ⟨by first | rfl | (simp [errW_none, errW_some] <;> rfl) | (simp [*, errW_none, errW_some] <;> rfl) | (simp (disch := first | assumption | omega) only [Int.tdiv_eq_ediv_of_nonneg, Int.tmod_eq_emod_of_nonneg]; rfl), by repeat (first | (with_reducible first | exact HB.out | apply below_alloc | apply pw_below_drewN | apply below_drew1) | exact HB.out)⟩
      · replace c19 := Bool.eq_false_iff.mpr c19
        subst c19
        have H1 : ((exact_Gcd.f kj6 (IntKind.u64.wrap ((a2 / 4294967296) * (a0 / 4294967296))) (IntKind.u64.wrap ((a2 / 4294967296) * (a1 / 4294967296)))).bind fun t202 => ((exact_Gcd.f kj6 (a0 / 4294967296) (a1 / 4294967296)).bind fun t203 => (if t202 = (IntKind.u64.wrap ((a2 / 4294967296) * t203)) then ((customslaw01_awake.f kj6).bind fun t204 => (some t204)) else (some false)))) = some r := by rw [if_neg (show ¬ (false = true) by decide)] at H; exact H
        clear H
        have H := H1
        clear H1
        replace H := Option.bind_eq_some_iff.mp H
        obtain ⟨t202, A200, H⟩ := H
        replace H : ((exact_Gcd.f kj6 (a0 / 4294967296) (a1 / 4294967296)).bind fun t203 => (if t202 = (IntKind.u64.wrap ((a2 / 4294967296) * t203)) then ((customslaw01_awake.f kj6).bind fun t204 => (some t204)) else (some false))) = some r := H
        have A20 := Aside0.mk A200
        clear A200
        replace H := Option.bind_eq_some_iff.mp H
        obtain ⟨t203, A210, H⟩ := H
        replace H : (if t202 = (IntKind.u64.wrap ((a2 / 4294967296) * t203)) then ((customslaw01_awake.f kj6).bind fun t204 => (some t204)) else (some false)) = some r := H
        have A21 := Aside0.mk A210
        clear A210
        by_cases c22 : t202 = (IntKind.u64.wrap ((a2 / 4294967296) * t203))
        · rw [if_pos c22] at H
          have c22b0 : (t202 == (IntKind.u64.wrap ((a2 / 4294967296) * t203))) = true := beq_iff_eq.mpr c22
          have c22b1 : (t202 != (IntKind.u64.wrap ((a2 / 4294967296) * t203))) = false := bne_eq_false_iff_eq.mpr c22
          clear c22
          replace H := Option.bind_eq_some_iff.mp H
          obtain ⟨t204, A230, H⟩ := H
          replace H : (some t204) = some r := H
          have A23 := Aside0.mk A230
          clear A230
          obtain rfl := Option.some.inj H
          go_wp2_with (first | ((with_reducible refine gate_callee (f := 16) rfl ?_); refine goesL_ (some 68) rfl rfl Try.func16 (by kernel_rfl) rfl #[.int .u64 (IntKind.u64.wrap ((a2 / 4294967296) * (a0 / 4294967296))), .int .u64 (IntKind.u64.wrap ((a2 / 4294967296) * (a1 / 4294967296)))] rfl (by (try simp only [List.map_toArray, List.map_cons, List.map_nil]); first | done | rfl | (simp only [List.length_drop, List.length_take]; rfl)) ?_; (with_reducible refine (exact_Gcd.calls kj6 (IntKind.u64.wrap ((a2 / 4294967296) * (a0 / 4294967296))) (IntKind.u64.wrap ((a2 / 4294967296) * (a1 / 4294967296))) t202 _ A20.out).mono ?_); rintro e w' ⟨rfl, ⟨nd, rfl⟩⟩; refine ⟨_, rfl, ?_⟩) | ((with_reducible refine gate_callee (f := 16) rfl ?_); refine goesL_ (some 72) rfl rfl Try.func16 (by kernel_rfl) rfl #[.int .u64 (a0 / 4294967296), .int .u64 (a1 / 4294967296)] rfl (by (try simp only [List.map_toArray, List.map_cons, List.map_nil]); first | done | rfl | (simp only [List.length_drop, List.length_take]; rfl)) ?_; (with_reducible refine (exact_Gcd.calls kj6 (a0 / 4294967296) (a1 / 4294967296) t203 _ A21.out).mono ?_); rintro e w' ⟨rfl, ⟨nd, rfl⟩⟩; refine ⟨_, rfl, ?_⟩) | (go_at_call 13; (with_reducible refine (customslaw01_awake.calls kj6  t204 _ A23.out).mono ?_); rintro e w24 ⟨rfl, hb⟩; have n0_ := Aside0.mk (below_step (by repeat (first | (with_reducible first | exact HB.out | apply below_alloc | apply pw_below_drewN | apply below_drew1) | exact HB.out)) hb); clear HB; have HB := n0_; clear n0_; (try clear hb); (try clear hb2); (try clear hk); (try clear hi)))
          go_ret
          exact ⟨by first | rfl | (simp [errW_none, errW_some] <;> rfl) | (simp [*, errW_none, errW_some] <;> rfl) | (simp (disch := first | assumption | omega) only [Int.tdiv_eq_ediv_of_nonneg, Int.tmod_eq_emod_of_nonneg]; rfl), by repeat (first | (with_reducible first | exact HB.out | apply below_alloc | apply pw_below_drewN | apply below_drew1) | exact HB.out)⟩
        · rw [if_neg c22] at H
          have c22b0 : (t202 == (IntKind.u64.wrap ((a2 / 4294967296) * t203))) = false := beq_eq_false_iff_ne.mpr c22
          have c22b1 : (t202 != (IntKind.u64.wrap ((a2 / 4294967296) * t203))) = true := bne_iff_ne.mpr c22
          obtain rfl := Option.some.inj H
          go_wp2_with (first | ((with_reducible refine gate_callee (f := 16) rfl ?_); refine goesL_ (some 68) rfl rfl Try.func16 (by kernel_rfl) rfl #[.int .u64 (IntKind.u64.wrap ((a2 / 4294967296) * (a0 / 4294967296))), .int .u64 (IntKind.u64.wrap ((a2 / 4294967296) * (a1 / 4294967296)))] rfl (by (try simp only [List.map_toArray, List.map_cons, List.map_nil]); first | done | rfl | (simp only [List.length_drop, List.length_take]; rfl)) ?_; (with_reducible refine (exact_Gcd.calls kj6 (IntKind.u64.wrap ((a2 / 4294967296) * (a0 / 4294967296))) (IntKind.u64.wrap ((a2 / 4294967296) * (a1 / 4294967296))) t202 _ A20.out).mono ?_); rintro e w' ⟨rfl, ⟨nd, rfl⟩⟩; refine ⟨_, rfl, ?_⟩) | ((with_reducible refine gate_callee (f := 16) rfl ?_); refine goesL_ (some 72) rfl rfl Try.func16 (by kernel_rfl) rfl #[.int .u64 (a0 / 4294967296), .int .u64 (a1 / 4294967296)] rfl (by (try simp only [List.map_toArray, List.map_cons, List.map_nil]); first | done | rfl | (simp only [List.length_drop, List.length_take]; rfl)) ?_; (with_reducible refine (exact_Gcd.calls kj6 (a0 / 4294967296) (a1 / 4294967296) t203 _ A21.out).mono ?_); rintro e w' ⟨rfl, ⟨nd, rfl⟩⟩; refine ⟨_, rfl, ?_⟩))
          go_ret
          exact ⟨by first | rfl | (simp [errW_none, errW_some] <;> rfl) | (simp [*, errW_none, errW_some] <;> rfl) | (simp (disch := first | assumption | omega) only [Int.tdiv_eq_ediv_of_nonneg, Int.tmod_eq_emod_of_nonneg]; rfl), by repeat (first | (with_reducible first | exact HB.out | apply below_alloc | apply pw_below_drewN | apply below_drew1) | exact HB.out)⟩

/-- THE ONE PURE STATEMENT of customslaw01_ExactGcd: yours. -/
def customslaw01_ExactGcd.Pure : Prop := ∀ (a0 : Int) (a1 : Int) (a2 : Int), (Lit.int .u64 a0).wf = true → (Lit.int .u64 a1).wf = true → (Lit.int .u64 a2).wf = true → ∃ k, customslaw01_ExactGcd.f k a0 a1 a2 = some true
theorem customslaw01_ExactGcd.walk (P : customslaw01_ExactGcd.Pure) (a0 : Int) (a1 : Int) (a2 : Int) (w : World) (w0 : (Lit.int .u64 a0).wf = true) (w1 : (Lit.int .u64 a1).wf = true) (w2 : (Lit.int .u64 a2).wf = true) :
    Calls Try.prog 6 #[.int .u64 a0, .int .u64 a1, .int .u64 a2] w fun e w' => e = .returned (.bool true) ∧ Below w.heap.size w w' := by
  obtain ⟨k, h⟩ := P a0 a1 a2 w0 w1 w2
  refine (customslaw01_ExactGcd.calls k a0 a1 a2 true w h).mono ?_
  rintro e w' ⟨rfl, hd⟩
  exact ⟨rfl, hd⟩

end Go.Proofs.Ytcoininpcicgmaa.PX
