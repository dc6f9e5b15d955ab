/- Texts of this session joined by a small program: plain Lean functions with the answers of Go functions of this seat, proofs that the machine's calls come to them, and plain laws over them that the claim CurrencyAtRaw uses. -/
import Derived.Test.YtpmdlhncfggjkaaProg
import Derived.RegionTactic
import Derived.Maps.Own
import Derived.Maps.OwnOps
import Derived.Maps.OwnSet
import Derived.Laws.Externs
import Derived.WalkLawsBesides
import Derived.Deep.RegionLaw
import Derived.IntWalk
import Derived.Below
import Derived.Deep.Draws
import Derived.Deep.AppendLies
import Derived.Maps.AppendAt
import Derived.OwnWalk
import Derived.Laws.BytesArg
import Derived.Laws.MakeOwn
import Derived.Laws.OwnMore
import Derived.Deep.OwnRows
import Derived.Tactics
import Derived.Lib.ConvBytes
import Derived.Laws.Slices
import Derived.WalkKit
import Derived.KernelRfl
import Derived.RowKit3
import Derived.Deep.LoopGhost
import Derived.Deep.QuietTactic
import Derived.BigQuiet
import Derived.WideLaws
import Derived.Deep.DeepCutAuto
import Derived.Deep.CutBlock
import Derived.Deep.RegionHeld3
import Derived.Laws.Rows
import Derived.Lib.AppendStr
import Derived.ArgAppend
import Derived.Laws.IdiomCopy
import Derived.OrdersHeld
import Derived.Laws.BitsLemmas
import Derived.RowKit
import Derived.Test.YtpmdlhncfggjkaaWWords
import Derived.Test.YtpmdlhncfggjkaaWLast
import Derived.Test.YtpmdlhncfggjkaaWTab
import Derived.Test.YtpmdlhncfggjkaaWFour
import Derived.Test.YtpmdlhncfggjkaaWQPut
import Derived.Test.YtpmdlhncfggjkaaWApart
import Derived.Test.YtpmdlhncfggjkaaWArr
import Derived.Test.YtpmdlhncfggjkaaWZeros
import Derived.Test.YtpmdlhncfggjkaaWFoot
import Derived.Test.YtpmdlhncfggjkaaWKept
import Derived.Test.YtpmdlhncfggjkaaWShare
import Derived.Test.YtpmdlhncfggjkaaWN
import Derived.Test.YtpmdlhncfggjkaaWFootNe
import Derived.Test.YtpmdlhncfggjkaaWAt
import Derived.Test.YtpmdlhncfggjkaaWEqStruct
import Derived.Test.YtpmdlhncfggjkaaWRepsOne
import Derived.Test.YtpmdlhncfggjkaaWInv
import Derived.Test.YtpmdlhncfggjkaaWInvWords
import Derived.Test.YtpmdlhncfggjkaaWGuard
import Derived.Test.YtpmdlhncfggjkaaWNEv
import Derived.Test.YtpmdlhncfggjkaaWMore
import Derived.Laws.Bits64
import Derived.Sort.Walk0
import Derived.Deep.Slices
import Derived.SizedLaws
import Derived.ChangeArms
import Derived.Test.YtpmdlhncfggjkaaMCurrencyAtRaw1
section
namespace Go.Proofs.Ytpmdlhncfggjkaa.PX
open Go.RowKit Go.Proofs.YtpmdlhncfggjkaaW.PrintWords Go.Proofs.YtpmdlhncfggjkaaW.PrintLast Go.Proofs.YtpmdlhncfggjkaaW.PrintMore
attribute [local go_sem] max2_int min2_int max_two min_two max_three min_three max_four min_four   -- for this text's walks alone
set_option linter.unusedVariables false
set_option linter.unusedSimpArgs false

/-! ### customslaw05_awake: function 14 -/
def customslaw05_awake.f (k : Nat)  : Option (Bool) := (customslaw05_fixed.f).bind fun t150 => ((currency_Convert.f k t150 1000 (⟨#[85, 83, 68]⟩ : ByteArray) 9 0).bind fun bt153 => ((customslaw05_fixed.f).bind fun t155 => ((currency_Convert.f k t155 1000 (⟨#[85, 83, 68]⟩ : ByteArray) 10 0).bind fun bt158 => ((customslaw05_fixed.f).bind fun t160 => ((currency_At.f k t160 (⟨#[67, 72, 70]⟩ : ByteArray) 10).bind fun bt163 => (if bt153.1 = 900 then (if bt158.1 = 950 then (if bt153.2 = 0 then (if bt158.2 = 0 then (some (bt163.2 == 6)) else (some false)) else (some false)) else (some false)) else (some false)))))))
set_option maxHeartbeats 8000000 in
set_option maxRecDepth 100000 in
theorem customslaw05_awake.calls (k : Nat)  (r : Bool) (w : World) (h : customslaw05_awake.f k  = some r) :
    Calls Try.prog 14 #[] w fun e w' => e = .returned (.bool r) ∧ Below w.heap.size w w' := by
  have HB := Aside0.mk (Below.refl w.heap.size w)
  have H : ((customslaw05_fixed.f).bind fun t150 => ((currency_Convert.f k t150 1000 (⟨#[85, 83, 68]⟩ : ByteArray) 9 0).bind fun bt153 => ((customslaw05_fixed.f).bind fun t155 => ((currency_Convert.f k t155 1000 (⟨#[85, 83, 68]⟩ : ByteArray) 10 0).bind fun bt158 => ((customslaw05_fixed.f).bind fun t160 => ((currency_At.f k t160 (⟨#[67, 72, 70]⟩ : ByteArray) 10).bind fun bt163 => (if bt153.1 = 900 then (if bt158.1 = 950 then (if bt153.2 = 0 then (if bt158.2 = 0 then (some (bt163.2 == 6)) else (some false)) else (some false)) else (some false)) else (some false)))))))) = some r := h
  clear h
  replace H := Option.bind_eq_some_iff.mp H
  obtain ⟨t150, A10, H⟩ := H
  replace H : ((currency_Convert.f k t150 1000 (⟨#[85, 83, 68]⟩ : ByteArray) 9 0).bind fun bt153 => ((customslaw05_fixed.f).bind fun t155 => ((currency_Convert.f k t155 1000 (⟨#[85, 83, 68]⟩ : ByteArray) 10 0).bind fun bt158 => ((customslaw05_fixed.f).bind fun t160 => ((currency_At.f k t160 (⟨#[67, 72, 70]⟩ : ByteArray) 10).bind fun bt163 => (if bt153.1 = 900 then (if bt158.1 = 950 then (if bt153.2 = 0 then (if bt158.2 = 0 then (some (bt163.2 == 6)) else (some false)) else (some false)) else (some false)) else (some false))))))) = some r := H
  have A1 := Aside0.mk A10
  clear A10
  replace H := Option.bind_eq_some_iff.mp H
  obtain ⟨⟨t153, t154⟩, A20, H⟩ := H
  replace H : ((customslaw05_fixed.f).bind fun t155 => ((currency_Convert.f k t155 1000 (⟨#[85, 83, 68]⟩ : ByteArray) 10 0).bind fun bt158 => ((customslaw05_fixed.f).bind fun t160 => ((currency_At.f k t160 (⟨#[67, 72, 70]⟩ : ByteArray) 10).bind fun bt163 => (if t153 = 900 then (if bt158.1 = 950 then (if t154 = 0 then (if bt158.2 = 0 then (some (bt163.2 == 6)) else (some false)) else (some false)) else (some false)) else (some false)))))) = some r := H
  have A2 := Aside0.mk A20
  clear A20
  replace H := Option.bind_eq_some_iff.mp H
  obtain ⟨t155, A30, H⟩ := H
  replace H : ((currency_Convert.f k t155 1000 (⟨#[85, 83, 68]⟩ : ByteArray) 10 0).bind fun bt158 => ((customslaw05_fixed.f).bind fun t160 => ((currency_At.f k t160 (⟨#[67, 72, 70]⟩ : ByteArray) 10).bind fun bt163 => (if t153 = 900 then (if bt158.1 = 950 then (if t154 = 0 then (if bt158.2 = 0 then (some (bt163.2 == 6)) else (some false)) else (some false)) else (some false)) else (some false))))) = some r := H
  have A3 := Aside0.mk A30
  clear A30
  replace H := Option.bind_eq_some_iff.mp H
  obtain ⟨⟨t158, t159⟩, A40, H⟩ := H
  replace H : ((customslaw05_fixed.f).bind fun t160 => ((currency_At.f k t160 (⟨#[67, 72, 70]⟩ : ByteArray) 10).bind fun bt163 => (if t153 = 900 then (if t158 = 950 then (if t154 = 0 then (if t159 = 0 then (some (bt163.2 == 6)) else (some false)) else (some false)) else (some false)) else (some false)))) = some r := H
  have A4 := Aside0.mk A40
  clear A40
  replace H := Option.bind_eq_some_iff.mp H
  obtain ⟨t160, A50, H⟩ := H
  replace H : ((currency_At.f k t160 (⟨#[67, 72, 70]⟩ : ByteArray) 10).bind fun bt163 => (if t153 = 900 then (if t158 = 950 then (if t154 = 0 then (if t159 = 0 then (some (bt163.2 == 6)) else (some false)) else (some false)) else (some false)) else (some false))) = some r := H
  have A5 := Aside0.mk A50
  clear A50
  replace H := Option.bind_eq_some_iff.mp H
  obtain ⟨⟨t163, t164⟩, A60, H⟩ := H
  replace H : (if t153 = 900 then (if t158 = 950 then (if t154 = 0 then (if t159 = 0 then (some (t164 == 6)) else (some false)) else (some false)) else (some false)) else (some false)) = some r := H
  have A6 := Aside0.mk A60
  clear A60
  by_cases c7 : t153 = 900
  · rw [if_pos c7] at H
    have c7b0 : (t153 == 900) = true := beq_iff_eq.mpr c7
    have c7b1 : (t153 != 900) = false := bne_eq_false_iff_eq.mpr c7
    clear c7
    by_cases c8 : t158 = 950
    · rw [if_pos c8] at H
      have c8b0 : (t158 == 950) = true := beq_iff_eq.mpr c8
      have c8b1 : (t158 != 950) = false := bne_eq_false_iff_eq.mpr c8
      clear c8
      by_cases c9 : t154 = 0
      · rw [if_pos c9] at H
        have c9b0 : (t154 == 0) = true := beq_iff_eq.mpr c9
        have c9b1 : (t154 != 0) = false := bne_eq_false_iff_eq.mpr c9
        clear c9
        by_cases c10 : t159 = 0
        · rw [if_pos c10] at H
          have c10b0 : (t159 == 0) = true := beq_iff_eq.mpr c10
          have c10b1 : (t159 != 0) = false := bne_eq_false_iff_eq.mpr c10
          clear c10
          obtain rfl := Option.some.inj H
          go_enter Try.func14, Try.ntmps14
          go_wp2_with (first | ((with_reducible refine gate_callee (f := 28) rfl ?_); refine goesL_ (some 8) rfl rfl Try.func28 (by kernel_rfl) rfl #[] rfl (by (try simp only [List.map_toArray, List.map_cons, List.map_nil]); first | done | rfl | (simp only [List.length_drop, List.length_take]; rfl)) ?_; (with_reducible refine (customslaw05_fixed.calls  t150 _ A1.out).mono ?_); rintro e w11 ⟨v151, rfl, ho0, hb⟩; refine ⟨_, rfl, ?_⟩; have n0_ := Aside0.mk (Kd.R_lower ho0 (below_size (by repeat (first | (with_reducible first | exact HB.out | apply below_alloc | apply pw_below_drewN | apply below_drew1) | exact HB.out)))); have n1_ := Aside0.mk (below_step (by repeat (first | (with_reducible first | exact HB.out | apply below_alloc | apply pw_below_drewN | apply below_drew1) | exact HB.out)) hb); clear HB; have HO152 := n0_; have HB := n1_; clear n0_ n1_; (try clear hb); (try clear hb2); (try clear hk); (try clear hi); (try clear ho0); obtain ⟨Ao12, co12, eo12⟩ := Kd.R_slice HO152.out; subst eo12) | ((with_reducible refine gate_callee (f := 18) rfl ?_); refine goesL_ (some 9) rfl rfl Try.func18 (by kernel_rfl) rfl #[.slice Ao12 t150.length co12, .int .i64 1000, .string (⟨#[85, 83, 68]⟩ : ByteArray), .int .i64 9, .int .i64 0] rfl (by (try simp only [List.map_toArray, List.map_cons, List.map_nil]); first | done | rfl | (simp only [List.length_drop, List.length_take]; rfl)) ?_; (with_reducible refine (currency_Convert.calls k _ _ t150 1000 (⟨#[85, 83, 68]⟩ : ByteArray) 9 0 t153 t154 _ ?side1 ?side2 A2.out).mono ?_); (case side1 => repeat (first | exact (Kd.R_reads' HO152.out).2.2 | (with_reducible refine Kd.C_alloc ?_ _) | (with_reducible refine Kd.C_drewN ?_ _) | (with_reducible refine Kd.C_drew ?_))); (case side2 => exact (Kd.R_reads' HO152.out).2.1); rintro e w13 ⟨rfl, hb⟩; refine ⟨_, rfl, ?_⟩; have n0_ := Aside0.mk (Kd.R_below (by (with_reducible repeat (first | apply Kd.R_alloc | apply Kd.R_drewN | apply Kd.R_drew)); exact HO152.out) hb); have n1_ := Aside0.mk (below_step (by repeat (first | (with_reducible first | exact HB.out | apply below_alloc | apply pw_below_drewN | apply below_drew1) | exact HB.out)) hb); clear HO152; clear HB; have HO152 := n0_; have HB := n1_; clear n0_ n1_; (try clear hb); (try clear hb2); (try clear hk); (try clear hi)) | ((with_reducible refine gate_callee (f := 28) rfl ?_); refine goesL_ (some 13) rfl rfl Try.func28 (by kernel_rfl) rfl #[] rfl (by (try simp only [List.map_toArray, List.map_cons, List.map_nil]); first | done | rfl | (simp only [List.length_drop, List.length_take]; rfl)) ?_; (with_reducible refine (customslaw05_fixed.calls  t155 _ A3.out).mono ?_); rintro e w14 ⟨v156, rfl, ho0, hb⟩; refine ⟨_, rfl, ?_⟩; have n0_ := Aside0.mk (Kd.R_elder' (by (with_reducible repeat (first | apply Kd.R_alloc | apply Kd.R_drewN | apply Kd.R_drew)); exact HO152.out) (Kd.R_base ho0) hb); have n1_ := Aside0.mk (Kd.R_lower (Kd.R_new' ho0 (Kd.R_lt (by (with_reducible repeat (first | apply Kd.R_alloc | apply Kd.R_drewN | apply Kd.R_drew)); exact HO152.out))) (below_size (by repeat (first | (with_reducible first | exact HB.out | apply below_alloc | apply pw_below_drewN | apply below_drew1) | exact HB.out)))); have n2_ := Aside0.mk (below_step (by repeat (first | (with_reducible first | exact HB.out | apply below_alloc | apply pw_below_drewN | apply below_drew1) | exact HB.out)) hb); clear HO152; clear HB; have HO152 := n0_; have HO157 := n1_; have HB := n2_; clear n0_ n1_ n2_; (try clear hb); (try clear hb2); (try clear hk); (try clear hi); (try clear ho0); obtain ⟨Ao15, co15, eo15⟩ := Kd.R_slice HO157.out; subst eo15) | ((with_reducible refine gate_callee (f := 18) rfl ?_); refine goesL_ (some 14) rfl rfl Try.func18 (by kernel_rfl) rfl #[.slice Ao15 t155.length co15, .int .i64 1000, .string (⟨#[85, 83, 68]⟩ : ByteArray), .int .i64 10, .int .i64 0] rfl (by (try simp only [List.map_toArray, List.map_cons, List.map_nil]); first | done | rfl | (simp only [List.length_drop, List.length_take]; rfl)) ?_; (with_reducible refine (currency_Convert.calls k _ _ t155 1000 (⟨#[85, 83, 68]⟩ : ByteArray) 10 0 t158 t159 _ ?side1 ?side2 A4.out).mono ?_); (case side1 => repeat (first | exact (Kd.R_reads' HO157.out).2.2 | (with_reducible refine Kd.C_alloc ?_ _) | (with_reducible refine Kd.C_drewN ?_ _) | (with_reducible refine Kd.C_drew ?_))); (case side2 => exact (Kd.R_reads' HO157.out).2.1); rintro e w16 ⟨rfl, hb⟩; refine ⟨_, rfl, ?_⟩; have n0_ := Aside0.mk (Kd.R_below (by (with_reducible repeat (first | apply Kd.R_alloc | apply Kd.R_drewN | apply Kd.R_drew)); exact HO152.out) hb); have n1_ := Aside0.mk (Kd.R_below (by (with_reducible repeat (first | apply Kd.R_alloc | apply Kd.R_drewN | apply Kd.R_drew)); exact HO157.out) hb); have n2_ := Aside0.mk (below_step (by repeat (first | (with_reducible first | exact HB.out | apply below_alloc | apply pw_below_drewN | apply below_drew1) | exact HB.out)) hb); clear HO152; clear HO157; clear HB; have HO152 := n0_; have HO157 := n1_; have HB := n2_; clear n0_ n1_ n2_; (try clear hb); (try clear hb2); (try clear hk); (try clear hi)) | ((with_reducible refine gate_callee (f := 28) rfl ?_); refine goesL_ (some 18) rfl rfl Try.func28 (by kernel_rfl) rfl #[] rfl (by (try simp only [List.map_toArray, List.map_cons, List.map_nil]); first | done | rfl | (simp only [List.length_drop, List.length_take]; rfl)) ?_; (with_reducible refine (customslaw05_fixed.calls  t160 _ A5.out).mono ?_); rintro e w17 ⟨v161, rfl, ho0, hb⟩; refine ⟨_, rfl, ?_⟩; have n0_ := Aside0.mk (Kd.R_elder' (by (with_reducible repeat (first | apply Kd.R_alloc | apply Kd.R_drewN | apply Kd.R_drew)); exact HO152.out) (Kd.R_base ho0) hb); have n1_ := Aside0.mk (Kd.R_elder' (by (with_reducible repeat (first | apply Kd.R_alloc | apply Kd.R_drewN | apply Kd.R_drew)); exact HO157.out) (Kd.R_base ho0) hb); have n2_ := Aside0.mk (Kd.R_lower (Kd.R_new' (Kd.R_new' ho0 (Kd.R_lt (by (with_reducible repeat (first | apply Kd.R_alloc | apply Kd.R_drewN | apply Kd.R_drew)); exact HO152.out))) (Kd.R_lt (by (with_reducible repeat (first | apply Kd.R_alloc | apply Kd.R_drewN | apply Kd.R_drew)); exact HO157.out))) (below_size (by repeat (first | (with_reducible first | exact HB.out | apply below_alloc | apply pw_below_drewN | apply below_drew1) | exact HB.out)))); have n3_ := Aside0.mk (below_step (by repeat (first | (with_reducible first | exact HB.out | apply below_alloc | apply pw_below_drewN | apply below_drew1) | exact HB.out)) hb); clear HO152; clear HO157; clear HB; have HO152 := n0_; have HO157 := n1_; have HO162 := n2_; have HB := n3_; clear n0_ n1_ n2_ n3_; (try clear hb); (try clear hb2); (try clear hk); (try clear hi); (try clear ho0); obtain ⟨Ao18, co18, eo18⟩ := Kd.R_slice HO162.out; subst eo18) | ((with_reducible refine gate_callee (f := 15) rfl ?_); refine goesL_ (some 19) rfl rfl Try.func15 (by kernel_rfl) rfl #[.slice Ao18 t160.length co18, .string (⟨#[67, 72, 70]⟩ : ByteArray), .int .i64 10] rfl (by (try simp only [List.map_toArray, List.map_cons, List.map_nil]); first | done | rfl | (simp only [List.length_drop, List.length_take]; rfl)) ?_; (with_reducible refine (currency_At.calls k _ _ t160 (⟨#[67, 72, 70]⟩ : ByteArray) 10 t163 t164 _ ?side1 ?side2 A6.out).mono ?_); (case side1 => repeat (first | exact (Kd.R_reads' HO162.out).2.2 | (with_reducible refine Kd.C_alloc ?_ _) | (with_reducible refine Kd.C_drewN ?_ _) | (with_reducible refine Kd.C_drew ?_))); (case side2 => exact (Kd.R_reads' HO162.out).2.1); rintro e w19 ⟨rfl, hb⟩; refine ⟨_, rfl, ?_⟩; have n0_ := Aside0.mk (Kd.R_below (by (with_reducible repeat (first | apply Kd.R_alloc | apply Kd.R_drewN | apply Kd.R_drew)); exact HO152.out) hb); have n1_ := Aside0.mk (Kd.R_below (by (with_reducible repeat (first | apply Kd.R_alloc | apply Kd.R_drewN | apply Kd.R_drew)); exact HO157.out) hb); have n2_ := Aside0.mk (Kd.R_below (by (with_reducible repeat (first | apply Kd.R_alloc | apply Kd.R_drewN | apply Kd.R_drew)); exact HO162.out) hb); have n3_ := Aside0.mk (below_step (by repeat (first | (with_reducible first | exact HB.out | apply below_alloc | apply pw_below_drewN | apply below_drew1) | exact HB.out)) hb); clear HO152; clear HO157; clear HO162; clear HB; have HO152 := n0_; have HO157 := n1_; have HO162 := n2_; have HB := n3_; clear n0_ n1_ n2_ n3_; (try clear hb); (try clear hb2); (try clear hk); (try clear hi)))
          go_ret
          exact ⟨by first | rfl | (simp [errW_none, errW_some] <;> rfl) | (simp [*, errW_none, errW_some] <;> rfl) | (simp (disch := first | assumption | omega) only [Int.tdiv_eq_ediv_of_nonneg, Int.tmod_eq_emod_of_nonneg]; rfl), by repeat (first | (with_reducible first | exact HB.out | apply below_alloc | apply pw_below_drewN | apply below_drew1) | exact HB.out)⟩
        · rw [if_neg c10] at H
          have c10b0 : (t159 == 0) = false := beq_eq_false_iff_ne.mpr c10
          have c10b1 : (t159 != 0) = true := bne_iff_ne.mpr c10
          obtain rfl := Option.some.inj H
          go_enter Try.func14, Try.ntmps14
          go_wp2_with (first | ((with_reducible refine gate_callee (f := 28) rfl ?_); refine goesL_ (some 8) rfl rfl Try.func28 (by kernel_rfl) rfl #[] rfl (by (try simp only [List.map_toArray, List.map_cons, List.map_nil]); first | done | rfl | (simp only [List.length_drop, List.length_take]; rfl)) ?_; (with_reducible refine (customslaw05_fixed.calls  t150 _ A1.out).mono ?_); rintro e w20 ⟨v151, rfl, ho0, hb⟩; refine ⟨_, rfl, ?_⟩; have n0_ := Aside0.mk (Kd.R_lower ho0 (below_size (by repeat (first | (with_reducible first | exact HB.out | apply below_alloc | apply pw_below_drewN | apply below_drew1) | exact HB.out)))); have n1_ := Aside0.mk (below_step (by repeat (first | (with_reducible first | exact HB.out | apply below_alloc | apply pw_below_drewN | apply below_drew1) | exact HB.out)) hb); clear HB; have HO152 := n0_; have HB := n1_; clear n0_ n1_; (try clear hb); (try clear hb2); (try clear hk); (try clear hi); (try clear ho0); obtain ⟨Ao21, co21, eo21⟩ := Kd.R_slice HO152.out; subst eo21) | ((with_reducible refine gate_callee (f := 18) rfl ?_); refine goesL_ (some 9) rfl rfl Try.func18 (by kernel_rfl) rfl #[.slice Ao21 t150.length co21, .int .i64 1000, .string (⟨#[85, 83, 68]⟩ : ByteArray), .int .i64 9, .int .i64 0] rfl (by (try simp only [List.map_toArray, List.map_cons, List.map_nil]); first | done | rfl | (simp only [List.length_drop, List.length_take]; rfl)) ?_; (with_reducible refine (currency_Convert.calls k _ _ t150 1000 (⟨#[85, 83, 68]⟩ : ByteArray) 9 0 t153 t154 _ ?side1 ?side2 A2.out).mono ?_); (case side1 => repeat (first | exact (Kd.R_reads' HO152.out).2.2 | (with_reducible refine Kd.C_alloc ?_ _) | (with_reducible refine Kd.C_drewN ?_ _) | (with_reducible refine Kd.C_drew ?_))); (case side2 => exact (Kd.R_reads' HO152.out).2.1); rintro e w22 ⟨rfl, hb⟩; refine ⟨_, rfl, ?_⟩; have n0_ := Aside0.mk (Kd.R_below (by (with_reducible repeat (first | apply Kd.R_alloc | apply Kd.R_drewN | apply Kd.R_drew)); exact HO152.out) hb); have n1_ := Aside0.mk (below_step (by repeat (first | (with_reducible first | exact HB.out | apply below_alloc | apply pw_below_drewN | apply below_drew1) | exact HB.out)) hb); clear HO152; clear HB; have HO152 := n0_; have HB := n1_; clear n0_ n1_; (try clear hb); (try clear hb2); (try clear hk); (try clear hi)) | ((with_reducible refine gate_callee (f := 28) rfl ?_); refine goesL_ (some 13) rfl rfl Try.func28 (by kernel_rfl) rfl #[] rfl (by (try simp only [List.map_toArray, List.map_cons, List.map_nil]); first | done | rfl | (simp only [List.length_drop, List.length_take]; rfl)) ?_; (with_reducible refine (customslaw05_fixed.calls  t155 _ A3.out).mono ?_); rintro e w23 ⟨v156, rfl, ho0, hb⟩; refine ⟨_, rfl, ?_⟩; have n0_ := Aside0.mk (Kd.R_elder' (by (with_reducible repeat (first | apply Kd.R_alloc | apply Kd.R_drewN | apply Kd.R_drew)); exact HO152.out) (Kd.R_base ho0) hb); have n1_ := Aside0.mk (Kd.R_lower (Kd.R_new' ho0 (Kd.R_lt (by (with_reducible repeat (first | apply Kd.R_alloc | apply Kd.R_drewN | apply Kd.R_drew)); exact HO152.out))) (below_size (by repeat (first | (with_reducible first | exact HB.out | apply below_alloc | apply pw_below_drewN | apply below_drew1) | exact HB.out)))); have n2_ := Aside0.mk (below_step (by repeat (first | (with_reducible first | exact HB.out | apply below_alloc | apply pw_below_drewN | apply below_drew1) | exact HB.out)) hb); clear HO152; clear HB; have HO152 := n0_; have HO157 := n1_; have HB := n2_; clear n0_ n1_ n2_; (try clear hb); (try clear hb2); (try clear hk); (try clear hi); (try clear ho0); obtain ⟨Ao24, co24, eo24⟩ := Kd.R_slice HO157.out; subst eo24) | ((with_reducible refine gate_callee (f := 18) rfl ?_); refine goesL_ (some 14) rfl rfl Try.func18 (by kernel_rfl) rfl #[.slice Ao24 t155.length co24, .int .i64 1000, .string (⟨#[85, 83, 68]⟩ : ByteArray), .int .i64 10, .int .i64 0] rfl (by (try simp only [List.map_toArray, List.map_cons, List.map_nil]); first | done | rfl | (simp only [List.length_drop, List.length_take]; rfl)) ?_; (with_reducible refine (currency_Convert.calls k _ _ t155 1000 (⟨#[85, 83, 68]⟩ : ByteArray) 10 0 t158 t159 _ ?side1 ?side2 A4.out).mono ?_); (case side1 => repeat (first | exact (Kd.R_reads' HO157.out).2.2 | (with_reducible refine Kd.C_alloc ?_ _) | (with_reducible refine Kd.C_drewN ?_ _) | (with_reducible refine Kd.C_drew ?_))); (case side2 => exact (Kd.R_reads' HO157.out).2.1); rintro e w25 ⟨rfl, hb⟩; refine ⟨_, rfl, ?_⟩; have n0_ := Aside0.mk (Kd.R_below (by (with_reducible repeat (first | apply Kd.R_alloc | apply Kd.R_drewN | apply Kd.R_drew)); exact HO152.out) hb); have n1_ := Aside0.mk (Kd.R_below (by (with_reducible repeat (first | apply Kd.R_alloc | apply Kd.R_drewN | apply Kd.R_drew)); exact HO157.out) hb); have n2_ := Aside0.mk (below_step (by repeat (first | (with_reducible first | exact HB.out | apply below_alloc | apply pw_below_drewN | apply below_drew1) | exact HB.out)) hb); clear HO152; clear HO157; clear HB; have HO152 := n0_; have HO157 := n1_; have HB := n2_; clear n0_ n1_ n2_; (try clear hb); (try clear hb2); (try clear hk); (try clear hi)) | ((with_reducible refine gate_callee (f := 28) rfl ?_); refine goesL_ (some 18) rfl rfl Try.func28 (by kernel_rfl) rfl #[] rfl (by (try simp only [List.map_toArray, List.map_cons, List.map_nil]); first | done | rfl | (simp only [List.length_drop, List.length_take]; rfl)) ?_; (with_reducible refine (customslaw05_fixed.calls  t160 _ A5.out).mono ?_); rintro e w26 ⟨v161, rfl, ho0, hb⟩; refine ⟨_, rfl, ?_⟩; have n0_ := Aside0.mk (Kd.R_elder' (by (with_reducible repeat (first | apply Kd.R_alloc | apply Kd.R_drewN | apply Kd.R_drew)); exact HO152.out) (Kd.R_base ho0) hb); have n1_ := Aside0.mk (Kd.R_elder' (by (with_reducible repeat (first | apply Kd.R_alloc | apply Kd.R_drewN | apply Kd.R_drew)); exact HO157.out) (Kd.R_base ho0) hb); have n2_ := Aside0.mk (Kd.R_lower (Kd.R_new' (Kd.R_new' ho0 (Kd.R_lt (by (with_reducible repeat (first | apply Kd.R_alloc | apply Kd.R_drewN | apply Kd.R_drew)); exact HO152.out))) (Kd.R_lt (by (with_reducible repeat (first | apply Kd.R_alloc | apply Kd.R_drewN | apply Kd.R_drew)); exact HO157.out))) (below_size (by repeat (first | (with_reducible first | exact HB.out | apply below_alloc | apply pw_below_drewN | apply below_drew1) | exact HB.out)))); have n3_ := Aside0.mk (below_step (by repeat (first | (with_reducible first | exact HB.out | apply below_alloc | apply pw_below_drewN | apply below_drew1) | exact HB.out)) hb); clear HO152; clear HO157; clear HB; have HO152 := n0_; have HO157 := n1_; have HO162 := n2_; have HB := n3_; clear n0_ n1_ n2_ n3_; (try clear hb); (try clear hb2); (try clear hk); (try clear hi); (try clear ho0); obtain ⟨Ao27, co27, eo27⟩ := Kd.R_slice HO162.out; subst eo27) | ((with_reducible refine gate_callee (f := 15) rfl ?_); refine goesL_ (some 19) rfl rfl Try.func15 (by kernel_rfl) rfl #[.slice Ao27 t160.length co27, .string (⟨#[67, 72, 70]⟩ : ByteArray), .int .i64 10] rfl (by (try simp only [List.map_toArray, List.map_cons, List.map_nil]); first | done | rfl | (simp only [List.length_drop, List.length_take]; rfl)) ?_; (with_reducible refine (currency_At.calls k _ _ t160 (⟨#[67, 72, 70]⟩ : ByteArray) 10 t163 t164 _ ?side1 ?side2 A6.out).mono ?_); (case side1 => repeat (first | exact (Kd.R_reads' HO162.out).2.2 | (with_reducible refine Kd.C_alloc ?_ _) | (with_reducible refine Kd.C_drewN ?_ _) | (with_reducible refine Kd.C_drew ?_))); (case side2 => exact (Kd.R_reads' HO162.out).2.1); rintro e w28 ⟨rfl, hb⟩; refine ⟨_, rfl, ?_⟩; have n0_ := Aside0.mk (Kd.R_below (by (with_reducible repeat (first | apply Kd.R_alloc | apply Kd.R_drewN | apply Kd.R_drew)); exact HO152.out) hb); have n1_ := Aside0.mk (Kd.R_below (by (with_reducible repeat (first | apply Kd.R_alloc | apply Kd.R_drewN | apply Kd.R_drew)); exact HO157.out) hb); have n2_ := Aside0.mk (Kd.R_below (by (with_reducible repeat (first | apply Kd.R_alloc | apply Kd.R_drewN | apply Kd.R_drew)); exact HO162.out) hb); have n3_ := Aside0.mk (below_step (by repeat (first | (with_reducible first | exact HB.out | apply below_alloc | apply pw_below_drewN | apply below_drew1) | exact HB.out)) hb); clear HO152; clear HO157; clear HO162; clear HB; have HO152 := n0_; have HO157 := n1_; have HO162 := n2_; have HB := n3_; clear n0_ n1_ n2_ n3_; (try clear hb); (try clear hb2); (try clear hk); (try clear hi)))
          go_ret
          exact ⟨by first | rfl | (simp [errW_none, errW_some] <;> rfl) | (simp [*, errW_none, errW_some] <;> rfl) | (simp (disch := first | assumption | omega) only [Int.tdiv_eq_ediv_of_nonneg, Int.tmod_eq_emod_of_nonneg]; rfl), by repeat (first | (with_reducible first | exact HB.out | apply below_alloc | apply pw_below_drewN | apply below_drew1) | exact HB.out)⟩
      · rw [if_neg c9] at H
        have c9b0 : (t154 == 0) = false := beq_eq_false_iff_ne.mpr c9
        have c9b1 : (t154 != 0) = true := bne_iff_ne.mpr c9
        obtain rfl := Option.some.inj H
        go_enter Try.func14, Try.ntmps14
        go_wp2_with (first | ((with_reducible refine gate_callee (f := 28) rfl ?_); refine goesL_ (some 8) rfl rfl Try.func28 (by kernel_rfl) rfl #[] rfl (by (try simp only [List.map_toArray, List.map_cons, List.map_nil]); first | done | rfl | (simp only [List.length_drop, List.length_take]; rfl)) ?_; (with_reducible refine (customslaw05_fixed.calls  t150 _ A1.out).mono ?_); rintro e w29 ⟨v151, rfl, ho0, hb⟩; refine ⟨_, rfl, ?_⟩; have n0_ := Aside0.mk (Kd.R_lower ho0 (below_size (by repeat (first | (with_reducible first | exact HB.out | apply below_alloc | apply pw_below_drewN | apply below_drew1) | exact HB.out)))); have n1_ := Aside0.mk (below_step (by repeat (first | (with_reducible first | exact HB.out | apply below_alloc | apply pw_below_drewN | apply below_drew1) | exact HB.out)) hb); clear HB; have HO152 := n0_; have HB := n1_; clear n0_ n1_; (try clear hb); (try clear hb2); (try clear hk); (try clear hi); (try clear ho0); obtain ⟨Ao30, co30, eo30⟩ := Kd.R_slice HO152.out; subst eo30) | ((with_reducible refine gate_callee (f := 18) rfl ?_); refine goesL_ (some 9) rfl rfl Try.func18 (by kernel_rfl) rfl #[.slice Ao30 t150.length co30, .int .i64 1000, .string (⟨#[85, 83, 68]⟩ : ByteArray), .int .i64 9, .int .i64 0] rfl (by (try simp only [List.map_toArray, List.map_cons, List.map_nil]); first | done | rfl | (simp only [List.length_drop, List.length_take]; rfl)) ?_; (with_reducible refine (currency_Convert.calls k _ _ t150 1000 (⟨#[85, 83, 68]⟩ : ByteArray) 9 0 t153 t154 _ ?side1 ?side2 A2.out).mono ?_); (case side1 => repeat (first | exact (Kd.R_reads' HO152.out).2.2 | (with_reducible refine Kd.C_alloc ?_ _) | (with_reducible refine Kd.C_drewN ?_ _) | (with_reducible refine Kd.C_drew ?_))); (case side2 => exact (Kd.R_reads' HO152.out).2.1); rintro e w31 ⟨rfl, hb⟩; refine ⟨_, rfl, ?_⟩; have n0_ := Aside0.mk (Kd.R_below (by (with_reducible repeat (first | apply Kd.R_alloc | apply Kd.R_drewN | apply Kd.R_drew)); exact HO152.out) hb); have n1_ := Aside0.mk (below_step (by repeat (first | (with_reducible first | exact HB.out | apply below_alloc | apply pw_below_drewN | apply below_drew1) | exact HB.out)) hb); clear HO152; clear HB; have HO152 := n0_; have HB := n1_; clear n0_ n1_; (try clear hb); (try clear hb2); (try clear hk); (try clear hi)) | ((with_reducible refine gate_callee (f := 28) rfl ?_); refine goesL_ (some 13) rfl rfl Try.func28 (by kernel_rfl) rfl #[] rfl (by (try simp only [List.map_toArray, List.map_cons, List.map_nil]); first | done | rfl | (simp only [List.length_drop, List.length_take]; rfl)) ?_; (with_reducible refine (customslaw05_fixed.calls  t155 _ A3.out).mono ?_); rintro e w32 ⟨v156, rfl, ho0, hb⟩; refine ⟨_, rfl, ?_⟩; have n0_ := Aside0.mk (Kd.R_elder' (by (with_reducible repeat (first | apply Kd.R_alloc | apply Kd.R_drewN | apply Kd.R_drew)); exact HO152.out) (Kd.R_base ho0) hb); have n1_ := Aside0.mk (Kd.R_lower (Kd.R_new' ho0 (Kd.R_lt (by (with_reducible repeat (first | apply Kd.R_alloc | apply Kd.R_drewN | apply Kd.R_drew)); exact HO152.out))) (below_size (by repeat (first | (with_reducible first | exact HB.out | apply below_alloc | apply pw_below_drewN | apply below_drew1) | exact HB.out)))); have n2_ := Aside0.mk (below_step (by repeat (first | (with_reducible first | exact HB.out | apply below_alloc | apply pw_below_drewN | apply below_drew1) | exact HB.out)) hb); clear HO152; clear HB; have HO152 := n0_; have HO157 := n1_; have HB := n2_; clear n0_ n1_ n2_; (try clear hb); (try clear hb2); (try clear hk); (try clear hi); (try clear ho0); obtain ⟨Ao33, co33, eo33⟩ := Kd.R_slice HO157.out; subst eo33) | ((with_reducible refine gate_callee (f := 18) rfl ?_); refine goesL_ (some 14) rfl rfl Try.func18 (by kernel_rfl) rfl #[.slice Ao33 t155.length co33, .int .i64 1000, .string (⟨#[85, 83, 68]⟩ : ByteArray), .int .i64 10, .int .i64 0] rfl (by (try simp only [List.map_toArray, List.map_cons, List.map_nil]); first | done | rfl | (simp only [List.length_drop, List.length_take]; rfl)) ?_; (with_reducible refine (currency_Convert.calls k _ _ t155 1000 (⟨#[85, 83, 68]⟩ : ByteArray) 10 0 t158 t159 _ ?side1 ?side2 A4.out).mono ?_); (case side1 => repeat (first | exact (Kd.R_reads' HO157.out).2.2 | (with_reducible refine Kd.C_alloc ?_ _) | (with_reducible refine Kd.C_drewN ?_ _) | (with_reducible refine Kd.C_drew ?_))); (case side2 => exact (Kd.R_reads' HO157.out).2.1); rintro e w34 ⟨rfl, hb⟩; refine ⟨_, rfl, ?_⟩; have n0_ := Aside0.mk (Kd.R_below (by (with_reducible repeat (first | apply Kd.R_alloc | apply Kd.R_drewN | apply Kd.R_drew)); exact HO152.out) hb); have n1_ := Aside0.mk (Kd.R_below (by (with_reducible repeat (first | apply Kd.R_alloc | apply Kd.R_drewN | apply Kd.R_drew)); exact HO157.out) hb); have n2_ := Aside0.mk (below_step (by repeat (first | (with_reducible first | exact HB.out | apply below_alloc | apply pw_below_drewN | apply below_drew1) | exact HB.out)) hb); clear HO152; clear HO157; clear HB; have HO152 := n0_; have HO157 := n1_; have HB := n2_; clear n0_ n1_ n2_; (try clear hb); (try clear hb2); (try clear hk); (try clear hi)) | ((with_reducible refine gate_callee (f := 28) rfl ?_); refine goesL_ (some 18) rfl rfl Try.func28 (by kernel_rfl) rfl #[] rfl (by (try simp only [List.map_toArray, List.map_cons, List.map_nil]); first | done | rfl | (simp only [List.length_drop, List.length_take]; rfl)) ?_; (with_reducible refine (customslaw05_fixed.calls  t160 _ A5.out).mono ?_); rintro e w35 ⟨v161, rfl, ho0, hb⟩; refine ⟨_, rfl, ?_⟩; have n0_ := Aside0.mk (Kd.R_elder' (by (with_reducible repeat (first | apply Kd.R_alloc | apply Kd.R_drewN | apply Kd.R_drew)); exact HO152.out) (Kd.R_base ho0) hb); have n1_ := Aside0.mk (Kd.R_elder' (by (with_reducible repeat (first | apply Kd.R_alloc | apply Kd.R_drewN | apply Kd.R_drew)); exact HO157.out) (Kd.R_base ho0) hb); have n2_ := Aside0.mk (Kd.R_lower (Kd.R_new' (Kd.R_new' ho0 (Kd.R_lt (by (with_reducible repeat (first | apply Kd.R_alloc | apply Kd.R_drewN | apply Kd.R_drew)); exact HO152.out))) (Kd.R_lt (by (with_reducible repeat (first | apply Kd.R_alloc | apply Kd.R_drewN | apply Kd.R_drew)); exact HO157.out))) (below_size (by repeat (first | (with_reducible first | exact HB.out | apply below_alloc | apply pw_below_drewN | apply below_drew1) | exact HB.out)))); have n3_ := Aside0.mk (below_step (by repeat (first | (with_reducible first | exact HB.out | apply below_alloc | apply pw_below_drewN | apply below_drew1) | exact HB.out)) hb); clear HO152; clear HO157; clear HB; have HO152 := n0_; have HO157 := n1_; have HO162 := n2_; have HB := n3_; clear n0_ n1_ n2_ n3_; (try clear hb); (try clear hb2); (try clear hk); (try clear hi); (try clear ho0); obtain ⟨Ao36, co36, eo36⟩ := Kd.R_slice HO162.out; subst eo36) | ((with_reducible refine gate_callee (f := 15) rfl ?_); refine goesL_ (some 19) rfl rfl Try.func15 (by kernel_rfl) rfl #[.slice Ao36 t160.length co36, .string (⟨#[67, 72, 70]⟩ : ByteArray), .int .i64 10] rfl (by (try simp only [List.map_toArray, List.map_cons, List.map_nil]); first | done | rfl | (simp only [List.length_drop, List.length_take]; rfl)) ?_; (with_reducible refine (currency_At.calls k _ _ t160 (⟨#[67, 72, 70]⟩ : ByteArray) 10 t163 t164 _ ?side1 ?side2 A6.out).mono ?_); (case side1 => repeat (first | exact (Kd.R_reads' HO162.out).2.2 | (with_reducible refine Kd.C_alloc ?_ _) | (with_reducible refine Kd.C_drewN ?_ _) | (with_reducible refine Kd.C_drew ?_))); (case side2 => exact (Kd.R_reads' HO162.out).2.1); rintro e w37 ⟨rfl, hb⟩; refine ⟨_, rfl, ?_⟩; have n0_ := Aside0.mk (Kd.R_below (by (with_reducible repeat (first | apply Kd.R_alloc | apply Kd.R_drewN | apply Kd.R_drew)); exact HO152.out) hb); have n1_ := Aside0.mk (Kd.R_below (by (with_reducible repeat (first | apply Kd.R_alloc | apply Kd.R_drewN | apply Kd.R_drew)); exact HO157.out) hb); have n2_ := Aside0.mk (Kd.R_below (by (with_reducible repeat (first | apply Kd.R_alloc | apply Kd.R_drewN | apply Kd.R_drew)); exact HO162.out) hb); have n3_ := Aside0.mk (below_step (by repeat (first | (with_reducible first | exact HB.out | apply below_alloc | apply pw_below_drewN | apply below_drew1) | exact HB.out)) hb); clear HO152; clear HO157; clear HO162; clear HB; have HO152 := n0_; have HO157 := n1_; have HO162 := n2_; have HB := n3_; clear n0_ n1_ n2_ n3_; (try clear hb); (try clear hb2); (try clear hk); (try clear hi)))
        go_ret
        exact ⟨by first | rfl | (simp [errW_none, errW_some] <;> rfl) | (simp [*, errW_none, errW_some] <;> rfl) | (simp (disch := first | assumption | omega) only [Int.tdiv_eq_ediv_of_nonneg, Int.tmod_eq_emod_of_nonneg]; rfl), by repeat (first | (with_reducible first | exact HB.out | apply below_alloc | apply pw_below_drewN | apply below_drew1) | exact HB.out)⟩
    · rw [if_neg c8] at H
      have c8b0 : (t158 == 950) = false := beq_eq_false_iff_ne.mpr c8
      have c8b1 : (t158 != 950) = true := bne_iff_ne.mpr c8
      obtain rfl := Option.some.inj H
      go_enter Try.func14, Try.ntmps14
      go_wp2_with (first | ((with_reducible refine gate_callee (f := 28) rfl ?_); refine goesL_ (some 8) rfl rfl Try.func28 (by kernel_rfl) rfl #[] rfl (by (try simp only [List.map_toArray, List.map_cons, List.map_nil]); first | done | rfl | (simp only [List.length_drop, List.length_take]; rfl)) ?_; (with_reducible refine (customslaw05_fixed.calls  t150 _ A1.out).mono ?_); rintro e w38 ⟨v151, rfl, ho0, hb⟩; refine ⟨_, rfl, ?_⟩; have n0_ := Aside0.mk (Kd.R_lower ho0 (below_size (by repeat (first | (with_reducible first | exact HB.out | apply below_alloc | apply pw_below_drewN | apply below_drew1) | exact HB.out)))); have n1_ := Aside0.mk (below_step (by repeat (first | (with_reducible first | exact HB.out | apply below_alloc | apply pw_below_drewN | apply below_drew1) | exact HB.out)) hb); clear HB; have HO152 := n0_; have HB := n1_; clear n0_ n1_; (try clear hb); (try clear hb2); (try clear hk); (try clear hi); (try clear ho0); obtain ⟨Ao39, co39, eo39⟩ := Kd.R_slice HO152.out; subst eo39) | ((with_reducible refine gate_callee (f := 18) rfl ?_); refine goesL_ (some 9) rfl rfl Try.func18 (by kernel_rfl) rfl #[.slice Ao39 t150.length co39, .int .i64 1000, .string (⟨#[85, 83, 68]⟩ : ByteArray), .int .i64 9, .int .i64 0] rfl (by (try simp only [List.map_toArray, List.map_cons, List.map_nil]); first | done | rfl | (simp only [List.length_drop, List.length_take]; rfl)) ?_; (with_reducible refine (currency_Convert.calls k _ _ t150 1000 (⟨#[85, 83, 68]⟩ : ByteArray) 9 0 t153 t154 _ ?side1 ?side2 A2.out).mono ?_); (case side1 => repeat (first | exact (Kd.R_reads' HO152.out).2.2 | (with_reducible refine Kd.C_alloc ?_ _) | (with_reducible refine Kd.C_drewN ?_ _) | (with_reducible refine Kd.C_drew ?_))); (case side2 => exact (Kd.R_reads' HO152.out).2.1); rintro e w40 ⟨rfl, hb⟩; refine ⟨_, rfl, ?_⟩; have n0_ := Aside0.mk (Kd.R_below (by (with_reducible repeat (first | apply Kd.R_alloc | apply Kd.R_drewN | apply Kd.R_drew)); exact HO152.out) hb); have n1_ := Aside0.mk (below_step (by repeat (first | (with_reducible first | exact HB.out | apply below_alloc | apply pw_below_drewN | apply below_drew1) | exact HB.out)) hb); clear HO152; clear HB; have HO152 := n0_; have HB := n1_; clear n0_ n1_; (try clear hb); (try clear hb2); (try clear hk); (try clear hi)) | ((with_reducible refine gate_callee (f := 28) rfl ?_); refine goesL_ (some 13) rfl rfl Try.func28 (by kernel_rfl) rfl #[] rfl (by (try simp only [List.map_toArray, List.map_cons, List.map_nil]); first | done | rfl | (simp only [List.length_drop, List.length_take]; rfl)) ?_; (with_reducible refine (customslaw05_fixed.calls  t155 _ A3.out).mono ?_); rintro e w41 ⟨v156, rfl, ho0, hb⟩; refine ⟨_, rfl, ?_⟩; have n0_ := Aside0.mk (Kd.R_elder' (by (with_reducible repeat (first | apply Kd.R_alloc | apply Kd.R_drewN | apply Kd.R_drew)); exact HO152.out) (Kd.R_base ho0) hb); have n1_ := Aside0.mk (Kd.R_lower (Kd.R_new' ho0 (Kd.R_lt (by (with_reducible repeat (first | apply Kd.R_alloc | apply Kd.R_drewN | apply Kd.R_drew)); exact HO152.out))) (below_size (by repeat (first | (with_reducible first | exact HB.out | apply below_alloc | apply pw_below_drewN | apply below_drew1) | exact HB.out)))); have n2_ := Aside0.mk (below_step (by repeat (first | (with_reducible first | exact HB.out | apply below_alloc | apply pw_below_drewN | apply below_drew1) | exact HB.out)) hb); clear HO152; clear HB; have HO152 := n0_; have HO157 := n1_; have HB := n2_; clear n0_ n1_ n2_; (try clear hb); (try clear hb2); (try clear hk); (try clear hi); (try clear ho0); obtain ⟨Ao42, co42, eo42⟩ := Kd.R_slice HO157.out; subst eo42) | ((with_reducible refine gate_callee (f := 18) rfl ?_); refine goesL_ (some 14) rfl rfl Try.func18 (by kernel_rfl) rfl #[.slice Ao42 t155.length co42, .int .i64 1000, .string (⟨#[85, 83, 68]⟩ : ByteArray), .int .i64 10, .int .i64 0] rfl (by (try simp only [List.map_toArray, List.map_cons, List.map_nil]); first | done | rfl | (simp only [List.length_drop, List.length_take]; rfl)) ?_; (with_reducible refine (currency_Convert.calls k _ _ t155 1000 (⟨#[85, 83, 68]⟩ : ByteArray) 10 0 t158 t159 _ ?side1 ?side2 A4.out).mono ?_); (case side1 => repeat (first | exact (Kd.R_reads' HO157.out).2.2 | (with_reducible refine Kd.C_alloc ?_ _) | (with_reducible refine Kd.C_drewN ?_ _) | (with_reducible refine Kd.C_drew ?_))); (case side2 => exact (Kd.R_reads' HO157.out).2.1); rintro e w43 ⟨rfl, hb⟩; refine ⟨_, rfl, ?_⟩; have n0_ := Aside0.mk (Kd.R_below (by (with_reducible repeat (first | apply Kd.R_alloc | apply Kd.R_drewN | apply Kd.R_drew)); exact HO152.out) hb); have n1_ := Aside0.mk (Kd.R_below (by (with_reducible repeat (first | apply Kd.R_alloc | apply Kd.R_drewN | apply Kd.R_drew)); exact HO157.out) hb); have n2_ := Aside0.mk (below_step (by repeat (first | (with_reducible first | exact HB.out | apply below_alloc | apply pw_below_drewN | apply below_drew1) | exact HB.out)) hb); clear HO152; clear HO157; clear HB; have HO152 := n0_; have HO157 := n1_; have HB := n2_; clear n0_ n1_ n2_; (try clear hb); (try clear hb2); (try clear hk); (try clear hi)) | ((with_reducible refine gate_callee (f := 28) rfl ?_); refine goesL_ (some 18) rfl rfl Try.func28 (by kernel_rfl) rfl #[] rfl (by (try simp only [List.map_toArray, List.map_cons, List.map_nil]); first | done | rfl | (simp only [List.length_drop, List.length_take]; rfl)) ?_; (with_reducible refine (customslaw05_fixed.calls  t160 _ A5.out).mono ?_); rintro e w44 ⟨v161, rfl, ho0, hb⟩; refine ⟨_, rfl, ?_⟩; have n0_ := Aside0.mk (Kd.R_elder' (by (with_reducible repeat (first | apply Kd.R_alloc | apply Kd.R_drewN | apply Kd.R_drew)); exact HO152.out) (Kd.R_base ho0) hb); have n1_ := Aside0.mk (Kd.R_elder' (by (with_reducible repeat (first | apply Kd.R_alloc | apply Kd.R_drewN | apply Kd.R_drew)); exact HO157.out) (Kd.R_base ho0) hb); have n2_ := Aside0.mk (Kd.R_lower (Kd.R_new' (Kd.R_new' ho0 (Kd.R_lt (by (with_reducible repeat (first | apply Kd.R_alloc | apply Kd.R_drewN | apply Kd.R_drew)); exact HO152.out))) (Kd.R_lt (by (with_reducible repeat (first | apply Kd.R_alloc | apply Kd.R_drewN | apply Kd.R_drew)); exact HO157.out))) (below_size (by repeat (first | (with_reducible first | exact HB.out | apply below_alloc | apply pw_below_drewN | apply below_drew1) | exact HB.out)))); have n3_ := Aside0.mk (below_step (by repeat (first | (with_reducible first | exact HB.out | apply below_alloc | apply pw_below_drewN | apply below_drew1) | exact HB.out)) hb); clear HO152; clear HO157; clear HB; have HO152 := n0_; have HO157 := n1_; have HO162 := n2_; have HB := n3_; clear n0_ n1_ n2_ n3_; (try clear hb); (try clear hb2); (try clear hk); (try clear hi); (try clear ho0); obtain ⟨Ao45, co45, eo45⟩ := Kd.R_slice HO162.out; subst eo45) | ((with_reducible refine gate_callee (f := 15) rfl ?_); refine goesL_ (some 19) rfl rfl Try.func15 (by kernel_rfl) rfl #[.slice Ao45 t160.length co45, .string (⟨#[67, 72, 70]⟩ : ByteArray), .int .i64 10] rfl (by (try simp only [List.map_toArray, List.map_cons, List.map_nil]); first | done | rfl | (simp only [List.length_drop, List.length_take]; rfl)) ?_; (with_reducible refine (currency_At.calls k _ _ t160 (⟨#[67, 72, 70]⟩ : ByteArray) 10 t163 t164 _ ?side1 ?side2 A6.out).mono ?_); (case side1 => repeat (first | exact (Kd.R_reads' HO162.out).2.2 | (with_reducible refine Kd.C_alloc ?_ _) | (with_reducible refine Kd.C_drewN ?_ _) | (with_reducible refine Kd.C_drew ?_))); (case side2 => exact (Kd.R_reads' HO162.out).2.1); rintro e w46 ⟨rfl, hb⟩; refine ⟨_, rfl, ?_⟩; have n0_ := Aside0.mk (Kd.R_below (by (with_reducible repeat (first | apply Kd.R_alloc | apply Kd.R_drewN | apply Kd.R_drew)); exact HO152.out) hb); have n1_ := Aside0.mk (Kd.R_below (by (with_reducible repeat (first | apply Kd.R_alloc | apply Kd.R_drewN | apply Kd.R_drew)); exact HO157.out) hb); have n2_ := Aside0.mk (Kd.R_below (by (with_reducible repeat (first | apply Kd.R_alloc | apply Kd.R_drewN | apply Kd.R_drew)); exact HO162.out) hb); have n3_ := Aside0.mk (below_step (by repeat (first | (with_reducible first | exact HB.out | apply below_alloc | apply pw_below_drewN | apply below_drew1) | exact HB.out)) hb); clear HO152; clear HO157; clear HO162; clear HB; have HO152 := n0_; have HO157 := n1_; have HO162 := n2_; have HB := n3_; clear n0_ n1_ n2_ n3_; (try clear hb); (try clear hb2); (try clear hk); (try clear hi)))
      go_ret
      exact ⟨by first | rfl | (simp [errW_none, errW_some] <;> rfl) | (simp [*, errW_none, errW_some] <;> rfl) | (simp (disch := first | assumption | omega) only [Int.tdiv_eq_ediv_of_nonneg, Int.tmod_eq_emod_of_nonneg]; rfl), by repeat (first | (with_reducible first | exact HB.out | apply below_alloc | apply pw_below_drewN | apply below_drew1) | exact HB.out)⟩
  · rw [if_neg c7] at H
    have c7b0 : (t153 == 900) = false := beq_eq_false_iff_ne.mpr c7
    have c7b1 : (t153 != 900) = true := bne_iff_ne.mpr c7
    obtain rfl := Option.some.inj H
    go_enter Try.func14, Try.ntmps14
    go_wp2_with (first | ((with_reducible refine gate_callee (f := 28) rfl ?_); refine goesL_ (some 8) rfl rfl Try.func28 (by kernel_rfl) rfl #[] rfl (by (try simp only [List.map_toArray, List.map_cons, List.map_nil]); first | done | rfl | (simp only [List.length_drop, List.length_take]; rfl)) ?_; (with_reducible refine (customslaw05_fixed.calls  t150 _ A1.out).mono ?_); rintro e w47 ⟨v151, rfl, ho0, hb⟩; refine ⟨_, rfl, ?_⟩; have n0_ := Aside0.mk (Kd.R_lower ho0 (below_size (by repeat (first | (with_reducible first | exact HB.out | apply below_alloc | apply pw_below_drewN | apply below_drew1) | exact HB.out)))); have n1_ := Aside0.mk (below_step (by repeat (first | (with_reducible first | exact HB.out | apply below_alloc | apply pw_below_drewN | apply below_drew1) | exact HB.out)) hb); clear HB; have HO152 := n0_; have HB := n1_; clear n0_ n1_; (try clear hb); (try clear hb2); (try clear hk); (try clear hi); (try clear ho0); obtain ⟨Ao48, co48, eo48⟩ := Kd.R_slice HO152.out; subst eo48) | ((with_reducible refine gate_callee (f := 18) rfl ?_); refine goesL_ (some 9) rfl rfl Try.func18 (by kernel_rfl) rfl #[.slice Ao48 t150.length co48, .int .i64 1000, .string (⟨#[85, 83, 68]⟩ : ByteArray), .int .i64 9, .int .i64 0] rfl (by (try simp only [List.map_toArray, List.map_cons, List.map_nil]); first | done | rfl | (simp only [List.length_drop, List.length_take]; rfl)) ?_; (with_reducible refine (currency_Convert.calls k _ _ t150 1000 (⟨#[85, 83, 68]⟩ : ByteArray) 9 0 t153 t154 _ ?side1 ?side2 A2.out).mono ?_); (case side1 => repeat (first | exact (Kd.R_reads' HO152.out).2.2 | (with_reducible refine Kd.C_alloc ?_ _) | (with_reducible refine Kd.C_drewN ?_ _) | (with_reducible refine Kd.C_drew ?_))); (case side2 => exact (Kd.R_reads' HO152.out).2.1); rintro e w49 ⟨rfl, hb⟩; refine ⟨_, rfl, ?_⟩; have n0_ := Aside0.mk (Kd.R_below (by (with_reducible repeat (first | apply Kd.R_alloc | apply Kd.R_drewN | apply Kd.R_drew)); exact HO152.out) hb); have n1_ := Aside0.mk (below_step (by repeat (first | (with_reducible first | exact HB.out | apply below_alloc | apply pw_below_drewN | apply below_drew1) | exact HB.out)) hb); clear HO152; clear HB; have HO152 := n0_; have HB := n1_; clear n0_ n1_; (try clear hb); (try clear hb2); (try clear hk); (try clear hi)) | ((with_reducible refine gate_callee (f := 28) rfl ?_); refine goesL_ (some 13) rfl rfl Try.func28 (by kernel_rfl) rfl #[] rfl (by (try simp only [List.map_toArray, List.map_cons, List.map_nil]); first | done | rfl | (simp only [List.length_drop, List.length_take]; rfl)) ?_; (with_reducible refine (customslaw05_fixed.calls  t155 _ A3.out).mono ?_); rintro e w50 ⟨v156, rfl, ho0, hb⟩; refine ⟨_, rfl, ?_⟩; have n0_ := Aside0.mk (Kd.R_elder' (by (with_reducible repeat (first | apply Kd.R_alloc | apply Kd.R_drewN | apply Kd.R_drew)); exact HO152.out) (Kd.R_base ho0) hb); have n1_ := Aside0.mk (Kd.R_lower (Kd.R_new' ho0 (Kd.R_lt (by (with_reducible repeat (first | apply Kd.R_alloc | apply Kd.R_drewN | apply Kd.R_drew)); exact HO152.out))) (below_size (by repeat (first | (with_reducible first | exact HB.out | apply below_alloc | apply pw_below_drewN | apply below_drew1) | exact HB.out)))); have n2_ := Aside0.mk (below_step (by repeat (first | (with_reducible first | exact HB.out | apply below_alloc | apply pw_below_drewN | apply below_drew1) | exact HB.out)) hb); clear HO152; clear HB; have HO152 := n0_; have HO157 := n1_; have HB := n2_; clear n0_ n1_ n2_; (try clear hb); (try clear hb2); (try clear hk); (try clear hi); (try clear ho0); obtain ⟨Ao51, co51, eo51⟩ := Kd.R_slice HO157.out; subst eo51) | ((with_reducible refine gate_callee (f := 18) rfl ?_); refine goesL_ (some 14) rfl rfl Try.func18 (by kernel_rfl) rfl #[.slice Ao51 t155.length co51, .int .i64 1000, .string (⟨#[85, 83, 68]⟩ : ByteArray), .int .i64 10, .int .i64 0] rfl (by (try simp only [List.map_toArray, List.map_cons, List.map_nil]); first | done | rfl | (simp only [List.length_drop, List.length_take]; rfl)) ?_; (with_reducible refine (currency_Convert.calls k _ _ t155 1000 (⟨#[85, 83, 68]⟩ : ByteArray) 10 0 t158 t159 _ ?side1 ?side2 A4.out).mono ?_); (case side1 => repeat (first | exact (Kd.R_reads' HO157.out).2.2 | (with_reducible refine Kd.C_alloc ?_ _) | (with_reducible refine Kd.C_drewN ?_ _) | (with_reducible refine Kd.C_drew ?_))); (case side2 => exact (Kd.R_reads' HO157.out).2.1); rintro e w52 ⟨rfl, hb⟩; refine ⟨_, rfl, ?_⟩; have n0_ := Aside0.mk (Kd.R_below (by (with_reducible repeat (first | apply Kd.R_alloc | apply Kd.R_drewN | apply Kd.R_drew)); exact HO152.out) hb); have n1_ := Aside0.mk (Kd.R_below (by (with_reducible repeat (first | apply Kd.R_alloc | apply Kd.R_drewN | apply Kd.R_drew)); exact HO157.out) hb); have n2_ := Aside0.mk (below_step (by repeat (first | (with_reducible first | exact HB.out | apply below_alloc | apply pw_below_drewN | apply below_drew1) | exact HB.out)) hb); clear HO152; clear HO157; clear HB; have HO152 := n0_; have HO157 := n1_; have HB := n2_; clear n0_ n1_ n2_; (try clear hb); (try clear hb2); (try clear hk); (try clear hi)) | ((with_reducible refine gate_callee (f := 28) rfl ?_); refine goesL_ (some 18) rfl rfl Try.func28 (by kernel_rfl) rfl #[] rfl (by (try simp only [List.map_toArray, List.map_cons, List.map_nil]); first | done | rfl | (simp only [List.length_drop, List.length_take]; rfl)) ?_; (with_reducible refine (customslaw05_fixed.calls  t160 _ A5.out).mono ?_); rintro e w53 ⟨v161, rfl, ho0, hb⟩; refine ⟨_, rfl, ?_⟩; have n0_ := Aside0.mk (Kd.R_elder' (by (with_reducible repeat (first | apply Kd.R_alloc | apply Kd.R_drewN | apply Kd.R_drew)); exact HO152.out) (Kd.R_base ho0) hb); have n1_ := Aside0.mk (Kd.R_elder' (by (with_reducible repeat (first | apply Kd.R_alloc | apply Kd.R_drewN | apply Kd.R_drew)); exact HO157.out) (Kd.R_base ho0) hb); have n2_ := Aside0.mk (Kd.R_lower (Kd.R_new' (Kd.R_new' ho0 (Kd.R_lt (by (with_reducible repeat (first | apply Kd.R_alloc | apply Kd.R_drewN | apply Kd.R_drew)); exact HO152.out))) (Kd.R_lt (by (with_reducible repeat (first | apply Kd.R_alloc | apply Kd.R_drewN | apply Kd.R_drew)); exact HO157.out))) (below_size (by repeat (first | (with_reducible first | exact HB.out | apply below_alloc | apply pw_below_drewN | apply below_drew1) | exact HB.out)))); have n3_ := Aside0.mk (below_step (by repeat (first | (with_reducible first | exact HB.out | apply below_alloc | apply pw_below_drewN | apply below_drew1) | exact HB.out)) hb); clear HO152; clear HO157; clear HB; have HO152 := n0_; have HO157 := n1_; have HO162 := n2_; have HB := n3_; clear n0_ n1_ n2_ n3_; (try clear hb); (try clear hb2); (try clear hk); (try clear hi); (try clear ho0); obtain ⟨Ao54, co54, eo54⟩ := Kd.R_slice HO162.out; subst eo54) | ((with_reducible refine gate_callee (f := 15) rfl ?_); refine goesL_ (some 19) rfl rfl Try.func15 (by kernel_rfl) rfl #[.slice Ao54 t160.length co54, .string (⟨#[67, 72, 70]⟩ : ByteArray), .int .i64 10] rfl (by (try simp only [List.map_toArray, List.map_cons, List.map_nil]); first | done | rfl | (simp only [List.length_drop, List.length_take]; rfl)) ?_; (with_reducible refine (currency_At.calls k _ _ t160 (⟨#[67, 72, 70]⟩ : ByteArray) 10 t163 t164 _ ?side1 ?side2 A6.out).mono ?_); (case side1 => repeat (first | exact (Kd.R_reads' HO162.out).2.2 | (with_reducible refine Kd.C_alloc ?_ _) | (with_reducible refine Kd.C_drewN ?_ _) | (with_reducible refine Kd.C_drew ?_))); (case side2 => exact (Kd.R_reads' HO162.out).2.1); rintro e w55 ⟨rfl, hb⟩; refine ⟨_, rfl, ?_⟩; have n0_ := Aside0.mk (Kd.R_below (by (with_reducible repeat (first | apply Kd.R_alloc | apply Kd.R_drewN | apply Kd.R_drew)); exact HO152.out) hb); have n1_ := Aside0.mk (Kd.R_below (by (with_reducible repeat (first | apply Kd.R_alloc | apply Kd.R_drewN | apply Kd.R_drew)); exact HO157.out) hb); have n2_ := Aside0.mk (Kd.R_below (by (with_reducible repeat (first | apply Kd.R_alloc | apply Kd.R_drewN | apply Kd.R_drew)); exact HO162.out) hb); have n3_ := Aside0.mk (below_step (by repeat (first | (with_reducible first | exact HB.out | apply below_alloc | apply pw_below_drewN | apply below_drew1) | exact HB.out)) hb); clear HO152; clear HO157; clear HO162; clear HB; have HO152 := n0_; have HO157 := n1_; have HO162 := n2_; have HB := n3_; clear n0_ n1_ n2_ n3_; (try clear hb); (try clear hb2); (try clear hk); (try clear hi)))
    go_ret
    exact ⟨by first | rfl | (simp [errW_none, errW_some] <;> rfl) | (simp [*, errW_none, errW_some] <;> rfl) | (simp (disch := first | assumption | omega) only [Int.tdiv_eq_ediv_of_nonneg, Int.tmod_eq_emod_of_nonneg]; rfl), by repeat (first | (with_reducible first | exact HB.out | apply below_alloc | apply pw_below_drewN | apply below_drew1) | exact HB.out)⟩

end Go.Proofs.Ytpmdlhncfggjkaa.PX
end
section
namespace Go.Proofs.Ytpmdlhncfggjkaa.PX
open Go.RowKit Go.Proofs.YtpmdlhncfggjkaaW.PrintWords Go.Proofs.YtpmdlhncfggjkaaW.PrintLast Go.Proofs.YtpmdlhncfggjkaaW.PrintMore
attribute [local go_sem] max2_int min2_int max_two min_two max_three min_three max_four min_four   -- for this text's walks alone
set_option linter.unusedVariables false
set_option linter.unusedSimpArgs false

/-! ### customsref04_Day: function 27 -/
def customsref04_Day.f (a0 : Int) : Option (Bool) := if a0 ≥ 0 then (some (decide (a0 ≤ 36524))) else (some false)
set_option maxHeartbeats 8000000 in
set_option maxRecDepth 100000 in
theorem customsref04_Day.calls (a0 : Int) (r : Bool) (w : World) (h : customsref04_Day.f a0 = some r) :
    Calls Try.prog 27 #[.int .i64 a0] w fun e w' => e = .returned (.bool r) ∧ Drawn0 w w' := by
  have H : (if a0 ≥ 0 then (some (decide (a0 ≤ 36524))) else (some false)) = some r := h
  clear h
  by_cases c2 : a0 ≥ 0
  · rw [if_pos c2] at H
    have c2b0 : decide (0 ≤ a0) = true := decide_eq_true c2
    clear c2
    obtain rfl := Option.some.inj H
    go_enter Try.func27, Try.ntmps27
    go_wp2
    go_ret
    exact ⟨by first | rfl | (simp; done) | (simp [*]; done), by repeat (first | exact Drawn0.refl _ | apply Drawn0.step)⟩
  · rw [if_neg c2] at H
    have c2b0 : decide (0 ≤ a0) = false := decide_eq_false c2
    clear c2
    obtain rfl := Option.some.inj H
    go_enter Try.func27, Try.ntmps27
    go_wp2
    go_ret
    exact ⟨by first | rfl | (simp; done) | (simp [*]; done), by repeat (first | exact Drawn0.refl _ | apply Drawn0.step)⟩

end Go.Proofs.Ytpmdlhncfggjkaa.PX
end
section
namespace Go.Proofs.Ytpmdlhncfggjkaa.PX
open Go.RowKit Go.Proofs.YtpmdlhncfggjkaaW.PrintWords Go.Proofs.YtpmdlhncfggjkaaW.PrintLast Go.Proofs.YtpmdlhncfggjkaaW.PrintMore
attribute [local go_sem] max2_int min2_int max_two min_two max_three min_three max_four min_four   -- for this text's walks alone
set_option linter.unusedVariables false
set_option linter.unusedSimpArgs false

/-! ### customsref04_currency: function 26 -/
def customsref04_currency.l0 : Nat → ByteArray → Int → Option (Bool)
  | 0, _, _ => none
  | k + 1, x0, x3 => if x3 < (x0.size : Int) then (if 0 ≤ x3 then (if (bt x0 x3) < 65 then (some false) else (if (bt x0 x3) > 90 then (some false) else (customsref04_currency.l0 k x0 (wrap64 (x3 + 1))))) else (none)) else (if (x0.size : Int) = 3 then (some (x0.toList != ([69, 85, 82] : List UInt8))) else (some false))
def customsref04_currency.f (k : Nat) (a0 : ByteArray) : Option (Bool) := customsref04_currency.l0 k a0 0
set_option maxHeartbeats 8000000 in
set_option maxRecDepth 100000 in
theorem customsref04_currency.calls (k : Nat) (a0 : ByteArray) (r : Bool) (w : World) (h : customsref04_currency.f k a0 = some r) :
    Calls Try.prog 26 #[.string a0] w fun e w' => e = .returned (.bool r) ∧ Drawn0 w w' := by
  have H : (customsref04_currency.l0 k a0 0) = some r := h
  clear h
  have H' := Aside0.mk H
  clear H
  go_enter Try.func26, Try.ntmps26
  go_wp2
  go_loopg [3] k (fun kq v3 w' => ∃ (x3_1 : Int), v3 = .int .i64 x3_1 ∧ Aside0 (customsref04_currency.l0 kq a0 x3_1 = some r) ∧ Aside0 (kq ≤ k) ∧ Drawn0 w w')
  case atStart => exact ⟨(0), (by first | rfl | (simp; done) | (simp [*]; done)), H', ⟨Nat.le_refl _⟩, by repeat (first | exact Drawn0.refl _ | apply Drawn0.step)⟩
  case round =>
    clear H'
    obtain ⟨x3_1, rfl, HA, HK1, ⟨m1, rfl⟩⟩ := hrel
    cases gk with
    | zero => exact absurd HA.out (by simp [customsref04_currency.l0])
    | succ k1 =>
      have H := HA.out
      clear HA
      simp only [customsref04_currency.l0] at H
      by_cases c2 : x3_1 < (a0.size : Int)
      · rw [if_pos c2] at H
        have c2b0 : decide (x3_1 < (a0.size : Int)) = true := decide_eq_true c2
        clear c2
        by_cases c3 : 0 ≤ x3_1
        · rw [if_pos c3] at H
          have c3b0 : decide (0 ≤ x3_1) = true := decide_eq_true c3
          clear c3
          by_cases c5 : (bt a0 x3_1) < 65
          · rw [if_pos c5] at H
            have c5b0 : decide ((bt a0 x3_1) < 65) = true := decide_eq_true c5
            clear c5
            obtain rfl := Option.some.inj H
            have p4 : 0 ≤ (x3_1 : Int) := of_decide_eq_true (by first | (with_reducible assumption) | assumption)
            have q4 : x3_1 < (a0.size : Int) := of_decide_eq_true (by first | (with_reducible assumption) | assumption)
            have hx4 := bt_at a0 x3_1
            replace p4 := eq_true p4
            replace q4 := eq_true q4
            go_wp2
            go_ret
            exact ⟨by first | rfl | (simp; done) | (simp [*]; done), by repeat (first | exact Drawn0.refl _ | apply Drawn0.step)⟩
          · rw [if_neg c5] at H
            have c5b0 : decide ((bt a0 x3_1) < 65) = false := decide_eq_false c5
            clear c5
            by_cases c7 : (bt a0 x3_1) > 90
            · rw [if_pos c7] at H
              have c7b0 : decide (90 < (bt a0 x3_1)) = true := decide_eq_true c7
              clear c7
              obtain rfl := Option.some.inj H
              have p4 : 0 ≤ (x3_1 : Int) := of_decide_eq_true (by first | (with_reducible assumption) | assumption)
              have q4 : x3_1 < (a0.size : Int) := of_decide_eq_true (by first | (with_reducible assumption) | assumption)
              have hx4 := bt_at a0 x3_1
              replace p4 := eq_true p4
              replace q4 := eq_true q4
              have p6 : 0 ≤ (x3_1 : Int) := of_decide_eq_true (by first | (with_reducible assumption) | assumption)
              have q6 : x3_1 < (a0.size : Int) := of_decide_eq_true (by first | (with_reducible assumption) | assumption)
              have hx6 := bt_at a0 x3_1
              replace p6 := eq_true p6
              replace q6 := eq_true q6
              go_wp2
              go_ret
              exact ⟨by first | rfl | (simp; done) | (simp [*]; done), by repeat (first | exact Drawn0.refl _ | apply Drawn0.step)⟩
            · rw [if_neg c7] at H
              have c7b0 : decide (90 < (bt a0 x3_1)) = false := decide_eq_false c7
              clear c7
              have H' := Aside0.mk H
              clear H
              have p4 : 0 ≤ (x3_1 : Int) := of_decide_eq_true (by first | (with_reducible assumption) | assumption)
              have q4 : x3_1 < (a0.size : Int) := of_decide_eq_true (by first | (with_reducible assumption) | assumption)
              have hx4 := bt_at a0 x3_1
              replace p4 := eq_true p4
              replace q4 := eq_true q4
              have p6 : 0 ≤ (x3_1 : Int) := of_decide_eq_true (by first | (with_reducible assumption) | assumption)
              have q6 : x3_1 < (a0.size : Int) := of_decide_eq_true (by first | (with_reducible assumption) | assumption)
              have hx6 := bt_at a0 x3_1
              replace p6 := eq_true p6
              replace q6 := eq_true q6
              go_wp2
              go_roundg k1
              case measure => have := HK1.out; omega
              case rel => exact ⟨(wrap64 (x3_1 + 1)), (by first | rfl | (simp; done) | (simp [*]; done)), H', ⟨by have := HK1.out; omega⟩, by repeat (first | exact Drawn0.refl _ | apply Drawn0.step)⟩
        · rw [if_neg c3] at H
          exact absurd H (by simp)
      · rw [if_neg c2] at H
        have c2b0 : decide (x3_1 < (a0.size : Int)) = false := decide_eq_false c2
        clear c2
        by_cases c8 : (a0.size : Int) = 3
        · rw [if_pos c8] at H
          have c8b0 : ((a0.size : Int) == 3) = true := beq_iff_eq.mpr c8
          have c8b1 : ((a0.size : Int) != 3) = false := bne_eq_false_iff_eq.mpr c8
          clear c8
          obtain rfl := Option.some.inj H
          go_wp2
          go_ret
          exact ⟨by first | rfl | (simp; done) | (simp [*]; done), by repeat (first | exact Drawn0.refl _ | apply Drawn0.step)⟩
        · rw [if_neg c8] at H
          have c8b0 : ((a0.size : Int) == 3) = false := beq_eq_false_iff_ne.mpr c8
          have c8b1 : ((a0.size : Int) != 3) = true := bne_iff_ne.mpr c8
          obtain rfl := Option.some.inj H
          go_wp2
          go_ret
          exact ⟨by first | rfl | (simp; done) | (simp [*]; done), by repeat (first | exact Drawn0.refl _ | apply Drawn0.step)⟩

end Go.Proofs.Ytpmdlhncfggjkaa.PX
end
section
namespace Go.Proofs.Ytpmdlhncfggjkaa.PX
open Go.RowKit Go.Proofs.YtpmdlhncfggjkaaW.PrintWords Go.Proofs.YtpmdlhncfggjkaaW.PrintLast Go.Proofs.YtpmdlhncfggjkaaW.PrintMore
attribute [local go_sem] max2_int min2_int max_two min_two max_three min_three max_four min_four   -- for this text's walks alone
set_option linter.unusedVariables false
set_option linter.unusedSimpArgs false

/-! ### customsref04_Table: function 12 -/
mutual
def customsref04_Table.l0 : Nat → List (S25) → Int → Option (Int)
  | 0, _, _ => none
  | k + 1, x0, x3 => if x3 < (x0.length : Int) then (if 0 ≤ x3 then ((customsref04_currency.f k ((rd_T25 x0 x3).f0)).bind fun t113 => (if t113 = true then ((customsref04_Day.f ((rd_T25 x0 x3).f1)).bind fun t114 => (if t114 = true then (if ((rd_T25 x0 x3).f2) < 1 then (customsref04_Table.j1 k x0 x3 true ((rd_T25 x0 x3).f0) ((rd_T25 x0 x3).f1) ((rd_T25 x0 x3).f2)) else (customsref04_Table.j1 k x0 x3 (decide (((rd_T25 x0 x3).f2) > 1000000000)) ((rd_T25 x0 x3).f0) ((rd_T25 x0 x3).f1) ((rd_T25 x0 x3).f2))) else (customsref04_Table.j1 k x0 x3 true ((rd_T25 x0 x3).f0) ((rd_T25 x0 x3).f1) ((rd_T25 x0 x3).f2)))) else (some 1))) else (none)) else (some 0)
def customsref04_Table.j1 : Nat → List (S25) → Int → Bool → ByteArray → Int → Int → Option (Int)
  | 0, _, _, _, _, _, _ => none
  | k + 1, x0, x3, x23, x113000, x113001, x113002 => if x23 = true then (some 2) else (if x3 > 0 then (if 0 ≤ (wrap64 (x3 - 1)) then (if (wrap64 (x3 - 1)) < (x0.length : Int) then (if (Op.bytesLess x113000.toList (((rd_T25 x0 (wrap64 (x3 - 1))).f0).toList)) = true then (some 9) else (if x113000.toList = ((rd_T25 x0 (wrap64 (x3 - 1))).f0).toList then (if x113001 ≤ ((rd_T25 x0 (wrap64 (x3 - 1))).f1) then (some 9) else (customsref04_Table.l0 k x0 (wrap64 (x3 + 1)))) else (customsref04_Table.l0 k x0 (wrap64 (x3 + 1))))) else (none)) else (none)) else (customsref04_Table.l0 k x0 (wrap64 (x3 + 1))))
end
def customsref04_Table.f (k : Nat) (l0 : List (S25)) : Option (Int) := if (l0.length : Int) > 1000 then (some 8) else (customsref04_Table.l0 k l0 0)
set_option maxHeartbeats 8000000 in
set_option maxRecDepth 100000 in
theorem customsref04_Table.calls (k : Nat) (A0 : Option Addr) (c0 : Nat) (l0 : List (S25)) (r : Int) (w : World) (hr0 : Kd.C k25 w A0 l0.length l0) (hc0 : l0.length ≤ c0) (h : customsref04_Table.f k l0 = some r) :
    Calls Try.prog 12 #[.slice A0 l0.length c0] w fun e w' => e = .returned (.int .i64 r) ∧ Below w.heap.size w w' := by
  have hu25 := Try.underlying25
  have HR0 := Aside0.mk hr0
  have HC0 := Aside0.mk hc0
  clear hr0 hc0
  have HB := Aside0.mk (Below.refl w.heap.size w)
  have H : (if (l0.length : Int) > 1000 then (some 8) else (customsref04_Table.l0 k l0 0)) = some r := h
  clear h
  by_cases c2 : (l0.length : Int) > 1000
  · rw [if_pos c2] at H
    have c2b0 : decide (1000 < (l0.length : Int)) = true := decide_eq_true c2
    have c2b1 : decide (1000 < l0.length) = true := decide_eq_true (by omega)
    clear c2
    obtain rfl := Option.some.inj H
    go_enter Try.func12, Try.ntmps12
    go_wp2
    repeat (go_quiet (fail); try go_wp2)
    go_ret
    exact ⟨by first | rfl | (simp [errW_none, errW_some] <;> rfl) | (simp [*, errW_none, errW_some] <;> rfl) | (simp (disch := first | assumption | omega) only [Int.tdiv_eq_ediv_of_nonneg, Int.tmod_eq_emod_of_nonneg]; rfl), by repeat (first | (with_reducible first | exact HB.out | apply below_alloc | apply pw_below_drewN | apply below_drew1) | exact HB.out)⟩
  · rw [if_neg c2] at H
    have c2b0 : decide (1000 < (l0.length : Int)) = false := decide_eq_false c2
    have c2b1 : decide (1000 < l0.length) = false := decide_eq_false (by omega)
    clear c2
    have H' := Aside0.mk H
    clear H
    go_enter Try.func12, Try.ntmps12
    go_wp2
    repeat (go_quiet (fail); try go_wp2)
    go_loopg [3] k (fun kq v3 w' => ∃ (x3_1 : Int), v3 = .int .i64 x3_1 ∧ Aside0 (customsref04_Table.l0 kq l0 x3_1 = some r) ∧ Aside0 (kq ≤ k) ∧ Aside0 (Below w.heap.size w w'))
    case atStart => exact ⟨(0), (by first | rfl | (simp; done) | (simp [*]; done)), H', ⟨Nat.le_refl _⟩, ⟨by repeat (first | (with_reducible first | exact HB.out | apply below_alloc | apply pw_below_drewN | apply below_drew1) | exact HB.out)⟩⟩
    case round =>
      clear H'
      try clear c1
      try clear c2
      try clear c2b0
      try clear c2b1
      try clear p2
      obtain ⟨x3_1, rfl, HA, HK1, HB⟩ := hrel
      cases gk with
      | zero => exact absurd HA.out (by simp [customsref04_Table.l0])
      | succ k1 =>
        have H := HA.out
        clear HA
        simp only [customsref04_Table.l0] at H
        by_cases c3 : x3_1 < (l0.length : Int)
        · rw [if_pos c3] at H
          have c3b0 : decide (x3_1 < (l0.length : Int)) = true := decide_eq_true c3
          clear c3
          by_cases c4 : 0 ≤ x3_1
          · rw [if_pos c4] at H
            have c4b0 : decide (0 ≤ x3_1) = true := decide_eq_true c4
            clear c4
            replace H := Option.bind_eq_some_iff.mp H
            obtain ⟨t113, A50, H⟩ := H
            replace H : (if t113 = true then ((customsref04_Day.f ((rd_T25 l0 x3_1).f1)).bind fun t114 => (if t114 = true then (if ((rd_T25 l0 x3_1).f2) < 1 then (customsref04_Table.j1 k1 l0 x3_1 true ((rd_T25 l0 x3_1).f0) ((rd_T25 l0 x3_1).f1) ((rd_T25 l0 x3_1).f2)) else (customsref04_Table.j1 k1 l0 x3_1 (decide (((rd_T25 l0 x3_1).f2) > 1000000000)) ((rd_T25 l0 x3_1).f0) ((rd_T25 l0 x3_1).f1) ((rd_T25 l0 x3_1).f2))) else (customsref04_Table.j1 k1 l0 x3_1 true ((rd_T25 l0 x3_1).f0) ((rd_T25 l0 x3_1).f1) ((rd_T25 l0 x3_1).f2)))) else (some 1)) = some r := H
            have A5 := Aside0.mk A50
            clear A50
            by_cases c6 : t113 = true
            · subst c6
              have H1 : ((customsref04_Day.f ((rd_T25 l0 x3_1).f1)).bind fun t114 => (if t114 = true then (if ((rd_T25 l0 x3_1).f2) < 1 then (customsref04_Table.j1 k1 l0 x3_1 true ((rd_T25 l0 x3_1).f0) ((rd_T25 l0 x3_1).f1) ((rd_T25 l0 x3_1).f2)) else (customsref04_Table.j1 k1 l0 x3_1 (decide (((rd_T25 l0 x3_1).f2) > 1000000000)) ((rd_T25 l0 x3_1).f0) ((rd_T25 l0 x3_1).f1) ((rd_T25 l0 x3_1).f2))) else (customsref04_Table.j1 k1 l0 x3_1 true ((rd_T25 l0 x3_1).f0) ((rd_T25 l0 x3_1).f1) ((rd_T25 l0 x3_1).f2)))) = some r := by rw [if_pos rfl] at H; exact H
              clear H
              have H := H1
              clear H1
              have HC7 := Aside0.mk H
              clear H
              have p111 : 0 ≤ (x3_1 : Int) := of_decide_eq_true (by first | (with_reducible assumption) | assumption)
              have q111 : x3_1 < (l0.length : Int) := of_decide_eq_true (by first | (with_reducible assumption) | assumption)
              obtain ⟨ad111, e111, hx111_0, hx111_1, hx111_2⟩ := at_T25 HR0.out x3_1 p111 q111
              cases e111
              replace hx111_0 := (HB.out.cell (World.block_lt_of_cell? w _ hx111_0)).trans hx111_0
              replace hx111_1 := (HB.out.cell (World.block_lt_of_cell? w _ hx111_1)).trans hx111_1
              replace hx111_2 := (HB.out.cell (World.block_lt_of_cell? w _ hx111_2)).trans hx111_2
              replace p111 := eq_true p111
              replace q111 := eq_true q111
              go_upto_region 9 with (first | ((with_reducible refine gate_dst (N := 4) rfl ?_); refine box_event ?hg (N := 4) ?hd (cs := #[.string (⟨#[]⟩ : ByteArray), .int .i64 0, .int .i64 0]) (t := 25) ?hr ?_; (case hd => rfl); (case hg => rfl); (case hr => first | (go_simp; done) | (go_simp; rfl)); intro gb112 hg w8 hbox hb; have n0_ := Aside0.mk (below_step (by repeat (first | (with_reducible first | exact HB.out | apply below_alloc | apply pw_below_drewN | apply below_drew1) | exact HB.out)) hb); have n1_ := Aside0.mk (hbox); have n2_ := Aside0.mk ((by rw [hg]; exact (below_size (by repeat (first | (with_reducible first | exact HB.out | apply below_alloc | apply pw_below_drewN | apply below_drew1) | exact HB.out))) : w.heap.size ≤ gb112)); have n3_ := Aside0.mk ((by rw [hg]; exact (below_size (by repeat (first | (with_reducible first | exact HB.out | apply below_alloc | apply pw_below_drewN | apply below_drew1) | exact HB.out))) : w.heap.size ≤ gb112)); clear HB; have HB := n0_; have BK112 := n1_; have GW112 := n2_; have GE112 := n3_; clear n0_ n1_ n2_ n3_; clear hb hbox hg; have hcz9_0 : w8.cell? ⟨gb112, 0, none⟩ = some (.string (⟨#[]⟩ : ByteArray)) := (blk_cell BK112.out 0).trans rfl; have hcz9_1 : w8.cell? ⟨gb112, 1, none⟩ = some (.int .i64 0) := (blk_cell BK112.out 1).trans rfl; have hcz9_2 : w8.cell? ⟨gb112, 2, none⟩ = some (.int .i64 0) := (blk_cell BK112.out 2).trans rfl; have hfz9_0 := blk_frozen BK112.out 0; have hfz9_1 := blk_frozen BK112.out 1; have hfz9_2 := blk_frozen BK112.out 2) | (go_at_call 26; (with_reducible refine (customsref04_currency.calls k1 ((rd_T25 l0 x3_1).f0) true _ A5.out).mono ?_); rintro e w' ⟨rfl, ⟨nd, rfl⟩⟩; (try first | exact ⟨rfl, _, World.drewN_drewN _ _ _⟩ | exact ⟨rfl, _, Eq.trans (World.drewN_drewN _ _ _) (congrArg (World.drewN _) (Nat.add_assoc _ _ _))⟩)))
              repeat (go_quiet (first | ((with_reducible refine gate_dst (N := 4) rfl ?_); refine box_event ?hg (N := 4) ?hd (cs := #[.string (⟨#[]⟩ : ByteArray), .int .i64 0, .int .i64 0]) (t := 25) ?hr ?_; (case hd => rfl); (case hg => rfl); (case hr => first | (go_simp; done) | (go_simp; rfl)); intro gb112 hg w8 hbox hb; have n0_ := Aside0.mk (below_step (by repeat (first | (with_reducible first | exact HB.out | apply below_alloc | apply pw_below_drewN | apply below_drew1) | exact HB.out)) hb); have n1_ := Aside0.mk (hbox); have n2_ := Aside0.mk ((by rw [hg]; exact (below_size (by repeat (first | (with_reducible first | exact HB.out | apply below_alloc | apply pw_below_drewN | apply below_drew1) | exact HB.out))) : w.heap.size ≤ gb112)); have n3_ := Aside0.mk ((by rw [hg]; exact (below_size (by repeat (first | (with_reducible first | exact HB.out | apply below_alloc | apply pw_below_drewN | apply below_drew1) | exact HB.out))) : w.heap.size ≤ gb112)); clear HB; have HB := n0_; have BK112 := n1_; have GW112 := n2_; have GE112 := n3_; clear n0_ n1_ n2_ n3_; clear hb hbox hg; have hcz9_0 : w8.cell? ⟨gb112, 0, none⟩ = some (.string (⟨#[]⟩ : ByteArray)) := (blk_cell BK112.out 0).trans rfl; have hcz9_1 : w8.cell? ⟨gb112, 1, none⟩ = some (.int .i64 0) := (blk_cell BK112.out 1).trans rfl; have hcz9_2 : w8.cell? ⟨gb112, 2, none⟩ = some (.int .i64 0) := (blk_cell BK112.out 2).trans rfl; have hfz9_0 := blk_frozen BK112.out 0; have hfz9_1 := blk_frozen BK112.out 1; have hfz9_2 := blk_frozen BK112.out 2) | (go_at_call 26; (with_reducible refine (customsref04_currency.calls k1 ((rd_T25 l0 x3_1).f0) true _ A5.out).mono ?_); rintro e w' ⟨rfl, ⟨nd, rfl⟩⟩; (try first | exact ⟨rfl, _, World.drewN_drewN _ _ _⟩ | exact ⟨rfl, _, Eq.trans (World.drewN_drewN _ _ _) (congrArg (World.drewN _) (Nat.add_assoc _ _ _))⟩))); go_upto_region 9 with (first | ((with_reducible refine gate_dst (N := 4) rfl ?_); refine box_event ?hg (N := 4) ?hd (cs := #[.string (⟨#[]⟩ : ByteArray), .int .i64 0, .int .i64 0]) (t := 25) ?hr ?_; (case hd => rfl); (case hg => rfl); (case hr => first | (go_simp; done) | (go_simp; rfl)); intro gb112 hg w8 hbox hb; have n0_ := Aside0.mk (below_step (by repeat (first | (with_reducible first | exact HB.out | apply below_alloc | apply pw_below_drewN | apply below_drew1) | exact HB.out)) hb); have n1_ := Aside0.mk (hbox); have n2_ := Aside0.mk ((by rw [hg]; exact (below_size (by repeat (first | (with_reducible first | exact HB.out | apply below_alloc | apply pw_below_drewN | apply below_drew1) | exact HB.out))) : w.heap.size ≤ gb112)); have n3_ := Aside0.mk ((by rw [hg]; exact (below_size (by repeat (first | (with_reducible first | exact HB.out | apply below_alloc | apply pw_below_drewN | apply below_drew1) | exact HB.out))) : w.heap.size ≤ gb112)); clear HB; have HB := n0_; have BK112 := n1_; have GW112 := n2_; have GE112 := n3_; clear n0_ n1_ n2_ n3_; clear hb hbox hg; have hcz9_0 : w8.cell? ⟨gb112, 0, none⟩ = some (.string (⟨#[]⟩ : ByteArray)) := (blk_cell BK112.out 0).trans rfl; have hcz9_1 : w8.cell? ⟨gb112, 1, none⟩ = some (.int .i64 0) := (blk_cell BK112.out 1).trans rfl; have hcz9_2 : w8.cell? ⟨gb112, 2, none⟩ = some (.int .i64 0) := (blk_cell BK112.out 2).trans rfl; have hfz9_0 := blk_frozen BK112.out 0; have hfz9_1 := blk_frozen BK112.out 1; have hfz9_2 := blk_frozen BK112.out 2) | (go_at_call 26; (with_reducible refine (customsref04_currency.calls k1 ((rd_T25 l0 x3_1).f0) true _ A5.out).mono ?_); rintro e w' ⟨rfl, ⟨nd, rfl⟩⟩; (try first | exact ⟨rfl, _, World.drewN_drewN _ _ _⟩ | exact ⟨rfl, _, Eq.trans (World.drewN_drewN _ _ _) (congrArg (World.drewN _) (Nat.add_assoc _ _ _))⟩))))
              (try simp only [Act.put, List.setIfInBounds_toArray, List.set_cons_zero, List.set_cons_succ])
              go_cut [23] (fun v23 wc => ∃ (kq : Nat) (x23_6 : Bool), v23 = .bool x23_6 ∧ Aside0 (customsref04_Table.j1 kq l0 x3_1 x23_6 ((rd_T25 l0 x3_1).f0) ((rd_T25 l0 x3_1).f1) ((rd_T25 l0 x3_1).f2) = some r) ∧ Aside0 (kq ≤ k1) ∧ Aside0 (wc.heap[gb112]? = some (.cells #[.string ((rd_T25 l0 x3_1).f0), .int .i64 ((rd_T25 l0 x3_1).f1), .int .i64 ((rd_T25 l0 x3_1).f2)] 25 (0, 0))) ∧ Aside0 (Below w.heap.size w wc))
              case first =>
                have H := HC7.out
                clear HC7
                replace H := Option.bind_eq_some_iff.mp H
                obtain ⟨t114, A100, H⟩ := H
                replace H : (if t114 = true then (if ((rd_T25 l0 x3_1).f2) < 1 then (customsref04_Table.j1 k1 l0 x3_1 true ((rd_T25 l0 x3_1).f0) ((rd_T25 l0 x3_1).f1) ((rd_T25 l0 x3_1).f2)) else (customsref04_Table.j1 k1 l0 x3_1 (decide (((rd_T25 l0 x3_1).f2) > 1000000000)) ((rd_T25 l0 x3_1).f0) ((rd_T25 l0 x3_1).f1) ((rd_T25 l0 x3_1).f2))) else (customsref04_Table.j1 k1 l0 x3_1 true ((rd_T25 l0 x3_1).f0) ((rd_T25 l0 x3_1).f1) ((rd_T25 l0 x3_1).f2))) = some r := H
                have A10 := Aside0.mk A100
                clear A100
                by_cases c11 : t114 = true
                · subst c11
                  have H1 : (if ((rd_T25 l0 x3_1).f2) < 1 then (customsref04_Table.j1 k1 l0 x3_1 true ((rd_T25 l0 x3_1).f0) ((rd_T25 l0 x3_1).f1) ((rd_T25 l0 x3_1).f2)) else (customsref04_Table.j1 k1 l0 x3_1 (decide (((rd_T25 l0 x3_1).f2) > 1000000000)) ((rd_T25 l0 x3_1).f0) ((rd_T25 l0 x3_1).f1) ((rd_T25 l0 x3_1).f2))) = some r := by rw [if_pos rfl] at H; exact H
                  clear H
                  have H := H1
                  clear H1
                  by_cases c12 : ((rd_T25 l0 x3_1).f2) < 1
                  · rw [if_pos c12] at H
                    have c12b0 : decide (((rd_T25 l0 x3_1).f2) < 1) = true := decide_eq_true c12
                    clear c12
                    (first | rw [c12b0] | (simp only [i64_w, i32_w]; rw [c12b0]) | skip)
                    have H' := Aside0.mk H
                    clear H
                    have hcz13_0 : w8.cell? ⟨gb112, 0, none⟩ = some (.string (⟨#[]⟩ : ByteArray)) := (blk_cell BK112.out 0).trans rfl
                    have hcz13_1 : w8.cell? ⟨gb112, 1, none⟩ = some (.int .i64 0) := (blk_cell BK112.out 1).trans rfl
                    have hcz13_2 : w8.cell? ⟨gb112, 2, none⟩ = some (.int .i64 0) := (blk_cell BK112.out 2).trans rfl
                    have hfz13_0 := blk_frozen BK112.out 0
                    have hfz13_1 := blk_frozen BK112.out 1
                    have hfz13_2 := blk_frozen BK112.out 2
                    go_wp2_with (first | (go_at_call 27; (with_reducible refine (customsref04_Day.calls ((rd_T25 l0 x3_1).f1) true _ A10.out).mono ?_); rintro e w' ⟨rfl, ⟨nd, rfl⟩⟩; (try first | exact ⟨rfl, _, World.drewN_drewN _ _ _⟩ | exact ⟨rfl, _, Eq.trans (World.drewN_drewN _ _ _) (congrArg (World.drewN _) (Nat.add_assoc _ _ _))⟩)))
                    repeat (go_quiet (first | (go_at_call 27; (with_reducible refine (customsref04_Day.calls ((rd_T25 l0 x3_1).f1) true _ A10.out).mono ?_); rintro e w' ⟨rfl, ⟨nd, rfl⟩⟩; (try first | exact ⟨rfl, _, World.drewN_drewN _ _ _⟩ | exact ⟨rfl, _, Eq.trans (World.drewN_drewN _ _ _) (congrArg (World.drewN _) (Nat.add_assoc _ _ _))⟩))); try go_wp2_with (first | (go_at_call 27; (with_reducible refine (customsref04_Day.calls ((rd_T25 l0 x3_1).f1) true _ A10.out).mono ?_); rintro e w' ⟨rfl, ⟨nd, rfl⟩⟩; (try first | exact ⟨rfl, _, World.drewN_drewN _ _ _⟩ | exact ⟨rfl, _, Eq.trans (World.drewN_drewN _ _ _) (congrArg (World.drewN _) (Nat.add_assoc _ _ _))⟩))))
                    go_meet
                    case rel => exact ⟨_, (true), (by first | rfl | (simp; done) | (simp [*]; done)), H', ⟨by have := HK1.out; first | omega | exact Nat.le_refl _⟩, ⟨by (with_reducible repeat (first | refine blk_drewN ?_ _ | refine blk_drew ?_ | refine blk_alloc ?_ _)); refine blk_put (cs := #[.string ((rd_T25 l0 x3_1).f0), .int .i64 ((rd_T25 l0 x3_1).f1), .int .i64 0]) ?_ 2 _ rfl; (with_reducible repeat (first | refine blk_drewN ?_ _ | refine blk_drew ?_ | refine blk_alloc ?_ _)); refine blk_put (cs := #[.string ((rd_T25 l0 x3_1).f0), .int .i64 0, .int .i64 0]) ?_ 1 _ rfl; (with_reducible repeat (first | refine blk_drewN ?_ _ | refine blk_drew ?_ | refine blk_alloc ?_ _)); refine blk_put (cs := #[.string (⟨#[]⟩ : ByteArray), .int .i64 0, .int .i64 0]) ?_ 0 _ rfl; (with_reducible repeat (first | refine blk_drewN ?_ _ | refine blk_drew ?_ | refine blk_alloc ?_ _)); exact BK112.out⟩, ⟨by repeat (first | (with_reducible first | exact HB.out | apply below_alloc | apply pw_below_drewN | apply below_drew1 | refine below_set ?_ GE112.out) | exact HB.out)⟩⟩
                  · rw [if_neg c12] at H
                    have c12b0 : decide (((rd_T25 l0 x3_1).f2) < 1) = false := decide_eq_false c12
                    clear c12
                    (first | rw [c12b0] | (simp only [i64_w, i32_w]; rw [c12b0]) | skip)
                    have H' := Aside0.mk H
                    clear H
                    have hcz14_0 : w8.cell? ⟨gb112, 0, none⟩ = some (.string (⟨#[]⟩ : ByteArray)) := (blk_cell BK112.out 0).trans rfl
                    have hcz14_1 : w8.cell? ⟨gb112, 1, none⟩ = some (.int .i64 0) := (blk_cell BK112.out 1).trans rfl
                    have hcz14_2 : w8.cell? ⟨gb112, 2, none⟩ = some (.int .i64 0) := (blk_cell BK112.out 2).trans rfl
                    have hfz14_0 := blk_frozen BK112.out 0
                    have hfz14_1 := blk_frozen BK112.out 1
                    have hfz14_2 := blk_frozen BK112.out 2
                    go_wp2_with (first | (go_at_call 27; (with_reducible refine (customsref04_Day.calls ((rd_T25 l0 x3_1).f1) true _ A10.out).mono ?_); rintro e w' ⟨rfl, ⟨nd, rfl⟩⟩; (try first | exact ⟨rfl, _, World.drewN_drewN _ _ _⟩ | exact ⟨rfl, _, Eq.trans (World.drewN_drewN _ _ _) (congrArg (World.drewN _) (Nat.add_assoc _ _ _))⟩)))
                    repeat (go_quiet (first | (go_at_call 27; (with_reducible refine (customsref04_Day.calls ((rd_T25 l0 x3_1).f1) true _ A10.out).mono ?_); rintro e w' ⟨rfl, ⟨nd, rfl⟩⟩; (try first | exact ⟨rfl, _, World.drewN_drewN _ _ _⟩ | exact ⟨rfl, _, Eq.trans (World.drewN_drewN _ _ _) (congrArg (World.drewN _) (Nat.add_assoc _ _ _))⟩))); try go_wp2_with (first | (go_at_call 27; (with_reducible refine (customsref04_Day.calls ((rd_T25 l0 x3_1).f1) true _ A10.out).mono ?_); rintro e w' ⟨rfl, ⟨nd, rfl⟩⟩; (try first | exact ⟨rfl, _, World.drewN_drewN _ _ _⟩ | exact ⟨rfl, _, Eq.trans (World.drewN_drewN _ _ _) (congrArg (World.drewN _) (Nat.add_assoc _ _ _))⟩))))
                    go_meet
                    case rel => exact ⟨_, (decide (((rd_T25 l0 x3_1).f2) > 1000000000)), (by first | rfl | (simp; done) | (simp [*]; done)), H', ⟨by have := HK1.out; first | omega | exact Nat.le_refl _⟩, ⟨by (with_reducible repeat (first | refine blk_drewN ?_ _ | refine blk_drew ?_ | refine blk_alloc ?_ _)); refine blk_put (cs := #[.string ((rd_T25 l0 x3_1).f0), .int .i64 ((rd_T25 l0 x3_1).f1), .int .i64 0]) ?_ 2 _ rfl; (with_reducible repeat (first | refine blk_drewN ?_ _ | refine blk_drew ?_ | refine blk_alloc ?_ _)); refine blk_put (cs := #[.string ((rd_T25 l0 x3_1).f0), .int .i64 0, .int .i64 0]) ?_ 1 _ rfl; (with_reducible repeat (first | refine blk_drewN ?_ _ | refine blk_drew ?_ | refine blk_alloc ?_ _)); refine blk_put (cs := #[.string (⟨#[]⟩ : ByteArray), .int .i64 0, .int .i64 0]) ?_ 0 _ rfl; (with_reducible repeat (first | refine blk_drewN ?_ _ | refine blk_drew ?_ | refine blk_alloc ?_ _)); exact BK112.out⟩, ⟨by repeat (first | (with_reducible first | exact HB.out | apply below_alloc | apply pw_below_drewN | apply below_drew1 | refine below_set ?_ GE112.out) | exact HB.out)⟩⟩
                · replace c11 := Bool.eq_false_iff.mpr c11
                  subst c11
                  have H1 : (customsref04_Table.j1 k1 l0 x3_1 true ((rd_T25 l0 x3_1).f0) ((rd_T25 l0 x3_1).f1) ((rd_T25 l0 x3_1).f2)) = some r := by rw [if_neg (show ¬ (false = true) by decide)] at H; exact H
                  clear H
                  have H := H1
                  clear H1
                  have H' := Aside0.mk H
                  clear H
                  have hcz15_0 : w8.cell? ⟨gb112, 0, none⟩ = some (.string (⟨#[]⟩ : ByteArray)) := (blk_cell BK112.out 0).trans rfl
                  have hcz15_1 : w8.cell? ⟨gb112, 1, none⟩ = some (.int .i64 0) := (blk_cell BK112.out 1).trans rfl
                  have hcz15_2 : w8.cell? ⟨gb112, 2, none⟩ = some (.int .i64 0) := (blk_cell BK112.out 2).trans rfl
                  have hfz15_0 := blk_frozen BK112.out 0
                  have hfz15_1 := blk_frozen BK112.out 1
                  have hfz15_2 := blk_frozen BK112.out 2
                  go_wp2_with (first | (go_at_call 27; (with_reducible refine (customsref04_Day.calls ((rd_T25 l0 x3_1).f1) false _ A10.out).mono ?_); rintro e w' ⟨rfl, ⟨nd, rfl⟩⟩; (try first | exact ⟨rfl, _, World.drewN_drewN _ _ _⟩ | exact ⟨rfl, _, Eq.trans (World.drewN_drewN _ _ _) (congrArg (World.drewN _) (Nat.add_assoc _ _ _))⟩)))
                  repeat (go_quiet (first | (go_at_call 27; (with_reducible refine (customsref04_Day.calls ((rd_T25 l0 x3_1).f1) false _ A10.out).mono ?_); rintro e w' ⟨rfl, ⟨nd, rfl⟩⟩; (try first | exact ⟨rfl, _, World.drewN_drewN _ _ _⟩ | exact ⟨rfl, _, Eq.trans (World.drewN_drewN _ _ _) (congrArg (World.drewN _) (Nat.add_assoc _ _ _))⟩))); try go_wp2_with (first | (go_at_call 27; (with_reducible refine (customsref04_Day.calls ((rd_T25 l0 x3_1).f1) false _ A10.out).mono ?_); rintro e w' ⟨rfl, ⟨nd, rfl⟩⟩; (try first | exact ⟨rfl, _, World.drewN_drewN _ _ _⟩ | exact ⟨rfl, _, Eq.trans (World.drewN_drewN _ _ _) (congrArg (World.drewN _) (Nat.add_assoc _ _ _))⟩))))
                  go_meet
                  case rel => exact ⟨_, (true), (by first | rfl | (simp; done) | (simp [*]; done)), H', ⟨by have := HK1.out; first | omega | exact Nat.le_refl _⟩, ⟨by (with_reducible repeat (first | refine blk_drewN ?_ _ | refine blk_drew ?_ | refine blk_alloc ?_ _)); refine blk_put (cs := #[.string ((rd_T25 l0 x3_1).f0), .int .i64 ((rd_T25 l0 x3_1).f1), .int .i64 0]) ?_ 2 _ rfl; (with_reducible repeat (first | refine blk_drewN ?_ _ | refine blk_drew ?_ | refine blk_alloc ?_ _)); refine blk_put (cs := #[.string ((rd_T25 l0 x3_1).f0), .int .i64 0, .int .i64 0]) ?_ 1 _ rfl; (with_reducible repeat (first | refine blk_drewN ?_ _ | refine blk_drew ?_ | refine blk_alloc ?_ _)); refine blk_put (cs := #[.string (⟨#[]⟩ : ByteArray), .int .i64 0, .int .i64 0]) ?_ 0 _ rfl; (with_reducible repeat (first | refine blk_drewN ?_ _ | refine blk_drew ?_ | refine blk_alloc ?_ _)); exact BK112.out⟩, ⟨by repeat (first | (with_reducible first | exact HB.out | apply below_alloc | apply pw_below_drewN | apply below_drew1 | refine below_set ?_ GE112.out) | exact HB.out)⟩⟩
              case rest =>
                clear HC7
                try clear c1
                try clear p1
                try clear q1
                try clear hx1
                try clear c2
                try clear c2b0
                try clear c2b1
                try clear p2
                try clear c3
                try clear c3b0
                try clear c4
                try clear c4b0
                try clear c6
                try clear c11
                try clear p11
                try clear q11
                try clear hx11
                try clear c12
                try clear c12b0
                try clear hcz13_0
                try clear hcz13_1
                try clear hcz13_2
                try clear hcz14_0
                try clear hcz14_1
                try clear hcz14_2
                try clear hcz15_0
                try clear hcz15_1
                try clear hcz15_2
                try clear hcz9_0
                try clear hcz9_1
                try clear hcz9_2
                try clear hfz13_0
                try clear hfz13_1
                try clear hfz13_2
                try clear hfz14_0
                try clear hfz14_1
                try clear hfz14_2
                try clear hfz15_0
                try clear hfz15_1
                try clear hfz15_2
                try clear hfz9_0
                try clear hfz9_1
                try clear hfz9_2
                try clear hx111_0
                try clear hx111_1
                try clear hx111_2
                try clear p111
                try clear p2
                try clear q111
                obtain ⟨kq, x23_6, rfl, HA, HJ6, BK112, HB⟩ := hcut
                cases kq with
                | zero => exact absurd HA.out (by simp [customsref04_Table.j1])
                | succ kj6 =>
                  have H := HA.out
                  clear HA
                  simp only [customsref04_Table.j1] at H
                  by_cases c16 : x23_6 = true
                  · subst c16
                    have H1 : (some 2) = some r := by rw [if_pos rfl] at H; exact H
                    clear H
                    have H := H1
                    clear H1
                    obtain rfl := Option.some.inj H
                    go_wp2
                    repeat (go_quiet (fail); try go_wp2)
                    go_ret
                    exact ⟨by first | rfl | (simp [errW_none, errW_some] <;> rfl) | (simp [*, errW_none, errW_some] <;> rfl) | (simp (disch := first | assumption | omega) only [Int.tdiv_eq_ediv_of_nonneg, Int.tmod_eq_emod_of_nonneg]; rfl), by repeat (first | (with_reducible first | exact HB.out | apply below_alloc | apply pw_below_drewN | apply below_drew1 | refine below_set ?_ GE112.out) | exact HB.out)⟩
                  · replace c16 := Bool.eq_false_iff.mpr c16
                    subst c16
                    have H1 : (if x3_1 > 0 then (if 0 ≤ (wrap64 (x3_1 - 1)) then (if (wrap64 (x3_1 - 1)) < (l0.length : Int) then (if (Op.bytesLess ((rd_T25 l0 x3_1).f0).toList (((rd_T25 l0 (wrap64 (x3_1 - 1))).f0).toList)) = true then (some 9) else (if ((rd_T25 l0 x3_1).f0).toList = ((rd_T25 l0 (wrap64 (x3_1 - 1))).f0).toList then (if ((rd_T25 l0 x3_1).f1) ≤ ((rd_T25 l0 (wrap64 (x3_1 - 1))).f1) then (some 9) else (customsref04_Table.l0 kj6 l0 (wrap64 (x3_1 + 1)))) else (customsref04_Table.l0 kj6 l0 (wrap64 (x3_1 + 1))))) else (none)) else (none)) else (customsref04_Table.l0 kj6 l0 (wrap64 (x3_1 + 1)))) = some r := by rw [if_neg (show ¬ (false = true) by decide)] at H; exact H
                    clear H
                    have H := H1
                    clear H1
                    by_cases c17 : x3_1 > 0
                    · rw [if_pos c17] at H
                      have c17b0 : decide (0 < x3_1) = true := decide_eq_true c17
                      clear c17
                      obtain ⟨ji18, hji18⟩ : ∃ j_ : Int, (wrap64 (x3_1 - 1)) = j_ := ⟨_, rfl⟩
                      replace H : (if 0 ≤ (ji18) then (if (ji18) < (l0.length : Int) then (if (Op.bytesLess ((rd_T25 l0 x3_1).f0).toList (((rd_T25 l0 (ji18)).f0).toList)) = true then (some 9) else (if ((rd_T25 l0 x3_1).f0).toList = ((rd_T25 l0 (ji18)).f0).toList then (if ((rd_T25 l0 x3_1).f1) ≤ ((rd_T25 l0 (ji18)).f1) then (some 9) else (customsref04_Table.l0 kj6 l0 (wrap64 (x3_1 + 1)))) else (customsref04_Table.l0 kj6 l0 (wrap64 (x3_1 + 1))))) else (none)) else (none)) = some r := by first | (rw [hji18] at H; exact H) | (simp only [hji18] at H ⊢; exact H)
                      have hji18w : (IntKind.i64.wrap (x3_1 - 1)) = ji18 := (i64_w _).trans hji18
                      by_cases c19 : 0 ≤ (ji18)
                      · rw [if_pos c19] at H
                        have c19b0 : decide (0 ≤ (ji18)) = true := decide_eq_true c19
                        clear c19
                        by_cases c20 : (ji18) < (l0.length : Int)
                        · rw [if_pos c20] at H
                          have c20b0 : decide ((ji18) < (l0.length : Int)) = true := decide_eq_true c20
                          clear c20
                          by_cases c21 : (Op.bytesLess ((rd_T25 l0 x3_1).f0).toList (((rd_T25 l0 (ji18)).f0).toList)) = true
                          · rw [if_pos c21] at H
                            have c21b0 : (Op.bytesLess ((rd_T25 l0 x3_1).f0).toList (((rd_T25 l0 (ji18)).f0).toList)) = true := c21
                            clear c21
                            obtain rfl := Option.some.inj H
                            have hcz22_0 : wc.cell? ⟨gb112, 0, none⟩ = some (.string ((rd_T25 l0 x3_1).f0)) := (blk_cell BK112.out 0).trans rfl
                            have hcz22_1 : wc.cell? ⟨gb112, 1, none⟩ = some (.int .i64 ((rd_T25 l0 x3_1).f1)) := (blk_cell BK112.out 1).trans rfl
                            have hcz22_2 : wc.cell? ⟨gb112, 2, none⟩ = some (.int .i64 ((rd_T25 l0 x3_1).f2)) := (blk_cell BK112.out 2).trans rfl
                            have hfz22_0 := blk_frozen BK112.out 0
                            have hfz22_1 := blk_frozen BK112.out 1
                            have hfz22_2 := blk_frozen BK112.out 2
                            have p115 : 0 ≤ ((ji18) : Int) := of_decide_eq_true (by first | (with_reducible assumption) | assumption)
                            have q115 : (ji18) < (l0.length : Int) := of_decide_eq_true (by first | (with_reducible assumption) | assumption)
                            obtain ⟨ad115, e115, hx115_0, hx115_1, hx115_2⟩ := at_T25 HR0.out (ji18) p115 q115
                            obtain rfl : ad111 = ad115 := (by injection e115)
                            replace hx115_0 := (HB.out.cell (World.block_lt_of_cell? w _ hx115_0)).trans hx115_0
                            replace hx115_1 := (HB.out.cell (World.block_lt_of_cell? w _ hx115_1)).trans hx115_1
                            replace hx115_2 := (HB.out.cell (World.block_lt_of_cell? w _ hx115_2)).trans hx115_2
                            replace p115 := eq_true p115
                            replace q115 := eq_true q115
                            go_wp2
                            repeat (go_quiet (fail); try go_wp2)
                            go_ret
                            exact ⟨by first | rfl | (simp [errW_none, errW_some] <;> rfl) | (simp only [← hji18]; first | rfl | (simp [errW_none, errW_some] <;> rfl)) | (simp [*, errW_none, errW_some] <;> rfl) | (simp (disch := first | assumption | omega) only [Int.tdiv_eq_ediv_of_nonneg, Int.tmod_eq_emod_of_nonneg]; rfl), by repeat (first | (with_reducible first | exact HB.out | apply below_alloc | apply pw_below_drewN | apply below_drew1 | refine below_set ?_ GE112.out) | exact HB.out)⟩
                          · rw [if_neg c21] at H
                            have c21b0 : (Op.bytesLess ((rd_T25 l0 x3_1).f0).toList (((rd_T25 l0 (ji18)).f0).toList)) = false := by simpa using c21
                            clear c21
                            by_cases c23 : ((rd_T25 l0 x3_1).f0).toList = ((rd_T25 l0 (ji18)).f0).toList
                            · rw [if_pos c23] at H
                              have c23b0 : (((rd_T25 l0 x3_1).f0).toList == ((rd_T25 l0 (ji18)).f0).toList) = true := beq_iff_eq.mpr c23
                              have c23b1 : (((rd_T25 l0 x3_1).f0).toList != ((rd_T25 l0 (ji18)).f0).toList) = false := bne_eq_false_iff_eq.mpr c23
                              clear c23
                              by_cases c24 : ((rd_T25 l0 x3_1).f1) ≤ ((rd_T25 l0 (ji18)).f1)
                              · rw [if_pos c24] at H
                                have c24b0 : decide (((rd_T25 l0 x3_1).f1) ≤ ((rd_T25 l0 (ji18)).f1)) = true := decide_eq_true c24
                                clear c24
                                obtain rfl := Option.some.inj H
                                have hcz25_0 : wc.cell? ⟨gb112, 0, none⟩ = some (.string ((rd_T25 l0 x3_1).f0)) := (blk_cell BK112.out 0).trans rfl
                                have hcz25_1 : wc.cell? ⟨gb112, 1, none⟩ = some (.int .i64 ((rd_T25 l0 x3_1).f1)) := (blk_cell BK112.out 1).trans rfl
                                have hcz25_2 : wc.cell? ⟨gb112, 2, none⟩ = some (.int .i64 ((rd_T25 l0 x3_1).f2)) := (blk_cell BK112.out 2).trans rfl
                                have hfz25_0 := blk_frozen BK112.out 0
                                have hfz25_1 := blk_frozen BK112.out 1
                                have hfz25_2 := blk_frozen BK112.out 2
                                have p115 : 0 ≤ ((ji18) : Int) := of_decide_eq_true (by first | (with_reducible assumption) | assumption)
                                have q115 : (ji18) < (l0.length : Int) := of_decide_eq_true (by first | (with_reducible assumption) | assumption)
                                obtain ⟨ad115, e115, hx115_0, hx115_1, hx115_2⟩ := at_T25 HR0.out (ji18) p115 q115
                                obtain rfl : ad111 = ad115 := (by injection e115)
                                replace hx115_0 := (HB.out.cell (World.block_lt_of_cell? w _ hx115_0)).trans hx115_0
                                replace hx115_1 := (HB.out.cell (World.block_lt_of_cell? w _ hx115_1)).trans hx115_1
                                replace hx115_2 := (HB.out.cell (World.block_lt_of_cell? w _ hx115_2)).trans hx115_2
                                replace p115 := eq_true p115
                                replace q115 := eq_true q115
                                have p116 : 0 ≤ ((ji18) : Int) := of_decide_eq_true (by first | (with_reducible assumption) | assumption)
                                have q116 : (ji18) < (l0.length : Int) := of_decide_eq_true (by first | (with_reducible assumption) | assumption)
                                obtain ⟨ad116, e116, hx116_0, hx116_1, hx116_2⟩ := at_T25 HR0.out (ji18) p116 q116
                                obtain rfl : ad111 = ad116 := (by injection e116)
                                replace hx116_0 := (HB.out.cell (World.block_lt_of_cell? w _ hx116_0)).trans hx116_0
                                replace hx116_1 := (HB.out.cell (World.block_lt_of_cell? w _ hx116_1)).trans hx116_1
                                replace hx116_2 := (HB.out.cell (World.block_lt_of_cell? w _ hx116_2)).trans hx116_2
                                replace p116 := eq_true p116
                                replace q116 := eq_true q116
                                have p117 : 0 ≤ ((ji18) : Int) := of_decide_eq_true (by first | (with_reducible assumption) | assumption)
                                have q117 : (ji18) < (l0.length : Int) := of_decide_eq_true (by first | (with_reducible assumption) | assumption)
                                obtain ⟨ad117, e117, hx117_0, hx117_1, hx117_2⟩ := at_T25 HR0.out (ji18) p117 q117
                                obtain rfl : ad111 = ad117 := (by injection e117)
                                replace hx117_0 := (HB.out.cell (World.block_lt_of_cell? w _ hx117_0)).trans hx117_0
                                replace hx117_1 := (HB.out.cell (World.block_lt_of_cell? w _ hx117_1)).trans hx117_1
                                replace hx117_2 := (HB.out.cell (World.block_lt_of_cell? w _ hx117_2)).trans hx117_2
                                replace p117 := eq_true p117
                                replace q117 := eq_true q117
                                go_wp2
                                repeat (go_quiet (fail); try go_wp2)
                                go_ret
                                exact ⟨by first | rfl | (simp [errW_none, errW_some] <;> rfl) | (simp only [← hji18]; first | rfl | (simp [errW_none, errW_some] <;> rfl)) | (simp [*, errW_none, errW_some] <;> rfl) | (simp (disch := first | assumption | omega) only [Int.tdiv_eq_ediv_of_nonneg, Int.tmod_eq_emod_of_nonneg]; rfl), by repeat (first | (with_reducible first | exact HB.out | apply below_alloc | apply pw_below_drewN | apply below_drew1 | refine below_set ?_ GE112.out) | exact HB.out)⟩
                              · rw [if_neg c24] at H
                                have c24b0 : decide (((rd_T25 l0 x3_1).f1) ≤ ((rd_T25 l0 (ji18)).f1)) = false := decide_eq_false c24
                                clear c24
                                have H' := Aside0.mk H
                                clear H
                                have hcz26_0 : wc.cell? ⟨gb112, 0, none⟩ = some (.string ((rd_T25 l0 x3_1).f0)) := (blk_cell BK112.out 0).trans rfl
                                have hcz26_1 : wc.cell? ⟨gb112, 1, none⟩ = some (.int .i64 ((rd_T25 l0 x3_1).f1)) := (blk_cell BK112.out 1).trans rfl
                                have hcz26_2 : wc.cell? ⟨gb112, 2, none⟩ = some (.int .i64 ((rd_T25 l0 x3_1).f2)) := (blk_cell BK112.out 2).trans rfl
                                have hfz26_0 := blk_frozen BK112.out 0
                                have hfz26_1 := blk_frozen BK112.out 1
                                have hfz26_2 := blk_frozen BK112.out 2
                                have p115 : 0 ≤ ((ji18) : Int) := of_decide_eq_true (by first | (with_reducible assumption) | assumption)
                                have q115 : (ji18) < (l0.length : Int) := of_decide_eq_true (by first | (with_reducible assumption) | assumption)
                                obtain ⟨ad115, e115, hx115_0, hx115_1, hx115_2⟩ := at_T25 HR0.out (ji18) p115 q115
                                obtain rfl : ad111 = ad115 := (by injection e115)
                                replace hx115_0 := (HB.out.cell (World.block_lt_of_cell? w _ hx115_0)).trans hx115_0
                                replace hx115_1 := (HB.out.cell (World.block_lt_of_cell? w _ hx115_1)).trans hx115_1
                                replace hx115_2 := (HB.out.cell (World.block_lt_of_cell? w _ hx115_2)).trans hx115_2
                                replace p115 := eq_true p115
                                replace q115 := eq_true q115
                                have p116 : 0 ≤ ((ji18) : Int) := of_decide_eq_true (by first | (with_reducible assumption) | assumption)
                                have q116 : (ji18) < (l0.length : Int) := of_decide_eq_true (by first | (with_reducible assumption) | assumption)
                                obtain ⟨ad116, e116, hx116_0, hx116_1, hx116_2⟩ := at_T25 HR0.out (ji18) p116 q116
                                obtain rfl : ad111 = ad116 := (by injection e116)
                                replace hx116_0 := (HB.out.cell (World.block_lt_of_cell? w _ hx116_0)).trans hx116_0
                                replace hx116_1 := (HB.out.cell (World.block_lt_of_cell? w _ hx116_1)).trans hx116_1
                                replace hx116_2 := (HB.out.cell (World.block_lt_of_cell? w _ hx116_2)).trans hx116_2
                                replace p116 := eq_true p116
                                replace q116 := eq_true q116
                                have p117 : 0 ≤ ((ji18) : Int) := of_decide_eq_true (by first | (with_reducible assumption) | assumption)
                                have q117 : (ji18) < (l0.length : Int) := of_decide_eq_true (by first | (with_reducible assumption) | assumption)
                                obtain ⟨ad117, e117, hx117_0, hx117_1, hx117_2⟩ := at_T25 HR0.out (ji18) p117 q117
                                obtain rfl : ad111 = ad117 := (by injection e117)
                                replace hx117_0 := (HB.out.cell (World.block_lt_of_cell? w _ hx117_0)).trans hx117_0
                                replace hx117_1 := (HB.out.cell (World.block_lt_of_cell? w _ hx117_1)).trans hx117_1
                                replace hx117_2 := (HB.out.cell (World.block_lt_of_cell? w _ hx117_2)).trans hx117_2
                                replace p117 := eq_true p117
                                replace q117 := eq_true q117
                                go_wp2
                                repeat (go_quiet (fail); try go_wp2)
                                go_roundg kj6
                                case measure => have := HK1.out; have := HJ6.out; omega
                                case rel => exact ⟨(wrap64 (x3_1 + 1)), (by first | rfl | (simp; done) | (simp [*]; done)), H', ⟨by have := HK1.out; have := HJ6.out; omega⟩, ⟨by repeat (first | (with_reducible first | exact HB.out | apply below_alloc | apply pw_below_drewN | apply below_drew1 | refine below_set ?_ GE112.out) | exact HB.out)⟩⟩
                            · rw [if_neg c23] at H
                              have c23b0 : (((rd_T25 l0 x3_1).f0).toList == ((rd_T25 l0 (ji18)).f0).toList) = false := beq_eq_false_iff_ne.mpr c23
                              have c23b1 : (((rd_T25 l0 x3_1).f0).toList != ((rd_T25 l0 (ji18)).f0).toList) = true := bne_iff_ne.mpr c23
                              have H' := Aside0.mk H
                              clear H
                              have hcz27_0 : wc.cell? ⟨gb112, 0, none⟩ = some (.string ((rd_T25 l0 x3_1).f0)) := (blk_cell BK112.out 0).trans rfl
                              have hcz27_1 : wc.cell? ⟨gb112, 1, none⟩ = some (.int .i64 ((rd_T25 l0 x3_1).f1)) := (blk_cell BK112.out 1).trans rfl
                              have hcz27_2 : wc.cell? ⟨gb112, 2, none⟩ = some (.int .i64 ((rd_T25 l0 x3_1).f2)) := (blk_cell BK112.out 2).trans rfl
                              have hfz27_0 := blk_frozen BK112.out 0
                              have hfz27_1 := blk_frozen BK112.out 1
                              have hfz27_2 := blk_frozen BK112.out 2
                              have p115 : 0 ≤ ((ji18) : Int) := of_decide_eq_true (by first | (with_reducible assumption) | assumption)
                              have q115 : (ji18) < (l0.length : Int) := of_decide_eq_true (by first | (with_reducible assumption) | assumption)
                              obtain ⟨ad115, e115, hx115_0, hx115_1, hx115_2⟩ := at_T25 HR0.out (ji18) p115 q115
                              obtain rfl : ad111 = ad115 := (by injection e115)
                              replace hx115_0 := (HB.out.cell (World.block_lt_of_cell? w _ hx115_0)).trans hx115_0
                              replace hx115_1 := (HB.out.cell (World.block_lt_of_cell? w _ hx115_1)).trans hx115_1
                              replace hx115_2 := (HB.out.cell (World.block_lt_of_cell? w _ hx115_2)).trans hx115_2
                              replace p115 := eq_true p115
                              replace q115 := eq_true q115
                              have p116 : 0 ≤ ((ji18) : Int) := of_decide_eq_true (by first | (with_reducible assumption) | assumption)
                              have q116 : (ji18) < (l0.length : Int) := of_decide_eq_true (by first | (with_reducible assumption) | assumption)
                              obtain ⟨ad116, e116, hx116_0, hx116_1, hx116_2⟩ := at_T25 HR0.out (ji18) p116 q116
                              obtain rfl : ad111 = ad116 := (by injection e116)
                              replace hx116_0 := (HB.out.cell (World.block_lt_of_cell? w _ hx116_0)).trans hx116_0
                              replace hx116_1 := (HB.out.cell (World.block_lt_of_cell? w _ hx116_1)).trans hx116_1
                              replace hx116_2 := (HB.out.cell (World.block_lt_of_cell? w _ hx116_2)).trans hx116_2
                              replace p116 := eq_true p116
                              replace q116 := eq_true q116
                              go_wp2
                              repeat (go_quiet (fail); try go_wp2)
                              go_roundg kj6
                              case measure => have := HK1.out; have := HJ6.out; omega
                              case rel => exact ⟨(wrap64 (x3_1 + 1)), (by first | rfl | (simp; done) | (simp [*]; done)), H', ⟨by have := HK1.out; have := HJ6.out; omega⟩, ⟨by repeat (first | (with_reducible first | exact HB.out | apply below_alloc | apply pw_below_drewN | apply below_drew1 | refine below_set ?_ GE112.out) | exact HB.out)⟩⟩
                        · rw [if_neg c20] at H
                          exact absurd H (by simp)
                      · rw [if_neg c19] at H
                        exact absurd H (by simp)
                    · rw [if_neg c17] at H
                      have c17b0 : decide (0 < x3_1) = false := decide_eq_false c17
                      clear c17
                      have H' := Aside0.mk H
                      clear H
                      go_wp2
                      repeat (go_quiet (fail); try go_wp2)
                      go_roundg kj6
                      case measure => have := HK1.out; have := HJ6.out; omega
                      case rel => exact ⟨(wrap64 (x3_1 + 1)), (by first | rfl | (simp; done) | (simp [*]; done)), H', ⟨by have := HK1.out; have := HJ6.out; omega⟩, ⟨by repeat (first | (with_reducible first | exact HB.out | apply below_alloc | apply pw_below_drewN | apply below_drew1 | refine below_set ?_ GE112.out) | exact HB.out)⟩⟩
            · replace c6 := Bool.eq_false_iff.mpr c6
              subst c6
              have H1 : (some 1) = some r := by rw [if_neg (show ¬ (false = true) by decide)] at H; exact H
              clear H
              have H := H1
              clear H1
              obtain rfl := Option.some.inj H
              have p111 : 0 ≤ (x3_1 : Int) := of_decide_eq_true (by first | (with_reducible assumption) | assumption)
              have q111 : x3_1 < (l0.length : Int) := of_decide_eq_true (by first | (with_reducible assumption) | assumption)
              obtain ⟨ad111, e111, hx111_0, hx111_1, hx111_2⟩ := at_T25 HR0.out x3_1 p111 q111
              cases e111
              replace hx111_0 := (HB.out.cell (World.block_lt_of_cell? w _ hx111_0)).trans hx111_0
              replace hx111_1 := (HB.out.cell (World.block_lt_of_cell? w _ hx111_1)).trans hx111_1
              replace hx111_2 := (HB.out.cell (World.block_lt_of_cell? w _ hx111_2)).trans hx111_2
              replace p111 := eq_true p111
              replace q111 := eq_true q111
              go_wp2_with (first | ((with_reducible refine gate_dst (N := 4) rfl ?_); refine box_event ?hg (N := 4) ?hd (cs := #[.string (⟨#[]⟩ : ByteArray), .int .i64 0, .int .i64 0]) (t := 25) ?hr ?_; (case hd => rfl); (case hg => rfl); (case hr => first | (go_simp; done) | (go_simp; rfl)); intro gb112 hg w28 hbox hb; have n0_ := Aside0.mk (below_step (by repeat (first | (with_reducible first | exact HB.out | apply below_alloc | apply pw_below_drewN | apply below_drew1) | exact HB.out)) hb); have n1_ := Aside0.mk (hbox); have n2_ := Aside0.mk ((by rw [hg]; exact (below_size (by repeat (first | (with_reducible first | exact HB.out | apply below_alloc | apply pw_below_drewN | apply below_drew1) | exact HB.out))) : w.heap.size ≤ gb112)); have n3_ := Aside0.mk ((by rw [hg]; exact (below_size (by repeat (first | (with_reducible first | exact HB.out | apply below_alloc | apply pw_below_drewN | apply below_drew1) | exact HB.out))) : w.heap.size ≤ gb112)); clear HB; have HB := n0_; have BK112 := n1_; have GW112 := n2_; have GE112 := n3_; clear n0_ n1_ n2_ n3_; clear hb hbox hg; have hcz29_0 : w28.cell? ⟨gb112, 0, none⟩ = some (.string (⟨#[]⟩ : ByteArray)) := (blk_cell BK112.out 0).trans rfl; have hcz29_1 : w28.cell? ⟨gb112, 1, none⟩ = some (.int .i64 0) := (blk_cell BK112.out 1).trans rfl; have hcz29_2 : w28.cell? ⟨gb112, 2, none⟩ = some (.int .i64 0) := (blk_cell BK112.out 2).trans rfl; have hfz29_0 := blk_frozen BK112.out 0; have hfz29_1 := blk_frozen BK112.out 1; have hfz29_2 := blk_frozen BK112.out 2) | (go_at_call 26; (with_reducible refine (customsref04_currency.calls k1 ((rd_T25 l0 x3_1).f0) false _ A5.out).mono ?_); rintro e w' ⟨rfl, ⟨nd, rfl⟩⟩; (try first | exact ⟨rfl, _, World.drewN_drewN _ _ _⟩ | exact ⟨rfl, _, Eq.trans (World.drewN_drewN _ _ _) (congrArg (World.drewN _) (Nat.add_assoc _ _ _))⟩)))
              repeat (go_quiet (first | ((with_reducible refine gate_dst (N := 4) rfl ?_); refine box_event ?hg (N := 4) ?hd (cs := #[.string (⟨#[]⟩ : ByteArray), .int .i64 0, .int .i64 0]) (t := 25) ?hr ?_; (case hd => rfl); (case hg => rfl); (case hr => first | (go_simp; done) | (go_simp; rfl)); intro gb112 hg w28 hbox hb; have n0_ := Aside0.mk (below_step (by repeat (first | (with_reducible first | exact HB.out | apply below_alloc | apply pw_below_drewN | apply below_drew1) | exact HB.out)) hb); have n1_ := Aside0.mk (hbox); have n2_ := Aside0.mk ((by rw [hg]; exact (below_size (by repeat (first | (with_reducible first | exact HB.out | apply below_alloc | apply pw_below_drewN | apply below_drew1) | exact HB.out))) : w.heap.size ≤ gb112)); have n3_ := Aside0.mk ((by rw [hg]; exact (below_size (by repeat (first | (with_reducible first | exact HB.out | apply below_alloc | apply pw_below_drewN | apply below_drew1) | exact HB.out))) : w.heap.size ≤ gb112)); clear HB; have HB := n0_; have BK112 := n1_; have GW112 := n2_; have GE112 := n3_; clear n0_ n1_ n2_ n3_; clear hb hbox hg; have hcz29_0 : w28.cell? ⟨gb112, 0, none⟩ = some (.string (⟨#[]⟩ : ByteArray)) := (blk_cell BK112.out 0).trans rfl; have hcz29_1 : w28.cell? ⟨gb112, 1, none⟩ = some (.int .i64 0) := (blk_cell BK112.out 1).trans rfl; have hcz29_2 : w28.cell? ⟨gb112, 2, none⟩ = some (.int .i64 0) := (blk_cell BK112.out 2).trans rfl; have hfz29_0 := blk_frozen BK112.out 0; have hfz29_1 := blk_frozen BK112.out 1; have hfz29_2 := blk_frozen BK112.out 2) | (go_at_call 26; (with_reducible refine (customsref04_currency.calls k1 ((rd_T25 l0 x3_1).f0) false _ A5.out).mono ?_); rintro e w' ⟨rfl, ⟨nd, rfl⟩⟩; (try first | exact ⟨rfl, _, World.drewN_drewN _ _ _⟩ | exact ⟨rfl, _, Eq.trans (World.drewN_drewN _ _ _) (congrArg (World.drewN _) (Nat.add_assoc _ _ _))⟩))); try go_wp2_with (first | ((with_reducible refine gate_dst (N := 4) rfl ?_); refine box_event ?hg (N := 4) ?hd (cs := #[.string (⟨#[]⟩ : ByteArray), .int .i64 0, .int .i64 0]) (t := 25) ?hr ?_; (case hd => rfl); (case hg => rfl); (case hr => first | (go_simp; done) | (go_simp; rfl)); intro gb112 hg w28 hbox hb; have n0_ := Aside0.mk (below_step (by repeat (first | (with_reducible first | exact HB.out | apply below_alloc | apply pw_below_drewN | apply below_drew1) | exact HB.out)) hb); have n1_ := Aside0.mk (hbox); have n2_ := Aside0.mk ((by rw [hg]; exact (below_size (by repeat (first | (with_reducible first | exact HB.out | apply below_alloc | apply pw_below_drewN | apply below_drew1) | exact HB.out))) : w.heap.size ≤ gb112)); have n3_ := Aside0.mk ((by rw [hg]; exact (below_size (by repeat (first | (with_reducible first | exact HB.out | apply below_alloc | apply pw_below_drewN | apply below_drew1) | exact HB.out))) : w.heap.size ≤ gb112)); clear HB; have HB := n0_; have BK112 := n1_; have GW112 := n2_; have GE112 := n3_; clear n0_ n1_ n2_ n3_; clear hb hbox hg; have hcz29_0 : w28.cell? ⟨gb112, 0, none⟩ = some (.string (⟨#[]⟩ : ByteArray)) := (blk_cell BK112.out 0).trans rfl; have hcz29_1 : w28.cell? ⟨gb112, 1, none⟩ = some (.int .i64 0) := (blk_cell BK112.out 1).trans rfl; have hcz29_2 : w28.cell? ⟨gb112, 2, none⟩ = some (.int .i64 0) := (blk_cell BK112.out 2).trans rfl; have hfz29_0 := blk_frozen BK112.out 0; have hfz29_1 := blk_frozen BK112.out 1; have hfz29_2 := blk_frozen BK112.out 2) | (go_at_call 26; (with_reducible refine (customsref04_currency.calls k1 ((rd_T25 l0 x3_1).f0) false _ A5.out).mono ?_); rintro e w' ⟨rfl, ⟨nd, rfl⟩⟩; (try first | exact ⟨rfl, _, World.drewN_drewN _ _ _⟩ | exact ⟨rfl, _, Eq.trans (World.drewN_drewN _ _ _) (congrArg (World.drewN _) (Nat.add_assoc _ _ _))⟩))))
              go_ret
              exact ⟨by first | rfl | (simp [errW_none, errW_some] <;> rfl) | (simp [*, errW_none, errW_some] <;> rfl) | (simp (disch := first | assumption | omega) only [Int.tdiv_eq_ediv_of_nonneg, Int.tmod_eq_emod_of_nonneg]; rfl), by repeat (first | (with_reducible first | exact HB.out | apply below_alloc | apply pw_below_drewN | apply below_drew1 | refine below_set ?_ GE112.out) | exact HB.out)⟩
          · rw [if_neg c4] at H
            exact absurd H (by simp)
        · rw [if_neg c3] at H
          have c3b0 : decide (x3_1 < (l0.length : Int)) = false := decide_eq_false c3
          clear c3
          obtain rfl := Option.some.inj H
          go_wp2
          repeat (go_quiet (fail); try go_wp2)
          go_ret
          exact ⟨by first | rfl | (simp [errW_none, errW_some] <;> rfl) | (simp [*, errW_none, errW_some] <;> rfl) | (simp (disch := first | assumption | omega) only [Int.tdiv_eq_ediv_of_nonneg, Int.tmod_eq_emod_of_nonneg]; rfl), by repeat (first | (with_reducible first | exact HB.out | apply below_alloc | apply pw_below_drewN | apply below_drew1) | exact HB.out)⟩

end Go.Proofs.Ytpmdlhncfggjkaa.PX
end
section
namespace Go.Proofs.Ytpmdlhncfggjkaa.PX
open Go.RowKit Go.Proofs.YtpmdlhncfggjkaaW.PrintWords Go.Proofs.YtpmdlhncfggjkaaW.PrintLast Go.Proofs.YtpmdlhncfggjkaaW.PrintMore
attribute [local go_sem] max2_int min2_int max_two min_two max_three min_three max_four min_four   -- for this text's walks alone
set_option linter.unusedVariables false
set_option linter.unusedSimpArgs false

/-! ### customsref04_At: function 17 -/
def customsref04_At.l0 : Nat → List (S25) → ByteArray → Int → Int → Int → Option (Int × Int)
  | 0, _, _, _, _, _ => none
  | k + 1, x0, x1, x2, x9, x10 => if x10 < (x0.length : Int) then (if 0 ≤ x10 then (if ((rd_T25 x0 x10).f0).toList = x1.toList then (if ((rd_T25 x0 x10).f1) ≤ x2 then (customsref04_At.l0 k x0 x1 x2 ((rd_T25 x0 x10).f2) (wrap64 (x10 + 1))) else (customsref04_At.l0 k x0 x1 x2 x9 (wrap64 (x10 + 1)))) else (customsref04_At.l0 k x0 x1 x2 x9 (wrap64 (x10 + 1)))) else (none)) else (if x9 = 0 then (some (0, 6)) else (some (x9, 0)))
def customsref04_At.f (k : Nat) (l0 : List (S25)) (a1 : ByteArray) (a2 : Int) : Option (Int × Int) := (customsref04_Table.f k l0).bind fun t203 => (if t203 = 0 then ((customsref04_Day.f a2).bind fun t204 => (if t204 = true then (if a1.toList = ([69, 85, 82] : List UInt8) then (some (1000000, 0)) else (customsref04_At.l0 k l0 a1 a2 0 0)) else (some (0, 2)))) else (some (0, t203)))
set_option maxHeartbeats 8000000 in
set_option maxRecDepth 100000 in
theorem customsref04_At.calls (k : Nat) (A0 : Option Addr) (c0 : Nat) (l0 : List (S25)) (a1 : ByteArray) (a2 : Int) (r1 : Int) (r2 : Int) (w : World) (hr0 : Kd.C k25 w A0 l0.length l0) (hc0 : l0.length ≤ c0) (h : customsref04_At.f k l0 a1 a2 = some (r1, r2)) :
    Calls Try.prog 17 #[.slice A0 l0.length c0, .string a1, .int .i64 a2] w fun e w' => e = .returned (.tuple #[.int .i64 r1, .int .i64 r2]) ∧ Below w.heap.size w w' := by
  have HR0 := Aside0.mk hr0
  have HC0 := Aside0.mk hc0
  clear hr0 hc0
  have HB := Aside0.mk (Below.refl w.heap.size w)
  have H : ((customsref04_Table.f k l0).bind fun t203 => (if t203 = 0 then ((customsref04_Day.f a2).bind fun t204 => (if t204 = true then (if a1.toList = ([69, 85, 82] : List UInt8) then (some (1000000, 0)) else (customsref04_At.l0 k l0 a1 a2 0 0)) else (some (0, 2)))) else (some (0, t203)))) = some (r1, r2) := h
  clear h
  replace H := Option.bind_eq_some_iff.mp H
  obtain ⟨t203, A40, H⟩ := H
  replace H : (if t203 = 0 then ((customsref04_Day.f a2).bind fun t204 => (if t204 = true then (if a1.toList = ([69, 85, 82] : List UInt8) then (some (1000000, 0)) else (customsref04_At.l0 k l0 a1 a2 0 0)) else (some (0, 2)))) else (some (0, t203))) = some (r1, r2) := H
  have A4 := Aside0.mk A40
  clear A40
  by_cases c5 : t203 = 0
  · rw [if_pos c5] at H
    have c5b0 : (t203 == 0) = true := beq_iff_eq.mpr c5
    have c5b1 : (t203 != 0) = false := bne_eq_false_iff_eq.mpr c5
    clear c5
    replace H := Option.bind_eq_some_iff.mp H
    obtain ⟨t204, A60, H⟩ := H
    replace H : (if t204 = true then (if a1.toList = ([69, 85, 82] : List UInt8) then (some (1000000, 0)) else (customsref04_At.l0 k l0 a1 a2 0 0)) else (some (0, 2))) = some (r1, r2) := H
    have A6 := Aside0.mk A60
    clear A60
    by_cases c7 : t204 = true
    · subst c7
      have H1 : (if a1.toList = ([69, 85, 82] : List UInt8) then (some (1000000, 0)) else (customsref04_At.l0 k l0 a1 a2 0 0)) = some (r1, r2) := by rw [if_pos rfl] at H; exact H
      clear H
      have H := H1
      clear H1
      by_cases c8 : a1.toList = ([69, 85, 82] : List UInt8)
      · rw [if_pos c8] at H
        have c8b0 : (a1.toList == ([69, 85, 82] : List UInt8)) = true := beq_iff_eq.mpr c8
        have c8b1 : (a1.toList != ([69, 85, 82] : List UInt8)) = false := bne_eq_false_iff_eq.mpr c8
        clear c8
        simp only [Option.some.injEq, Prod.mk.injEq] at H
        obtain ⟨rfl, rfl⟩ := H
        go_enter Try.func17, Try.ntmps17
        go_wp2_with (first | ((with_reducible refine gate_callee (f := 12) rfl ?_); refine goesL_ (some 12) rfl rfl Try.func12 (by kernel_rfl) rfl #[.slice A0 l0.length c0] rfl (by (try simp only [List.map_toArray, List.map_cons, List.map_nil]); first | done | rfl | (simp only [List.length_drop, List.length_take]; rfl)) ?_; (with_reducible refine (customsref04_Table.calls k _ _ l0 t203 _ ?side1 ?side2 A4.out).mono ?_); (case side1 => repeat (first | exact HR0.out | (with_reducible refine Kd.C_alloc ?_ _) | (with_reducible refine Kd.C_drewN ?_ _) | (with_reducible refine Kd.C_drew ?_))); (case side2 => exact HC0.out); rintro e w9 ⟨rfl, hb⟩; refine ⟨_, rfl, ?_⟩; have n0_ := Aside0.mk (below_step (by repeat (first | (with_reducible first | exact HB.out | apply below_alloc | apply pw_below_drewN | apply below_drew1) | exact HB.out)) hb); clear HB; have HB := n0_; clear n0_; (try clear hb); (try clear hb2); (try clear hk); (try clear hi)) | ((with_reducible refine gate_callee (f := 27) rfl ?_); refine goesL_ (some 17) rfl rfl Try.func27 (by kernel_rfl) rfl #[.int .i64 a2] rfl (by (try simp only [List.map_toArray, List.map_cons, List.map_nil]); first | done | rfl | (simp only [List.length_drop, List.length_take]; rfl)) ?_; (with_reducible refine (customsref04_Day.calls a2 true _ A6.out).mono ?_); rintro e w' ⟨rfl, ⟨nd, rfl⟩⟩; refine ⟨_, rfl, ?_⟩))
        go_ret2
        exact ⟨by first | rfl | (simp [errW_none, errW_some] <;> rfl) | (simp [*, errW_none, errW_some] <;> rfl) | (simp (disch := first | assumption | omega) only [Int.tdiv_eq_ediv_of_nonneg, Int.tmod_eq_emod_of_nonneg]; rfl), by repeat (first | (with_reducible first | exact HB.out | apply below_alloc | apply pw_below_drewN | apply below_drew1) | exact HB.out)⟩
      · rw [if_neg c8] at H
        have c8b0 : (a1.toList == ([69, 85, 82] : List UInt8)) = false := beq_eq_false_iff_ne.mpr c8
        have c8b1 : (a1.toList != ([69, 85, 82] : List UInt8)) = true := bne_iff_ne.mpr c8
        have H' := Aside0.mk H
        clear H
        go_enter Try.func17, Try.ntmps17
        go_wp2_with (first | ((with_reducible refine gate_callee (f := 12) rfl ?_); refine goesL_ (some 12) rfl rfl Try.func12 (by kernel_rfl) rfl #[.slice A0 l0.length c0] rfl (by (try simp only [List.map_toArray, List.map_cons, List.map_nil]); first | done | rfl | (simp only [List.length_drop, List.length_take]; rfl)) ?_; (with_reducible refine (customsref04_Table.calls k _ _ l0 t203 _ ?side1 ?side2 A4.out).mono ?_); (case side1 => repeat (first | exact HR0.out | (with_reducible refine Kd.C_alloc ?_ _) | (with_reducible refine Kd.C_drewN ?_ _) | (with_reducible refine Kd.C_drew ?_))); (case side2 => exact HC0.out); rintro e w10 ⟨rfl, hb⟩; refine ⟨_, rfl, ?_⟩; have n0_ := Aside0.mk (below_step (by repeat (first | (with_reducible first | exact HB.out | apply below_alloc | apply pw_below_drewN | apply below_drew1) | exact HB.out)) hb); clear HB; have HB := n0_; clear n0_; (try clear hb); (try clear hb2); (try clear hk); (try clear hi)) | ((with_reducible refine gate_callee (f := 27) rfl ?_); refine goesL_ (some 17) rfl rfl Try.func27 (by kernel_rfl) rfl #[.int .i64 a2] rfl (by (try simp only [List.map_toArray, List.map_cons, List.map_nil]); first | done | rfl | (simp only [List.length_drop, List.length_take]; rfl)) ?_; (with_reducible refine (customsref04_Day.calls a2 true _ A6.out).mono ?_); rintro e w' ⟨rfl, ⟨nd, rfl⟩⟩; refine ⟨_, rfl, ?_⟩))
        go_loopg [9, 10] k (fun kq v9 v10 w' => ∃ (x9_1 : Int) (x10_1 : Int), v9 = .int .i64 x9_1 ∧ v10 = .int .i64 x10_1 ∧ Aside0 (customsref04_At.l0 kq l0 a1 a2 x9_1 x10_1 = some (r1, r2)) ∧ Aside0 (kq ≤ k) ∧ Aside0 (Below w.heap.size w w'))
        case atStart => exact ⟨(0), (0), (by first | rfl | (simp; done) | (simp [*]; done)), (by first | rfl | (simp; done) | (simp [*]; done)), H', ⟨Nat.le_refl _⟩, ⟨by repeat (first | (with_reducible first | exact HB.out | apply below_alloc | apply pw_below_drewN | apply below_drew1) | exact HB.out)⟩⟩
        case round =>
          clear H'
          try clear c1
          try clear c2
          try clear p2
          try clear c5
          try clear c5b0
          try clear c5b1
          try clear c7
          try clear c8
          try clear c8b0
          try clear c8b1
          obtain ⟨x9_1, x10_1, rfl, rfl, HA, HK1, HB⟩ := hrel
          cases gk with
          | zero => exact absurd HA.out (by simp [customsref04_At.l0])
          | succ k1 =>
            have H := HA.out
            clear HA
            simp only [customsref04_At.l0] at H
            by_cases c11 : x10_1 < (l0.length : Int)
            · rw [if_pos c11] at H
              have c11b0 : decide (x10_1 < (l0.length : Int)) = true := decide_eq_true c11
              clear c11
              by_cases c12 : 0 ≤ x10_1
              · rw [if_pos c12] at H
                have c12b0 : decide (0 ≤ x10_1) = true := decide_eq_true c12
                clear c12
                by_cases c13 : ((rd_T25 l0 x10_1).f0).toList = a1.toList
                · rw [if_pos c13] at H
                  have c13b0 : (((rd_T25 l0 x10_1).f0).toList == a1.toList) = true := beq_iff_eq.mpr c13
                  have c13b1 : (((rd_T25 l0 x10_1).f0).toList != a1.toList) = false := bne_eq_false_iff_eq.mpr c13
                  clear c13
                  by_cases c14 : ((rd_T25 l0 x10_1).f1) ≤ a2
                  · rw [if_pos c14] at H
                    have c14b0 : decide (((rd_T25 l0 x10_1).f1) ≤ a2) = true := decide_eq_true c14
                    clear c14
                    have H' := Aside0.mk H
                    clear H
                    have p205 : 0 ≤ (x10_1 : Int) := of_decide_eq_true (by first | (with_reducible assumption) | assumption)
                    have q205 : x10_1 < (l0.length : Int) := of_decide_eq_true (by first | (with_reducible assumption) | assumption)
                    obtain ⟨ad205, e205, hx205_0, hx205_1, hx205_2⟩ := at_T25 HR0.out x10_1 p205 q205
                    cases e205
                    replace hx205_0 := (HB.out.cell (World.block_lt_of_cell? w _ hx205_0)).trans hx205_0
                    replace hx205_1 := (HB.out.cell (World.block_lt_of_cell? w _ hx205_1)).trans hx205_1
                    replace hx205_2 := (HB.out.cell (World.block_lt_of_cell? w _ hx205_2)).trans hx205_2
                    replace p205 := eq_true p205
                    replace q205 := eq_true q205
                    have p206 : 0 ≤ (x10_1 : Int) := of_decide_eq_true (by first | (with_reducible assumption) | assumption)
                    have q206 : x10_1 < (l0.length : Int) := of_decide_eq_true (by first | (with_reducible assumption) | assumption)
                    obtain ⟨ad206, e206, hx206_0, hx206_1, hx206_2⟩ := at_T25 HR0.out x10_1 p206 q206
                    obtain rfl : ad205 = ad206 := (by injection e206)
                    replace hx206_0 := (HB.out.cell (World.block_lt_of_cell? w _ hx206_0)).trans hx206_0
                    replace hx206_1 := (HB.out.cell (World.block_lt_of_cell? w _ hx206_1)).trans hx206_1
                    replace hx206_2 := (HB.out.cell (World.block_lt_of_cell? w _ hx206_2)).trans hx206_2
                    replace p206 := eq_true p206
                    replace q206 := eq_true q206
                    have p207 : 0 ≤ (x10_1 : Int) := of_decide_eq_true (by first | (with_reducible assumption) | assumption)
                    have q207 : x10_1 < (l0.length : Int) := of_decide_eq_true (by first | (with_reducible assumption) | assumption)
                    obtain ⟨ad207, e207, hx207_0, hx207_1, hx207_2⟩ := at_T25 HR0.out x10_1 p207 q207
                    obtain rfl : ad205 = ad207 := (by injection e207)
                    replace hx207_0 := (HB.out.cell (World.block_lt_of_cell? w _ hx207_0)).trans hx207_0
                    replace hx207_1 := (HB.out.cell (World.block_lt_of_cell? w _ hx207_1)).trans hx207_1
                    replace hx207_2 := (HB.out.cell (World.block_lt_of_cell? w _ hx207_2)).trans hx207_2
                    replace p207 := eq_true p207
                    replace q207 := eq_true q207
                    go_wp2
                    go_roundg k1
                    case measure => have := HK1.out; omega
                    case rel => exact ⟨((rd_T25 l0 x10_1).f2), (wrap64 (x10_1 + 1)), (by first | rfl | (simp; done) | (simp [*]; done)), (by first | rfl | (simp; done) | (simp [*]; done)), H', ⟨by have := HK1.out; omega⟩, ⟨by repeat (first | (with_reducible first | exact HB.out | apply below_alloc | apply pw_below_drewN | apply below_drew1) | exact HB.out)⟩⟩
                  · rw [if_neg c14] at H
                    have c14b0 : decide (((rd_T25 l0 x10_1).f1) ≤ a2) = false := decide_eq_false c14
                    clear c14
                    have H' := Aside0.mk H
                    clear H
                    have p205 : 0 ≤ (x10_1 : Int) := of_decide_eq_true (by first | (with_reducible assumption) | assumption)
                    have q205 : x10_1 < (l0.length : Int) := of_decide_eq_true (by first | (with_reducible assumption) | assumption)
                    obtain ⟨ad205, e205, hx205_0, hx205_1, hx205_2⟩ := at_T25 HR0.out x10_1 p205 q205
                    cases e205
                    replace hx205_0 := (HB.out.cell (World.block_lt_of_cell? w _ hx205_0)).trans hx205_0
                    replace hx205_1 := (HB.out.cell (World.block_lt_of_cell? w _ hx205_1)).trans hx205_1
                    replace hx205_2 := (HB.out.cell (World.block_lt_of_cell? w _ hx205_2)).trans hx205_2
                    replace p205 := eq_true p205
                    replace q205 := eq_true q205
                    have p206 : 0 ≤ (x10_1 : Int) := of_decide_eq_true (by first | (with_reducible assumption) | assumption)
                    have q206 : x10_1 < (l0.length : Int) := of_decide_eq_true (by first | (with_reducible assumption) | assumption)
                    obtain ⟨ad206, e206, hx206_0, hx206_1, hx206_2⟩ := at_T25 HR0.out x10_1 p206 q206
                    obtain rfl : ad205 = ad206 := (by injection e206)
                    replace hx206_0 := (HB.out.cell (World.block_lt_of_cell? w _ hx206_0)).trans hx206_0
                    replace hx206_1 := (HB.out.cell (World.block_lt_of_cell? w _ hx206_1)).trans hx206_1
                    replace hx206_2 := (HB.out.cell (World.block_lt_of_cell? w _ hx206_2)).trans hx206_2
                    replace p206 := eq_true p206
                    replace q206 := eq_true q206
                    go_wp2
                    go_roundg k1
                    case measure => have := HK1.out; omega
                    case rel => exact ⟨(x9_1), (wrap64 (x10_1 + 1)), (by first | rfl | (simp; done) | (simp [*]; done)), (by first | rfl | (simp; done) | (simp [*]; done)), H', ⟨by have := HK1.out; omega⟩, ⟨by repeat (first | (with_reducible first | exact HB.out | apply below_alloc | apply pw_below_drewN | apply below_drew1) | exact HB.out)⟩⟩
                · rw [if_neg c13] at H
                  have c13b0 : (((rd_T25 l0 x10_1).f0).toList == a1.toList) = false := beq_eq_false_iff_ne.mpr c13
                  have c13b1 : (((rd_T25 l0 x10_1).f0).toList != a1.toList) = true := bne_iff_ne.mpr c13
                  have H' := Aside0.mk H
                  clear H
                  have p205 : 0 ≤ (x10_1 : Int) := of_decide_eq_true (by first | (with_reducible assumption) | assumption)
                  have q205 : x10_1 < (l0.length : Int) := of_decide_eq_true (by first | (with_reducible assumption) | assumption)
                  obtain ⟨ad205, e205, hx205_0, hx205_1, hx205_2⟩ := at_T25 HR0.out x10_1 p205 q205
                  cases e205
                  replace hx205_0 := (HB.out.cell (World.block_lt_of_cell? w _ hx205_0)).trans hx205_0
                  replace hx205_1 := (HB.out.cell (World.block_lt_of_cell? w _ hx205_1)).trans hx205_1
                  replace hx205_2 := (HB.out.cell (World.block_lt_of_cell? w _ hx205_2)).trans hx205_2
                  replace p205 := eq_true p205
                  replace q205 := eq_true q205
                  go_wp2
                  go_roundg k1
                  case measure => have := HK1.out; omega
                  case rel => exact ⟨(x9_1), (wrap64 (x10_1 + 1)), (by first | rfl | (simp; done) | (simp [*]; done)), (by first | rfl | (simp; done) | (simp [*]; done)), H', ⟨by have := HK1.out; omega⟩, ⟨by repeat (first | (with_reducible first | exact HB.out | apply below_alloc | apply pw_below_drewN | apply below_drew1) | exact HB.out)⟩⟩
              · rw [if_neg c12] at H
                exact absurd H (by simp)
            · rw [if_neg c11] at H
              have c11b0 : decide (x10_1 < (l0.length : Int)) = false := decide_eq_false c11
              clear c11
              by_cases c15 : x9_1 = 0
              · rw [if_pos c15] at H
                have c15b0 : (x9_1 == 0) = true := beq_iff_eq.mpr c15
                have c15b1 : (x9_1 != 0) = false := bne_eq_false_iff_eq.mpr c15
                clear c15
                simp only [Option.some.injEq, Prod.mk.injEq] at H
                obtain ⟨rfl, rfl⟩ := H
                go_wp2
                go_ret2
                exact ⟨by first | rfl | (simp [errW_none, errW_some] <;> rfl) | (simp [*, errW_none, errW_some] <;> rfl) | (simp (disch := first | assumption | omega) only [Int.tdiv_eq_ediv_of_nonneg, Int.tmod_eq_emod_of_nonneg]; rfl), by repeat (first | (with_reducible first | exact HB.out | apply below_alloc | apply pw_below_drewN | apply below_drew1) | exact HB.out)⟩
              · rw [if_neg c15] at H
                have c15b0 : (x9_1 == 0) = false := beq_eq_false_iff_ne.mpr c15
                have c15b1 : (x9_1 != 0) = true := bne_iff_ne.mpr c15
                simp only [Option.some.injEq, Prod.mk.injEq] at H
                obtain ⟨rfl, rfl⟩ := H
                go_wp2
                go_ret2
                exact ⟨by first | rfl | (simp [errW_none, errW_some] <;> rfl) | (simp [*, errW_none, errW_some] <;> rfl) | (simp (disch := first | assumption | omega) only [Int.tdiv_eq_ediv_of_nonneg, Int.tmod_eq_emod_of_nonneg]; rfl), by repeat (first | (with_reducible first | exact HB.out | apply below_alloc | apply pw_below_drewN | apply below_drew1) | exact HB.out)⟩
    · replace c7 := Bool.eq_false_iff.mpr c7
      subst c7
      have H1 : (some (0, 2)) = some (r1, r2) := by rw [if_neg (show ¬ (false = true) by decide)] at H; exact H
      clear H
      have H := H1
      clear H1
      simp only [Option.some.injEq, Prod.mk.injEq] at H
      obtain ⟨rfl, rfl⟩ := H
      go_enter Try.func17, Try.ntmps17
      go_wp2_with (first | ((with_reducible refine gate_callee (f := 12) rfl ?_); refine goesL_ (some 12) rfl rfl Try.func12 (by kernel_rfl) rfl #[.slice A0 l0.length c0] rfl (by (try simp only [List.map_toArray, List.map_cons, List.map_nil]); first | done | rfl | (simp only [List.length_drop, List.length_take]; rfl)) ?_; (with_reducible refine (customsref04_Table.calls k _ _ l0 t203 _ ?side1 ?side2 A4.out).mono ?_); (case side1 => repeat (first | exact HR0.out | (with_reducible refine Kd.C_alloc ?_ _) | (with_reducible refine Kd.C_drewN ?_ _) | (with_reducible refine Kd.C_drew ?_))); (case side2 => exact HC0.out); rintro e w16 ⟨rfl, hb⟩; refine ⟨_, rfl, ?_⟩; have n0_ := Aside0.mk (below_step (by repeat (first | (with_reducible first | exact HB.out | apply below_alloc | apply pw_below_drewN | apply below_drew1) | exact HB.out)) hb); clear HB; have HB := n0_; clear n0_; (try clear hb); (try clear hb2); (try clear hk); (try clear hi)) | ((with_reducible refine gate_callee (f := 27) rfl ?_); refine goesL_ (some 17) rfl rfl Try.func27 (by kernel_rfl) rfl #[.int .i64 a2] rfl (by (try simp only [List.map_toArray, List.map_cons, List.map_nil]); first | done | rfl | (simp only [List.length_drop, List.length_take]; rfl)) ?_; (with_reducible refine (customsref04_Day.calls a2 false _ A6.out).mono ?_); rintro e w' ⟨rfl, ⟨nd, rfl⟩⟩; refine ⟨_, rfl, ?_⟩))
      go_ret2
      exact ⟨by first | rfl | (simp [errW_none, errW_some] <;> rfl) | (simp [*, errW_none, errW_some] <;> rfl) | (simp (disch := first | assumption | omega) only [Int.tdiv_eq_ediv_of_nonneg, Int.tmod_eq_emod_of_nonneg]; rfl), by repeat (first | (with_reducible first | exact HB.out | apply below_alloc | apply pw_below_drewN | apply below_drew1) | exact HB.out)⟩
  · rw [if_neg c5] at H
    have c5b0 : (t203 == 0) = false := beq_eq_false_iff_ne.mpr c5
    have c5b1 : (t203 != 0) = true := bne_iff_ne.mpr c5
    simp only [Option.some.injEq, Prod.mk.injEq] at H
    obtain ⟨rfl, rfl⟩ := H
    go_enter Try.func17, Try.ntmps17
    go_wp2_with (first | ((with_reducible refine gate_callee (f := 12) rfl ?_); refine goesL_ (some 12) rfl rfl Try.func12 (by kernel_rfl) rfl #[.slice A0 l0.length c0] rfl (by (try simp only [List.map_toArray, List.map_cons, List.map_nil]); first | done | rfl | (simp only [List.length_drop, List.length_take]; rfl)) ?_; (with_reducible refine (customsref04_Table.calls k _ _ l0 t203 _ ?side1 ?side2 A4.out).mono ?_); (case side1 => repeat (first | exact HR0.out | (with_reducible refine Kd.C_alloc ?_ _) | (with_reducible refine Kd.C_drewN ?_ _) | (with_reducible refine Kd.C_drew ?_))); (case side2 => exact HC0.out); rintro e w17 ⟨rfl, hb⟩; refine ⟨_, rfl, ?_⟩; have n0_ := Aside0.mk (below_step (by repeat (first | (with_reducible first | exact HB.out | apply below_alloc | apply pw_below_drewN | apply below_drew1) | exact HB.out)) hb); clear HB; have HB := n0_; clear n0_; (try clear hb); (try clear hb2); (try clear hk); (try clear hi)))
    go_ret2
    exact ⟨by first | rfl | (simp [errW_none, errW_some] <;> rfl) | (simp [*, errW_none, errW_some] <;> rfl) | (simp (disch := first | assumption | omega) only [Int.tdiv_eq_ediv_of_nonneg, Int.tmod_eq_emod_of_nonneg]; rfl), by repeat (first | (with_reducible first | exact HB.out | apply below_alloc | apply pw_below_drewN | apply below_drew1) | exact HB.out)⟩

end Go.Proofs.Ytpmdlhncfggjkaa.PX
end
section
namespace Go.Proofs.Ytpmdlhncfggjkaa.PX
open Go.RowKit Go.Proofs.YtpmdlhncfggjkaaW.PrintWords Go.Proofs.YtpmdlhncfggjkaaW.PrintLast Go.Proofs.YtpmdlhncfggjkaaW.PrintMore
attribute [local go_sem] max2_int min2_int max_two min_two max_three min_three max_four min_four   -- for this text's walks alone
set_option linter.unusedVariables false
set_option linter.unusedSimpArgs false

/-! ### customslaw05_CurrencyAtRaw: function 5 -/
def customslaw05_CurrencyAtRaw.f (k : Nat) (l0 : List (S25)) (a1 : ByteArray) (a2 : Int) : Option (Bool) := if (l0.length : Int) > 300 then (if 300 ≤ (l0.length : Int) then ((some (l0.take 300 : List (S25))).bind fun y219 => ((currency_At.f k y219 a1 a2).bind fun bt223 => ((customsref04_At.f k y219 a1 a2).bind fun bt225 => (if bt223.1 = bt225.1 then (if bt223.2 = bt225.2 then ((customslaw05_awake.f k).bind fun t227 => (some t227)) else (some false)) else (some false))))) else (none)) else ((currency_At.f k l0 a1 a2).bind fun bt228 => ((customsref04_At.f k l0 a1 a2).bind fun bt230 => (if bt228.1 = bt230.1 then (if bt228.2 = bt230.2 then ((customslaw05_awake.f k).bind fun t232 => (some t232)) else (some false)) else (some false))))
set_option maxHeartbeats 8000000 in
set_option maxRecDepth 100000 in
theorem customslaw05_CurrencyAtRaw.calls (k : Nat) (A0 : Option Addr) (c0 : Nat) (l0 : List (S25)) (a1 : ByteArray) (a2 : Int) (r : Bool) (w : World) (hr0 : Kd.C k25 w A0 l0.length l0) (hc0 : l0.length ≤ c0) (h : customslaw05_CurrencyAtRaw.f k l0 a1 a2 = some r) :
    Calls Try.prog 5 #[.slice A0 l0.length c0, .string a1, .int .i64 a2] w fun e w' => e = .returned (.bool r) ∧ Below w.heap.size w w' := by
  have HR0 := Aside0.mk hr0
  have HC0 := Aside0.mk hc0
  clear hr0 hc0
  have HB := Aside0.mk (Below.refl w.heap.size w)
  have H : (if (l0.length : Int) > 300 then (if 300 ≤ (l0.length : Int) then ((some (l0.take 300 : List (S25))).bind fun y219 => ((currency_At.f k y219 a1 a2).bind fun bt223 => ((customsref04_At.f k y219 a1 a2).bind fun bt225 => (if bt223.1 = bt225.1 then (if bt223.2 = bt225.2 then ((customslaw05_awake.f k).bind fun t227 => (some t227)) else (some false)) else (some false))))) else (none)) else ((currency_At.f k l0 a1 a2).bind fun bt228 => ((customsref04_At.f k l0 a1 a2).bind fun bt230 => (if bt228.1 = bt230.1 then (if bt228.2 = bt230.2 then ((customslaw05_awake.f k).bind fun t232 => (some t232)) else (some false)) else (some false))))) = some r := h
  clear h
  by_cases c4 : (l0.length : Int) > 300
  · rw [if_pos c4] at H
    have c4b0 : decide (300 < (l0.length : Int)) = true := decide_eq_true c4
    have c4b1 : decide (300 < l0.length) = true := decide_eq_true (by omega)
    clear c4
    by_cases c5 : 300 ≤ (l0.length : Int)
    · rw [if_pos c5] at H
      have c5b0 := eq_true c5
      have c5b1 : decide (300 ≤ (l0.length : Int)) = true := decide_eq_true c5
      clear c5
      obtain ⟨y219, hy219⟩ : ∃ y_ : List (S25), y_ = (l0.take 300) := ⟨_, rfl⟩
      replace H : ((currency_At.f k y219 a1 a2).bind fun bt223 => ((customsref04_At.f k y219 a1 a2).bind fun bt225 => (if bt223.1 = bt225.1 then (if bt223.2 = bt225.2 then ((customslaw05_awake.f k).bind fun t227 => (some t227)) else (some false)) else (some false)))) = some r := by first | (rw [hy219]; with_reducible exact H) | (have H2_ := (Option.bind_some _ _).symm.trans H; rw [hy219]; with_reducible exact H2_) | (have H2_ := (Option.bind_some _ _).symm.trans H; with_reducible exact H2_) | with_reducible exact H | (rw [hy219]; exact H) | exact H
      have Ny219 := Aside0.mk hy219
      clear hy219
      replace H := Option.bind_eq_some_iff.mp H
      obtain ⟨⟨t223, t224⟩, A60, H⟩ := H
      replace H : ((customsref04_At.f k y219 a1 a2).bind fun bt225 => (if t223 = bt225.1 then (if t224 = bt225.2 then ((customslaw05_awake.f k).bind fun t227 => (some t227)) else (some false)) else (some false))) = some r := H
      have A6 := Aside0.mk A60
      clear A60
      replace H := Option.bind_eq_some_iff.mp H
      obtain ⟨⟨t225, t226⟩, A70, H⟩ := H
      replace H : (if t223 = t225 then (if t224 = t226 then ((customslaw05_awake.f k).bind fun t227 => (some t227)) else (some false)) else (some false)) = some r := H
      have A7 := Aside0.mk A70
      clear A70
      by_cases c8 : t223 = t225
      · rw [if_pos c8] at H
        have c8b0 : (t223 == t225) = true := beq_iff_eq.mpr c8
        have c8b1 : (t223 != t225) = false := bne_eq_false_iff_eq.mpr c8
        clear c8
        by_cases c9 : t224 = t226
        · rw [if_pos c9] at H
          have c9b0 : (t224 == t226) = true := beq_iff_eq.mpr c9
          have c9b1 : (t224 != t226) = false := bne_eq_false_iff_eq.mpr c9
          clear c9
          replace H := Option.bind_eq_some_iff.mp H
          obtain ⟨t227, A100, H⟩ := H
          replace H : (some t227) = some r := H
          have A10 := Aside0.mk A100
          clear A100
          obtain rfl := Option.some.inj H
          have q11 : (300 : Int) ≤ ((l0.length : Int) : Int) := of_decide_eq_true (by first | (with_reducible assumption) | assumption)
          obtain ⟨i011, hi011, _, hsz11, _⟩ := info_parts info25
          have hroom11 : l0.length ≤ c0 := HC0.out
          have hC11 : Kd.C k25 _ A0 l0.length l0 := HR0.out
          have hcut11 := cut_to (P := Try.prog) 22 25 .i64 Try.underlying22 hi011 A0 l0.length c0 300 (by omega) q11 hroom11
          have hr11 := Kd.C_take (m := 300) hC11 (by omega)
          have hy11 : y219.length = (300 : Int).toNat := (by rw [Ny219.out, List.length_take]; omega)
          rw [← Ny219.out] at hr11
          rw [← hy11] at hcut11
          have HR222 := Aside0.mk hr11
          have HC222 := Aside0.mk (show y219.length ≤ c0 from by omega)
          clear hr11 hC11 hroom11 hi011 hsz11
          have KY11 := Aside0.mk hy11
          clear hy11
          replace q11 := eq_true q11
          go_enter Try.func5, Try.ntmps5
          go_wp2_with (first | ((with_reducible refine gate_callee (f := 15) rfl ?_); refine goesL_ (some 20) rfl rfl Try.func15 (by kernel_rfl) rfl #[.slice A0 y219.length c0, .string a1, .int .i64 a2] rfl (by (try simp only [List.map_toArray, List.map_cons, List.map_nil]); first | done | rfl | (simp only [List.length_drop, List.length_take]; rfl)) ?_; (with_reducible refine (currency_At.calls k _ _ y219 a1 a2 t223 t224 _ ?side1 ?side2 A6.out).mono ?_); (case side1 => repeat (first | exact HR222.out | (with_reducible refine Kd.C_alloc ?_ _) | (with_reducible refine Kd.C_drewN ?_ _) | (with_reducible refine Kd.C_drew ?_))); (case side2 => exact HC222.out); rintro e w12 ⟨rfl, hb⟩; refine ⟨_, rfl, ?_⟩; have n0_ := Aside0.mk (below_step (by repeat (first | (with_reducible first | exact HB.out | apply below_alloc | apply pw_below_drewN | apply below_drew1) | exact HB.out)) hb); clear HB; have HB := n0_; clear n0_; (try clear hb); (try clear hb2); (try clear hk); (try clear hi)) | ((with_reducible refine gate_callee (f := 17) rfl ?_); refine goesL_ (some 27) rfl rfl Try.func17 (by kernel_rfl) rfl #[.slice A0 y219.length c0, .string a1, .int .i64 a2] rfl (by (try simp only [List.map_toArray, List.map_cons, List.map_nil]); first | done | rfl | (simp only [List.length_drop, List.length_take]; rfl)) ?_; (with_reducible refine (customsref04_At.calls k _ _ y219 a1 a2 t225 t226 _ ?side1 ?side2 A7.out).mono ?_); (case side1 => repeat (first | exact (Kd.C_below HR222.out HB.out) | (with_reducible refine Kd.C_alloc ?_ _) | (with_reducible refine Kd.C_drewN ?_ _) | (with_reducible refine Kd.C_drew ?_))); (case side2 => exact HC222.out); rintro e w13 ⟨rfl, hb⟩; refine ⟨_, rfl, ?_⟩; have n0_ := Aside0.mk (below_step (by repeat (first | (with_reducible first | exact HB.out | apply below_alloc | apply pw_below_drewN | apply below_drew1) | exact HB.out)) hb); clear HB; have HB := n0_; clear n0_; (try clear hb); (try clear hb2); (try clear hk); (try clear hi)) | (go_at_call 14; (with_reducible refine (customslaw05_awake.calls k  t227 _ A10.out).mono ?_); rintro e w14 ⟨rfl, hb⟩; have n0_ := Aside0.mk (below_step (by repeat (first | (with_reducible first | exact HB.out | apply below_alloc | apply pw_below_drewN | apply below_drew1) | exact HB.out)) hb); clear HB; have HB := n0_; clear n0_; (try clear hb); (try clear hb2); (try clear hk); (try clear hi)))
          go_ret
          exact ⟨by first | rfl | (simp [errW_none, errW_some] <;> rfl) | (simp [*, errW_none, errW_some] <;> rfl) | (simp (disch := first | assumption | omega) only [Int.tdiv_eq_ediv_of_nonneg, Int.tmod_eq_emod_of_nonneg]; rfl), by repeat (first | (with_reducible first | exact HB.out | apply below_alloc | apply pw_below_drewN | apply below_drew1) | exact HB.out)⟩
        · rw [if_neg c9] at H
          have c9b0 : (t224 == t226) = false := beq_eq_false_iff_ne.mpr c9
          have c9b1 : (t224 != t226) = true := bne_iff_ne.mpr c9
          obtain rfl := Option.some.inj H
          have q15 : (300 : Int) ≤ ((l0.length : Int) : Int) := of_decide_eq_true (by first | (with_reducible assumption) | assumption)
          obtain ⟨i015, hi015, _, hsz15, _⟩ := info_parts info25
          have hroom15 : l0.length ≤ c0 := HC0.out
          have hC15 : Kd.C k25 _ A0 l0.length l0 := HR0.out
          have hcut15 := cut_to (P := Try.prog) 22 25 .i64 Try.underlying22 hi015 A0 l0.length c0 300 (by omega) q15 hroom15
          have hr15 := Kd.C_take (m := 300) hC15 (by omega)
          have hy15 : y219.length = (300 : Int).toNat := (by rw [Ny219.out, List.length_take]; omega)
          rw [← Ny219.out] at hr15
          rw [← hy15] at hcut15
          have HR222 := Aside0.mk hr15
          have HC222 := Aside0.mk (show y219.length ≤ c0 from by omega)
          clear hr15 hC15 hroom15 hi015 hsz15
          have KY15 := Aside0.mk hy15
          clear hy15
          replace q15 := eq_true q15
          go_enter Try.func5, Try.ntmps5
          go_wp2_with (first | ((with_reducible refine gate_callee (f := 15) rfl ?_); refine goesL_ (some 20) rfl rfl Try.func15 (by kernel_rfl) rfl #[.slice A0 y219.length c0, .string a1, .int .i64 a2] rfl (by (try simp only [List.map_toArray, List.map_cons, List.map_nil]); first | done | rfl | (simp only [List.length_drop, List.length_take]; rfl)) ?_; (with_reducible refine (currency_At.calls k _ _ y219 a1 a2 t223 t224 _ ?side1 ?side2 A6.out).mono ?_); (case side1 => repeat (first | exact HR222.out | (with_reducible refine Kd.C_alloc ?_ _) | (with_reducible refine Kd.C_drewN ?_ _) | (with_reducible refine Kd.C_drew ?_))); (case side2 => exact HC222.out); rintro e w16 ⟨rfl, hb⟩; refine ⟨_, rfl, ?_⟩; have n0_ := Aside0.mk (below_step (by repeat (first | (with_reducible first | exact HB.out | apply below_alloc | apply pw_below_drewN | apply below_drew1) | exact HB.out)) hb); clear HB; have HB := n0_; clear n0_; (try clear hb); (try clear hb2); (try clear hk); (try clear hi)) | ((with_reducible refine gate_callee (f := 17) rfl ?_); refine goesL_ (some 27) rfl rfl Try.func17 (by kernel_rfl) rfl #[.slice A0 y219.length c0, .string a1, .int .i64 a2] rfl (by (try simp only [List.map_toArray, List.map_cons, List.map_nil]); first | done | rfl | (simp only [List.length_drop, List.length_take]; rfl)) ?_; (with_reducible refine (customsref04_At.calls k _ _ y219 a1 a2 t225 t226 _ ?side1 ?side2 A7.out).mono ?_); (case side1 => repeat (first | exact (Kd.C_below HR222.out HB.out) | (with_reducible refine Kd.C_alloc ?_ _) | (with_reducible refine Kd.C_drewN ?_ _) | (with_reducible refine Kd.C_drew ?_))); (case side2 => exact HC222.out); rintro e w17 ⟨rfl, hb⟩; refine ⟨_, rfl, ?_⟩; have n0_ := Aside0.mk (below_step (by repeat (first | (with_reducible first | exact HB.out | apply below_alloc | apply pw_below_drewN | apply below_drew1) | exact HB.out)) hb); clear HB; have HB := n0_; clear n0_; (try clear hb); (try clear hb2); (try clear hk); (try clear hi)))
          go_ret
          exact ⟨by first | rfl | (simp [errW_none, errW_some] <;> rfl) | (simp [*, errW_none, errW_some] <;> rfl) | (simp (disch := first | assumption | omega) only [Int.tdiv_eq_ediv_of_nonneg, Int.tmod_eq_emod_of_nonneg]; rfl), by repeat (first | (with_reducible first | exact HB.out | apply below_alloc | apply pw_below_drewN | apply below_drew1) | exact HB.out)⟩
      · rw [if_neg c8] at H
        have c8b0 : (t223 == t225) = false := beq_eq_false_iff_ne.mpr c8
        have c8b1 : (t223 != t225) = true := bne_iff_ne.mpr c8
        obtain rfl := Option.some.inj H
        have q18 : (300 : Int) ≤ ((l0.length : Int) : Int) := of_decide_eq_true (by first | (with_reducible assumption) | assumption)
        obtain ⟨i018, hi018, _, hsz18, _⟩ := info_parts info25
        have hroom18 : l0.length ≤ c0 := HC0.out
        have hC18 : Kd.C k25 _ A0 l0.length l0 := HR0.out
        have hcut18 := cut_to (P := Try.prog) 22 25 .i64 Try.underlying22 hi018 A0 l0.length c0 300 (by omega) q18 hroom18
        have hr18 := Kd.C_take (m := 300) hC18 (by omega)
        have hy18 : y219.length = (300 : Int).toNat := (by rw [Ny219.out, List.length_take]; omega)
        rw [← Ny219.out] at hr18
        rw [← hy18] at hcut18
        have HR222 := Aside0.mk hr18
        have HC222 := Aside0.mk (show y219.length ≤ c0 from by omega)
        clear hr18 hC18 hroom18 hi018 hsz18
        have KY18 := Aside0.mk hy18
        clear hy18
        replace q18 := eq_true q18
        go_enter Try.func5, Try.ntmps5
        go_wp2_with (first | ((with_reducible refine gate_callee (f := 15) rfl ?_); refine goesL_ (some 20) rfl rfl Try.func15 (by kernel_rfl) rfl #[.slice A0 y219.length c0, .string a1, .int .i64 a2] rfl (by (try simp only [List.map_toArray, List.map_cons, List.map_nil]); first | done | rfl | (simp only [List.length_drop, List.length_take]; rfl)) ?_; (with_reducible refine (currency_At.calls k _ _ y219 a1 a2 t223 t224 _ ?side1 ?side2 A6.out).mono ?_); (case side1 => repeat (first | exact HR222.out | (with_reducible refine Kd.C_alloc ?_ _) | (with_reducible refine Kd.C_drewN ?_ _) | (with_reducible refine Kd.C_drew ?_))); (case side2 => exact HC222.out); rintro e w19 ⟨rfl, hb⟩; refine ⟨_, rfl, ?_⟩; have n0_ := Aside0.mk (below_step (by repeat (first | (with_reducible first | exact HB.out | apply below_alloc | apply pw_below_drewN | apply below_drew1) | exact HB.out)) hb); clear HB; have HB := n0_; clear n0_; (try clear hb); (try clear hb2); (try clear hk); (try clear hi)) | ((with_reducible refine gate_callee (f := 17) rfl ?_); refine goesL_ (some 27) rfl rfl Try.func17 (by kernel_rfl) rfl #[.slice A0 y219.length c0, .string a1, .int .i64 a2] rfl (by (try simp only [List.map_toArray, List.map_cons, List.map_nil]); first | done | rfl | (simp only [List.length_drop, List.length_take]; rfl)) ?_; (with_reducible refine (customsref04_At.calls k _ _ y219 a1 a2 t225 t226 _ ?side1 ?side2 A7.out).mono ?_); (case side1 => repeat (first | exact (Kd.C_below HR222.out HB.out) | (with_reducible refine Kd.C_alloc ?_ _) | (with_reducible refine Kd.C_drewN ?_ _) | (with_reducible refine Kd.C_drew ?_))); (case side2 => exact HC222.out); rintro e w20 ⟨rfl, hb⟩; refine ⟨_, rfl, ?_⟩; have n0_ := Aside0.mk (below_step (by repeat (first | (with_reducible first | exact HB.out | apply below_alloc | apply pw_below_drewN | apply below_drew1) | exact HB.out)) hb); clear HB; have HB := n0_; clear n0_; (try clear hb); (try clear hb2); (try clear hk); (try clear hi)))
        go_ret
        exact ⟨by first | rfl | (simp [errW_none, errW_some] <;> rfl) | (simp [*, errW_none, errW_some] <;> rfl) | (simp (disch := first | assumption | omega) only [Int.tdiv_eq_ediv_of_nonneg, Int.tmod_eq_emod_of_nonneg]; rfl), by repeat (first | (with_reducible first | exact HB.out | apply below_alloc | apply pw_below_drewN | apply below_drew1) | exact HB.out)⟩
    · rw [if_neg c5] at H
      exact absurd H (by simp)
  · rw [if_neg c4] at H
    have c4b0 : decide (300 < (l0.length : Int)) = false := decide_eq_false c4
    have c4b1 : decide (300 < l0.length) = false := decide_eq_false (by omega)
    clear c4
    replace H := Option.bind_eq_some_iff.mp H
    obtain ⟨⟨t228, t229⟩, A210, H⟩ := H
    replace H : ((customsref04_At.f k l0 a1 a2).bind fun bt230 => (if t228 = bt230.1 then (if t229 = bt230.2 then ((customslaw05_awake.f k).bind fun t232 => (some t232)) else (some false)) else (some false))) = some r := H
    have A21 := Aside0.mk A210
    clear A210
    replace H := Option.bind_eq_some_iff.mp H
    obtain ⟨⟨t230, t231⟩, A220, H⟩ := H
    replace H : (if t228 = t230 then (if t229 = t231 then ((customslaw05_awake.f k).bind fun t232 => (some t232)) else (some false)) else (some false)) = some r := H
    have A22 := Aside0.mk A220
    clear A220
    by_cases c23 : t228 = t230
    · rw [if_pos c23] at H
      have c23b0 : (t228 == t230) = true := beq_iff_eq.mpr c23
      have c23b1 : (t228 != t230) = false := bne_eq_false_iff_eq.mpr c23
      clear c23
      by_cases c24 : t229 = t231
      · rw [if_pos c24] at H
        have c24b0 : (t229 == t231) = true := beq_iff_eq.mpr c24
        have c24b1 : (t229 != t231) = false := bne_eq_false_iff_eq.mpr c24
        clear c24
        replace H := Option.bind_eq_some_iff.mp H
        obtain ⟨t232, A250, H⟩ := H
        replace H : (some t232) = some r := H
        have A25 := Aside0.mk A250
        clear A250
        obtain rfl := Option.some.inj H
        go_enter Try.func5, Try.ntmps5
        go_wp2_with (first | ((with_reducible refine gate_callee (f := 15) rfl ?_); refine goesL_ (some 20) rfl rfl Try.func15 (by kernel_rfl) rfl #[.slice A0 l0.length c0, .string a1, .int .i64 a2] rfl (by (try simp only [List.map_toArray, List.map_cons, List.map_nil]); first | done | rfl | (simp only [List.length_drop, List.length_take]; rfl)) ?_; (with_reducible refine (currency_At.calls k _ _ l0 a1 a2 t228 t229 _ ?side1 ?side2 A21.out).mono ?_); (case side1 => repeat (first | exact HR0.out | (with_reducible refine Kd.C_alloc ?_ _) | (with_reducible refine Kd.C_drewN ?_ _) | (with_reducible refine Kd.C_drew ?_))); (case side2 => exact HC0.out); rintro e w26 ⟨rfl, hb⟩; refine ⟨_, rfl, ?_⟩; have n0_ := Aside0.mk (below_step (by repeat (first | (with_reducible first | exact HB.out | apply below_alloc | apply pw_below_drewN | apply below_drew1) | exact HB.out)) hb); clear HB; have HB := n0_; clear n0_; (try clear hb); (try clear hb2); (try clear hk); (try clear hi)) | ((with_reducible refine gate_callee (f := 17) rfl ?_); refine goesL_ (some 27) rfl rfl Try.func17 (by kernel_rfl) rfl #[.slice A0 l0.length c0, .string a1, .int .i64 a2] rfl (by (try simp only [List.map_toArray, List.map_cons, List.map_nil]); first | done | rfl | (simp only [List.length_drop, List.length_take]; rfl)) ?_; (with_reducible refine (customsref04_At.calls k _ _ l0 a1 a2 t230 t231 _ ?side1 ?side2 A22.out).mono ?_); (case side1 => repeat (first | exact (Kd.C_below HR0.out HB.out) | (with_reducible refine Kd.C_alloc ?_ _) | (with_reducible refine Kd.C_drewN ?_ _) | (with_reducible refine Kd.C_drew ?_))); (case side2 => exact HC0.out); rintro e w27 ⟨rfl, hb⟩; refine ⟨_, rfl, ?_⟩; have n0_ := Aside0.mk (below_step (by repeat (first | (with_reducible first | exact HB.out | apply below_alloc | apply pw_below_drewN | apply below_drew1) | exact HB.out)) hb); clear HB; have HB := n0_; clear n0_; (try clear hb); (try clear hb2); (try clear hk); (try clear hi)) | (go_at_call 14; (with_reducible refine (customslaw05_awake.calls k  t232 _ A25.out).mono ?_); rintro e w28 ⟨rfl, hb⟩; have n0_ := Aside0.mk (below_step (by repeat (first | (with_reducible first | exact HB.out | apply below_alloc | apply pw_below_drewN | apply below_drew1) | exact HB.out)) hb); clear HB; have HB := n0_; clear n0_; (try clear hb); (try clear hb2); (try clear hk); (try clear hi)))
        go_ret
        exact ⟨by first | rfl | (simp [errW_none, errW_some] <;> rfl) | (simp [*, errW_none, errW_some] <;> rfl) | (simp (disch := first | assumption | omega) only [Int.tdiv_eq_ediv_of_nonneg, Int.tmod_eq_emod_of_nonneg]; rfl), by repeat (first | (with_reducible first | exact HB.out | apply below_alloc | apply pw_below_drewN | apply below_drew1) | exact HB.out)⟩
      · rw [if_neg c24] at H
        have c24b0 : (t229 == t231) = false := beq_eq_false_iff_ne.mpr c24
        have c24b1 : (t229 != t231) = true := bne_iff_ne.mpr c24
        obtain rfl := Option.some.inj H
        go_enter Try.func5, Try.ntmps5
        go_wp2_with (first | ((with_reducible refine gate_callee (f := 15) rfl ?_); refine goesL_ (some 20) rfl rfl Try.func15 (by kernel_rfl) rfl #[.slice A0 l0.length c0, .string a1, .int .i64 a2] rfl (by (try simp only [List.map_toArray, List.map_cons, List.map_nil]); first | done | rfl | (simp only [List.length_drop, List.length_take]; rfl)) ?_; (with_reducible refine (currency_At.calls k _ _ l0 a1 a2 t228 t229 _ ?side1 ?side2 A21.out).mono ?_); (case side1 => repeat (first | exact HR0.out | (with_reducible refine Kd.C_alloc ?_ _) | (with_reducible refine Kd.C_drewN ?_ _) | (with_reducible refine Kd.C_drew ?_))); (case side2 => exact HC0.out); rintro e w29 ⟨rfl, hb⟩; refine ⟨_, rfl, ?_⟩; have n0_ := Aside0.mk (below_step (by repeat (first | (with_reducible first | exact HB.out | apply below_alloc | apply pw_below_drewN | apply below_drew1) | exact HB.out)) hb); clear HB; have HB := n0_; clear n0_; (try clear hb); (try clear hb2); (try clear hk); (try clear hi)) | ((with_reducible refine gate_callee (f := 17) rfl ?_); refine goesL_ (some 27) rfl rfl Try.func17 (by kernel_rfl) rfl #[.slice A0 l0.length c0, .string a1, .int .i64 a2] rfl (by (try simp only [List.map_toArray, List.map_cons, List.map_nil]); first | done | rfl | (simp only [List.length_drop, List.length_take]; rfl)) ?_; (with_reducible refine (customsref04_At.calls k _ _ l0 a1 a2 t230 t231 _ ?side1 ?side2 A22.out).mono ?_); (case side1 => repeat (first | exact (Kd.C_below HR0.out HB.out) | (with_reducible refine Kd.C_alloc ?_ _) | (with_reducible refine Kd.C_drewN ?_ _) | (with_reducible refine Kd.C_drew ?_))); (case side2 => exact HC0.out); rintro e w30 ⟨rfl, hb⟩; refine ⟨_, rfl, ?_⟩; have n0_ := Aside0.mk (below_step (by repeat (first | (with_reducible first | exact HB.out | apply below_alloc | apply pw_below_drewN | apply below_drew1) | exact HB.out)) hb); clear HB; have HB := n0_; clear n0_; (try clear hb); (try clear hb2); (try clear hk); (try clear hi)))
        go_ret
        exact ⟨by first | rfl | (simp [errW_none, errW_some] <;> rfl) | (simp [*, errW_none, errW_some] <;> rfl) | (simp (disch := first | assumption | omega) only [Int.tdiv_eq_ediv_of_nonneg, Int.tmod_eq_emod_of_nonneg]; rfl), by repeat (first | (with_reducible first | exact HB.out | apply below_alloc | apply pw_below_drewN | apply below_drew1) | exact HB.out)⟩
    · rw [if_neg c23] at H
      have c23b0 : (t228 == t230) = false := beq_eq_false_iff_ne.mpr c23
      have c23b1 : (t228 != t230) = true := bne_iff_ne.mpr c23
      obtain rfl := Option.some.inj H
      go_enter Try.func5, Try.ntmps5
      go_wp2_with (first | ((with_reducible refine gate_callee (f := 15) rfl ?_); refine goesL_ (some 20) rfl rfl Try.func15 (by kernel_rfl) rfl #[.slice A0 l0.length c0, .string a1, .int .i64 a2] rfl (by (try simp only [List.map_toArray, List.map_cons, List.map_nil]); first | done | rfl | (simp only [List.length_drop, List.length_take]; rfl)) ?_; (with_reducible refine (currency_At.calls k _ _ l0 a1 a2 t228 t229 _ ?side1 ?side2 A21.out).mono ?_); (case side1 => repeat (first | exact HR0.out | (with_reducible refine Kd.C_alloc ?_ _) | (with_reducible refine Kd.C_drewN ?_ _) | (with_reducible refine Kd.C_drew ?_))); (case side2 => exact HC0.out); rintro e w31 ⟨rfl, hb⟩; refine ⟨_, rfl, ?_⟩; have n0_ := Aside0.mk (below_step (by repeat (first | (with_reducible first | exact HB.out | apply below_alloc | apply pw_below_drewN | apply below_drew1) | exact HB.out)) hb); clear HB; have HB := n0_; clear n0_; (try clear hb); (try clear hb2); (try clear hk); (try clear hi)) | ((with_reducible refine gate_callee (f := 17) rfl ?_); refine goesL_ (some 27) rfl rfl Try.func17 (by kernel_rfl) rfl #[.slice A0 l0.length c0, .string a1, .int .i64 a2] rfl (by (try simp only [List.map_toArray, List.map_cons, List.map_nil]); first | done | rfl | (simp only [List.length_drop, List.length_take]; rfl)) ?_; (with_reducible refine (customsref04_At.calls k _ _ l0 a1 a2 t230 t231 _ ?side1 ?side2 A22.out).mono ?_); (case side1 => repeat (first | exact (Kd.C_below HR0.out HB.out) | (with_reducible refine Kd.C_alloc ?_ _) | (with_reducible refine Kd.C_drewN ?_ _) | (with_reducible refine Kd.C_drew ?_))); (case side2 => exact HC0.out); rintro e w32 ⟨rfl, hb⟩; refine ⟨_, rfl, ?_⟩; have n0_ := Aside0.mk (below_step (by repeat (first | (with_reducible first | exact HB.out | apply below_alloc | apply pw_below_drewN | apply below_drew1) | exact HB.out)) hb); clear HB; have HB := n0_; clear n0_; (try clear hb); (try clear hb2); (try clear hk); (try clear hi)))
      go_ret
      exact ⟨by first | rfl | (simp [errW_none, errW_some] <;> rfl) | (simp [*, errW_none, errW_some] <;> rfl) | (simp (disch := first | assumption | omega) only [Int.tdiv_eq_ediv_of_nonneg, Int.tmod_eq_emod_of_nonneg]; rfl), by repeat (first | (with_reducible first | exact HB.out | apply below_alloc | apply pw_below_drewN | apply below_drew1) | exact HB.out)⟩

end Go.Proofs.Ytpmdlhncfggjkaa.PX
end
section
namespace Go.Proofs.Ytpmdlhncfggjkaa.PX
open Go.RowKit Go.Proofs.YtpmdlhncfggjkaaW.PrintWords Go.Proofs.YtpmdlhncfggjkaaW.PrintLast Go.Proofs.YtpmdlhncfggjkaaW.PrintMore
set_option linter.unusedVariables false
set_option linter.unusedSimpArgs false

theorem Ev.up {α : Type} {g : Nat → Option α} {r : α} (h : Ev (fun k => g (k + 1)) r) : Ev g r := Ev.step (fun _ => rfl) h
theorem Ev.cst {α : Type} {x : Option α} {r : α} (h : x = some r) : Ev (fun _ => x) r := ⟨0, fun _ _ => h⟩
theorem Ev.as {α : Type} {g : Nat → Option α} {r s : α} (h : Ev g r) (e : r = s) : Ev g s := e ▸ h
def U64 (x : Int) : Prop := 0 ≤ x ∧ x < 18446744073709551616
def I64 (x : Int) : Prop := -9223372036854775808 ≤ x ∧ x < 9223372036854775808
theorem w64_in {x : Int} (h0 : 0 ≤ x) (h1 : x < 18446744073709551616) : IntKind.u64.wrap x = x := by
  rw [IntKind.wrap_u64]; omega
theorem wrap64_of {x : Int} (h0 : -9223372036854775808 ≤ x) (h1 : x < 9223372036854775808) : wrap64 x = x := by
  unfold wrap64; omega
theorem and32 {x : Int} (h0 : 0 ≤ x) (h1 : x < 18446744073709551616) : Go.bits .and .u64 x 4294967295 = x % 4294967296 := by
  have := bits_mask .u64 64 (by decide) (fun n a b => w64_in a (by simpa using b)) 32 (by decide) x h0 (by simpa using h1)
  simpa using this
theorem or_join {x y : Int} (s : Nat) (hx0 : 0 ≤ x) (hx : x % 2 ^ s = 0) (hx1 : x < 18446744073709551616) (hy0 : 0 ≤ y) (hy : y < 2 ^ s) (hy1 : y < 18446744073709551616) : Go.bits .or .u64 x y = x + y :=
  bits_join .u64 64 (by decide) (fun n a b => w64_in a (by simpa using b)) s x y hx0 hx (by simpa using hx1) hy0 hy (by simpa using hy1)

/- the number of bits -/
def lenTab : ByteArray := ⟨#[0, 1, 2, 2, 3, 3, 3, 3, 4, 4, 4, 4, 4, 4, 4, 4, 5, 5, 5, 5, 5, 5, 5, 5, 5, 5, 5, 5, 5, 5, 5, 5, 6, 6, 6, 6, 6, 6, 6, 6, 6, 6, 6, 6, 6, 6, 6, 6, 6, 6, 6, 6, 6, 6, 6, 6, 6, 6, 6, 6, 6, 6, 6, 6, 7, 7, 7, 7, 7, 7, 7, 7, 7, 7, 7, 7, 7, 7, 7, 7, 7, 7, 7, 7, 7, 7, 7, 7, 7, 7, 7, 7, 7, 7, 7, 7, 7, 7, 7, 7, 7, 7, 7, 7, 7, 7, 7, 7, 7, 7, 7, 7, 7, 7, 7, 7, 7, 7, 7, 7, 7, 7, 7, 7, 7, 7, 7, 7, 8, 8, 8, 8, 8, 8, 8, 8, 8, 8, 8, 8, 8, 8, 8, 8, 8, 8, 8, 8, 8, 8, 8, 8, 8, 8, 8, 8, 8, 8, 8, 8, 8, 8, 8, 8, 8, 8, 8, 8, 8, 8, 8, 8, 8, 8, 8, 8, 8, 8, 8, 8, 8, 8, 8, 8, 8, 8, 8, 8, 8, 8, 8, 8, 8, 8, 8, 8, 8, 8, 8, 8, 8, 8, 8, 8, 8, 8, 8, 8, 8, 8, 8, 8, 8, 8, 8, 8, 8, 8, 8, 8, 8, 8, 8, 8, 8, 8, 8, 8, 8, 8, 8, 8, 8, 8, 8, 8, 8, 8, 8, 8, 8, 8, 8, 8, 8, 8, 8, 8, 8, 8, 8, 8, 8, 8, 8, 8]⟩
def lenOk (x : Int) (n : Nat) : Bool := decide (n ≤ 8) && decide (x < 2 ^ n) && (decide (x = 0) || decide ((2 : Int) ^ n ≤ 2 * x))
theorem lenTab_all : (List.range 256).all (fun i => lenOk (i : Int) (bt lenTab i).toNat && decide (0 ≤ bt lenTab i)) = true := by decide +kernel
theorem lenTab_at (y : Int) (h0 : 0 ≤ y) (h1 : y < 256) : ∃ n : Nat, bt lenTab y = n ∧ lenOk y n = true := by
  obtain ⟨i, rfl⟩ := Int.eq_ofNat_of_zero_le h0
  have h := List.all_eq_true.mp lenTab_all i (List.mem_range.mpr (by omega))
  simp only [Bool.and_eq_true, decide_eq_true_eq] at h
  exact ⟨(bt lenTab i).toNat, by omega, h.1⟩
def bitsOf (x : Int) (n : Nat) : Prop := n ≤ 64 ∧ x < 2 ^ n ∧ (x = 0 ∨ (2 : Int) ^ n ≤ 2 * x)
theorem len_scaled {x y : Int} (s m : Nat) (c : Int) (hc : c = 2 ^ m) (hs : s + m ≤ 64) (hx : 0 ≤ x) (hy : x / c = y) (hy0 : 1 ≤ y) {n : Nat} (h : bitsOf y n) (hn : n + m ≤ 64) : bitsOf x (n + m) := by
  obtain ⟨h1, h2, h3⟩ := h
  have hcp : 0 < c := by rw [hc]; exact Int.pow_pos (by decide)
  refine ⟨hn, ?_, .inr ?_⟩
  · rw [Int.pow_add, ← hc]
    have : x < (y + 1) * c := by rw [← hy]; exact Int.lt_ediv_add_one_mul_self _ hcp
    have : (y + 1) * c ≤ 2 ^ n * c := Int.mul_le_mul_of_nonneg_right (by omega) (by omega)
    omega
  · rw [Int.pow_add, ← hc]
    have h4 : (2 : Int) ^ n ≤ 2 * y := by rcases h3 with h | h <;> omega
    have : (2 : Int) ^ n * c ≤ 2 * y * c := Int.mul_le_mul_of_nonneg_right h4 (by omega)
    have : y * c ≤ x := by rw [← hy]; exact Int.ediv_mul_le _ (by omega)
    rw [Int.mul_assoc] at *
    omega
theorem lenOk_bits {y : Int} {n : Nat} (h : lenOk y n = true) : n ≤ 8 ∧ bitsOf y n := by
  unfold lenOk at h
  simp only [Bool.and_eq_true, Bool.or_eq_true, decide_eq_true_eq] at h
  exact ⟨h.1.1, by omega, h.1.2, h.2⟩
set_option maxRecDepth 100000 in
theorem j0_eq (k : Nat) (x0 x2 : Int) : bits_Len64.j0 (k + 1) x0 x2 = if x0 ≥ 65536 then (if (x0 / 65536) ≥ 256 then (if 0 ≤ (((x0 / 65536) / 256) % 256) then (if (((x0 / 65536) / 256) % 256) < 256 then (some (wrap64 ((wrap64 ((wrap64 (x2 + 16)) + 8)) + (wrap64 (bt lenTab (((x0 / 65536) / 256) % 256)))))) else (none)) else (none)) else (if 0 ≤ ((x0 / 65536) % 256) then (if ((x0 / 65536) % 256) < 256 then (some (wrap64 ((wrap64 (x2 + 16)) + (wrap64 (bt lenTab ((x0 / 65536) % 256)))))) else (none)) else (none))) else (if x0 ≥ 256 then (if 0 ≤ ((x0 / 256) % 256) then (if ((x0 / 256) % 256) < 256 then (some (wrap64 ((wrap64 (x2 + 8)) + (wrap64 (bt lenTab ((x0 / 256) % 256)))))) else (none)) else (none)) else (if 0 ≤ ((x0) % 256) then (if ((x0) % 256) < 256 then (some (wrap64 (x2 + (wrap64 (bt lenTab ((x0) % 256)))))) else (none)) else (none))) := rfl
theorem len_j0 (y z : Int) (h0 : 0 ≤ y) (h1 : y < 4294967296) (hz0 : 0 ≤ z) (hz : z ≤ 1000) :
    ∃ n : Nat, n ≤ 32 ∧ bitsOf y n ∧ ∀ k, bits_Len64.j0 (k + 1) y z = some (z + n) := by
  by_cases c1 : y ≥ 65536
  · by_cases c2 : y / 65536 ≥ 256
    · obtain ⟨n, hn, ho⟩ := lenTab_at ((y / 65536) / 256 % 256) (by omega) (by omega)
      obtain ⟨h8, hb⟩ := lenOk_bits ho
      refine ⟨n + 24, by omega, len_scaled 24 24 16777216 (by decide) (by omega) h0 (y := y / 65536 / 256 % 256) (by omega) (by omega) hb (by omega), fun k => ?_⟩
      rw [j0_eq, if_pos c1, if_pos c2, if_pos (by omega), if_pos (by omega), hn]
      exact congrArg some (by unfold wrap64; omega)
    · obtain ⟨n, hn, ho⟩ := lenTab_at ((y / 65536) % 256) (by omega) (by omega)
      obtain ⟨h8, hb⟩ := lenOk_bits ho
      refine ⟨n + 16, by omega, len_scaled 16 16 65536 (by decide) (by omega) h0 (y := y / 65536 % 256) (by omega) (by omega) hb (by omega), fun k => ?_⟩
      rw [j0_eq, if_pos c1, if_neg c2, if_pos (by omega), if_pos (by omega), hn]
      exact congrArg some (by unfold wrap64; omega)
  · by_cases c2 : y ≥ 256
    · obtain ⟨n, hn, ho⟩ := lenTab_at ((y / 256) % 256) (by omega) (by omega)
      obtain ⟨h8, hb⟩ := lenOk_bits ho
      refine ⟨n + 8, by omega, len_scaled 8 8 256 (by decide) (by omega) h0 (y := y / 256 % 256) (by omega) (by omega) hb (by omega), fun k => ?_⟩
      rw [j0_eq, if_neg c1, if_pos c2, if_pos (by omega), if_pos (by omega), hn]
      exact congrArg some (by unfold wrap64; omega)
    · obtain ⟨n, hn, ho⟩ := lenTab_at (y % 256) (by omega) (by omega)
      obtain ⟨h8, hb⟩ := lenOk_bits ho
      have e : y % 256 = y := by omega
      rw [e] at hb
      refine ⟨n, by omega, hb, fun k => ?_⟩
      rw [j0_eq, if_neg c1, if_neg c2, if_pos (by omega), if_pos (by omega), hn]
      exact congrArg some (by unfold wrap64; omega)
theorem len64 (x : Int) (h : U64 x) : ∃ n : Nat, bitsOf x n ∧ ∀ k, bits_Len64.f (k + 1) x = some (n : Int) := by
  obtain ⟨h0, h1⟩ := h
  by_cases c : x ≥ 4294967296
  · obtain ⟨n, hn, hb, hf⟩ := len_j0 (x / 4294967296) 32 (by omega) (by omega) (by omega) (by omega)
    refine ⟨n + 32, len_scaled 32 32 4294967296 (by decide) (by omega) h0 rfl (by omega) hb (by omega), fun k => ?_⟩
    unfold bits_Len64.f
    rw [if_pos c, hf k]; congr 1; omega
  · obtain ⟨n, hn, hb, hf⟩ := len_j0 x 0 h0 (by omega) (by omega) (by omega)
    refine ⟨n, hb, fun k => ?_⟩
    unfold bits_Len64.f
    rw [if_neg c, hf k]; congr 1; omega
/- how far to shift y so that its highest bit is set -/
theorem lead64 (y : Int) (h0 : 0 < y) (h1 : y < 18446744073709551616) : ∃ s : Nat, s ≤ 63 ∧ 9223372036854775808 ≤ y * 2 ^ s ∧ y * 2 ^ s < 18446744073709551616 ∧ ∀ k, bits_LeadingZeros64.f (k + 1) y = some (s : Int) := by
  obtain ⟨n, ⟨hn, hlt, hge⟩, hf⟩ := len64 y ⟨by omega, h1⟩
  have hn0 : n ≠ 0 := by rintro rfl; simp at hlt; omega
  have hge' : (2 : Int) ^ n ≤ 2 * y := by rcases hge with h | h <;> omega
  have e : (2 : Int) ^ n * 2 ^ (64 - n) = 18446744073709551616 := by rw [← Int.pow_add, show n + (64 - n) = 64 from by omega]; decide
  have hp : 0 < (2 : Int) ^ (64 - n) := Int.pow_pos (by decide)
  refine ⟨64 - n, by omega, ?_, ?_, fun k => ?_⟩
  · have := Int.mul_le_mul_of_nonneg_right hge' (show 0 ≤ (2 : Int) ^ (64 - n) by omega)
    rw [Int.mul_assoc] at this; omega
  · have := Int.mul_lt_mul_of_pos_right hlt hp
    omega
  · unfold bits_LeadingZeros64.f
    rw [hf k]; simp only [Option.bind_some]; rw [wrap64_of (by omega) (by omega)]; congr 1; omega
end Go.Proofs.Ytpmdlhncfggjkaa.PX
end
section
namespace Go.Proofs.Ytpmdlhncfggjkaa.PX
open Go.RowKit Go.Proofs.YtpmdlhncfggjkaaW.PrintWords Go.Proofs.YtpmdlhncfggjkaaW.PrintLast Go.Proofs.YtpmdlhncfggjkaaW.PrintMore
set_option linter.unusedVariables false
set_option linter.unusedSimpArgs false

/- one digit of the quotient -/
def KIn (y1 y0 u e q r : Int) : Prop := q * y1 + r = u ∧ 0 ≤ r ∧ r < 4294967296 ∧ (u * 4294967296 + e) / (y1 * 4294967296 + y0) ≤ q ∧ q ≤ 4294967297
structure KFix (y1 y0 u e : Int) : Prop where
  y1l : 2147483648 ≤ y1
  y1h : y1 < 4294967296
  y0l : 0 ≤ y0
  y0h : y0 < 4294967296
  ul : 0 ≤ u
  uh : u < y1 * 4294967296 + y0
  el : 0 ≤ e
  eh : e < 4294967296
theorem k_split (q y1 y0 : Int) : q * (y1 * 4294967296 + y0) = q * y1 * 4294967296 + q * y0 := by
  rw [Int.mul_add, Int.mul_assoc]
theorem k_stop {y1 y0 u e q r : Int} (F : KFix y1 y0 u e) (h : KIn y1 y0 u e q r) (ht : q * y0 ≤ 4294967296 * r + e) : q = (u * 4294967296 + e) / (y1 * 4294967296 + y0) := by
  obtain ⟨h1, h2, h3, h4, h5⟩ := h
  have : q * (y1 * 4294967296 + y0) ≤ u * 4294967296 + e := by rw [k_split]; omega
  have := Int.le_ediv_of_mul_le (by have := F.y1l; have := F.y0l; omega) this
  omega
theorem k_go {y1 y0 u e q r : Int} (F : KFix y1 y0 u e) (h : KIn y1 y0 u e q r) (ht : 4294967296 ≤ q ∨ 4294967296 * r + e < q * y0) : (u * 4294967296 + e) / (y1 * 4294967296 + y0) ≤ q - 1 := by
  obtain ⟨h1, h2, h3, h4, h5⟩ := h
  have hY : 0 < y1 * 4294967296 + y0 := by have := F.y1l; have := F.y0l; omega
  rcases ht with ht | ht
  · have : u * 4294967296 + e < 4294967296 * (y1 * 4294967296 + y0) := by have := F.uh; have := F.eh; omega
    have := Int.ediv_lt_of_lt_mul hY this
    omega
  · have : u * 4294967296 + e < q * (y1 * 4294967296 + y0) := by rw [k_split]; omega
    have := Int.ediv_lt_of_lt_mul hY this
    omega
theorem k_break {y1 y0 u e q r : Int} (F : KFix y1 y0 u e) (h : KIn y1 y0 u e q r) (hq : (u * 4294967296 + e) / (y1 * 4294967296 + y0) ≤ q - 1) (hr : 4294967296 ≤ r + y1) : q - 1 = (u * 4294967296 + e) / (y1 * 4294967296 + y0) := by
  obtain ⟨h1, h2, h3, h4, h5⟩ := h
  have hY : 0 < y1 * 4294967296 + y0 := by have := F.y1l; have := F.y0l; omega
  have e1 : (q - 1) * y1 = q * y1 - y1 := by rw [Int.sub_mul, Int.one_mul]
  have e2 : (q - 1) * y0 ≤ 4294967296 * 4294967295 := by
    by_cases hn : 0 ≤ q - 1
    · exact Int.mul_le_mul (by omega) (by have := F.y0h; omega) F.y0l (by omega)
    · have : (q - 1) * y0 ≤ 0 := Int.mul_nonpos_of_nonpos_of_nonneg (by omega) F.y0l
      omega
  have : (q - 1) * (y1 * 4294967296 + y0) ≤ u * 4294967296 + e := by rw [k_split, e1]; have := F.el; omega
  have := Int.le_ediv_of_mul_le hY this
  omega
theorem k_next {y1 y0 u e q r : Int} (F : KFix y1 y0 u e) (h : KIn y1 y0 u e q r) (hq : (u * 4294967296 + e) / (y1 * 4294967296 + y0) ≤ q - 1) (hr : r + y1 < 4294967296) : KIn y1 y0 u e (q - 1) (r + y1) := by
  obtain ⟨h1, h2, h3, h4, h5⟩ := h
  have e1 : (q - 1) * y1 = q * y1 - y1 := by rw [Int.sub_mul, Int.one_mul]
  exact ⟨by rw [e1]; omega, by have := F.y1l; omega, hr, hq, by omega⟩
theorem k_pos {y1 y0 u e : Int} (F : KFix y1 y0 u e) : 0 ≤ (u * 4294967296 + e) / (y1 * 4294967296 + y0) :=
  Int.ediv_nonneg (by have := F.ul; have := F.el; omega) (by have := F.y1l; have := F.y0l; omega)
theorem k_lt {y1 y0 u e : Int} (F : KFix y1 y0 u e) : (u * 4294967296 + e) / (y1 * 4294967296 + y0) < 4294967296 :=
  Int.ediv_lt_of_lt_mul (by have := F.y1l; have := F.y0l; omega) (by have := F.uh; have := F.eh; omega)
/- the guess to begin with -/
theorem k_first {y1 y0 u e : Int} (F : KFix y1 y0 u e) : KIn y1 y0 u e (u / y1) (u % y1) := by
  have hy := F.y1l
  have h0 := Int.emod_nonneg u (show y1 ≠ 0 by omega)
  have h1 := Int.emod_lt_of_pos u (show 0 < y1 by omega)
  have h2 := Int.ediv_mul_add_emod u y1
  refine ⟨h2, h0, by have := F.y1h; omega, ?_, ?_⟩
  · have hY : 0 < y1 * 4294967296 + y0 := by have := F.y0l; omega
    refine Int.lt_add_one_iff.mp (Int.ediv_lt_of_lt_mul hY ?_)
    have e1 : (u / y1 + 1) * (y1 * 4294967296 + y0) = (u / y1 * y1 + y1) * 4294967296 + (u / y1 + 1) * y0 := by
      rw [k_split, Int.add_mul (u / y1) 1 y1, Int.one_mul]
    have : 0 ≤ (u / y1 + 1) * y0 := Int.mul_nonneg (by have := Int.ediv_nonneg F.ul (show 0 ≤ y1 by omega); omega) F.y0l
    rw [e1]; have := F.eh; omega
  · refine Int.lt_add_one_iff.mp (Int.ediv_lt_of_lt_mul (by omega) ?_)
    have := F.uh; have := F.y0h
    omega
/- what the two tests of the loop ask -/
def kTest (y0 e q r : Int) : Bool := if q ≥ 4294967296 then true else decide ((IntKind.u64.wrap (q * y0)) > (IntKind.u64.wrap ((IntKind.u64.wrap (4294967296 * r)) + e)))
theorem kTest_is {y1 y0 u e q r : Int} (F : KFix y1 y0 u e) (h : KIn y1 y0 u e q r) : kTest y0 e q r = decide (4294967296 ≤ q ∨ 4294967296 * r + e < q * y0) := by
  unfold kTest
  obtain ⟨h1, h2, h3, h4, h5⟩ := h
  have hp := k_pos F
  by_cases c : q ≥ 4294967296
  · rw [if_pos c]; simp; omega
  · rw [if_neg c]
    have m0 : 0 ≤ q * y0 := Int.mul_nonneg (by omega) F.y0l
    have m1 : q * y0 ≤ 4294967295 * 4294967295 := Int.mul_le_mul (by omega) (by have := F.y0h; omega) F.y0l (by omega)
    rw [w64_in m0 (by omega), w64_in (x := 4294967296 * r) (by omega) (by omega), w64_in (by have := F.el; omega) (by have := F.eh; omega)]
    simp only [decide_eq_decide]; omega
theorem div64_l0 {Y s y1 y0 u e un0 : Int} {res : Int × Int} (F : KFix y1 y0 u e)
    (H : Ev (fun k => bits_Div64.j2 k Y s y1 y0 u e un0 ((u * 4294967296 + e) / (y1 * 4294967296 + y0))) res) (n : Nat) :
    ∀ q r, KIn y1 y0 u e q r → q - (u * 4294967296 + e) / (y1 * 4294967296 + y0) = n → Ev (fun k => bits_Div64.l0 k Y s y1 y0 u e un0 q r) res := by
  induction n with
  | zero =>
    intro q r hi hn
    have hs : kTest y0 e q r = false := by
      rw [kTest_is F hi, decide_eq_false_iff_not]; intro hc; have := k_go F hi hc; omega
    refine Ev.step (f := fun k => bits_Div64.j1 k Y s y1 y0 u e un0 q r false) (fun k => ?_) (Ev.step (f := fun k => bits_Div64.j2 k Y s y1 y0 u e un0 q) (fun k => ?_) ?_)
    · rw [← hs]; simp only [bits_Div64.l0, kTest]; split <;> rfl
    · simp only [bits_Div64.j1]; rfl
    · rw [show q = (u * 4294967296 + e) / (y1 * 4294967296 + y0) by omega]; exact H
  | succ n ih =>
    intro q r hi hn
    obtain ⟨h1, h2, h3, h4, h5⟩ := id hi
    have hp := k_pos F
    have hg : 4294967296 ≤ q ∨ 4294967296 * r + e < q * y0 := by
      by_cases c : 4294967296 ≤ q ∨ 4294967296 * r + e < q * y0
      · exact c
      · have := k_stop F hi (by omega); omega
    have hs : kTest y0 e q r = true := by rw [kTest_is F hi, decide_eq_true hg]
    have hq := k_go F hi hg
    have w1 : IntKind.u64.wrap (q - 1) = q - 1 := w64_in (by omega) (by omega)
    have w2 : IntKind.u64.wrap (r + y1) = r + y1 := w64_in (by have := F.y1l; omega) (by have := F.y1h; omega)
    refine Ev.step (f := fun k => bits_Div64.j1 k Y s y1 y0 u e un0 q r true) (fun k => ?_) ?_
    · rw [← hs]; simp only [bits_Div64.l0, kTest]; split <;> rfl
    · by_cases c : r + y1 ≥ 4294967296
      · refine Ev.step (f := fun k => bits_Div64.j2 k Y s y1 y0 u e un0 (q - 1)) (fun k => ?_) ?_
        · simp only [bits_Div64.j1]; rw [w2, if_pos trivial, if_pos c, w1]
        · rw [k_break F hi hq c]; exact H
      · refine Ev.step (f := fun k => bits_Div64.l0 k Y s y1 y0 u e un0 (q - 1) (r + y1)) (fun k => ?_) ?_
        · simp only [bits_Div64.j1]; rw [w2, if_pos trivial, if_neg c, w1]
        · exact ih _ _ (k_next F hi hq (by omega)) (by omega)
theorem div64_l1 {Y s y1 y0 u e q1 : Int} (hs0 : 0 ≤ s) (F : KFix y1 y0 u e) (n : Nat) :
    ∀ q r, KIn y1 y0 u e q r → q - (u * 4294967296 + e) / (y1 * 4294967296 + y0) = n → Ev (fun k => bits_Div64.l1 k Y s y1 y0 e q1 r u q)
      (IntKind.u64.wrap ((IntKind.u64.wrap (q1 * 4294967296)) + ((u * 4294967296 + e) / (y1 * 4294967296 + y0))), shr .u64 (IntKind.u64.wrap ((IntKind.u64.wrap ((IntKind.u64.wrap (u * 4294967296)) + e)) - (IntKind.u64.wrap (((u * 4294967296 + e) / (y1 * 4294967296 + y0)) * Y)))) s) := by
  induction n with
  | zero =>
    intro q r hi hn
    have hs : kTest y0 e q r = false := by
      rw [kTest_is F hi, decide_eq_false_iff_not]; intro hc; have := k_go F hi hc; omega
    refine Ev.step (f := fun k => bits_Div64.j4 k Y s y1 y0 e q1 r u q false) (fun k => ?_) (Ev.step (fun k => ?_) (Ev.now _))
    · rw [← hs]; simp only [bits_Div64.l1, kTest]; split <;> rfl
    · rw [← show q = (u * 4294967296 + e) / (y1 * 4294967296 + y0) by omega]
      simp only [bits_Div64.j4]; rw [if_neg (by decide), if_pos hs0]
  | succ n ih =>
    intro q r hi hn
    obtain ⟨h1, h2, h3, h4, h5⟩ := id hi
    have hp := k_pos F
    have hg : 4294967296 ≤ q ∨ 4294967296 * r + e < q * y0 := by
      by_cases c : 4294967296 ≤ q ∨ 4294967296 * r + e < q * y0
      · exact c
      · have := k_stop F hi (by omega); omega
    have hs : kTest y0 e q r = true := by rw [kTest_is F hi, decide_eq_true hg]
    have hq := k_go F hi hg
    have w1 : IntKind.u64.wrap (q - 1) = q - 1 := w64_in (by omega) (by omega)
    have w2 : IntKind.u64.wrap (r + y1) = r + y1 := w64_in (by have := F.y1l; omega) (by have := F.y1h; omega)
    refine Ev.step (f := fun k => bits_Div64.j4 k Y s y1 y0 e q1 r u q true) (fun k => ?_) ?_
    · rw [← hs]; simp only [bits_Div64.l1, kTest]; split <;> rfl
    · by_cases c : r + y1 ≥ 4294967296
      · refine Ev.step (fun k => ?_) (Ev.now _)
        rw [← k_break F hi hq c]
        simp only [bits_Div64.j4]; rw [w2, if_pos trivial, if_pos c, if_pos hs0, w1]
      · refine Ev.step (f := fun k => bits_Div64.l1 k Y s y1 y0 e q1 (r + y1) u (q - 1)) (fun k => ?_) ?_
        · simp only [bits_Div64.j4]; rw [w2, if_pos trivial, if_neg c, w1]
        · exact ih _ _ (k_next F hi hq (by omega)) (by omega)
theorem div_scaled {T y p q r : Int} (hy : 0 < y) (hp : 0 < p) (h : T * p = q * (y * p) + r) (h0 : 0 ≤ r) (h1 : r < y * p) : T / y = q ∧ r / p = T % y := by
  have e : r = (T - q * y) * p := by rw [Int.sub_mul, Int.mul_assoc, h]; omega
  have g0 : 0 ≤ T - q * y := by
    by_cases c : 0 ≤ T - q * y
    · exact c
    · exfalso; have : (T - q * y) * p < 0 := Int.mul_neg_of_neg_of_pos (by omega) hp
      omega
  have g1 : T - q * y < y := by
    by_cases c : T - q * y < y
    · exact c
    · exfalso; have : y * p ≤ (T - q * y) * p := Int.mul_le_mul_of_nonneg_right (by omega) (by omega)
      omega
  have hr : r / p = T - q * y := by rw [e]; exact Int.mul_ediv_cancel _ (by omega)
  have hq : T / y = q := by
    have : T = (T - q * y) + y * q := by rw [Int.mul_comm y q]; omega
    rw [this, Int.add_mul_ediv_left _ _ (by omega), Int.ediv_eq_zero_of_lt g0 g1]; omega
  refine ⟨hq, ?_⟩
  rw [hr]
  have := Int.ediv_mul_add_emod T y
  rw [hq] at this; omega
theorem shr_is (x s : Int) (S : Nat) (hs : s = S) (hS : S ≤ 64) : shr .u64 x s = x / 2 ^ S := by
  subst hs; unfold shr; rw [Int.toNat_natCast, Nat.min_eq_left (by simpa [IntKind.bits] using hS)]
theorem shl_is (x s : Int) (S : Nat) (hs : s = S) (hS : S ≤ 64) : shl .u64 x s = IntKind.u64.wrap (x * 2 ^ S) := by
  subst hs; unfold shl; rw [Int.toNat_natCast, Nat.min_eq_left (by simpa [IntKind.bits] using hS)]
theorem div64_ev (hi lo y : Int) (hy0 : 0 < y) (hy1 : y < 18446744073709551616) (hi0 : 0 ≤ hi) (hi1 : hi < y) (hl : U64 lo) :
    Ev (fun k => bits_Div64.f k hi lo y) ((hi * 18446744073709551616 + lo) / y, (hi * 18446744073709551616 + lo) % y) := by
  obtain ⟨hl0, hl1⟩ := hl
  by_cases hz : hi = 0
  · subst hz
    refine Ev.congr (fun k => ?_) (Ev.now _)
    unfold bits_Div64.f
    rw [if_neg (by omega), if_neg (by omega), if_pos rfl, Int.tdiv_eq_ediv_of_nonneg hl0, Int.tmod_eq_emod_of_nonneg hl0, Int.zero_mul, Int.zero_add]
    rw [w64_in (Int.ediv_nonneg hl0 (by omega)) (by have := Int.ediv_le_self y hl0; omega)]
  · obtain ⟨s, hs, hA, hB, hlz⟩ := lead64 y hy0 hy1
    have hp : 0 < (2 : Int) ^ s := Int.pow_pos (by decide)
    have hP : 0 < (2 : Int) ^ (64 - s) := Int.pow_pos (by decide)
    have hpP : (2 : Int) ^ s * 2 ^ (64 - s) = 18446744073709551616 := by rw [← Int.pow_add, show s + (64 - s) = 64 from by omega]; decide
    have e1 : shl .u64 y (s : Int) = y * 2 ^ s := by rw [shl_is _ _ s rfl (by omega), w64_in (by omega) hB]
    have hiY : hi * 2 ^ s + 2 ^ s ≤ y * 2 ^ s := by
      have : (hi + 1) * 2 ^ s ≤ y * 2 ^ s := Int.mul_le_mul_of_nonneg_right (by omega) (by omega)
      rw [Int.add_mul, Int.one_mul] at this; exact this
    have hi0' : 0 ≤ hi * 2 ^ s := Int.mul_nonneg hi0 (by omega)
    have e2 : shl .u64 hi (s : Int) = hi * 2 ^ s := by rw [shl_is _ _ s rfl (by omega), w64_in hi0' (by omega)]
    have e3 : IntKind.u64.wrap (s : Int) = s := w64_in (by omega) (by omega)
    have e4 : IntKind.u64.wrap (64 - (s : Int)) = ((64 - s : Nat) : Int) := by rw [w64_in (by omega) (by omega)]; omega
    have e5 : shr .u64 lo ((64 - s : Nat) : Int) = lo / 2 ^ (64 - s) := shr_is _ _ _ rfl (by omega)
    have hlo : lo / 2 ^ (64 - s) < 2 ^ s := Int.ediv_lt_of_lt_mul hP (by omega)
    have hlo0 : 0 ≤ lo / 2 ^ (64 - s) := Int.ediv_nonneg hl0 (by omega)
    have e6 : Go.bits .or .u64 (hi * 2 ^ s) (lo / 2 ^ (64 - s)) = hi * 2 ^ s + lo / 2 ^ (64 - s) :=
      or_join s hi0' (Int.mul_emod_left _ _) (by omega) hlo0 hlo (by omega)
    have e7 : shl .u64 lo (s : Int) = (lo * 2 ^ s) % 18446744073709551616 := by rw [shl_is _ _ s rfl (by omega), IntKind.wrap_u64]
    have e8 : lo * 2 ^ s = lo / 2 ^ (64 - s) * 18446744073709551616 + (lo * 2 ^ s) % 18446744073709551616 := by
      have a1 := Int.ediv_mul_add_emod (lo * 2 ^ s) 18446744073709551616
      have a2 : lo * 2 ^ s / 18446744073709551616 = lo / 2 ^ (64 - s) := by
        rw [← hpP, Int.mul_comm lo, Int.mul_ediv_mul_of_pos _ _ hp]
      rw [a2] at a1; omega
    generalize hYe : y * 2 ^ s = Y at *
    generalize hue : hi * 2 ^ s + lo / 2 ^ (64 - s) = u at *
    generalize hve : (lo * 2 ^ s) % 18446744073709551616 = v at *
    have hv0 : 0 ≤ v := by omega
    have hv1 : v < 18446744073709551616 := by omega
    have hT : (hi * 18446744073709551616 + lo) * 2 ^ s = u * 18446744073709551616 + v := by
      rw [Int.add_mul, Int.mul_right_comm, e8, ← hue]; omega
    have hYs : Y / 4294967296 * 4294967296 + Y % 4294967296 = Y := by omega
    have F1 : KFix (Y / 4294967296) (Y % 4294967296) u (v / 4294967296) := ⟨by omega, by omega, by omega, by omega, by omega, by omega, by omega, by omega⟩
    have p1 := k_pos F1
    have l1 := k_lt F1
    have g1 := k_first F1
    rw [hYs] at p1 l1
    have m1 := Int.ediv_mul_add_emod (u * 4294967296 + v / 4294967296) Y
    have m2 := Int.emod_nonneg (u * 4294967296 + v / 4294967296) (show Y ≠ 0 by omega)
    have m3 := Int.emod_lt_of_pos (u * 4294967296 + v / 4294967296) (show 0 < Y by omega)
    generalize hQ1 : (u * 4294967296 + v / 4294967296) / Y = Q1 at *
    generalize hR1 : (u * 4294967296 + v / 4294967296) % Y = R1 at *
    have F0 : KFix (Y / 4294967296) (Y % 4294967296) R1 (v % 4294967296) := ⟨by omega, by omega, by omega, by omega, by omega, by omega, by omega, by omega⟩
    have p0 := k_pos F0
    have l0 := k_lt F0
    have g0 := k_first F0
    rw [hYs] at p0 l0
    have n1 := Int.ediv_mul_add_emod (R1 * 4294967296 + v % 4294967296) Y
    have n2 := Int.emod_nonneg (R1 * 4294967296 + v % 4294967296) (show Y ≠ 0 by omega)
    have n3 := Int.emod_lt_of_pos (R1 * 4294967296 + v % 4294967296) (show 0 < Y by omega)
    have hw0 := div64_l1 (Y := Y) (s := (s : Int)) (q1 := Q1) (by omega) F0 (R1 / (Y / 4294967296) - (R1 * 4294967296 + v % 4294967296) / (Y / 4294967296 * 4294967296 + Y % 4294967296)).toNat (R1 / (Y / 4294967296)) (R1 % (Y / 4294967296)) g0 (by have := g0.2.2.2.1; omega)
    rw [hYs] at hw0
    generalize hQ0 : (R1 * 4294967296 + v % 4294967296) / Y = Q0 at *
    generalize hR0 : (R1 * 4294967296 + v % 4294967296) % Y = R0 at *
    have hfin := div_scaled (T := hi * 18446744073709551616 + lo) (y := y) (p := 2 ^ s) (q := Q1 * 4294967296 + Q0) (r := R0) hy0 hp
      (by rw [hT, hYe, Int.add_mul, Int.mul_right_comm]; omega) n2 (by rw [hYe]; exact n3)
    have r1 : IntKind.u64.wrap ((IntKind.u64.wrap (Q1 * 4294967296)) + Q0) = (hi * 18446744073709551616 + lo) / y := by
      rw [w64_in (x := Q1 * 4294967296) (by omega) (by omega), w64_in (by omega) (by omega), hfin.1]
    have r2 : shr .u64 (IntKind.u64.wrap ((IntKind.u64.wrap ((IntKind.u64.wrap (R1 * 4294967296)) + v % 4294967296)) - (IntKind.u64.wrap (Q0 * Y)))) (s : Int) = (hi * 18446744073709551616 + lo) % y := by
      rw [shr_is _ _ s rfl (by omega), ← hfin.2]
      congr 1
      simp only [IntKind.wrap_u64]; omega
    rw [r1, r2] at hw0
    have hj2 : Ev (fun k => bits_Div64.j2 k Y (s : Int) (Y / 4294967296) (Y % 4294967296) u (v / 4294967296) (v % 4294967296) Q1) ((hi * 18446744073709551616 + lo) / y, (hi * 18446744073709551616 + lo) % y) := by
      refine Ev.step (fun k => ?_) hw0
      have a1 : IntKind.u64.wrap ((IntKind.u64.wrap ((IntKind.u64.wrap (u * 4294967296)) + v / 4294967296)) - (IntKind.u64.wrap (Q1 * Y))) = R1 := by
        simp only [IntKind.wrap_u64]; omega
      have a2 : IntKind.u64.wrap (Int.tdiv R1 (Y / 4294967296)) = R1 / (Y / 4294967296) := by
        rw [Int.tdiv_eq_ediv_of_nonneg m2]
        have := g0.2.2.2.2
        exact w64_in (Int.ediv_nonneg m2 (by omega)) (by omega)
      have a3 : IntKind.u64.wrap (R1 - (IntKind.u64.wrap (R1 / (Y / 4294967296) * (Y / 4294967296)))) = R1 % (Y / 4294967296) := by
        have b1 := g0.1; have b2 := g0.2.1; have b3 := g0.2.2.1
        simp only [IntKind.wrap_u64]; omega
      simp only [bits_Div64.j2]
      rw [if_neg (by omega), a1, a2, a3]
    have hj0 := div64_l0 (Y := Y) (s := (s : Int)) (un0 := v % 4294967296) F1 (by rw [hYs, hQ1]; exact hj2) (u / (Y / 4294967296) - (u * 4294967296 + v / 4294967296) / (Y / 4294967296 * 4294967296 + Y % 4294967296)).toNat (u / (Y / 4294967296)) (u % (Y / 4294967296)) g1 (by have := g1.2.2.2.1; omega)
    obtain ⟨K, hK⟩ := hj0
    refine ⟨K + 1, fun k hk => ?_⟩
    obtain ⟨m, rfl⟩ : ∃ m, k = m + 1 := ⟨k - 1, by omega⟩
    have hK' := hK (m + 1) (by omega)
    simp only at hK'
    show bits_Div64.f (m + 1) hi lo y = _
    unfold bits_Div64.f
    rw [if_neg (by omega), if_neg (by omega), if_neg hz, hlz m]
    simp only [Option.bind_some]
    have c1 : IntKind.u64.wrap (Int.tdiv u (Y / 4294967296)) = u / (Y / 4294967296) := by
      rw [Int.tdiv_eq_ediv_of_nonneg F1.ul]
      have := g1.2.2.2.2
      exact w64_in (Int.ediv_nonneg F1.ul (by omega)) (by omega)
    have c2 : IntKind.u64.wrap (u - (IntKind.u64.wrap (u / (Y / 4294967296) * (Y / 4294967296)))) = u % (Y / 4294967296) := by
      have b1 := g1.1; have b2 := g1.2.1; have b3 := g1.2.2.1
      simp only [IntKind.wrap_u64]; omega
    rw [e3, e4, e1, e2, e5, e6, e7, if_pos (by omega), if_pos (by omega), if_neg (by omega), and32 (by omega) (by omega), and32 (by omega) (by omega), c1, c2, hK']
end Go.Proofs.Ytpmdlhncfggjkaa.PX
end
section
namespace Go.Proofs.Ytpmdlhncfggjkaa.PX
open Go.RowKit Go.Proofs.YtpmdlhncfggjkaaW.PrintWords Go.Proofs.YtpmdlhncfggjkaaW.PrintLast Go.Proofs.YtpmdlhncfggjkaaW.PrintMore
attribute [local go_sem] max2_int min2_int max_two min_two max_three min_three max_four min_four   -- for this text's walks alone
set_option linter.unusedVariables false
set_option linter.unusedSimpArgs false

/-! ### customsref01_Add: function 39 -/
def customsref01_Add.f (a0_0 : Int) (a0_1 : Int) (a1_0 : Int) (a1_1 : Int) : Option (Int × Int × Bool) := if (IntKind.u64.wrap (a0_1 + a1_1)) < a0_1 then (if (IntKind.u64.wrap (a0_0 + a1_0)) < a0_0 then (some (IntKind.u64.wrap ((IntKind.u64.wrap (a0_0 + a1_0)) + 1), IntKind.u64.wrap (a0_1 + a1_1), true)) else (some (IntKind.u64.wrap ((IntKind.u64.wrap (a0_0 + a1_0)) + 1), IntKind.u64.wrap (a0_1 + a1_1), ((IntKind.u64.wrap ((IntKind.u64.wrap (a0_0 + a1_0)) + 1)) == 0)))) else (some (IntKind.u64.wrap (a0_0 + a1_0), IntKind.u64.wrap (a0_1 + a1_1), decide ((IntKind.u64.wrap (a0_0 + a1_0)) < a0_0)))
set_option maxHeartbeats 8000000 in
set_option maxRecDepth 100000 in
theorem customsref01_Add.calls (a0_0 : Int) (a0_1 : Int) (a1_0 : Int) (a1_1 : Int) (r1 : Int) (r2 : Int) (r3 : Bool) (w : World) (h : customsref01_Add.f a0_0 a0_1 a1_0 a1_1 = some (r1, r2, r3)) :
    Calls Try.prog 39 #[.agg #[.int .u64 a0_0, .int .u64 a0_1], .agg #[.int .u64 a1_0, .int .u64 a1_1]] w fun e w' => e = .returned (.tuple #[.agg #[.int .u64 r1, .int .u64 r2], .bool r3]) ∧ Below w.heap.size w w' := by
  have hu66 := Try.underlying66
  have HB := Aside0.mk (Below.refl w.heap.size w)
  have H : (if (IntKind.u64.wrap (a0_1 + a1_1)) < a0_1 then (if (IntKind.u64.wrap (a0_0 + a1_0)) < a0_0 then (some (IntKind.u64.wrap ((IntKind.u64.wrap (a0_0 + a1_0)) + 1), IntKind.u64.wrap (a0_1 + a1_1), true)) else (some (IntKind.u64.wrap ((IntKind.u64.wrap (a0_0 + a1_0)) + 1), IntKind.u64.wrap (a0_1 + a1_1), ((IntKind.u64.wrap ((IntKind.u64.wrap (a0_0 + a1_0)) + 1)) == 0)))) else (some (IntKind.u64.wrap (a0_0 + a1_0), IntKind.u64.wrap (a0_1 + a1_1), decide ((IntKind.u64.wrap (a0_0 + a1_0)) < a0_0)))) = some (r1, r2, r3) := h
  clear h
  by_cases c3 : (IntKind.u64.wrap (a0_1 + a1_1)) < a0_1
  · rw [if_pos c3] at H
    have c3b0 : decide ((IntKind.u64.wrap (a0_1 + a1_1)) < a0_1) = true := decide_eq_true c3
    clear c3
    by_cases c4 : (IntKind.u64.wrap (a0_0 + a1_0)) < a0_0
    · rw [if_pos c4] at H
      have c4b0 : decide ((IntKind.u64.wrap (a0_0 + a1_0)) < a0_0) = true := decide_eq_true c4
      clear c4
      simp only [Option.some.injEq, Prod.mk.injEq] at H
      obtain ⟨rfl, rfl, rfl⟩ := H
      go_enter Try.func39, Try.ntmps39
      go_wp2_with (first | ((with_reducible refine gate_dst (N := 2) rfl ?_); refine box_event ?hg (N := 2) ?hd (cs := #[.int .u64 a0_0, .int .u64 a0_1]) (t := 66) ?hr ?_; (case hd => rfl); (case hg => rfl); (case hr => first | (go_simp; done) | (go_simp; rfl)); intro gb233 hg w5 hbox hb; have n0_ := Aside0.mk (below_step (by repeat (first | (with_reducible first | exact HB.out | apply below_alloc | apply pw_below_drewN | apply below_drew1) | exact HB.out)) hb); have n1_ := Aside0.mk (hbox); have n2_ := Aside0.mk ((by rw [hg]; exact (below_size (by repeat (first | (with_reducible first | exact HB.out | apply below_alloc | apply pw_below_drewN | apply below_drew1) | exact HB.out))) : w.heap.size ≤ gb233)); have n3_ := Aside0.mk ((by rw [hg]; exact (below_size (by repeat (first | (with_reducible first | exact HB.out | apply below_alloc | apply pw_below_drewN | apply below_drew1) | exact HB.out))) : w.heap.size ≤ gb233)); clear HB; have HB := n0_; have BK233 := n1_; have GW233 := n2_; have GE233 := n3_; clear n0_ n1_ n2_ n3_; clear hb hbox hg) | ((with_reducible refine gate_dst (N := 3) rfl ?_); refine box_event ?hg (N := 3) ?hd (cs := #[.int .u64 a1_0, .int .u64 a1_1]) (t := 66) ?hr ?_; (case hd => rfl); (case hg => rfl); (case hr => first | (go_simp; done) | (go_simp; rfl)); intro gb234 hg w6 hbox hb; have n0_ := Aside0.mk (blk_below (g := gb233) (o := .cells #[.int .u64 a0_0, .int .u64 a0_1] 66 (0, 0)) (by (with_reducible repeat (first | refine blk_drewN ?_ _ | refine blk_drew ?_ | refine blk_alloc ?_ _)); exact BK233.out) hb); have n1_ := Aside0.mk (below_step (by repeat (first | (with_reducible first | exact HB.out | apply below_alloc | apply pw_below_drewN | apply below_drew1 | refine below_set ?_ GE233.out) | exact HB.out)) hb); have n2_ := Aside0.mk (hbox); have n3_ := Aside0.mk ((by rw [hg]; exact (below_size (by repeat (first | (with_reducible first | exact HB.out | apply below_alloc | apply pw_below_drewN | apply below_drew1 | refine below_set ?_ GE233.out) | exact HB.out))) : w.heap.size ≤ gb234)); have n4_ := Aside0.mk ((by rw [hg]; exact (below_size (by repeat (first | (with_reducible first | exact HB.out | apply below_alloc | apply pw_below_drewN | apply below_drew1 | refine below_set ?_ GE233.out) | exact HB.out))) : w.heap.size ≤ gb234)); have n5_ := Aside0.mk ((by rw [hg]; exact Nat.ne_of_lt (blk_lt (g := gb233) (o := .cells #[.int .u64 a0_0, .int .u64 a0_1] 66 (0, 0)) (by (with_reducible repeat (first | refine blk_drewN ?_ _ | refine blk_drew ?_ | refine blk_alloc ?_ _)); exact BK233.out)) : gb233 ≠ gb234)); have n6_ := Aside0.mk ((by rw [hg]; exact Nat.ne_of_gt (blk_lt (g := gb233) (o := .cells #[.int .u64 a0_0, .int .u64 a0_1] 66 (0, 0)) (by (with_reducible repeat (first | refine blk_drewN ?_ _ | refine blk_drew ?_ | refine blk_alloc ?_ _)); exact BK233.out)) : gb234 ≠ gb233)); clear BK233; clear HB; have BK233 := n0_; have HB := n1_; have BK234 := n2_; have GW234 := n3_; have GE234 := n4_; have NB233_234 := n5_; have NB234_233 := n6_; clear n0_ n1_ n2_ n3_ n4_ n5_ n6_; clear hb hbox hg) | ((with_reducible refine gate_dst (N := 4) rfl ?_); refine box_event ?hg (N := 4) ?hd (cs := #[.int .u64 0, .int .u64 0]) (t := 66) ?hr ?_; (case hd => rfl); (case hg => rfl); (case hr => first | (go_simp; done) | (go_simp; rfl)); intro gb235 hg w7 hbox hb; have n0_ := Aside0.mk (blk_below (g := gb233) (o := .cells #[.int .u64 a0_0, .int .u64 a0_1] 66 (0, 0)) (by (with_reducible repeat (first | refine blk_drewN ?_ _ | refine blk_drew ?_ | refine blk_alloc ?_ _)); exact BK233.out) hb); have n1_ := Aside0.mk (blk_below (g := gb234) (o := .cells #[.int .u64 a1_0, .int .u64 a1_1] 66 (0, 0)) (by (with_reducible repeat (first | refine blk_drewN ?_ _ | refine blk_drew ?_ | refine blk_alloc ?_ _)); exact BK234.out) hb); have n2_ := Aside0.mk (below_step (by repeat (first | (with_reducible first | exact HB.out | apply below_alloc | apply pw_below_drewN | apply below_drew1 | refine below_set ?_ GE233.out | refine below_set ?_ GE234.out) | exact HB.out)) hb); have n3_ := Aside0.mk (hbox); have n4_ := Aside0.mk ((by rw [hg]; exact (below_size (by repeat (first | (with_reducible first | exact HB.out | apply below_alloc | apply pw_below_drewN | apply below_drew1 | refine below_set ?_ GE233.out | refine below_set ?_ GE234.out) | exact HB.out))) : w.heap.size ≤ gb235)); have n5_ := Aside0.mk ((by rw [hg]; exact (below_size (by repeat (first | (with_reducible first | exact HB.out | apply below_alloc | apply pw_below_drewN | apply below_drew1 | refine below_set ?_ GE233.out | refine below_set ?_ GE234.out) | exact HB.out))) : w.heap.size ≤ gb235)); have n6_ := Aside0.mk ((by rw [hg]; exact Nat.ne_of_lt (blk_lt (g := gb233) (o := .cells #[.int .u64 a0_0, .int .u64 a0_1] 66 (0, 0)) (by (with_reducible repeat (first | refine blk_drewN ?_ _ | refine blk_drew ?_ | refine blk_alloc ?_ _)); exact BK233.out)) : gb233 ≠ gb235)); have n7_ := Aside0.mk ((by rw [hg]; exact Nat.ne_of_gt (blk_lt (g := gb233) (o := .cells #[.int .u64 a0_0, .int .u64 a0_1] 66 (0, 0)) (by (with_reducible repeat (first | refine blk_drewN ?_ _ | refine blk_drew ?_ | refine blk_alloc ?_ _)); exact BK233.out)) : gb235 ≠ gb233)); have n8_ := Aside0.mk ((by rw [hg]; exact Nat.ne_of_lt (blk_lt (g := gb234) (o := .cells #[.int .u64 a1_0, .int .u64 a1_1] 66 (0, 0)) (by (with_reducible repeat (first | refine blk_drewN ?_ _ | refine blk_drew ?_ | refine blk_alloc ?_ _)); exact BK234.out)) : gb234 ≠ gb235)); have n9_ := Aside0.mk ((by rw [hg]; exact Nat.ne_of_gt (blk_lt (g := gb234) (o := .cells #[.int .u64 a1_0, .int .u64 a1_1] 66 (0, 0)) (by (with_reducible repeat (first | refine blk_drewN ?_ _ | refine blk_drew ?_ | refine blk_alloc ?_ _)); exact BK234.out)) : gb235 ≠ gb234)); clear BK233; clear BK234; clear HB; have BK233 := n0_; have BK234 := n1_; have HB := n2_; have BK235 := n3_; have GW235 := n4_; have GE235 := n5_; have NB233_235 := n6_; have NB235_233 := n7_; have NB234_235 := n8_; have NB235_234 := n9_; clear n0_ n1_ n2_ n3_ n4_ n5_ n6_ n7_ n8_ n9_; clear hb hbox hg; have hnb8 := NB233_234.out; have hnc8 := NB234_233.out; have hnb9 := NB233_235.out; have hnc9 := NB235_233.out; have hcz10_0 : w7.cell? ⟨gb233, 0, none⟩ = some (.int .u64 a0_0) := (blk_cell BK233.out 0).trans rfl; have hcz10_1 : w7.cell? ⟨gb233, 1, none⟩ = some (.int .u64 a0_1) := (blk_cell BK233.out 1).trans rfl; have hfz10_0 := blk_frozen BK233.out 0; have hfz10_1 := blk_frozen BK233.out 1; have hnb11 := NB234_235.out; have hnc11 := NB235_234.out; have hcz12_0 : w7.cell? ⟨gb234, 0, none⟩ = some (.int .u64 a1_0) := (blk_cell BK234.out 0).trans rfl; have hcz12_1 : w7.cell? ⟨gb234, 1, none⟩ = some (.int .u64 a1_1) := (blk_cell BK234.out 1).trans rfl; have hfz12_0 := blk_frozen BK234.out 0; have hfz12_1 := blk_frozen BK234.out 1; have hcz13_0 : w7.cell? ⟨gb235, 0, none⟩ = some (.int .u64 0) := (blk_cell BK235.out 0).trans rfl; have hcz13_1 : w7.cell? ⟨gb235, 1, none⟩ = some (.int .u64 0) := (blk_cell BK235.out 1).trans rfl; have hfz13_0 := blk_frozen BK235.out 0; have hfz13_1 := blk_frozen BK235.out 1))
      repeat (go_quiet (first | ((with_reducible refine gate_dst (N := 2) rfl ?_); refine box_event ?hg (N := 2) ?hd (cs := #[.int .u64 a0_0, .int .u64 a0_1]) (t := 66) ?hr ?_; (case hd => rfl); (case hg => rfl); (case hr => first | (go_simp; done) | (go_simp; rfl)); intro gb233 hg w5 hbox hb; have n0_ := Aside0.mk (below_step (by repeat (first | (with_reducible first | exact HB.out | apply below_alloc | apply pw_below_drewN | apply below_drew1) | exact HB.out)) hb); have n1_ := Aside0.mk (hbox); have n2_ := Aside0.mk ((by rw [hg]; exact (below_size (by repeat (first | (with_reducible first | exact HB.out | apply below_alloc | apply pw_below_drewN | apply below_drew1) | exact HB.out))) : w.heap.size ≤ gb233)); have n3_ := Aside0.mk ((by rw [hg]; exact (below_size (by repeat (first | (with_reducible first | exact HB.out | apply below_alloc | apply pw_below_drewN | apply below_drew1) | exact HB.out))) : w.heap.size ≤ gb233)); clear HB; have HB := n0_; have BK233 := n1_; have GW233 := n2_; have GE233 := n3_; clear n0_ n1_ n2_ n3_; clear hb hbox hg) | ((with_reducible refine gate_dst (N := 3) rfl ?_); refine box_event ?hg (N := 3) ?hd (cs := #[.int .u64 a1_0, .int .u64 a1_1]) (t := 66) ?hr ?_; (case hd => rfl); (case hg => rfl); (case hr => first | (go_simp; done) | (go_simp; rfl)); intro gb234 hg w6 hbox hb; have n0_ := Aside0.mk (blk_below (g := gb233) (o := .cells #[.int .u64 a0_0, .int .u64 a0_1] 66 (0, 0)) (by (with_reducible repeat (first | refine blk_drewN ?_ _ | refine blk_drew ?_ | refine blk_alloc ?_ _)); exact BK233.out) hb); have n1_ := Aside0.mk (below_step (by repeat (first | (with_reducible first | exact HB.out | apply below_alloc | apply pw_below_drewN | apply below_drew1 | refine below_set ?_ GE233.out) | exact HB.out)) hb); have n2_ := Aside0.mk (hbox); have n3_ := Aside0.mk ((by rw [hg]; exact (below_size (by repeat (first | (with_reducible first | exact HB.out | apply below_alloc | apply pw_below_drewN | apply below_drew1 | refine below_set ?_ GE233.out) | exact HB.out))) : w.heap.size ≤ gb234)); have n4_ := Aside0.mk ((by rw [hg]; exact (below_size (by repeat (first | (with_reducible first | exact HB.out | apply below_alloc | apply pw_below_drewN | apply below_drew1 | refine below_set ?_ GE233.out) | exact HB.out))) : w.heap.size ≤ gb234)); have n5_ := Aside0.mk ((by rw [hg]; exact Nat.ne_of_lt (blk_lt (g := gb233) (o := .cells #[.int .u64 a0_0, .int .u64 a0_1] 66 (0, 0)) (by (with_reducible repeat (first | refine blk_drewN ?_ _ | refine blk_drew ?_ | refine blk_alloc ?_ _)); exact BK233.out)) : gb233 ≠ gb234)); have n6_ := Aside0.mk ((by rw [hg]; exact Nat.ne_of_gt (blk_lt (g := gb233) (o := .cells #[.int .u64 a0_0, .int .u64 a0_1] 66 (0, 0)) (by (with_reducible repeat (first | refine blk_drewN ?_ _ | refine blk_drew ?_ | refine blk_alloc ?_ _)); exact BK233.out)) : gb234 ≠ gb233)); clear BK233; clear HB; have BK233 := n0_; have HB := n1_; have BK234 := n2_; have GW234 := n3_; have GE234 := n4_; have NB233_234 := n5_; have NB234_233 := n6_; clear n0_ n1_ n2_ n3_ n4_ n5_ n6_; clear hb hbox hg) | ((with_reducible refine gate_dst (N := 4) rfl ?_); refine box_event ?hg (N := 4) ?hd (cs := #[.int .u64 0, .int .u64 0]) (t := 66) ?hr ?_; (case hd => rfl); (case hg => rfl); (case hr => first | (go_simp; done) | (go_simp; rfl)); intro gb235 hg w7 hbox hb; have n0_ := Aside0.mk (blk_below (g := gb233) (o := .cells #[.int .u64 a0_0, .int .u64 a0_1] 66 (0, 0)) (by (with_reducible repeat (first | refine blk_drewN ?_ _ | refine blk_drew ?_ | refine blk_alloc ?_ _)); exact BK233.out) hb); have n1_ := Aside0.mk (blk_below (g := gb234) (o := .cells #[.int .u64 a1_0, .int .u64 a1_1] 66 (0, 0)) (by (with_reducible repeat (first | refine blk_drewN ?_ _ | refine blk_drew ?_ | refine blk_alloc ?_ _)); exact BK234.out) hb); have n2_ := Aside0.mk (below_step (by repeat (first | (with_reducible first | exact HB.out | apply below_alloc | apply pw_below_drewN | apply below_drew1 | refine below_set ?_ GE233.out | refine below_set ?_ GE234.out) | exact HB.out)) hb); have n3_ := Aside0.mk (hbox); have n4_ := Aside0.mk ((by rw [hg]; exact (below_size (by repeat (first | (with_reducible first | exact HB.out | apply below_alloc | apply pw_below_drewN | apply below_drew1 | refine below_set ?_ GE233.out | refine below_set ?_ GE234.out) | exact HB.out))) : w.heap.size ≤ gb235)); have n5_ := Aside0.mk ((by rw [hg]; exact (below_size (by repeat (first | (with_reducible first | exact HB.out | apply below_alloc | apply pw_below_drewN | apply below_drew1 | refine below_set ?_ GE233.out | refine below_set ?_ GE234.out) | exact HB.out))) : w.heap.size ≤ gb235)); have n6_ := Aside0.mk ((by rw [hg]; exact Nat.ne_of_lt (blk_lt (g := gb233) (o := .cells #[.int .u64 a0_0, .int .u64 a0_1] 66 (0, 0)) (by (with_reducible repeat (first | refine blk_drewN ?_ _ | refine blk_drew ?_ | refine blk_alloc ?_ _)); exact BK233.out)) : gb233 ≠ gb235)); have n7_ := Aside0.mk ((by rw [hg]; exact Nat.ne_of_gt (blk_lt (g := gb233) (o := .cells #[.int .u64 a0_0, .int .u64 a0_1] 66 (0, 0)) (by (with_reducible repeat (first | refine blk_drewN ?_ _ | refine blk_drew ?_ | refine blk_alloc ?_ _)); exact BK233.out)) : gb235 ≠ gb233)); have n8_ := Aside0.mk ((by rw [hg]; exact Nat.ne_of_lt (blk_lt (g := gb234) (o := .cells #[.int .u64 a1_0, .int .u64 a1_1] 66 (0, 0)) (by (with_reducible repeat (first | refine blk_drewN ?_ _ | refine blk_drew ?_ | refine blk_alloc ?_ _)); exact BK234.out)) : gb234 ≠ gb235)); have n9_ := Aside0.mk ((by rw [hg]; exact Nat.ne_of_gt (blk_lt (g := gb234) (o := .cells #[.int .u64 a1_0, .int .u64 a1_1] 66 (0, 0)) (by (with_reducible repeat (first | refine blk_drewN ?_ _ | refine blk_drew ?_ | refine blk_alloc ?_ _)); exact BK234.out)) : gb235 ≠ gb234)); clear BK233; clear BK234; clear HB; have BK233 := n0_; have BK234 := n1_; have HB := n2_; have BK235 := n3_; have GW235 := n4_; have GE235 := n5_; have NB233_235 := n6_; have NB235_233 := n7_; have NB234_235 := n8_; have NB235_234 := n9_; clear n0_ n1_ n2_ n3_ n4_ n5_ n6_ n7_ n8_ n9_; clear hb hbox hg; have hnb8 := NB233_234.out; have hnc8 := NB234_233.out; have hnb9 := NB233_235.out; have hnc9 := NB235_233.out; have hcz10_0 : w7.cell? ⟨gb233, 0, none⟩ = some (.int .u64 a0_0) := (blk_cell BK233.out 0).trans rfl; have hcz10_1 : w7.cell? ⟨gb233, 1, none⟩ = some (.int .u64 a0_1) := (blk_cell BK233.out 1).trans rfl; have hfz10_0 := blk_frozen BK233.out 0; have hfz10_1 := blk_frozen BK233.out 1; have hnb11 := NB234_235.out; have hnc11 := NB235_234.out; have hcz12_0 : w7.cell? ⟨gb234, 0, none⟩ = some (.int .u64 a1_0) := (blk_cell BK234.out 0).trans rfl; have hcz12_1 : w7.cell? ⟨gb234, 1, none⟩ = some (.int .u64 a1_1) := (blk_cell BK234.out 1).trans rfl; have hfz12_0 := blk_frozen BK234.out 0; have hfz12_1 := blk_frozen BK234.out 1; have hcz13_0 : w7.cell? ⟨gb235, 0, none⟩ = some (.int .u64 0) := (blk_cell BK235.out 0).trans rfl; have hcz13_1 : w7.cell? ⟨gb235, 1, none⟩ = some (.int .u64 0) := (blk_cell BK235.out 1).trans rfl; have hfz13_0 := blk_frozen BK235.out 0; have hfz13_1 := blk_frozen BK235.out 1)); try go_wp2_with (first | ((with_reducible refine gate_dst (N := 2) rfl ?_); refine box_event ?hg (N := 2) ?hd (cs := #[.int .u64 a0_0, .int .u64 a0_1]) (t := 66) ?hr ?_; (case hd => rfl); (case hg => rfl); (case hr => first | (go_simp; done) | (go_simp; rfl)); intro gb233 hg w5 hbox hb; have n0_ := Aside0.mk (below_step (by repeat (first | (with_reducible first | exact HB.out | apply below_alloc | apply pw_below_drewN | apply below_drew1) | exact HB.out)) hb); have n1_ := Aside0.mk (hbox); have n2_ := Aside0.mk ((by rw [hg]; exact (below_size (by repeat (first | (with_reducible first | exact HB.out | apply below_alloc | apply pw_below_drewN | apply below_drew1) | exact HB.out))) : w.heap.size ≤ gb233)); have n3_ := Aside0.mk ((by rw [hg]; exact (below_size (by repeat (first | (with_reducible first | exact HB.out | apply below_alloc | apply pw_below_drewN | apply below_drew1) | exact HB.out))) : w.heap.size ≤ gb233)); clear HB; have HB := n0_; have BK233 := n1_; have GW233 := n2_; have GE233 := n3_; clear n0_ n1_ n2_ n3_; clear hb hbox hg) | ((with_reducible refine gate_dst (N := 3) rfl ?_); refine box_event ?hg (N := 3) ?hd (cs := #[.int .u64 a1_0, .int .u64 a1_1]) (t := 66) ?hr ?_; (case hd => rfl); (case hg => rfl); (case hr => first | (go_simp; done) | (go_simp; rfl)); intro gb234 hg w6 hbox hb; have n0_ := Aside0.mk (blk_below (g := gb233) (o := .cells #[.int .u64 a0_0, .int .u64 a0_1] 66 (0, 0)) (by (with_reducible repeat (first | refine blk_drewN ?_ _ | refine blk_drew ?_ | refine blk_alloc ?_ _)); exact BK233.out) hb); have n1_ := Aside0.mk (below_step (by repeat (first | (with_reducible first | exact HB.out | apply below_alloc | apply pw_below_drewN | apply below_drew1 | refine below_set ?_ GE233.out) | exact HB.out)) hb); have n2_ := Aside0.mk (hbox); have n3_ := Aside0.mk ((by rw [hg]; exact (below_size (by repeat (first | (with_reducible first | exact HB.out | apply below_alloc | apply pw_below_drewN | apply below_drew1 | refine below_set ?_ GE233.out) | exact HB.out))) : w.heap.size ≤ gb234)); have n4_ := Aside0.mk ((by rw [hg]; exact (below_size (by repeat (first | (with_reducible first | exact HB.out | apply below_alloc | apply pw_below_drewN | apply below_drew1 | refine below_set ?_ GE233.out) | exact HB.out))) : w.heap.size ≤ gb234)); have n5_ := Aside0.mk ((by rw [hg]; exact Nat.ne_of_lt (blk_lt (g := gb233) (o := .cells #[.int .u64 a0_0, .int .u64 a0_1] 66 (0, 0)) (by (with_reducible repeat (first | refine blk_drewN ?_ _ | refine blk_drew ?_ | refine blk_alloc ?_ _)); exact BK233.out)) : gb233 ≠ gb234)); have n6_ := Aside0.mk ((by rw [hg]; exact Nat.ne_of_gt (blk_lt (g := gb233) (o := .cells #[.int .u64 a0_0, .int .u64 a0_1] 66 (0, 0)) (by (with_reducible repeat (first | refine blk_drewN ?_ _ | refine blk_drew ?_ | refine blk_alloc ?_ _)); exact BK233.out)) : gb234 ≠ gb233)); clear BK233; clear HB; have BK233 := n0_; have HB := n1_; have BK234 := n2_; have GW234 := n3_; have GE234 := n4_; have NB233_234 := n5_; have NB234_233 := n6_; clear n0_ n1_ n2_ n3_ n4_ n5_ n6_; clear hb hbox hg) | ((with_reducible refine gate_dst (N := 4) rfl ?_); refine box_event ?hg (N := 4) ?hd (cs := #[.int .u64 0, .int .u64 0]) (t := 66) ?hr ?_; (case hd => rfl); (case hg => rfl); (case hr => first | (go_simp; done) | (go_simp; rfl)); intro gb235 hg w7 hbox hb; have n0_ := Aside0.mk (blk_below (g := gb233) (o := .cells #[.int .u64 a0_0, .int .u64 a0_1] 66 (0, 0)) (by (with_reducible repeat (first | refine blk_drewN ?_ _ | refine blk_drew ?_ | refine blk_alloc ?_ _)); exact BK233.out) hb); have n1_ := Aside0.mk (blk_below (g := gb234) (o := .cells #[.int .u64 a1_0, .int .u64 a1_1] 66 (0, 0)) (by (with_reducible repeat (first | refine blk_drewN ?_ _ | refine blk_drew ?_ | refine blk_alloc ?_ _)); exact BK234.out) hb); have n2_ := Aside0.mk (below_step (by repeat (first | (with_reducible first | exact HB.out | apply below_alloc | apply pw_below_drewN | apply below_drew1 | refine below_set ?_ GE233.out | refine below_set ?_ GE234.out) | exact HB.out)) hb); have n3_ := Aside0.mk (hbox); have n4_ := Aside0.mk ((by rw [hg]; exact (below_size (by repeat (first | (with_reducible first | exact HB.out | apply below_alloc | apply pw_below_drewN | apply below_drew1 | refine below_set ?_ GE233.out | refine below_set ?_ GE234.out) | exact HB.out))) : w.heap.size ≤ gb235)); have n5_ := Aside0.mk ((by rw [hg]; exact (below_size (by repeat (first | (with_reducible first | exact HB.out | apply below_alloc | apply pw_below_drewN | apply below_drew1 | refine below_set ?_ GE233.out | refine below_set ?_ GE234.out) | exact HB.out))) : w.heap.size ≤ gb235)); have n6_ := Aside0.mk ((by rw [hg]; exact Nat.ne_of_lt (blk_lt (g := gb233) (o := .cells #[.int .u64 a0_0, .int .u64 a0_1] 66 (0, 0)) (by (with_reducible repeat (first | refine blk_drewN ?_ _ | refine blk_drew ?_ | refine blk_alloc ?_ _)); exact BK233.out)) : gb233 ≠ gb235)); have n7_ := Aside0.mk ((by rw [hg]; exact Nat.ne_of_gt (blk_lt (g := gb233) (o := .cells #[.int .u64 a0_0, .int .u64 a0_1] 66 (0, 0)) (by (with_reducible repeat (first | refine blk_drewN ?_ _ | refine blk_drew ?_ | refine blk_alloc ?_ _)); exact BK233.out)) : gb235 ≠ gb233)); have n8_ := Aside0.mk ((by rw [hg]; exact Nat.ne_of_lt (blk_lt (g := gb234) (o := .cells #[.int .u64 a1_0, .int .u64 a1_1] 66 (0, 0)) (by (with_reducible repeat (first | refine blk_drewN ?_ _ | refine blk_drew ?_ | refine blk_alloc ?_ _)); exact BK234.out)) : gb234 ≠ gb235)); have n9_ := Aside0.mk ((by rw [hg]; exact Nat.ne_of_gt (blk_lt (g := gb234) (o := .cells #[.int .u64 a1_0, .int .u64 a1_1] 66 (0, 0)) (by (with_reducible repeat (first | refine blk_drewN ?_ _ | refine blk_drew ?_ | refine blk_alloc ?_ _)); exact BK234.out)) : gb235 ≠ gb234)); clear BK233; clear BK234; clear HB; have BK233 := n0_; have BK234 := n1_; have HB := n2_; have BK235 := n3_; have GW235 := n4_; have GE235 := n5_; have NB233_235 := n6_; have NB235_233 := n7_; have NB234_235 := n8_; have NB235_234 := n9_; clear n0_ n1_ n2_ n3_ n4_ n5_ n6_ n7_ n8_ n9_; clear hb hbox hg; have hnb8 := NB233_234.out; have hnc8 := NB234_233.out; have hnb9 := NB233_235.out; have hnc9 := NB235_233.out; have hcz10_0 : w7.cell? ⟨gb233, 0, none⟩ = some (.int .u64 a0_0) := (blk_cell BK233.out 0).trans rfl; have hcz10_1 : w7.cell? ⟨gb233, 1, none⟩ = some (.int .u64 a0_1) := (blk_cell BK233.out 1).trans rfl; have hfz10_0 := blk_frozen BK233.out 0; have hfz10_1 := blk_frozen BK233.out 1; have hnb11 := NB234_235.out; have hnc11 := NB235_234.out; have hcz12_0 : w7.cell? ⟨gb234, 0, none⟩ = some (.int .u64 a1_0) := (blk_cell BK234.out 0).trans rfl; have hcz12_1 : w7.cell? ⟨gb234, 1, none⟩ = some (.int .u64 a1_1) := (blk_cell BK234.out 1).trans rfl; have hfz12_0 := blk_frozen BK234.out 0; have hfz12_1 := blk_frozen BK234.out 1; have hcz13_0 : w7.cell? ⟨gb235, 0, none⟩ = some (.int .u64 0) := (blk_cell BK235.out 0).trans rfl; have hcz13_1 : w7.cell? ⟨gb235, 1, none⟩ = some (.int .u64 0) := (blk_cell BK235.out 1).trans rfl; have hfz13_0 := blk_frozen BK235.out 0; have hfz13_1 := blk_frozen BK235.out 1)))
      refine bodyPost_ret (results_ct rfl _ _ gb235 66 #[.int .u64 (IntKind.u64.wrap ((IntKind.u64.wrap (a0_0 + a1_0)) + 1)), .int .u64 (IntKind.u64.wrap (a0_1 + a1_1))] (0, 0) _ rfl (by (with_reducible repeat (first | refine blk_drewN ?_ _ | refine blk_drew ?_ | refine blk_alloc ?_ _)); refine blk_put (cs := #[.int .u64 (IntKind.u64.wrap ((IntKind.u64.wrap (a0_0 + a1_0)) + 1)), .int .u64 0]) ?_ 1 _ rfl; (with_reducible repeat (first | refine blk_drewN ?_ _ | refine blk_drew ?_ | refine blk_alloc ?_ _)); refine blk_put (cs := #[.int .u64 0, .int .u64 0]) ?_ 0 _ rfl; (with_reducible repeat (first | refine blk_drewN ?_ _ | refine blk_drew ?_ | refine blk_alloc ?_ _)); exact BK235.out) Try.underlying66 rfl (by kernel_rfl)) rfl ?_
      exact ⟨by first | rfl | (simp [errW_none, errW_some] <;> rfl) | (simp [*, errW_none, errW_some] <;> rfl) | (simp (disch := first | assumption | omega) only [Int.tdiv_eq_ediv_of_nonneg, Int.tmod_eq_emod_of_nonneg]; rfl), by repeat (first | (with_reducible first | exact HB.out | apply below_alloc | apply pw_below_drewN | apply below_drew1 | refine below_set ?_ GE233.out | refine below_set ?_ GE234.out | refine below_set ?_ GE235.out) | exact HB.out)⟩
    · rw [if_neg c4] at H
      have c4b0 : decide ((IntKind.u64.wrap (a0_0 + a1_0)) < a0_0) = false := decide_eq_false c4
      clear c4
      simp only [Option.some.injEq, Prod.mk.injEq] at H
      obtain ⟨rfl, rfl, rfl⟩ := H
      go_enter Try.func39, Try.ntmps39
      go_wp2_with (first | ((with_reducible refine gate_dst (N := 2) rfl ?_); refine box_event ?hg (N := 2) ?hd (cs := #[.int .u64 a0_0, .int .u64 a0_1]) (t := 66) ?hr ?_; (case hd => rfl); (case hg => rfl); (case hr => first | (go_simp; done) | (go_simp; rfl)); intro gb233 hg w14 hbox hb; have n0_ := Aside0.mk (below_step (by repeat (first | (with_reducible first | exact HB.out | apply below_alloc | apply pw_below_drewN | apply below_drew1) | exact HB.out)) hb); have n1_ := Aside0.mk (hbox); have n2_ := Aside0.mk ((by rw [hg]; exact (below_size (by repeat (first | (with_reducible first | exact HB.out | apply below_alloc | apply pw_below_drewN | apply below_drew1) | exact HB.out))) : w.heap.size ≤ gb233)); have n3_ := Aside0.mk ((by rw [hg]; exact (below_size (by repeat (first | (with_reducible first | exact HB.out | apply below_alloc | apply pw_below_drewN | apply below_drew1) | exact HB.out))) : w.heap.size ≤ gb233)); clear HB; have HB := n0_; have BK233 := n1_; have GW233 := n2_; have GE233 := n3_; clear n0_ n1_ n2_ n3_; clear hb hbox hg) | ((with_reducible refine gate_dst (N := 3) rfl ?_); refine box_event ?hg (N := 3) ?hd (cs := #[.int .u64 a1_0, .int .u64 a1_1]) (t := 66) ?hr ?_; (case hd => rfl); (case hg => rfl); (case hr => first | (go_simp; done) | (go_simp; rfl)); intro gb234 hg w15 hbox hb; have n0_ := Aside0.mk (blk_below (g := gb233) (o := .cells #[.int .u64 a0_0, .int .u64 a0_1] 66 (0, 0)) (by (with_reducible repeat (first | refine blk_drewN ?_ _ | refine blk_drew ?_ | refine blk_alloc ?_ _)); exact BK233.out) hb); have n1_ := Aside0.mk (below_step (by repeat (first | (with_reducible first | exact HB.out | apply below_alloc | apply pw_below_drewN | apply below_drew1 | refine below_set ?_ GE233.out) | exact HB.out)) hb); have n2_ := Aside0.mk (hbox); have n3_ := Aside0.mk ((by rw [hg]; exact (below_size (by repeat (first | (with_reducible first | exact HB.out | apply below_alloc | apply pw_below_drewN | apply below_drew1 | refine below_set ?_ GE233.out) | exact HB.out))) : w.heap.size ≤ gb234)); have n4_ := Aside0.mk ((by rw [hg]; exact (below_size (by repeat (first | (with_reducible first | exact HB.out | apply below_alloc | apply pw_below_drewN | apply below_drew1 | refine below_set ?_ GE233.out) | exact HB.out))) : w.heap.size ≤ gb234)); have n5_ := Aside0.mk ((by rw [hg]; exact Nat.ne_of_lt (blk_lt (g := gb233) (o := .cells #[.int .u64 a0_0, .int .u64 a0_1] 66 (0, 0)) (by (with_reducible repeat (first | refine blk_drewN ?_ _ | refine blk_drew ?_ | refine blk_alloc ?_ _)); exact BK233.out)) : gb233 ≠ gb234)); have n6_ := Aside0.mk ((by rw [hg]; exact Nat.ne_of_gt (blk_lt (g := gb233) (o := .cells #[.int .u64 a0_0, .int .u64 a0_1] 66 (0, 0)) (by (with_reducible repeat (first | refine blk_drewN ?_ _ | refine blk_drew ?_ | refine blk_alloc ?_ _)); exact BK233.out)) : gb234 ≠ gb233)); clear BK233; clear HB; have BK233 := n0_; have HB := n1_; have BK234 := n2_; have GW234 := n3_; have GE234 := n4_; have NB233_234 := n5_; have NB234_233 := n6_; clear n0_ n1_ n2_ n3_ n4_ n5_ n6_; clear hb hbox hg) | ((with_reducible refine gate_dst (N := 4) rfl ?_); refine box_event ?hg (N := 4) ?hd (cs := #[.int .u64 0, .int .u64 0]) (t := 66) ?hr ?_; (case hd => rfl); (case hg => rfl); (case hr => first | (go_simp; done) | (go_simp; rfl)); intro gb235 hg w16 hbox hb; have n0_ := Aside0.mk (blk_below (g := gb233) (o := .cells #[.int .u64 a0_0, .int .u64 a0_1] 66 (0, 0)) (by (with_reducible repeat (first | refine blk_drewN ?_ _ | refine blk_drew ?_ | refine blk_alloc ?_ _)); exact BK233.out) hb); have n1_ := Aside0.mk (blk_below (g := gb234) (o := .cells #[.int .u64 a1_0, .int .u64 a1_1] 66 (0, 0)) (by (with_reducible repeat (first | refine blk_drewN ?_ _ | refine blk_drew ?_ | refine blk_alloc ?_ _)); exact BK234.out) hb); have n2_ := Aside0.mk (below_step (by repeat (first | (with_reducible first | exact HB.out | apply below_alloc | apply pw_below_drewN | apply below_drew1 | refine below_set ?_ GE233.out | refine below_set ?_ GE234.out) | exact HB.out)) hb); have n3_ := Aside0.mk (hbox); have n4_ := Aside0.mk ((by rw [hg]; exact (below_size (by repeat (first | (with_reducible first | exact HB.out | apply below_alloc | apply pw_below_drewN | apply below_drew1 | refine below_set ?_ GE233.out | refine below_set ?_ GE234.out) | exact HB.out))) : w.heap.size ≤ gb235)); have n5_ := Aside0.mk ((by rw [hg]; exact (below_size (by repeat (first | (with_reducible first | exact HB.out | apply below_alloc | apply pw_below_drewN | apply below_drew1 | refine below_set ?_ GE233.out | refine below_set ?_ GE234.out) | exact HB.out))) : w.heap.size ≤ gb235)); have n6_ := Aside0.mk ((by rw [hg]; exact Nat.ne_of_lt (blk_lt (g := gb233) (o := .cells #[.int .u64 a0_0, .int .u64 a0_1] 66 (0, 0)) (by (with_reducible repeat (first | refine blk_drewN ?_ _ | refine blk_drew ?_ | refine blk_alloc ?_ _)); exact BK233.out)) : gb233 ≠ gb235)); have n7_ := Aside0.mk ((by rw [hg]; exact Nat.ne_of_gt (blk_lt (g := gb233) (o := .cells #[.int .u64 a0_0, .int .u64 a0_1] 66 (0, 0)) (by (with_reducible repeat (first | refine blk_drewN ?_ _ | refine blk_drew ?_ | refine blk_alloc ?_ _)); exact BK233.out)) : gb235 ≠ gb233)); have n8_ := Aside0.mk ((by rw [hg]; exact Nat.ne_of_lt (blk_lt (g := gb234) (o := .cells #[.int .u64 a1_0, .int .u64 a1_1] 66 (0, 0)) (by (with_reducible repeat (first | refine blk_drewN ?_ _ | refine blk_drew ?_ | refine blk_alloc ?_ _)); exact BK234.out)) : gb234 ≠ gb235)); have n9_ := Aside0.mk ((by rw [hg]; exact Nat.ne_of_gt (blk_lt (g := gb234) (o := .cells #[.int .u64 a1_0, .int .u64 a1_1] 66 (0, 0)) (by (with_reducible repeat (first | refine blk_drewN ?_ _ | refine blk_drew ?_ | refine blk_alloc ?_ _)); exact BK234.out)) : gb235 ≠ gb234)); clear BK233; clear BK234; clear HB; have BK233 := n0_; have BK234 := n1_; have HB := n2_; have BK235 := n3_; have GW235 := n4_; have GE235 := n5_; have NB233_235 := n6_; have NB235_233 := n7_; have NB234_235 := n8_; have NB235_234 := n9_; clear n0_ n1_ n2_ n3_ n4_ n5_ n6_ n7_ n8_ n9_; clear hb hbox hg; have hnb17 := NB233_234.out; have hnc17 := NB234_233.out; have hnb18 := NB233_235.out; have hnc18 := NB235_233.out; have hcz19_0 : w16.cell? ⟨gb233, 0, none⟩ = some (.int .u64 a0_0) := (blk_cell BK233.out 0).trans rfl; have hcz19_1 : w16.cell? ⟨gb233, 1, none⟩ = some (.int .u64 a0_1) := (blk_cell BK233.out 1).trans rfl; have hfz19_0 := blk_frozen BK233.out 0; have hfz19_1 := blk_frozen BK233.out 1; have hnb20 := NB234_235.out; have hnc20 := NB235_234.out; have hcz21_0 : w16.cell? ⟨gb234, 0, none⟩ = some (.int .u64 a1_0) := (blk_cell BK234.out 0).trans rfl; have hcz21_1 : w16.cell? ⟨gb234, 1, none⟩ = some (.int .u64 a1_1) := (blk_cell BK234.out 1).trans rfl; have hfz21_0 := blk_frozen BK234.out 0; have hfz21_1 := blk_frozen BK234.out 1; have hcz22_0 : w16.cell? ⟨gb235, 0, none⟩ = some (.int .u64 0) := (blk_cell BK235.out 0).trans rfl; have hcz22_1 : w16.cell? ⟨gb235, 1, none⟩ = some (.int .u64 0) := (blk_cell BK235.out 1).trans rfl; have hfz22_0 := blk_frozen BK235.out 0; have hfz22_1 := blk_frozen BK235.out 1))
      repeat (go_quiet (first | ((with_reducible refine gate_dst (N := 2) rfl ?_); refine box_event ?hg (N := 2) ?hd (cs := #[.int .u64 a0_0, .int .u64 a0_1]) (t := 66) ?hr ?_; (case hd => rfl); (case hg => rfl); (case hr => first | (go_simp; done) | (go_simp; rfl)); intro gb233 hg w14 hbox hb; have n0_ := Aside0.mk (below_step (by repeat (first | (with_reducible first | exact HB.out | apply below_alloc | apply pw_below_drewN | apply below_drew1) | exact HB.out)) hb); have n1_ := Aside0.mk (hbox); have n2_ := Aside0.mk ((by rw [hg]; exact (below_size (by repeat (first | (with_reducible first | exact HB.out | apply below_alloc | apply pw_below_drewN | apply below_drew1) | exact HB.out))) : w.heap.size ≤ gb233)); have n3_ := Aside0.mk ((by rw [hg]; exact (below_size (by repeat (first | (with_reducible first | exact HB.out | apply below_alloc | apply pw_below_drewN | apply below_drew1) | exact HB.out))) : w.heap.size ≤ gb233)); clear HB; have HB := n0_; have BK233 := n1_; have GW233 := n2_; have GE233 := n3_; clear n0_ n1_ n2_ n3_; clear hb hbox hg) | ((with_reducible refine gate_dst (N := 3) rfl ?_); refine box_event ?hg (N := 3) ?hd (cs := #[.int .u64 a1_0, .int .u64 a1_1]) (t := 66) ?hr ?_; (case hd => rfl); (case hg => rfl); (case hr => first | (go_simp; done) | (go_simp; rfl)); intro gb234 hg w15 hbox hb; have n0_ := Aside0.mk (blk_below (g := gb233) (o := .cells #[.int .u64 a0_0, .int .u64 a0_1] 66 (0, 0)) (by (with_reducible repeat (first | refine blk_drewN ?_ _ | refine blk_drew ?_ | refine blk_alloc ?_ _)); exact BK233.out) hb); have n1_ := Aside0.mk (below_step (by repeat (first | (with_reducible first | exact HB.out | apply below_alloc | apply pw_below_drewN | apply below_drew1 | refine below_set ?_ GE233.out) | exact HB.out)) hb); have n2_ := Aside0.mk (hbox); have n3_ := Aside0.mk ((by rw [hg]; exact (below_size (by repeat (first | (with_reducible first | exact HB.out | apply below_alloc | apply pw_below_drewN | apply below_drew1 | refine below_set ?_ GE233.out) | exact HB.out))) : w.heap.size ≤ gb234)); have n4_ := Aside0.mk ((by rw [hg]; exact (below_size (by repeat (first | (with_reducible first | exact HB.out | apply below_alloc | apply pw_below_drewN | apply below_drew1 | refine below_set ?_ GE233.out) | exact HB.out))) : w.heap.size ≤ gb234)); have n5_ := Aside0.mk ((by rw [hg]; exact Nat.ne_of_lt (blk_lt (g := gb233) (o := .cells #[.int .u64 a0_0, .int .u64 a0_1] 66 (0, 0)) (by (with_reducible repeat (first | refine blk_drewN ?_ _ | refine blk_drew ?_ | refine blk_alloc ?_ _)); exact BK233.out)) : gb233 ≠ gb234)); have n6_ := Aside0.mk ((by rw [hg]; exact Nat.ne_of_gt (blk_lt (g := gb233) (o := .cells #[.int .u64 a0_0, .int .u64 a0_1] 66 (0, 0)) (by (with_reducible repeat (first | refine blk_drewN ?_ _ | refine blk_drew ?_ | refine blk_alloc ?_ _)); exact BK233.out)) : gb234 ≠ gb233)); clear BK233; clear HB; have BK233 := n0_; have HB := n1_; have BK234 := n2_; have GW234 := n3_; have GE234 := n4_; have NB233_234 := n5_; have NB234_233 := n6_; clear n0_ n1_ n2_ n3_ n4_ n5_ n6_; clear hb hbox hg) | ((with_reducible refine gate_dst (N := 4) rfl ?_); refine box_event ?hg (N := 4) ?hd (cs := #[.int .u64 0, .int .u64 0]) (t := 66) ?hr ?_; (case hd => rfl); (case hg => rfl); (case hr => first | (go_simp; done) | (go_simp; rfl)); intro gb235 hg w16 hbox hb; have n0_ := Aside0.mk (blk_below (g := gb233) (o := .cells #[.int .u64 a0_0, .int .u64 a0_1] 66 (0, 0)) (by (with_reducible repeat (first | refine blk_drewN ?_ _ | refine blk_drew ?_ | refine blk_alloc ?_ _)); exact BK233.out) hb); have n1_ := Aside0.mk (blk_below (g := gb234) (o := .cells #[.int .u64 a1_0, .int .u64 a1_1] 66 (0, 0)) (by (with_reducible repeat (first | refine blk_drewN ?_ _ | refine blk_drew ?_ | refine blk_alloc ?_ _)); exact BK234.out) hb); have n2_ := Aside0.mk (below_step (by repeat (first | (with_reducible first | exact HB.out | apply below_alloc | apply pw_below_drewN | apply below_drew1 | refine below_set ?_ GE233.out | refine below_set ?_ GE234.out) | exact HB.out)) hb); have n3_ := Aside0.mk (hbox); have n4_ := Aside0.mk ((by rw [hg]; exact (below_size (by repeat (first | (with_reducible first | exact HB.out | apply below_alloc | apply pw_below_drewN | apply below_drew1 | refine below_set ?_ GE233.out | refine below_set ?_ GE234.out) | exact HB.out))) : w.heap.size ≤ gb235)); have n5_ := Aside0.mk ((by rw [hg]; exact (below_size (by repeat (first | (with_reducible first | exact HB.out | apply below_alloc | apply pw_below_drewN | apply below_drew1 | refine below_set ?_ GE233.out | refine below_set ?_ GE234.out) | exact HB.out))) : w.heap.size ≤ gb235)); have n6_ := Aside0.mk ((by rw [hg]; exact Nat.ne_of_lt (blk_lt (g := gb233) (o := .cells #[.int .u64 a0_0, .int .u64 a0_1] 66 (0, 0)) (by (with_reducible repeat (first | refine blk_drewN ?_ _ | refine blk_drew ?_ | refine blk_alloc ?_ _)); exact BK233.out)) : gb233 ≠ gb235)); have n7_ := Aside0.mk ((by rw [hg]; exact Nat.ne_of_gt (blk_lt (g := gb233) (o := .cells #[.int .u64 a0_0, .int .u64 a0_1] 66 (0, 0)) (by (with_reducible repeat (first | refine blk_drewN ?_ _ | refine blk_drew ?_ | refine blk_alloc ?_ _)); exact BK233.out)) : gb235 ≠ gb233)); have n8_ := Aside0.mk ((by rw [hg]; exact Nat.ne_of_lt (blk_lt (g := gb234) (o := .cells #[.int .u64 a1_0, .int .u64 a1_1] 66 (0, 0)) (by (with_reducible repeat (first | refine blk_drewN ?_ _ | refine blk_drew ?_ | refine blk_alloc ?_ _)); exact BK234.out)) : gb234 ≠ gb235)); have n9_ := Aside0.mk ((by rw [hg]; exact Nat.ne_of_gt (blk_lt (g := gb234) (o := .cells #[.int .u64 a1_0, .int .u64 a1_1] 66 (0, 0)) (by (with_reducible repeat (first | refine blk_drewN ?_ _ | refine blk_drew ?_ | refine blk_alloc ?_ _)); exact BK234.out)) : gb235 ≠ gb234)); clear BK233; clear BK234; clear HB; have BK233 := n0_; have BK234 := n1_; have HB := n2_; have BK235 := n3_; have GW235 := n4_; have GE235 := n5_; have NB233_235 := n6_; have NB235_233 := n7_; have NB234_235 := n8_; have NB235_234 := n9_; clear n0_ n1_ n2_ n3_ n4_ n5_ n6_ n7_ n8_ n9_; clear hb hbox hg; have hnb17 := NB233_234.out; have hnc17 := NB234_233.out; have hnb18 := NB233_235.out; have hnc18 := NB235_233.out; have hcz19_0 : w16.cell? ⟨gb233, 0, none⟩ = some (.int .u64 a0_0) := (blk_cell BK233.out 0).trans rfl; have hcz19_1 : w16.cell? ⟨gb233, 1, none⟩ = some (.int .u64 a0_1) := (blk_cell BK233.out 1).trans rfl; have hfz19_0 := blk_frozen BK233.out 0; have hfz19_1 := blk_frozen BK233.out 1; have hnb20 := NB234_235.out; have hnc20 := NB235_234.out; have hcz21_0 : w16.cell? ⟨gb234, 0, none⟩ = some (.int .u64 a1_0) := (blk_cell BK234.out 0).trans rfl; have hcz21_1 : w16.cell? ⟨gb234, 1, none⟩ = some (.int .u64 a1_1) := (blk_cell BK234.out 1).trans rfl; have hfz21_0 := blk_frozen BK234.out 0; have hfz21_1 := blk_frozen BK234.out 1; have hcz22_0 : w16.cell? ⟨gb235, 0, none⟩ = some (.int .u64 0) := (blk_cell BK235.out 0).trans rfl; have hcz22_1 : w16.cell? ⟨gb235, 1, none⟩ = some (.int .u64 0) := (blk_cell BK235.out 1).trans rfl; have hfz22_0 := blk_frozen BK235.out 0; have hfz22_1 := blk_frozen BK235.out 1)); try go_wp2_with (first | ((with_reducible refine gate_dst (N := 2) rfl ?_); refine box_event ?hg (N := 2) ?hd (cs := #[.int .u64 a0_0, .int .u64 a0_1]) (t := 66) ?hr ?_; (case hd => rfl); (case hg => rfl); (case hr => first | (go_simp; done) | (go_simp; rfl)); intro gb233 hg w14 hbox hb; have n0_ := Aside0.mk (below_step (by repeat (first | (with_reducible first | exact HB.out | apply below_alloc | apply pw_below_drewN | apply below_drew1) | exact HB.out)) hb); have n1_ := Aside0.mk (hbox); have n2_ := Aside0.mk ((by rw [hg]; exact (below_size (by repeat (first | (with_reducible first | exact HB.out | apply below_alloc | apply pw_below_drewN | apply below_drew1) | exact HB.out))) : w.heap.size ≤ gb233)); have n3_ := Aside0.mk ((by rw [hg]; exact (below_size (by repeat (first | (with_reducible first | exact HB.out | apply below_alloc | apply pw_below_drewN | apply below_drew1) | exact HB.out))) : w.heap.size ≤ gb233)); clear HB; have HB := n0_; have BK233 := n1_; have GW233 := n2_; have GE233 := n3_; clear n0_ n1_ n2_ n3_; clear hb hbox hg) | ((with_reducible refine gate_dst (N := 3) rfl ?_); refine box_event ?hg (N := 3) ?hd (cs := #[.int .u64 a1_0, .int .u64 a1_1]) (t := 66) ?hr ?_; (case hd => rfl); (case hg => rfl); (case hr => first | (go_simp; done) | (go_simp; rfl)); intro gb234 hg w15 hbox hb; have n0_ := Aside0.mk (blk_below (g := gb233) (o := .cells #[.int .u64 a0_0, .int .u64 a0_1] 66 (0, 0)) (by (with_reducible repeat (first | refine blk_drewN ?_ _ | refine blk_drew ?_ | refine blk_alloc ?_ _)); exact BK233.out) hb); have n1_ := Aside0.mk (below_step (by repeat (first | (with_reducible first | exact HB.out | apply below_alloc | apply pw_below_drewN | apply below_drew1 | refine below_set ?_ GE233.out) | exact HB.out)) hb); have n2_ := Aside0.mk (hbox); have n3_ := Aside0.mk ((by rw [hg]; exact (below_size (by repeat (first | (with_reducible first | exact HB.out | apply below_alloc | apply pw_below_drewN | apply below_drew1 | refine below_set ?_ GE233.out) | exact HB.out))) : w.heap.size ≤ gb234)); have n4_ := Aside0.mk ((by rw [hg]; exact (below_size (by repeat (first | (with_reducible first | exact HB.out | apply below_alloc | apply pw_below_drewN | apply below_drew1 | refine below_set ?_ GE233.out) | exact HB.out))) : w.heap.size ≤ gb234)); have n5_ := Aside0.mk ((by rw [hg]; exact Nat.ne_of_lt (blk_lt (g := gb233) (o := .cells #[.int .u64 a0_0, .int .u64 a0_1] 66 (0, 0)) (by (with_reducible repeat (first | refine blk_drewN ?_ _ | refine blk_drew ?_ | refine blk_alloc ?_ _)); exact BK233.out)) : gb233 ≠ gb234)); have n6_ := Aside0.mk ((by rw [hg]; exact Nat.ne_of_gt (blk_lt (g := gb233) (o := .cells #[.int .u64 a0_0, .int .u64 a0_1] 66 (0, 0)) (by (with_reducible repeat (first | refine blk_drewN ?_ _ | refine blk_drew ?_ | refine blk_alloc ?_ _)); exact BK233.out)) : gb234 ≠ gb233)); clear BK233; clear HB; have BK233 := n0_; have HB := n1_; have BK234 := n2_; have GW234 := n3_; have GE234 := n4_; have NB233_234 := n5_; have NB234_233 := n6_; clear n0_ n1_ n2_ n3_ n4_ n5_ n6_; clear hb hbox hg) | ((with_reducible refine gate_dst (N := 4) rfl ?_); refine box_event ?hg (N := 4) ?hd (cs := #[.int .u64 0, .int .u64 0]) (t := 66) ?hr ?_; (case hd => rfl); (case hg => rfl); (case hr => first | (go_simp; done) | (go_simp; rfl)); intro gb235 hg w16 hbox hb; have n0_ := Aside0.mk (blk_below (g := gb233) (o := .cells #[.int .u64 a0_0, .int .u64 a0_1] 66 (0, 0)) (by (with_reducible repeat (first | refine blk_drewN ?_ _ | refine blk_drew ?_ | refine blk_alloc ?_ _)); exact BK233.out) hb); have n1_ := Aside0.mk (blk_below (g := gb234) (o := .cells #[.int .u64 a1_0, .int .u64 a1_1] 66 (0, 0)) (by (with_reducible repeat (first | refine blk_drewN ?_ _ | refine blk_drew ?_ | refine blk_alloc ?_ _)); exact BK234.out) hb); have n2_ := Aside0.mk (below_step (by repeat (first | (with_reducible first | exact HB.out | apply below_alloc | apply pw_below_drewN | apply below_drew1 | refine below_set ?_ GE233.out | refine below_set ?_ GE234.out) | exact HB.out)) hb); have n3_ := Aside0.mk (hbox); have n4_ := Aside0.mk ((by rw [hg]; exact (below_size (by repeat (first | (with_reducible first | exact HB.out | apply below_alloc | apply pw_below_drewN | apply below_drew1 | refine below_set ?_ GE233.out | refine below_set ?_ GE234.out) | exact HB.out))) : w.heap.size ≤ gb235)); have n5_ := Aside0.mk ((by rw [hg]; exact (below_size (by repeat (first | (with_reducible first | exact HB.out | apply below_alloc | apply pw_below_drewN | apply below_drew1 | refine below_set ?_ GE233.out | refine below_set ?_ GE234.out) | exact HB.out))) : w.heap.size ≤ gb235)); have n6_ := Aside0.mk ((by rw [hg]; exact Nat.ne_of_lt (blk_lt (g := gb233) (o := .cells #[.int .u64 a0_0, .int .u64 a0_1] 66 (0, 0)) (by (with_reducible repeat (first | refine blk_drewN ?_ _ | refine blk_drew ?_ | refine blk_alloc ?_ _)); exact BK233.out)) : gb233 ≠ gb235)); have n7_ := Aside0.mk ((by rw [hg]; exact Nat.ne_of_gt (blk_lt (g := gb233) (o := .cells #[.int .u64 a0_0, .int .u64 a0_1] 66 (0, 0)) (by (with_reducible repeat (first | refine blk_drewN ?_ _ | refine blk_drew ?_ | refine blk_alloc ?_ _)); exact BK233.out)) : gb235 ≠ gb233)); have n8_ := Aside0.mk ((by rw [hg]; exact Nat.ne_of_lt (blk_lt (g := gb234) (o := .cells #[.int .u64 a1_0, .int .u64 a1_1] 66 (0, 0)) (by (with_reducible repeat (first | refine blk_drewN ?_ _ | refine blk_drew ?_ | refine blk_alloc ?_ _)); exact BK234.out)) : gb234 ≠ gb235)); have n9_ := Aside0.mk ((by rw [hg]; exact Nat.ne_of_gt (blk_lt (g := gb234) (o := .cells #[.int .u64 a1_0, .int .u64 a1_1] 66 (0, 0)) (by (with_reducible repeat (first | refine blk_drewN ?_ _ | refine blk_drew ?_ | refine blk_alloc ?_ _)); exact BK234.out)) : gb235 ≠ gb234)); clear BK233; clear BK234; clear HB; have BK233 := n0_; have BK234 := n1_; have HB := n2_; have BK235 := n3_; have GW235 := n4_; have GE235 := n5_; have NB233_235 := n6_; have NB235_233 := n7_; have NB234_235 := n8_; have NB235_234 := n9_; clear n0_ n1_ n2_ n3_ n4_ n5_ n6_ n7_ n8_ n9_; clear hb hbox hg; have hnb17 := NB233_234.out; have hnc17 := NB234_233.out; have hnb18 := NB233_235.out; have hnc18 := NB235_233.out; have hcz19_0 : w16.cell? ⟨gb233, 0, none⟩ = some (.int .u64 a0_0) := (blk_cell BK233.out 0).trans rfl; have hcz19_1 : w16.cell? ⟨gb233, 1, none⟩ = some (.int .u64 a0_1) := (blk_cell BK233.out 1).trans rfl; have hfz19_0 := blk_frozen BK233.out 0; have hfz19_1 := blk_frozen BK233.out 1; have hnb20 := NB234_235.out; have hnc20 := NB235_234.out; have hcz21_0 : w16.cell? ⟨gb234, 0, none⟩ = some (.int .u64 a1_0) := (blk_cell BK234.out 0).trans rfl; have hcz21_1 : w16.cell? ⟨gb234, 1, none⟩ = some (.int .u64 a1_1) := (blk_cell BK234.out 1).trans rfl; have hfz21_0 := blk_frozen BK234.out 0; have hfz21_1 := blk_frozen BK234.out 1; have hcz22_0 : w16.cell? ⟨gb235, 0, none⟩ = some (.int .u64 0) := (blk_cell BK235.out 0).trans rfl; have hcz22_1 : w16.cell? ⟨gb235, 1, none⟩ = some (.int .u64 0) := (blk_cell BK235.out 1).trans rfl; have hfz22_0 := blk_frozen BK235.out 0; have hfz22_1 := blk_frozen BK235.out 1)))
      refine bodyPost_ret (results_ct rfl _ _ gb235 66 #[.int .u64 (IntKind.u64.wrap ((IntKind.u64.wrap (a0_0 + a1_0)) + 1)), .int .u64 (IntKind.u64.wrap (a0_1 + a1_1))] (0, 0) _ rfl (by (with_reducible repeat (first | refine blk_drewN ?_ _ | refine blk_drew ?_ | refine blk_alloc ?_ _)); refine blk_put (cs := #[.int .u64 (IntKind.u64.wrap ((IntKind.u64.wrap (a0_0 + a1_0)) + 1)), .int .u64 0]) ?_ 1 _ rfl; (with_reducible repeat (first | refine blk_drewN ?_ _ | refine blk_drew ?_ | refine blk_alloc ?_ _)); refine blk_put (cs := #[.int .u64 0, .int .u64 0]) ?_ 0 _ rfl; (with_reducible repeat (first | refine blk_drewN ?_ _ | refine blk_drew ?_ | refine blk_alloc ?_ _)); exact BK235.out) Try.underlying66 rfl (by kernel_rfl)) rfl ?_
      exact ⟨by first | rfl | (simp [errW_none, errW_some] <;> rfl) | (simp [*, errW_none, errW_some] <;> rfl) | (simp (disch := first | assumption | omega) only [Int.tdiv_eq_ediv_of_nonneg, Int.tmod_eq_emod_of_nonneg]; rfl), by repeat (first | (with_reducible first | exact HB.out | apply below_alloc | apply pw_below_drewN | apply below_drew1 | refine below_set ?_ GE233.out | refine below_set ?_ GE234.out | refine below_set ?_ GE235.out) | exact HB.out)⟩
  · rw [if_neg c3] at H
    have c3b0 : decide ((IntKind.u64.wrap (a0_1 + a1_1)) < a0_1) = false := decide_eq_false c3
    clear c3
    simp only [Option.some.injEq, Prod.mk.injEq] at H
    obtain ⟨rfl, rfl, rfl⟩ := H
    go_enter Try.func39, Try.ntmps39
    go_wp2_with (first | ((with_reducible refine gate_dst (N := 2) rfl ?_); refine box_event ?hg (N := 2) ?hd (cs := #[.int .u64 a0_0, .int .u64 a0_1]) (t := 66) ?hr ?_; (case hd => rfl); (case hg => rfl); (case hr => first | (go_simp; done) | (go_simp; rfl)); intro gb233 hg w23 hbox hb; have n0_ := Aside0.mk (below_step (by repeat (first | (with_reducible first | exact HB.out | apply below_alloc | apply pw_below_drewN | apply below_drew1) | exact HB.out)) hb); have n1_ := Aside0.mk (hbox); have n2_ := Aside0.mk ((by rw [hg]; exact (below_size (by repeat (first | (with_reducible first | exact HB.out | apply below_alloc | apply pw_below_drewN | apply below_drew1) | exact HB.out))) : w.heap.size ≤ gb233)); have n3_ := Aside0.mk ((by rw [hg]; exact (below_size (by repeat (first | (with_reducible first | exact HB.out | apply below_alloc | apply pw_below_drewN | apply below_drew1) | exact HB.out))) : w.heap.size ≤ gb233)); clear HB; have HB := n0_; have BK233 := n1_; have GW233 := n2_; have GE233 := n3_; clear n0_ n1_ n2_ n3_; clear hb hbox hg) | ((with_reducible refine gate_dst (N := 3) rfl ?_); refine box_event ?hg (N := 3) ?hd (cs := #[.int .u64 a1_0, .int .u64 a1_1]) (t := 66) ?hr ?_; (case hd => rfl); (case hg => rfl); (case hr => first | (go_simp; done) | (go_simp; rfl)); intro gb234 hg w24 hbox hb; have n0_ := Aside0.mk (blk_below (g := gb233) (o := .cells #[.int .u64 a0_0, .int .u64 a0_1] 66 (0, 0)) (by (with_reducible repeat (first | refine blk_drewN ?_ _ | refine blk_drew ?_ | refine blk_alloc ?_ _)); exact BK233.out) hb); have n1_ := Aside0.mk (below_step (by repeat (first | (with_reducible first | exact HB.out | apply below_alloc | apply pw_below_drewN | apply below_drew1 | refine below_set ?_ GE233.out) | exact HB.out)) hb); have n2_ := Aside0.mk (hbox); have n3_ := Aside0.mk ((by rw [hg]; exact (below_size (by repeat (first | (with_reducible first | exact HB.out | apply below_alloc | apply pw_below_drewN | apply below_drew1 | refine below_set ?_ GE233.out) | exact HB.out))) : w.heap.size ≤ gb234)); have n4_ := Aside0.mk ((by rw [hg]; exact (below_size (by repeat (first | (with_reducible first | exact HB.out | apply below_alloc | apply pw_below_drewN | apply below_drew1 | refine below_set ?_ GE233.out) | exact HB.out))) : w.heap.size ≤ gb234)); have n5_ := Aside0.mk ((by rw [hg]; exact Nat.ne_of_lt (blk_lt (g := gb233) (o := .cells #[.int .u64 a0_0, .int .u64 a0_1] 66 (0, 0)) (by (with_reducible repeat (first | refine blk_drewN ?_ _ | refine blk_drew ?_ | refine blk_alloc ?_ _)); exact BK233.out)) : gb233 ≠ gb234)); have n6_ := Aside0.mk ((by rw [hg]; exact Nat.ne_of_gt (blk_lt (g := gb233) (o := .cells #[.int .u64 a0_0, .int .u64 a0_1] 66 (0, 0)) (by (with_reducible repeat (first | refine blk_drewN ?_ _ | refine blk_drew ?_ | refine blk_alloc ?_ _)); exact BK233.out)) : gb234 ≠ gb233)); clear BK233; clear HB; have BK233 := n0_; have HB := n1_; have BK234 := n2_; have GW234 := n3_; have GE234 := n4_; have NB233_234 := n5_; have NB234_233 := n6_; clear n0_ n1_ n2_ n3_ n4_ n5_ n6_; clear hb hbox hg) | ((with_reducible refine gate_dst (N := 4) rfl ?_); refine box_event ?hg (N := 4) ?hd (cs := #[.int .u64 0, .int .u64 0]) (t := 66) ?hr ?_; (case hd => rfl); (case hg => rfl); (case hr => first | (go_simp; done) | (go_simp; rfl)); intro gb235 hg w25 hbox hb; have n0_ := Aside0.mk (blk_below (g := gb233) (o := .cells #[.int .u64 a0_0, .int .u64 a0_1] 66 (0, 0)) (by (with_reducible repeat (first | refine blk_drewN ?_ _ | refine blk_drew ?_ | refine blk_alloc ?_ _)); exact BK233.out) hb); have n1_ := Aside0.mk (blk_below (g := gb234) (o := .cells #[.int .u64 a1_0, .int .u64 a1_1] 66 (0, 0)) (by (with_reducible repeat (first | refine blk_drewN ?_ _ | refine blk_drew ?_ | refine blk_alloc ?_ _)); exact BK234.out) hb); have n2_ := Aside0.mk (below_step (by repeat (first | (with_reducible first | exact HB.out | apply below_alloc | apply pw_below_drewN | apply below_drew1 | refine below_set ?_ GE233.out | refine below_set ?_ GE234.out) | exact HB.out)) hb); have n3_ := Aside0.mk (hbox); have n4_ := Aside0.mk ((by rw [hg]; exact (below_size (by repeat (first | (with_reducible first | exact HB.out | apply below_alloc | apply pw_below_drewN | apply below_drew1 | refine below_set ?_ GE233.out | refine below_set ?_ GE234.out) | exact HB.out))) : w.heap.size ≤ gb235)); have n5_ := Aside0.mk ((by rw [hg]; exact (below_size (by repeat (first | (with_reducible first | exact HB.out | apply below_alloc | apply pw_below_drewN | apply below_drew1 | refine below_set ?_ GE233.out | refine below_set ?_ GE234.out) | exact HB.out))) : w.heap.size ≤ gb235)); have n6_ := Aside0.mk ((by rw [hg]; exact Nat.ne_of_lt (blk_lt (g := gb233) (o := .cells #[.int .u64 a0_0, .int .u64 a0_1] 66 (0, 0)) (by (with_reducible repeat (first | refine blk_drewN ?_ _ | refine blk_drew ?_ | refine blk_alloc ?_ _)); exact BK233.out)) : gb233 ≠ gb235)); have n7_ := Aside0.mk ((by rw [hg]; exact Nat.ne_of_gt (blk_lt (g := gb233) (o := .cells #[.int .u64 a0_0, .int .u64 a0_1] 66 (0, 0)) (by (with_reducible repeat (first | refine blk_drewN ?_ _ | refine blk_drew ?_ | refine blk_alloc ?_ _)); exact BK233.out)) : gb235 ≠ gb233)); have n8_ := Aside0.mk ((by rw [hg]; exact Nat.ne_of_lt (blk_lt (g := gb234) (o := .cells #[.int .u64 a1_0, .int .u64 a1_1] 66 (0, 0)) (by (with_reducible repeat (first | refine blk_drewN ?_ _ | refine blk_drew ?_ | refine blk_alloc ?_ _)); exact BK234.out)) : gb234 ≠ gb235)); have n9_ := Aside0.mk ((by rw [hg]; exact Nat.ne_of_gt (blk_lt (g := gb234) (o := .cells #[.int .u64 a1_0, .int .u64 a1_1] 66 (0, 0)) (by (with_reducible repeat (first | refine blk_drewN ?_ _ | refine blk_drew ?_ | refine blk_alloc ?_ _)); exact BK234.out)) : gb235 ≠ gb234)); clear BK233; clear BK234; clear HB; have BK233 := n0_; have BK234 := n1_; have HB := n2_; have BK235 := n3_; have GW235 := n4_; have GE235 := n5_; have NB233_235 := n6_; have NB235_233 := n7_; have NB234_235 := n8_; have NB235_234 := n9_; clear n0_ n1_ n2_ n3_ n4_ n5_ n6_ n7_ n8_ n9_; clear hb hbox hg; have hnb26 := NB233_234.out; have hnc26 := NB234_233.out; have hnb27 := NB233_235.out; have hnc27 := NB235_233.out; have hcz28_0 : w25.cell? ⟨gb233, 0, none⟩ = some (.int .u64 a0_0) := (blk_cell BK233.out 0).trans rfl; have hcz28_1 : w25.cell? ⟨gb233, 1, none⟩ = some (.int .u64 a0_1) := (blk_cell BK233.out 1).trans rfl; have hfz28_0 := blk_frozen BK233.out 0; have hfz28_1 := blk_frozen BK233.out 1; have hnb29 := NB234_235.out; have hnc29 := NB235_234.out; have hcz30_0 : w25.cell? ⟨gb234, 0, none⟩ = some (.int .u64 a1_0) := (blk_cell BK234.out 0).trans rfl; have hcz30_1 : w25.cell? ⟨gb234, 1, none⟩ = some (.int .u64 a1_1) := (blk_cell BK234.out 1).trans rfl; have hfz30_0 := blk_frozen BK234.out 0; have hfz30_1 := blk_frozen BK234.out 1; have hcz31_0 : w25.cell? ⟨gb235, 0, none⟩ = some (.int .u64 0) := (blk_cell BK235.out 0).trans rfl; have hcz31_1 : w25.cell? ⟨gb235, 1, none⟩ = some (.int .u64 0) := (blk_cell BK235.out 1).trans rfl; have hfz31_0 := blk_frozen BK235.out 0; have hfz31_1 := blk_frozen BK235.out 1))
    repeat (go_quiet (first | ((with_reducible refine gate_dst (N := 2) rfl ?_); refine box_event ?hg (N := 2) ?hd (cs := #[.int .u64 a0_0, .int .u64 a0_1]) (t := 66) ?hr ?_; (case hd => rfl); (case hg => rfl); (case hr => first | (go_simp; done) | (go_simp; rfl)); intro gb233 hg w23 hbox hb; have n0_ := Aside0.mk (below_step (by repeat (first | (with_reducible first | exact HB.out | apply below_alloc | apply pw_below_drewN | apply below_drew1) | exact HB.out)) hb); have n1_ := Aside0.mk (hbox); have n2_ := Aside0.mk ((by rw [hg]; exact (below_size (by repeat (first | (with_reducible first | exact HB.out | apply below_alloc | apply pw_below_drewN | apply below_drew1) | exact HB.out))) : w.heap.size ≤ gb233)); have n3_ := Aside0.mk ((by rw [hg]; exact (below_size (by repeat (first | (with_reducible first | exact HB.out | apply below_alloc | apply pw_below_drewN | apply below_drew1) | exact HB.out))) : w.heap.size ≤ gb233)); clear HB; have HB := n0_; have BK233 := n1_; have GW233 := n2_; have GE233 := n3_; clear n0_ n1_ n2_ n3_; clear hb hbox hg) | ((with_reducible refine gate_dst (N := 3) rfl ?_); refine box_event ?hg (N := 3) ?hd (cs := #[.int .u64 a1_0, .int .u64 a1_1]) (t := 66) ?hr ?_; (case hd => rfl); (case hg => rfl); (case hr => first | (go_simp; done) | (go_simp; rfl)); intro gb234 hg w24 hbox hb; have n0_ := Aside0.mk (blk_below (g := gb233) (o := .cells #[.int .u64 a0_0, .int .u64 a0_1] 66 (0, 0)) (by (with_reducible repeat (first | refine blk_drewN ?_ _ | refine blk_drew ?_ | refine blk_alloc ?_ _)); exact BK233.out) hb); have n1_ := Aside0.mk (below_step (by repeat (first | (with_reducible first | exact HB.out | apply below_alloc | apply pw_below_drewN | apply below_drew1 | refine below_set ?_ GE233.out) | exact HB.out)) hb); have n2_ := Aside0.mk (hbox); have n3_ := Aside0.mk ((by rw [hg]; exact (below_size (by repeat (first | (with_reducible first | exact HB.out | apply below_alloc | apply pw_below_drewN | apply below_drew1 | refine below_set ?_ GE233.out) | exact HB.out))) : w.heap.size ≤ gb234)); have n4_ := Aside0.mk ((by rw [hg]; exact (below_size (by repeat (first | (with_reducible first | exact HB.out | apply below_alloc | apply pw_below_drewN | apply below_drew1 | refine below_set ?_ GE233.out) | exact HB.out))) : w.heap.size ≤ gb234)); have n5_ := Aside0.mk ((by rw [hg]; exact Nat.ne_of_lt (blk_lt (g := gb233) (o := .cells #[.int .u64 a0_0, .int .u64 a0_1] 66 (0, 0)) (by (with_reducible repeat (first | refine blk_drewN ?_ _ | refine blk_drew ?_ | refine blk_alloc ?_ _)); exact BK233.out)) : gb233 ≠ gb234)); have n6_ := Aside0.mk ((by rw [hg]; exact Nat.ne_of_gt (blk_lt (g := gb233) (o := .cells #[.int .u64 a0_0, .int .u64 a0_1] 66 (0, 0)) (by (with_reducible repeat (first | refine blk_drewN ?_ _ | refine blk_drew ?_ | refine blk_alloc ?_ _)); exact BK233.out)) : gb234 ≠ gb233)); clear BK233; clear HB; have BK233 := n0_; have HB := n1_; have BK234 := n2_; have GW234 := n3_; have GE234 := n4_; have NB233_234 := n5_; have NB234_233 := n6_; clear n0_ n1_ n2_ n3_ n4_ n5_ n6_; clear hb hbox hg) | ((with_reducible refine gate_dst (N := 4) rfl ?_); refine box_event ?hg (N := 4) ?hd (cs := #[.int .u64 0, .int .u64 0]) (t := 66) ?hr ?_; (case hd => rfl); (case hg => rfl); (case hr => first | (go_simp; done) | (go_simp; rfl)); intro gb235 hg w25 hbox hb; have n0_ := Aside0.mk (blk_below (g := gb233) (o := .cells #[.int .u64 a0_0, .int .u64 a0_1] 66 (0, 0)) (by (with_reducible repeat (first | refine blk_drewN ?_ _ | refine blk_drew ?_ | refine blk_alloc ?_ _)); exact BK233.out) hb); have n1_ := Aside0.mk (blk_below (g := gb234) (o := .cells #[.int .u64 a1_0, .int .u64 a1_1] 66 (0, 0)) (by (with_reducible repeat (first | refine blk_drewN ?_ _ | refine blk_drew ?_ | refine blk_alloc ?_ _)); exact BK234.out) hb); have n2_ := Aside0.mk (below_step (by repeat (first | (with_reducible first | exact HB.out | apply below_alloc | apply pw_below_drewN | apply below_drew1 | refine below_set ?_ GE233.out | refine below_set ?_ GE234.out) | exact HB.out)) hb); have n3_ := Aside0.mk (hbox); have n4_ := Aside0.mk ((by rw [hg]; exact (below_size (by repeat (first | (with_reducible first | exact HB.out | apply below_alloc | apply pw_below_drewN | apply below_drew1 | refine below_set ?_ GE233.out | refine below_set ?_ GE234.out) | exact HB.out))) : w.heap.size ≤ gb235)); have n5_ := Aside0.mk ((by rw [hg]; exact (below_size (by repeat (first | (with_reducible first | exact HB.out | apply below_alloc | apply pw_below_drewN | apply below_drew1 | refine below_set ?_ GE233.out | refine below_set ?_ GE234.out) | exact HB.out))) : w.heap.size ≤ gb235)); have n6_ := Aside0.mk ((by rw [hg]; exact Nat.ne_of_lt (blk_lt (g := gb233) (o := .cells #[.int .u64 a0_0, .int .u64 a0_1] 66 (0, 0)) (by (with_reducible repeat (first | refine blk_drewN ?_ _ | refine blk_drew ?_ | refine blk_alloc ?_ _)); exact BK233.out)) : gb233 ≠ gb235)); have n7_ := Aside0.mk ((by rw [hg]; exact Nat.ne_of_gt (blk_lt (g := gb233) (o := .cells #[.int .u64 a0_0, .int .u64 a0_1] 66 (0, 0)) (by (with_reducible repeat (first | refine blk_drewN ?_ _ | refine blk_drew ?_ | refine blk_alloc ?_ _)); exact BK233.out)) : gb235 ≠ gb233)); have n8_ := Aside0.mk ((by rw [hg]; exact Nat.ne_of_lt (blk_lt (g := gb234) (o := .cells #[.int .u64 a1_0, .int .u64 a1_1] 66 (0, 0)) (by (with_reducible repeat (first | refine blk_drewN ?_ _ | refine blk_drew ?_ | refine blk_alloc ?_ _)); exact BK234.out)) : gb234 ≠ gb235)); have n9_ := Aside0.mk ((by rw [hg]; exact Nat.ne_of_gt (blk_lt (g := gb234) (o := .cells #[.int .u64 a1_0, .int .u64 a1_1] 66 (0, 0)) (by (with_reducible repeat (first | refine blk_drewN ?_ _ | refine blk_drew ?_ | refine blk_alloc ?_ _)); exact BK234.out)) : gb235 ≠ gb234)); clear BK233; clear BK234; clear HB; have BK233 := n0_; have BK234 := n1_; have HB := n2_; have BK235 := n3_; have GW235 := n4_; have GE235 := n5_; have NB233_235 := n6_; have NB235_233 := n7_; have NB234_235 := n8_; have NB235_234 := n9_; clear n0_ n1_ n2_ n3_ n4_ n5_ n6_ n7_ n8_ n9_; clear hb hbox hg; have hnb26 := NB233_234.out; have hnc26 := NB234_233.out; have hnb27 := NB233_235.out; have hnc27 := NB235_233.out; have hcz28_0 : w25.cell? ⟨gb233, 0, none⟩ = some (.int .u64 a0_0) := (blk_cell BK233.out 0).trans rfl; have hcz28_1 : w25.cell? ⟨gb233, 1, none⟩ = some (.int .u64 a0_1) := (blk_cell BK233.out 1).trans rfl; have hfz28_0 := blk_frozen BK233.out 0; have hfz28_1 := blk_frozen BK233.out 1; have hnb29 := NB234_235.out; have hnc29 := NB235_234.out; have hcz30_0 : w25.cell? ⟨gb234, 0, none⟩ = some (.int .u64 a1_0) := (blk_cell BK234.out 0).trans rfl; have hcz30_1 : w25.cell? ⟨gb234, 1, none⟩ = some (.int .u64 a1_1) := (blk_cell BK234.out 1).trans rfl; have hfz30_0 := blk_frozen BK234.out 0; have hfz30_1 := blk_frozen BK234.out 1; have hcz31_0 : w25.cell? ⟨gb235, 0, none⟩ = some (.int .u64 0) := (blk_cell BK235.out 0).trans rfl; have hcz31_1 : w25.cell? ⟨gb235, 1, none⟩ = some (.int .u64 0) := (blk_cell BK235.out 1).trans rfl; have hfz31_0 := blk_frozen BK235.out 0; have hfz31_1 := blk_frozen BK235.out 1)); try go_wp2_with (first | ((with_reducible refine gate_dst (N := 2) rfl ?_); refine box_event ?hg (N := 2) ?hd (cs := #[.int .u64 a0_0, .int .u64 a0_1]) (t := 66) ?hr ?_; (case hd => rfl); (case hg => rfl); (case hr => first | (go_simp; done) | (go_simp; rfl)); intro gb233 hg w23 hbox hb; have n0_ := Aside0.mk (below_step (by repeat (first | (with_reducible first | exact HB.out | apply below_alloc | apply pw_below_drewN | apply below_drew1) | exact HB.out)) hb); have n1_ := Aside0.mk (hbox); have n2_ := Aside0.mk ((by rw [hg]; exact (below_size (by repeat (first | (with_reducible first | exact HB.out | apply below_alloc | apply pw_below_drewN | apply below_drew1) | exact HB.out))) : w.heap.size ≤ gb233)); have n3_ := Aside0.mk ((by rw [hg]; exact (below_size (by repeat (first | (with_reducible first | exact HB.out | apply below_alloc | apply pw_below_drewN | apply below_drew1) | exact HB.out))) : w.heap.size ≤ gb233)); clear HB; have HB := n0_; have BK233 := n1_; have GW233 := n2_; have GE233 := n3_; clear n0_ n1_ n2_ n3_; clear hb hbox hg) | ((with_reducible refine gate_dst (N := 3) rfl ?_); refine box_event ?hg (N := 3) ?hd (cs := #[.int .u64 a1_0, .int .u64 a1_1]) (t := 66) ?hr ?_; (case hd => rfl); (case hg => rfl); (case hr => first | (go_simp; done) | (go_simp; rfl)); intro gb234 hg w24 hbox hb; have n0_ := Aside0.mk (blk_below (g := gb233) (o := .cells #[.int .u64 a0_0, .int .u64 a0_1] 66 (0, 0)) (by (with_reducible repeat (first | refine blk_drewN ?_ _ | refine blk_drew ?_ | refine blk_alloc ?_ _)); exact BK233.out) hb); have n1_ := Aside0.mk (below_step (by repeat (first | (with_reducible first | exact HB.out | apply below_alloc | apply pw_below_drewN | apply below_drew1 | refine below_set ?_ GE233.out) | exact HB.out)) hb); have n2_ := Aside0.mk (hbox); have n3_ := Aside0.mk ((by rw [hg]; exact (below_size (by repeat (first | (with_reducible first | exact HB.out | apply below_alloc | apply pw_below_drewN | apply below_drew1 | refine below_set ?_ GE233.out) | exact HB.out))) : w.heap.size ≤ gb234)); have n4_ := Aside0.mk ((by rw [hg]; exact (below_size (by repeat (first | (with_reducible first | exact HB.out | apply below_alloc | apply pw_below_drewN | apply below_drew1 | refine below_set ?_ GE233.out) | exact HB.out))) : w.heap.size ≤ gb234)); have n5_ := Aside0.mk ((by rw [hg]; exact Nat.ne_of_lt (blk_lt (g := gb233) (o := .cells #[.int .u64 a0_0, .int .u64 a0_1] 66 (0, 0)) (by (with_reducible repeat (first | refine blk_drewN ?_ _ | refine blk_drew ?_ | refine blk_alloc ?_ _)); exact BK233.out)) : gb233 ≠ gb234)); have n6_ := Aside0.mk ((by rw [hg]; exact Nat.ne_of_gt (blk_lt (g := gb233) (o := .cells #[.int .u64 a0_0, .int .u64 a0_1] 66 (0, 0)) (by (with_reducible repeat (first | refine blk_drewN ?_ _ | refine blk_drew ?_ | refine blk_alloc ?_ _)); exact BK233.out)) : gb234 ≠ gb233)); clear BK233; clear HB; have BK233 := n0_; have HB := n1_; have BK234 := n2_; have GW234 := n3_; have GE234 := n4_; have NB233_234 := n5_; have NB234_233 := n6_; clear n0_ n1_ n2_ n3_ n4_ n5_ n6_; clear hb hbox hg) | ((with_reducible refine gate_dst (N := 4) rfl ?_); refine box_event ?hg (N := 4) ?hd (cs := #[.int .u64 0, .int .u64 0]) (t := 66) ?hr ?_; (case hd => rfl); (case hg => rfl); (case hr => first | (go_simp; done) | (go_simp; rfl)); intro gb235 hg w25 hbox hb; have n0_ := Aside0.mk (blk_below (g := gb233) (o := .cells #[.int .u64 a0_0, .int .u64 a0_1] 66 (0, 0)) (by (with_reducible repeat (first | refine blk_drewN ?_ _ | refine blk_drew ?_ | refine blk_alloc ?_ _)); exact BK233.out) hb); have n1_ := Aside0.mk (blk_below (g := gb234) (o := .cells #[.int .u64 a1_0, .int .u64 a1_1] 66 (0, 0)) (by (with_reducible repeat (first | refine blk_drewN ?_ _ | refine blk_drew ?_ | refine blk_alloc ?_ _)); exact BK234.out) hb); have n2_ := Aside0.mk (below_step (by repeat (first | (with_reducible first | exact HB.out | apply below_alloc | apply pw_below_drewN | apply below_drew1 | refine below_set ?_ GE233.out | refine below_set ?_ GE234.out) | exact HB.out)) hb); have n3_ := Aside0.mk (hbox); have n4_ := Aside0.mk ((by rw [hg]; exact (below_size (by repeat (first | (with_reducible first | exact HB.out | apply below_alloc | apply pw_below_drewN | apply below_drew1 | refine below_set ?_ GE233.out | refine below_set ?_ GE234.out) | exact HB.out))) : w.heap.size ≤ gb235)); have n5_ := Aside0.mk ((by rw [hg]; exact (below_size (by repeat (first | (with_reducible first | exact HB.out | apply below_alloc | apply pw_below_drewN | apply below_drew1 | refine below_set ?_ GE233.out | refine below_set ?_ GE234.out) | exact HB.out))) : w.heap.size ≤ gb235)); have n6_ := Aside0.mk ((by rw [hg]; exact Nat.ne_of_lt (blk_lt (g := gb233) (o := .cells #[.int .u64 a0_0, .int .u64 a0_1] 66 (0, 0)) (by (with_reducible repeat (first | refine blk_drewN ?_ _ | refine blk_drew ?_ | refine blk_alloc ?_ _)); exact BK233.out)) : gb233 ≠ gb235)); have n7_ := Aside0.mk ((by rw [hg]; exact Nat.ne_of_gt (blk_lt (g := gb233) (o := .cells #[.int .u64 a0_0, .int .u64 a0_1] 66 (0, 0)) (by (with_reducible repeat (first | refine blk_drewN ?_ _ | refine blk_drew ?_ | refine blk_alloc ?_ _)); exact BK233.out)) : gb235 ≠ gb233)); have n8_ := Aside0.mk ((by rw [hg]; exact Nat.ne_of_lt (blk_lt (g := gb234) (o := .cells #[.int .u64 a1_0, .int .u64 a1_1] 66 (0, 0)) (by (with_reducible repeat (first | refine blk_drewN ?_ _ | refine blk_drew ?_ | refine blk_alloc ?_ _)); exact BK234.out)) : gb234 ≠ gb235)); have n9_ := Aside0.mk ((by rw [hg]; exact Nat.ne_of_gt (blk_lt (g := gb234) (o := .cells #[.int .u64 a1_0, .int .u64 a1_1] 66 (0, 0)) (by (with_reducible repeat (first | refine blk_drewN ?_ _ | refine blk_drew ?_ | refine blk_alloc ?_ _)); exact BK234.out)) : gb235 ≠ gb234)); clear BK233; clear BK234; clear HB; have BK233 := n0_; have BK234 := n1_; have HB := n2_; have BK235 := n3_; have GW235 := n4_; have GE235 := n5_; have NB233_235 := n6_; have NB235_233 := n7_; have NB234_235 := n8_; have NB235_234 := n9_; clear n0_ n1_ n2_ n3_ n4_ n5_ n6_ n7_ n8_ n9_; clear hb hbox hg; have hnb26 := NB233_234.out; have hnc26 := NB234_233.out; have hnb27 := NB233_235.out; have hnc27 := NB235_233.out; have hcz28_0 : w25.cell? ⟨gb233, 0, none⟩ = some (.int .u64 a0_0) := (blk_cell BK233.out 0).trans rfl; have hcz28_1 : w25.cell? ⟨gb233, 1, none⟩ = some (.int .u64 a0_1) := (blk_cell BK233.out 1).trans rfl; have hfz28_0 := blk_frozen BK233.out 0; have hfz28_1 := blk_frozen BK233.out 1; have hnb29 := NB234_235.out; have hnc29 := NB235_234.out; have hcz30_0 : w25.cell? ⟨gb234, 0, none⟩ = some (.int .u64 a1_0) := (blk_cell BK234.out 0).trans rfl; have hcz30_1 : w25.cell? ⟨gb234, 1, none⟩ = some (.int .u64 a1_1) := (blk_cell BK234.out 1).trans rfl; have hfz30_0 := blk_frozen BK234.out 0; have hfz30_1 := blk_frozen BK234.out 1; have hcz31_0 : w25.cell? ⟨gb235, 0, none⟩ = some (.int .u64 0) := (blk_cell BK235.out 0).trans rfl; have hcz31_1 : w25.cell? ⟨gb235, 1, none⟩ = some (.int .u64 0) := (blk_cell BK235.out 1).trans rfl; have hfz31_0 := blk_frozen BK235.out 0; have hfz31_1 := blk_frozen BK235.out 1)))
    refine bodyPost_ret (results_ct rfl _ _ gb235 66 #[.int .u64 (IntKind.u64.wrap (a0_0 + a1_0)), .int .u64 (IntKind.u64.wrap (a0_1 + a1_1))] (0, 0) _ rfl (by (with_reducible repeat (first | refine blk_drewN ?_ _ | refine blk_drew ?_ | refine blk_alloc ?_ _)); refine blk_put (cs := #[.int .u64 (IntKind.u64.wrap (a0_0 + a1_0)), .int .u64 0]) ?_ 1 _ rfl; (with_reducible repeat (first | refine blk_drewN ?_ _ | refine blk_drew ?_ | refine blk_alloc ?_ _)); refine blk_put (cs := #[.int .u64 0, .int .u64 0]) ?_ 0 _ rfl; (with_reducible repeat (first | refine blk_drewN ?_ _ | refine blk_drew ?_ | refine blk_alloc ?_ _)); exact BK235.out) Try.underlying66 rfl (by kernel_rfl)) rfl ?_
    exact ⟨by first | rfl | (simp [errW_none, errW_some] <;> rfl) | (simp [*, errW_none, errW_some] <;> rfl) | (simp (disch := first | assumption | omega) only [Int.tdiv_eq_ediv_of_nonneg, Int.tmod_eq_emod_of_nonneg]; rfl), by repeat (first | (with_reducible first | exact HB.out | apply below_alloc | apply pw_below_drewN | apply below_drew1 | refine below_set ?_ GE233.out | refine below_set ?_ GE234.out | refine below_set ?_ GE235.out) | exact HB.out)⟩

end Go.Proofs.Ytpmdlhncfggjkaa.PX
end
