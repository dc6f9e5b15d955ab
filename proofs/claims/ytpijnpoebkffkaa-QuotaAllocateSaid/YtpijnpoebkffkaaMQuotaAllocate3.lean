/- Texts of this session joined by a small program: plain Lean functions with the answers of Go functions of this seat, proofs that the machine's calls come to them, and plain laws over them that the claim QuotaAllocate uses. -/
import Derived.Test.YtpijnpoebkffkaaProg
import Derived.RegionTactic
import Derived.Maps.Own
import Derived.Maps.OwnOps
import Derived.Maps.OwnSet
import Derived.Laws.Externs
import Derived.WalkLawsBesides
import Derived.Deep.RegionLaw
import Derived.IntWalk
import Derived.Below
import Derived.Deep.Draws
import Derived.Deep.AppendLies
import Derived.Maps.AppendAt
import Derived.OwnWalk
import Derived.Laws.BytesArg
import Derived.Laws.MakeOwn
import Derived.Laws.OwnMore
import Derived.Deep.OwnRows
import Derived.Tactics
import Derived.Lib.ConvBytes
import Derived.Laws.Slices
import Derived.WalkKit
import Derived.KernelRfl
import Derived.RowKit3
import Derived.Deep.LoopGhost
import Derived.Deep.QuietTactic
import Derived.BigQuiet
import Derived.WideLaws
import Derived.Deep.DeepCutAuto
import Derived.Deep.CutBlock
import Derived.Deep.RegionHeld3
import Derived.Laws.Rows
import Derived.Lib.AppendStr
import Derived.ArgAppend
import Derived.Laws.IdiomCopy
import Derived.OrdersHeld
import Derived.Laws.BitsLemmas
import Derived.RowKit
import Derived.Test.YtpijnpoebkffkaaWWords
import Derived.Test.YtpijnpoebkffkaaWLast
import Derived.Test.YtpijnpoebkffkaaWTab
import Derived.Test.YtpijnpoebkffkaaWFour
import Derived.Test.YtpijnpoebkffkaaWQPut
import Derived.Test.YtpijnpoebkffkaaWApart
import Derived.Test.YtpijnpoebkffkaaWArr
import Derived.Test.YtpijnpoebkffkaaWZeros
import Derived.Test.YtpijnpoebkffkaaWFoot
import Derived.Test.YtpijnpoebkffkaaWKept
import Derived.Test.YtpijnpoebkffkaaWShare
import Derived.Test.YtpijnpoebkffkaaWN
import Derived.Test.YtpijnpoebkffkaaWFootNe
import Derived.Test.YtpijnpoebkffkaaWAt
import Derived.Test.YtpijnpoebkffkaaWEqStruct
import Derived.Test.YtpijnpoebkffkaaWRepsOne
import Derived.Test.YtpijnpoebkffkaaWInv
import Derived.Test.YtpijnpoebkffkaaWInvWords
import Derived.Test.YtpijnpoebkffkaaWGuard
import Derived.Test.YtpijnpoebkffkaaWNEv
import Derived.Test.YtpijnpoebkffkaaWMore
import Derived.Laws.Bits64
import Derived.Deep.Slices
import Derived.SizedLaws
import Derived.ChangeArms
import Derived.Test.YtpijnpoebkffkaaMQuotaAllocate2
section
namespace Go.Proofs.Ytpijnpoebkffkaa.PX
open Go.RowKit Go.Proofs.YtpijnpoebkffkaaW.PrintWords Go.Proofs.YtpijnpoebkffkaaW.PrintLast Go.Proofs.YtpijnpoebkffkaaW.PrintMore
attribute [local go_sem] max2_int min2_int max_two min_two max_three min_three max_four min_four   -- for this text's walks alone
set_option linter.unusedVariables false
set_option linter.unusedSimpArgs false

/-! ### customslaw21_awake: function 10 -/
def customslaw21_awake.f (k : Nat)  : Option (Bool) := (quota_Allocate.f k 10 (([(⟨1, 4⟩ : S37), (⟨2, 16⟩ : S37)] : List (S37)))).bind fun bt162 => (if bt162.2.2 = 0 then (if bt162.2.1 = 0 then ((customsref21_SameGrants.f k bt162.1 (([(⟨1, 2⟩ : S38), (⟨2, 8⟩ : S38)] : List (S38)))).bind fun t170 => (if t170 = true then ((quota_Critical.f 100 10 900000).bind fun t171 => (some t171)) else (some false))) else (some false)) else (some false))
set_option maxHeartbeats 8000000 in
set_option maxRecDepth 100000 in
theorem customslaw21_awake.calls (k : Nat)  (r : Bool) (w : World) (h : customslaw21_awake.f k  = some r) :
    Calls Try.prog 10 #[] w fun e w' => e = .returned (.bool r) ∧ Below w.heap.size w w' := by
  have hu37 := Try.underlying37
  have hu38 := Try.underlying38
  have HB := Aside0.mk (Below.refl w.heap.size w)
  have H : ((quota_Allocate.f k 10 (([(⟨1, 4⟩ : S37), (⟨2, 16⟩ : S37)] : List (S37)))).bind fun bt162 => (if bt162.2.2 = 0 then (if bt162.2.1 = 0 then ((customsref21_SameGrants.f k bt162.1 (([(⟨1, 2⟩ : S38), (⟨2, 8⟩ : S38)] : List (S38)))).bind fun t170 => (if t170 = true then ((quota_Critical.f 100 10 900000).bind fun t171 => (some t171)) else (some false))) else (some false)) else (some false))) = some r := h
  clear h
  obtain ⟨y159, hy159⟩ : ∃ y_ : List (S37), y_ = (([(⟨1, 4⟩ : S37), (⟨2, 16⟩ : S37)] : List (S37))) := ⟨_, rfl⟩
  replace H : ((quota_Allocate.f k 10 y159).bind fun bt162 => (if bt162.2.2 = 0 then (if bt162.2.1 = 0 then ((customsref21_SameGrants.f k bt162.1 (([(⟨1, 2⟩ : S38), (⟨2, 8⟩ : S38)] : List (S38)))).bind fun t170 => (if t170 = true then ((quota_Critical.f 100 10 900000).bind fun t171 => (some t171)) else (some false))) else (some false)) else (some false))) = some r := by first | (rw [hy159]; with_reducible exact H) | (have H2_ := (Option.bind_some _ _).symm.trans H; rw [hy159]; with_reducible exact H2_) | (have H2_ := (Option.bind_some _ _).symm.trans H; with_reducible exact H2_) | with_reducible exact H | (rw [hy159]; exact H) | exact H
  have Ny159 := Aside0.mk hy159
  clear hy159
  replace H := Option.bind_eq_some_iff.mp H
  obtain ⟨⟨t162, t163, t164⟩, A10, H⟩ := H
  replace H : (if t164 = 0 then (if t163 = 0 then ((customsref21_SameGrants.f k t162 (([(⟨1, 2⟩ : S38), (⟨2, 8⟩ : S38)] : List (S38)))).bind fun t170 => (if t170 = true then ((quota_Critical.f 100 10 900000).bind fun t171 => (some t171)) else (some false))) else (some false)) else (some false)) = some r := H
  have A1 := Aside0.mk A10
  clear A10
  by_cases c2 : t164 = 0
  · rw [if_pos c2] at H
    have c2b0 : (t164 == 0) = true := beq_iff_eq.mpr c2
    have c2b1 : (t164 != 0) = false := bne_eq_false_iff_eq.mpr c2
    clear c2
    by_cases c3 : t163 = 0
    · rw [if_pos c3] at H
      have c3b0 : (t163 == 0) = true := beq_iff_eq.mpr c3
      have c3b1 : (t163 != 0) = false := bne_eq_false_iff_eq.mpr c3
      clear c3
      obtain ⟨y167, hy167⟩ : ∃ y_ : List (S38), y_ = (([(⟨1, 2⟩ : S38), (⟨2, 8⟩ : S38)] : List (S38))) := ⟨_, rfl⟩
      replace H : ((customsref21_SameGrants.f k t162 y167).bind fun t170 => (if t170 = true then ((quota_Critical.f 100 10 900000).bind fun t171 => (some t171)) else (some false))) = some r := by first | (rw [hy167]; with_reducible exact H) | (have H2_ := (Option.bind_some _ _).symm.trans H; rw [hy167]; with_reducible exact H2_) | (have H2_ := (Option.bind_some _ _).symm.trans H; with_reducible exact H2_) | with_reducible exact H | (rw [hy167]; exact H) | exact H
      have Ny167 := Aside0.mk hy167
      clear hy167
      replace H := Option.bind_eq_some_iff.mp H
      obtain ⟨t170, A40, H⟩ := H
      replace H : (if t170 = true then ((quota_Critical.f 100 10 900000).bind fun t171 => (some t171)) else (some false)) = some r := H
      have A4 := Aside0.mk A40
      clear A40
      by_cases c5 : t170 = true
      · subst c5
        have H1 : ((quota_Critical.f 100 10 900000).bind fun t171 => (some t171)) = some r := by rw [if_pos rfl] at H; exact H
        clear H
        have H := H1
        clear H1
        replace H := Option.bind_eq_some_iff.mp H
        obtain ⟨t171, A60, H⟩ := H
        replace H : (some t171) = some r := H
        have A6 := Aside0.mk A60
        clear A60
        obtain rfl := Option.some.inj H
        go_enter Try.func10, Try.ntmps10
        go_wp2_with (first | ((with_reducible refine gate_dst (N := 7) rfl ?_); (try (refine gate_guard (by rfl) ?_; dsimp only)); refine Kd.R_lit k37 _ 37 ?hg (N := 7) ?hd (xs := ([(⟨1, 4⟩ : S37), (⟨2, 16⟩ : S37)] : List (S37))) (inner := [.int .i64 1, .int .i64 4, .int .i64 2, .int .i64 16]) (ok := fun _ => True) (okp := fun _ => True) ?hr ?hp (fun _ hk => hk) trivial (Below.refl _ _) (Nat.le_refl _) (by simp) ?_; (case hd => rfl); (case hg => rfl); (case hr => first | (go_simp; done) | (go_simp; rfl)); (case hp => exact (Reps.c2 (show Kd.M k37 _ _ _ (⟨1, 4⟩ : S37) [.int .i64 1, .int .i64 4] from (k37_mkM _ _ _ (⟨1, 4⟩ : S37) )) (Reps.c2 (show Kd.M k37 _ _ _ (⟨2, 16⟩ : S37) [.int .i64 2, .int .i64 16] from (k37_mkM _ _ _ (⟨2, 16⟩ : S37) )) (Reps.none _ _)))); intro v160 w7 ho8 hb hg_ hnew_; clear hg_ hnew_; (first | rw [← Ny159.out] at ho8 | (simp only [Int.reduceToNat] at ho8; rw [← Ny159.out] at ho8)); have n0_ := Aside0.mk (Kd.R_lower ho8 (below_size (by repeat (first | (with_reducible first | exact HB.out | apply below_alloc | apply pw_below_drewN | apply below_drew1) | exact HB.out)))); have n1_ := Aside0.mk (below_step (by repeat (first | (with_reducible first | exact HB.out | apply below_alloc | apply pw_below_drewN | apply below_drew1) | exact HB.out)) hb); clear HB; have HO161 := n0_; have HB := n1_; clear n0_ n1_; clear hb ho8; obtain ⟨Ao9, co9, eo9⟩ := Kd.R_slice HO161.out; subst eo9) | ((with_reducible refine gate_callee (f := 13) rfl ?_); refine goesL_ (some 8) rfl rfl Try.func13 (by kernel_rfl) rfl #[.int .i64 10, .slice Ao9 y159.length co9] rfl (by (try simp only [List.map_toArray, List.map_cons, List.map_nil]); first | done | rfl | (simp only [List.length_drop, List.length_take]; rfl)) ?_; (with_reducible refine (quota_Allocate.calls k 10 _ _ y159 t162 t163 t164 _ ?side1 ?side2 A1.out).mono ?_); (case side1 => repeat (first | exact (Kd.R_reads' HO161.out).2.2 | (with_reducible refine Kd.C_alloc ?_ _) | (with_reducible refine Kd.C_drewN ?_ _) | (with_reducible refine Kd.C_drew ?_))); (case side2 => exact (Kd.R_reads' HO161.out).2.1); rintro e w10 ⟨v165, rfl, ho0, hb⟩; refine ⟨_, rfl, ?_⟩; have n0_ := Aside0.mk (Kd.R_below (by (with_reducible repeat (first | apply Kd.R_alloc | apply Kd.R_drewN | apply Kd.R_drew)); exact HO161.out) hb); have n1_ := Aside0.mk (Kd.R_lower ho0 (below_size (by repeat (first | (with_reducible first | exact HB.out | apply below_alloc | apply pw_below_drewN | apply below_drew1) | exact HB.out)))); have n2_ := Aside0.mk (below_step (by repeat (first | (with_reducible first | exact HB.out | apply below_alloc | apply pw_below_drewN | apply below_drew1) | exact HB.out)) hb); clear HO161; clear HB; have HO161 := n0_; have HO166 := n1_; have HB := n2_; clear n0_ n1_ n2_; (try clear hb); (try clear hb2); (try clear hk); (try clear hi); (try clear ho0)) | ((with_reducible refine gate_dst (N := 22) rfl ?_); (try (refine gate_guard (by rfl) ?_; dsimp only)); refine Kd.R_lit k38 _ 38 ?hg (N := 22) ?hd (xs := ([(⟨1, 2⟩ : S38), (⟨2, 8⟩ : S38)] : List (S38))) (inner := [.int .i64 1, .int .i64 2, .int .i64 2, .int .i64 8]) (ok := fun _ => True) (okp := fun _ => True) ?hr ?hp (fun _ hk => hk) trivial (Below.refl _ _) (Nat.le_refl _) (by simp) ?_; (case hd => rfl); (case hg => rfl); (case hr => first | (go_simp; done) | (go_simp; rfl)); (case hp => exact (Reps.c2 (show Kd.M k38 _ _ _ (⟨1, 2⟩ : S38) [.int .i64 1, .int .i64 2] from (k38_mkM _ _ _ (⟨1, 2⟩ : S38) )) (Reps.c2 (show Kd.M k38 _ _ _ (⟨2, 8⟩ : S38) [.int .i64 2, .int .i64 8] from (k38_mkM _ _ _ (⟨2, 8⟩ : S38) )) (Reps.none _ _)))); intro v168 w11 ho12 hb hg_ hnew_; clear hg_ hnew_; (first | rw [← Ny167.out] at ho12 | (simp only [Int.reduceToNat] at ho12; rw [← Ny167.out] at ho12)); have n0_ := Aside0.mk (Kd.R_below (by (with_reducible repeat (first | apply Kd.R_alloc | apply Kd.R_drewN | apply Kd.R_drew)); exact HO161.out) hb); have n1_ := Aside0.mk (Kd.R_elder' (by (with_reducible repeat (first | apply Kd.R_alloc | apply Kd.R_drewN | apply Kd.R_drew)); exact HO166.out) (Kd.R_base ho12) hb); have n2_ := Aside0.mk (Kd.R_lower (Kd.R_new' ho12 (Kd.R_lt (by (with_reducible repeat (first | apply Kd.R_alloc | apply Kd.R_drewN | apply Kd.R_drew)); exact HO166.out))) (below_size (by repeat (first | (with_reducible first | exact HB.out | apply below_alloc | apply pw_below_drewN | apply below_drew1) | exact HB.out)))); have n3_ := Aside0.mk (below_step (by repeat (first | (with_reducible first | exact HB.out | apply below_alloc | apply pw_below_drewN | apply below_drew1) | exact HB.out)) hb); clear HO161; clear HO166; clear HB; have HO161 := n0_; have HO166 := n1_; have HO169 := n2_; have HB := n3_; clear n0_ n1_ n2_ n3_; clear hb ho12; obtain ⟨Ao13, co13, eo13⟩ := Kd.R_slice HO166.out; subst eo13; obtain ⟨Ao14, co14, eo14⟩ := Kd.R_slice HO169.out; subst eo14) | (go_at_call 15; (with_reducible refine (customsref21_SameGrants.calls k _ _ t162 _ _ y167 true _ ?side1 ?side2 ?side3 ?side4 A4.out).mono ?_); (case side1 => repeat (first | exact (Kd.R_reads' HO166.out).2.2 | (with_reducible refine Kd.C_alloc ?_ _) | (with_reducible refine Kd.C_drewN ?_ _) | (with_reducible refine Kd.C_drew ?_))); (case side2 => exact (Kd.R_reads' HO166.out).2.1); (case side3 => repeat (first | exact (Kd.R_reads' HO169.out).2.2 | (with_reducible refine Kd.C_alloc ?_ _) | (with_reducible refine Kd.C_drewN ?_ _) | (with_reducible refine Kd.C_drew ?_))); (case side4 => exact (Kd.R_reads' HO169.out).2.1); rintro e w' ⟨rfl, ⟨nd, rfl⟩⟩) | (go_at_call 18; (with_reducible refine (quota_Critical.calls 100 10 900000 t171 _ A6.out).mono ?_); rintro e w' ⟨rfl, ⟨nd, rfl⟩⟩))
        go_ret
        exact ⟨by first | rfl | (simp [errW_none, errW_some] <;> rfl) | (simp [*, errW_none, errW_some] <;> rfl) | (simp (disch := first | assumption | omega) only [Int.tdiv_eq_ediv_of_nonneg, Int.tmod_eq_emod_of_nonneg]; rfl), by repeat (first | (with_reducible first | exact HB.out | apply below_alloc | apply pw_below_drewN | apply below_drew1) | exact HB.out)⟩
      · replace c5 := Bool.eq_false_iff.mpr c5
        subst c5
        have H1 : (some false) = some r := by rw [if_neg (show ¬ (false = true) by decide)] at H; exact H
        clear H
        have H := H1
        clear H1
        obtain rfl := Option.some.inj H
        go_enter Try.func10, Try.ntmps10
        go_wp2_with (first | ((with_reducible refine gate_dst (N := 7) rfl ?_); (try (refine gate_guard (by rfl) ?_; dsimp only)); refine Kd.R_lit k37 _ 37 ?hg (N := 7) ?hd (xs := ([(⟨1, 4⟩ : S37), (⟨2, 16⟩ : S37)] : List (S37))) (inner := [.int .i64 1, .int .i64 4, .int .i64 2, .int .i64 16]) (ok := fun _ => True) (okp := fun _ => True) ?hr ?hp (fun _ hk => hk) trivial (Below.refl _ _) (Nat.le_refl _) (by simp) ?_; (case hd => rfl); (case hg => rfl); (case hr => first | (go_simp; done) | (go_simp; rfl)); (case hp => exact (Reps.c2 (show Kd.M k37 _ _ _ (⟨1, 4⟩ : S37) [.int .i64 1, .int .i64 4] from (k37_mkM _ _ _ (⟨1, 4⟩ : S37) )) (Reps.c2 (show Kd.M k37 _ _ _ (⟨2, 16⟩ : S37) [.int .i64 2, .int .i64 16] from (k37_mkM _ _ _ (⟨2, 16⟩ : S37) )) (Reps.none _ _)))); intro v160 w15 ho16 hb hg_ hnew_; clear hg_ hnew_; (first | rw [← Ny159.out] at ho16 | (simp only [Int.reduceToNat] at ho16; rw [← Ny159.out] at ho16)); have n0_ := Aside0.mk (Kd.R_lower ho16 (below_size (by repeat (first | (with_reducible first | exact HB.out | apply below_alloc | apply pw_below_drewN | apply below_drew1) | exact HB.out)))); have n1_ := Aside0.mk (below_step (by repeat (first | (with_reducible first | exact HB.out | apply below_alloc | apply pw_below_drewN | apply below_drew1) | exact HB.out)) hb); clear HB; have HO161 := n0_; have HB := n1_; clear n0_ n1_; clear hb ho16; obtain ⟨Ao17, co17, eo17⟩ := Kd.R_slice HO161.out; subst eo17) | ((with_reducible refine gate_callee (f := 13) rfl ?_); refine goesL_ (some 8) rfl rfl Try.func13 (by kernel_rfl) rfl #[.int .i64 10, .slice Ao17 y159.length co17] rfl (by (try simp only [List.map_toArray, List.map_cons, List.map_nil]); first | done | rfl | (simp only [List.length_drop, List.length_take]; rfl)) ?_; (with_reducible refine (quota_Allocate.calls k 10 _ _ y159 t162 t163 t164 _ ?side1 ?side2 A1.out).mono ?_); (case side1 => repeat (first | exact (Kd.R_reads' HO161.out).2.2 | (with_reducible refine Kd.C_alloc ?_ _) | (with_reducible refine Kd.C_drewN ?_ _) | (with_reducible refine Kd.C_drew ?_))); (case side2 => exact (Kd.R_reads' HO161.out).2.1); rintro e w18 ⟨v165, rfl, ho0, hb⟩; refine ⟨_, rfl, ?_⟩; have n0_ := Aside0.mk (Kd.R_below (by (with_reducible repeat (first | apply Kd.R_alloc | apply Kd.R_drewN | apply Kd.R_drew)); exact HO161.out) hb); have n1_ := Aside0.mk (Kd.R_lower ho0 (below_size (by repeat (first | (with_reducible first | exact HB.out | apply below_alloc | apply pw_below_drewN | apply below_drew1) | exact HB.out)))); have n2_ := Aside0.mk (below_step (by repeat (first | (with_reducible first | exact HB.out | apply below_alloc | apply pw_below_drewN | apply below_drew1) | exact HB.out)) hb); clear HO161; clear HB; have HO161 := n0_; have HO166 := n1_; have HB := n2_; clear n0_ n1_ n2_; (try clear hb); (try clear hb2); (try clear hk); (try clear hi); (try clear ho0)) | ((with_reducible refine gate_dst (N := 22) rfl ?_); (try (refine gate_guard (by rfl) ?_; dsimp only)); refine Kd.R_lit k38 _ 38 ?hg (N := 22) ?hd (xs := ([(⟨1, 2⟩ : S38), (⟨2, 8⟩ : S38)] : List (S38))) (inner := [.int .i64 1, .int .i64 2, .int .i64 2, .int .i64 8]) (ok := fun _ => True) (okp := fun _ => True) ?hr ?hp (fun _ hk => hk) trivial (Below.refl _ _) (Nat.le_refl _) (by simp) ?_; (case hd => rfl); (case hg => rfl); (case hr => first | (go_simp; done) | (go_simp; rfl)); (case hp => exact (Reps.c2 (show Kd.M k38 _ _ _ (⟨1, 2⟩ : S38) [.int .i64 1, .int .i64 2] from (k38_mkM _ _ _ (⟨1, 2⟩ : S38) )) (Reps.c2 (show Kd.M k38 _ _ _ (⟨2, 8⟩ : S38) [.int .i64 2, .int .i64 8] from (k38_mkM _ _ _ (⟨2, 8⟩ : S38) )) (Reps.none _ _)))); intro v168 w19 ho20 hb hg_ hnew_; clear hg_ hnew_; (first | rw [← Ny167.out] at ho20 | (simp only [Int.reduceToNat] at ho20; rw [← Ny167.out] at ho20)); have n0_ := Aside0.mk (Kd.R_below (by (with_reducible repeat (first | apply Kd.R_alloc | apply Kd.R_drewN | apply Kd.R_drew)); exact HO161.out) hb); have n1_ := Aside0.mk (Kd.R_elder' (by (with_reducible repeat (first | apply Kd.R_alloc | apply Kd.R_drewN | apply Kd.R_drew)); exact HO166.out) (Kd.R_base ho20) hb); have n2_ := Aside0.mk (Kd.R_lower (Kd.R_new' ho20 (Kd.R_lt (by (with_reducible repeat (first | apply Kd.R_alloc | apply Kd.R_drewN | apply Kd.R_drew)); exact HO166.out))) (below_size (by repeat (first | (with_reducible first | exact HB.out | apply below_alloc | apply pw_below_drewN | apply below_drew1) | exact HB.out)))); have n3_ := Aside0.mk (below_step (by repeat (first | (with_reducible first | exact HB.out | apply below_alloc | apply pw_below_drewN | apply below_drew1) | exact HB.out)) hb); clear HO161; clear HO166; clear HB; have HO161 := n0_; have HO166 := n1_; have HO169 := n2_; have HB := n3_; clear n0_ n1_ n2_ n3_; clear hb ho20; obtain ⟨Ao21, co21, eo21⟩ := Kd.R_slice HO166.out; subst eo21; obtain ⟨Ao22, co22, eo22⟩ := Kd.R_slice HO169.out; subst eo22) | (go_at_call 15; (with_reducible refine (customsref21_SameGrants.calls k _ _ t162 _ _ y167 false _ ?side1 ?side2 ?side3 ?side4 A4.out).mono ?_); (case side1 => repeat (first | exact (Kd.R_reads' HO166.out).2.2 | (with_reducible refine Kd.C_alloc ?_ _) | (with_reducible refine Kd.C_drewN ?_ _) | (with_reducible refine Kd.C_drew ?_))); (case side2 => exact (Kd.R_reads' HO166.out).2.1); (case side3 => repeat (first | exact (Kd.R_reads' HO169.out).2.2 | (with_reducible refine Kd.C_alloc ?_ _) | (with_reducible refine Kd.C_drewN ?_ _) | (with_reducible refine Kd.C_drew ?_))); (case side4 => exact (Kd.R_reads' HO169.out).2.1); rintro e w' ⟨rfl, ⟨nd, rfl⟩⟩))
        go_ret
        exact ⟨by first | rfl | (simp [errW_none, errW_some] <;> rfl) | (simp [*, errW_none, errW_some] <;> rfl) | (simp (disch := first | assumption | omega) only [Int.tdiv_eq_ediv_of_nonneg, Int.tmod_eq_emod_of_nonneg]; rfl), by repeat (first | (with_reducible first | exact HB.out | apply below_alloc | apply pw_below_drewN | apply below_drew1) | exact HB.out)⟩
    · rw [if_neg c3] at H
      have c3b0 : (t163 == 0) = false := beq_eq_false_iff_ne.mpr c3
      have c3b1 : (t163 != 0) = true := bne_iff_ne.mpr c3
      obtain rfl := Option.some.inj H
      go_enter Try.func10, Try.ntmps10
      go_wp2_with (first | ((with_reducible refine gate_dst (N := 7) rfl ?_); (try (refine gate_guard (by rfl) ?_; dsimp only)); refine Kd.R_lit k37 _ 37 ?hg (N := 7) ?hd (xs := ([(⟨1, 4⟩ : S37), (⟨2, 16⟩ : S37)] : List (S37))) (inner := [.int .i64 1, .int .i64 4, .int .i64 2, .int .i64 16]) (ok := fun _ => True) (okp := fun _ => True) ?hr ?hp (fun _ hk => hk) trivial (Below.refl _ _) (Nat.le_refl _) (by simp) ?_; (case hd => rfl); (case hg => rfl); (case hr => first | (go_simp; done) | (go_simp; rfl)); (case hp => exact (Reps.c2 (show Kd.M k37 _ _ _ (⟨1, 4⟩ : S37) [.int .i64 1, .int .i64 4] from (k37_mkM _ _ _ (⟨1, 4⟩ : S37) )) (Reps.c2 (show Kd.M k37 _ _ _ (⟨2, 16⟩ : S37) [.int .i64 2, .int .i64 16] from (k37_mkM _ _ _ (⟨2, 16⟩ : S37) )) (Reps.none _ _)))); intro v160 w23 ho24 hb hg_ hnew_; clear hg_ hnew_; (first | rw [← Ny159.out] at ho24 | (simp only [Int.reduceToNat] at ho24; rw [← Ny159.out] at ho24)); have n0_ := Aside0.mk (Kd.R_lower ho24 (below_size (by repeat (first | (with_reducible first | exact HB.out | apply below_alloc | apply pw_below_drewN | apply below_drew1) | exact HB.out)))); have n1_ := Aside0.mk (below_step (by repeat (first | (with_reducible first | exact HB.out | apply below_alloc | apply pw_below_drewN | apply below_drew1) | exact HB.out)) hb); clear HB; have HO161 := n0_; have HB := n1_; clear n0_ n1_; clear hb ho24; obtain ⟨Ao25, co25, eo25⟩ := Kd.R_slice HO161.out; subst eo25) | ((with_reducible refine gate_callee (f := 13) rfl ?_); refine goesL_ (some 8) rfl rfl Try.func13 (by kernel_rfl) rfl #[.int .i64 10, .slice Ao25 y159.length co25] rfl (by (try simp only [List.map_toArray, List.map_cons, List.map_nil]); first | done | rfl | (simp only [List.length_drop, List.length_take]; rfl)) ?_; (with_reducible refine (quota_Allocate.calls k 10 _ _ y159 t162 t163 t164 _ ?side1 ?side2 A1.out).mono ?_); (case side1 => repeat (first | exact (Kd.R_reads' HO161.out).2.2 | (with_reducible refine Kd.C_alloc ?_ _) | (with_reducible refine Kd.C_drewN ?_ _) | (with_reducible refine Kd.C_drew ?_))); (case side2 => exact (Kd.R_reads' HO161.out).2.1); rintro e w26 ⟨v165, rfl, ho0, hb⟩; refine ⟨_, rfl, ?_⟩; have n0_ := Aside0.mk (Kd.R_below (by (with_reducible repeat (first | apply Kd.R_alloc | apply Kd.R_drewN | apply Kd.R_drew)); exact HO161.out) hb); have n1_ := Aside0.mk (Kd.R_lower ho0 (below_size (by repeat (first | (with_reducible first | exact HB.out | apply below_alloc | apply pw_below_drewN | apply below_drew1) | exact HB.out)))); have n2_ := Aside0.mk (below_step (by repeat (first | (with_reducible first | exact HB.out | apply below_alloc | apply pw_below_drewN | apply below_drew1) | exact HB.out)) hb); clear HO161; clear HB; have HO161 := n0_; have HO166 := n1_; have HB := n2_; clear n0_ n1_ n2_; (try clear hb); (try clear hb2); (try clear hk); (try clear hi); (try clear ho0)))
      go_ret
      exact ⟨by first | rfl | (simp [errW_none, errW_some] <;> rfl) | (simp [*, errW_none, errW_some] <;> rfl) | (simp (disch := first | assumption | omega) only [Int.tdiv_eq_ediv_of_nonneg, Int.tmod_eq_emod_of_nonneg]; rfl), by repeat (first | (with_reducible first | exact HB.out | apply below_alloc | apply pw_below_drewN | apply below_drew1) | exact HB.out)⟩
  · rw [if_neg c2] at H
    have c2b0 : (t164 == 0) = false := beq_eq_false_iff_ne.mpr c2
    have c2b1 : (t164 != 0) = true := bne_iff_ne.mpr c2
    obtain rfl := Option.some.inj H
    go_enter Try.func10, Try.ntmps10
    go_wp2_with (first | ((with_reducible refine gate_dst (N := 7) rfl ?_); (try (refine gate_guard (by rfl) ?_; dsimp only)); refine Kd.R_lit k37 _ 37 ?hg (N := 7) ?hd (xs := ([(⟨1, 4⟩ : S37), (⟨2, 16⟩ : S37)] : List (S37))) (inner := [.int .i64 1, .int .i64 4, .int .i64 2, .int .i64 16]) (ok := fun _ => True) (okp := fun _ => True) ?hr ?hp (fun _ hk => hk) trivial (Below.refl _ _) (Nat.le_refl _) (by simp) ?_; (case hd => rfl); (case hg => rfl); (case hr => first | (go_simp; done) | (go_simp; rfl)); (case hp => exact (Reps.c2 (show Kd.M k37 _ _ _ (⟨1, 4⟩ : S37) [.int .i64 1, .int .i64 4] from (k37_mkM _ _ _ (⟨1, 4⟩ : S37) )) (Reps.c2 (show Kd.M k37 _ _ _ (⟨2, 16⟩ : S37) [.int .i64 2, .int .i64 16] from (k37_mkM _ _ _ (⟨2, 16⟩ : S37) )) (Reps.none _ _)))); intro v160 w27 ho28 hb hg_ hnew_; clear hg_ hnew_; (first | rw [← Ny159.out] at ho28 | (simp only [Int.reduceToNat] at ho28; rw [← Ny159.out] at ho28)); have n0_ := Aside0.mk (Kd.R_lower ho28 (below_size (by repeat (first | (with_reducible first | exact HB.out | apply below_alloc | apply pw_below_drewN | apply below_drew1) | exact HB.out)))); have n1_ := Aside0.mk (below_step (by repeat (first | (with_reducible first | exact HB.out | apply below_alloc | apply pw_below_drewN | apply below_drew1) | exact HB.out)) hb); clear HB; have HO161 := n0_; have HB := n1_; clear n0_ n1_; clear hb ho28; obtain ⟨Ao29, co29, eo29⟩ := Kd.R_slice HO161.out; subst eo29) | ((with_reducible refine gate_callee (f := 13) rfl ?_); refine goesL_ (some 8) rfl rfl Try.func13 (by kernel_rfl) rfl #[.int .i64 10, .slice Ao29 y159.length co29] rfl (by (try simp only [List.map_toArray, List.map_cons, List.map_nil]); first | done | rfl | (simp only [List.length_drop, List.length_take]; rfl)) ?_; (with_reducible refine (quota_Allocate.calls k 10 _ _ y159 t162 t163 t164 _ ?side1 ?side2 A1.out).mono ?_); (case side1 => repeat (first | exact (Kd.R_reads' HO161.out).2.2 | (with_reducible refine Kd.C_alloc ?_ _) | (with_reducible refine Kd.C_drewN ?_ _) | (with_reducible refine Kd.C_drew ?_))); (case side2 => exact (Kd.R_reads' HO161.out).2.1); rintro e w30 ⟨v165, rfl, ho0, hb⟩; refine ⟨_, rfl, ?_⟩; have n0_ := Aside0.mk (Kd.R_below (by (with_reducible repeat (first | apply Kd.R_alloc | apply Kd.R_drewN | apply Kd.R_drew)); exact HO161.out) hb); have n1_ := Aside0.mk (Kd.R_lower ho0 (below_size (by repeat (first | (with_reducible first | exact HB.out | apply below_alloc | apply pw_below_drewN | apply below_drew1) | exact HB.out)))); have n2_ := Aside0.mk (below_step (by repeat (first | (with_reducible first | exact HB.out | apply below_alloc | apply pw_below_drewN | apply below_drew1) | exact HB.out)) hb); clear HO161; clear HB; have HO161 := n0_; have HO166 := n1_; have HB := n2_; clear n0_ n1_ n2_; (try clear hb); (try clear hb2); (try clear hk); (try clear hi); (try clear ho0)))
    go_ret
    exact ⟨by first | rfl | (simp [errW_none, errW_some] <;> rfl) | (simp [*, errW_none, errW_some] <;> rfl) | (simp (disch := first | assumption | omega) only [Int.tdiv_eq_ediv_of_nonneg, Int.tmod_eq_emod_of_nonneg]; rfl), by repeat (first | (with_reducible first | exact HB.out | apply below_alloc | apply pw_below_drewN | apply below_drew1) | exact HB.out)⟩

end Go.Proofs.Ytpijnpoebkffkaa.PX
end
section
namespace Go.Proofs.Ytpijnpoebkffkaa.PX
open Go.RowKit Go.Proofs.YtpijnpoebkffkaaW.PrintWords Go.Proofs.YtpijnpoebkffkaaW.PrintLast Go.Proofs.YtpijnpoebkffkaaW.PrintMore
attribute [local go_sem] max2_int min2_int max_two min_two max_three min_three max_four min_four   -- for this text's walks alone
set_option linter.unusedVariables false
set_option linter.unusedSimpArgs false

/-- A state of type 45 at block g of W; what its slices lead to came in by w0. -/
def IsS45 (w0 W : World) (g : Nat) (f0 : List Int) (f1 : Int) : Prop := ∃ A0 c0, W.heap[g]? = some (.cells #[.slice A0 f0.length c0, .int .i64 f1] 45 (0, 0)) ∧ w0.heap.size ≤ g ∧ Kd.C (Kd.int .i64) w0 A0 f0.length f0
theorem IsS45.grown {w0 W : World} {g : Nat} {f0 : List Int} {f1 : Int} {W1 : World} {row : Option Nat} (h : IsS45 w0 W g f0 f1) (hw : W.grownBy W1 row) (hne : some g ≠ row) : IsS45 w0 W1 g f0 f1 := by
  obtain ⟨A0, c0, hb, hg, hr0⟩ := h
  exact ⟨A0, c0, blk_grown hb hw hne, hg, hr0⟩
theorem IsS45.below {w0 W : World} {g : Nat} {f0 : List Int} {f1 : Int} {W1 : World} (h : IsS45 w0 W g f0 f1) (hw : Below W.heap.size W W1) : IsS45 w0 W1 g f0 f1 := h.grown (grown_of_below hw none) (by simp)
theorem IsS45.alloc {w0 W : World} {g : Nat} {f0 : List Int} {f1 : Int} (h : IsS45 w0 W g f0 f1) (o : Obj) : IsS45 w0 (W.alloc o) g f0 f1 := h.below (below_alloc (Below.refl _ _) o)
theorem IsS45.drewN {w0 W : World} {g : Nat} {f0 : List Int} {f1 : Int} (h : IsS45 w0 W g f0 f1) (m : Nat) : IsS45 w0 (W.drewN m) g f0 f1 := h
theorem IsS45.drew {w0 W : World} {g : Nat} {f0 : List Int} {f1 : Int} (h : IsS45 w0 W g f0 f1) : IsS45 w0 W.drew g f0 f1 := h
theorem IsS45.own_ne {w0 W : World} {g : Nat} {f0 : List Int} {f1 : Int} {α : Type} {d : Kd α} {e : Nat} {base : Nat} {ok : Nat → Prop} {v : Value} {xs : List α} (h : IsS45 w0 W g f0 f1) (ho : d.R e W base ok v xs) (ht : e ≠ 45) : some g ≠ v.ownBlock := by
  obtain ⟨A0, c0, hb, hg, hr0⟩ := h
  exact Kd.R_ne ho hb ht
theorem IsS45.lt {w0 W : World} {g : Nat} {f0 : List Int} {f1 : Int} (h : IsS45 w0 W g f0 f1) : g < W.heap.size := by
  obtain ⟨A0, c0, hb, hg, hr0⟩ := h
  exact blk_lt hb
theorem IsS45.ge {w0 W : World} {g : Nat} {f0 : List Int} {f1 : Int} (h : IsS45 w0 W g f0 f1) : w0.heap.size ≤ g := by
  obtain ⟨A0, c0, hb, hg, hr0⟩ := h
  exact hg
theorem IsS45.far {w0 W : World} {g : Nat} {f0 : List Int} {f1 : Int} {p : Addr} (h : IsS45 w0 W g f0 f1) (hne : g ≠ p.block) (u : Value) : IsS45 w0 (W.setCell p u) g f0 f1 := by
  obtain ⟨A0, c0, hb, hg, hr0⟩ := h
  exact ⟨A0, c0, blk_far hb hne u, hg, hr0⟩
theorem cellS45_0 {W : World} {g : Nat} {A0 : Option Addr} {c0 : Nat} {f0 : List Int} {f1 : Int} (h : W.heap[g]? = some (.cells #[.slice A0 f0.length c0, .int .i64 f1] 45 (0, 0))) : W.cell? ⟨g, 0, none⟩ = some (.slice A0 f0.length c0) := (blk_cell h 0).trans rfl
theorem cellS45_1 {W : World} {g : Nat} {A0 : Option Addr} {c0 : Nat} {f0 : List Int} {f1 : Int} (h : W.heap[g]? = some (.cells #[.slice A0 f0.length c0, .int .i64 f1] 45 (0, 0))) : W.cell? ⟨g, 1, none⟩ = some (.int .i64 f1) := (blk_cell h 1).trans rfl
theorem IsS45.set_1 {w0 W : World} {g : Nat} {f0 : List Int} {f1 : Int} (h : IsS45 w0 W g f0 f1) (x : Int) : IsS45 w0 (W.setCell ⟨g, 1, none⟩ (.int .i64 x)) g f0 x := by
  obtain ⟨A0, c0, hb, hg, hr0⟩ := h
  exact ⟨A0, c0, by simpa using blk_set hb 1 (.int .i64 x), hg, hr0⟩
theorem IsS45.new (w0 W : World) (A0 : Option Addr) (c0 : Nat) (f0 : List Int) (f1 : Int) (hB : Below w0.heap.size w0 W) (hr0 : Kd.C (Kd.int .i64) w0 A0 f0.length f0) : IsS45 w0 (W.alloc (.cells #[.slice A0 f0.length c0, .int .i64 f1] 45)) W.heap.size f0 f1 := ⟨A0, c0, by simpa using heap_alloc_new W _, hB.size, hr0⟩

/-! ### customsmade_Source_Left: function 20 -/
def customsmade_Source_Left.f (s0_0 : List Int) (s0_1 : Int) : Option (Bool × Int) := some (decide (s0_1 < (s0_0.length : Int)), s0_1)
set_option maxHeartbeats 8000000 in
set_option maxRecDepth 100000 in
theorem customsmade_Source_Left.calls (g : Nat) (s0_0 : List Int) (s0_1 : Int) (r1 : Bool) (r2 : Int) (w0 w : World) (hI : IsS45 w0 w g s0_0 s0_1) (hB : Below w0.heap.size w0 w) (h : customsmade_Source_Left.f s0_0 s0_1 = some (r1, r2)) :
    Calls Try.prog 20 #[.pointer (some ⟨g, 0, none⟩)] w fun e w' => e = .returned (.bool r1) ∧ IsS45 w0 w' g s0_0 r2 ∧ Below w0.heap.size w0 w' ∧ KeepBut w w' g none := by
  have HI0 := Aside0.mk hI
  have HK := Aside0.mk (KeepBut.refl w g none)
  have HL := Aside0.mk hB.size
  clear hI
  have HW0 := Aside0.mk hB.size
  have HB := Aside0.mk hB
  clear hB
  have H : (some (decide (s0_1 < (s0_0.length : Int)), s0_1)) = some (r1, r2) := h
  clear h
  simp only [Option.some.injEq, Prod.mk.injEq] at H
  obtain ⟨rfl, rfl⟩ := H
  obtain ⟨ASz2_0, cSz2_0, HGz2, hgz2, HSz2_0⟩ := HI0.out
  have hcz2_0 := cellS45_0 HGz2
  have hcz2_1 := cellS45_1 HGz2
  have hfz2_1 := blk_frozen HGz2 1
  clear HGz2 hgz2
  go_enter Try.func20, Try.ntmps20
  go_wp2
  repeat (go_quiet (fail); try go_wp2)
  go_ret
  exact ⟨by first | rfl | (simp [errW_none, errW_some] <;> rfl) | (simp [*, errW_none, errW_some] <;> rfl) | (simp (disch := first | assumption | omega) only [Int.tdiv_eq_ediv_of_nonneg, Int.tmod_eq_emod_of_nonneg]; rfl), by repeat (first | (with_reducible first | exact HI0.out | apply IsS45.alloc | apply IsS45.drewN | apply IsS45.drew | apply IsS45.set_1) | exact HI0.out), by repeat (first | (with_reducible first | exact HB.out | apply below_alloc | apply pw_below_drewN | apply below_drew1 | refine below_set ?_ (IsS45.ge HI0.out)) | exact HB.out), by repeat (first | (with_reducible first | exact HK.out | apply KeepBut.set_ | apply keep_drewN | apply keep_drew | apply keep_alloc) | exact HK.out)⟩

end Go.Proofs.Ytpijnpoebkffkaa.PX
end
section
namespace Go.Proofs.Ytpijnpoebkffkaa.PX
open Go.RowKit Go.Proofs.YtpijnpoebkffkaaW.PrintWords Go.Proofs.YtpijnpoebkffkaaW.PrintLast Go.Proofs.YtpijnpoebkffkaaW.PrintMore
attribute [local go_sem] max2_int min2_int max_two min_two max_three min_three max_four min_four   -- for this text's walks alone
set_option linter.unusedVariables false
set_option linter.unusedSimpArgs false

/-! ### customsmade_Within: function 12 -/
def customsmade_Within.f (a0 : Int) (a1 : Int) : Option (Int) := if a1 = 0 then (none) else (some (Int.tmod (wrap64 ((Int.tmod a0 a1) + a1)) a1))
set_option maxHeartbeats 8000000 in
set_option maxRecDepth 100000 in
theorem customsmade_Within.calls (a0 : Int) (a1 : Int) (r : Int) (w : World) (h : customsmade_Within.f a0 a1 = some r) :
    Calls Try.prog 12 #[.int .i64 a0, .int .i64 a1] w fun e w' => e = .returned (.int .i64 r) ∧ Drawn0 w w' := by
  have H : (if a1 = 0 then (none) else (some (Int.tmod (wrap64 ((Int.tmod a0 a1) + a1)) a1))) = some r := h
  clear h
  by_cases c3 : a1 = 0
  · rw [if_pos c3] at H
    exact absurd H (by simp)
  · rw [if_neg c3] at H
    have c3b0 : (a1 == 0) = false := beq_eq_false_iff_ne.mpr c3
    have c3b1 : (a1 != 0) = true := bne_iff_ne.mpr c3
    obtain rfl := Option.some.inj H
    go_enter Try.func12, Try.ntmps12
    go_wp2
    go_ret
    exact ⟨by first | rfl | (simp; done) | (simp [*]; done), by repeat (first | exact Drawn0.refl _ | apply Drawn0.step)⟩

end Go.Proofs.Ytpijnpoebkffkaa.PX
end
section
namespace Go.Proofs.Ytpijnpoebkffkaa.PX
open Go.RowKit Go.Proofs.YtpijnpoebkffkaaW.PrintWords Go.Proofs.YtpijnpoebkffkaaW.PrintLast Go.Proofs.YtpijnpoebkffkaaW.PrintMore
attribute [local go_sem] max2_int min2_int max_two min_two max_three min_three max_four min_four   -- for this text's walks alone
set_option linter.unusedVariables false
set_option linter.unusedSimpArgs false

/-! ### customsmade_Source_Next: function 21 -/
def customsmade_Source_Next.f (s0_0 : List Int) (s0_1 : Int) (a1 : Int) : Option (Int × Int) := if s0_1 ≥ (s0_0.length : Int) then (some (0, s0_1)) else (if 0 ≤ (wrap64 ((wrap64 (s0_1 + 1)) - 1)) then (if (wrap64 ((wrap64 (s0_1 + 1)) - 1)) < (s0_0.length : Int) then ((customsmade_Within.f (rd s0_0 (wrap64 ((wrap64 (s0_1 + 1)) - 1))) a1).bind fun t176 => (some (t176, wrap64 (s0_1 + 1)))) else (none)) else (none))
set_option maxHeartbeats 8000000 in
set_option maxRecDepth 100000 in
theorem customsmade_Source_Next.calls (g : Nat) (s0_0 : List Int) (s0_1 : Int) (a1 : Int) (r1 : Int) (r2 : Int) (w0 w : World) (hI : IsS45 w0 w g s0_0 s0_1) (hB : Below w0.heap.size w0 w) (h : customsmade_Source_Next.f s0_0 s0_1 a1 = some (r1, r2)) :
    Calls Try.prog 21 #[.pointer (some ⟨g, 0, none⟩), .int .i64 a1] w fun e w' => e = .returned (.int .i64 r1) ∧ IsS45 w0 w' g s0_0 r2 ∧ Below w0.heap.size w0 w' ∧ KeepBut w w' g none := by
  have HI0 := Aside0.mk hI
  have HK := Aside0.mk (KeepBut.refl w g none)
  have HL := Aside0.mk hB.size
  clear hI
  have HW0 := Aside0.mk hB.size
  have HB := Aside0.mk hB
  clear hB
  have H : (if s0_1 ≥ (s0_0.length : Int) then (some (0, s0_1)) else (if 0 ≤ (wrap64 ((wrap64 (s0_1 + 1)) - 1)) then (if (wrap64 ((wrap64 (s0_1 + 1)) - 1)) < (s0_0.length : Int) then ((customsmade_Within.f (rd s0_0 (wrap64 ((wrap64 (s0_1 + 1)) - 1))) a1).bind fun t176 => (some (t176, wrap64 (s0_1 + 1)))) else (none)) else (none))) = some (r1, r2) := h
  clear h
  by_cases c3 : s0_1 ≥ (s0_0.length : Int)
  · rw [if_pos c3] at H
    have c3b0 : decide ((s0_0.length : Int) ≤ s0_1) = true := decide_eq_true c3
    clear c3
    simp only [Option.some.injEq, Prod.mk.injEq] at H
    obtain ⟨rfl, rfl⟩ := H
    obtain ⟨ASz4_0, cSz4_0, HGz4, hgz4, HSz4_0⟩ := HI0.out
    have hcz4_0 := cellS45_0 HGz4
    have hcz4_1 := cellS45_1 HGz4
    have hfz4_1 := blk_frozen HGz4 1
    clear HGz4 hgz4
    go_enter Try.func21, Try.ntmps21
    go_wp2
    repeat (go_quiet (fail); try go_wp2)
    go_ret
    exact ⟨by first | rfl | (simp [errW_none, errW_some] <;> rfl) | (simp [*, errW_none, errW_some] <;> rfl) | (simp (disch := first | assumption | omega) only [Int.tdiv_eq_ediv_of_nonneg, Int.tmod_eq_emod_of_nonneg]; rfl), by repeat (first | (with_reducible first | exact HI0.out | apply IsS45.alloc | apply IsS45.drewN | apply IsS45.drew | apply IsS45.set_1) | exact HI0.out), by repeat (first | (with_reducible first | exact HB.out | apply below_alloc | apply pw_below_drewN | apply below_drew1 | refine below_set ?_ (IsS45.ge HI0.out)) | exact HB.out), by repeat (first | (with_reducible first | exact HK.out | apply KeepBut.set_ | apply keep_drewN | apply keep_drew | apply keep_alloc) | exact HK.out)⟩
  · rw [if_neg c3] at H
    have c3b0 : decide ((s0_0.length : Int) ≤ s0_1) = false := decide_eq_false c3
    clear c3
    obtain ⟨ji5, hji5⟩ : ∃ j_ : Int, (wrap64 ((wrap64 (s0_1 + 1)) - 1)) = j_ := ⟨_, rfl⟩
    replace H : (if 0 ≤ (ji5) then (if (ji5) < (s0_0.length : Int) then ((customsmade_Within.f (rd s0_0 (ji5)) a1).bind fun t176 => (some (t176, wrap64 (s0_1 + 1)))) else (none)) else (none)) = some (r1, r2) := by first | (rw [hji5] at H; exact H) | (simp only [hji5] at H ⊢; exact H)
    have hji5w : (IntKind.i64.wrap ((wrap64 (s0_1 + 1)) - 1)) = ji5 := (i64_w _).trans hji5
    by_cases c6 : 0 ≤ (ji5)
    · rw [if_pos c6] at H
      have c6b0 : decide (0 ≤ (ji5)) = true := decide_eq_true c6
      clear c6
      by_cases c7 : (ji5) < (s0_0.length : Int)
      · rw [if_pos c7] at H
        have c7b0 : decide ((ji5) < (s0_0.length : Int)) = true := decide_eq_true c7
        clear c7
        replace H := Option.bind_eq_some_iff.mp H
        obtain ⟨t176, A80, H⟩ := H
        replace H : (some (t176, wrap64 (s0_1 + 1))) = some (r1, r2) := H
        have A8 := Aside0.mk A80
        clear A80
        simp only [Option.some.injEq, Prod.mk.injEq] at H
        obtain ⟨rfl, rfl⟩ := H
        obtain ⟨ASz9_0, cSz9_0, HGz9, hgz9, HSz9_0⟩ := HI0.out
        have hcz9_0 := cellS45_0 HGz9
        have hcz9_1 := cellS45_1 HGz9
        have hfz9_1 := blk_frozen HGz9 1
        clear HGz9 hgz9
        have p175 : 0 ≤ ((ji5) : Int) := of_decide_eq_true (by first | (with_reducible assumption) | assumption)
        have q175 : (ji5) < (s0_0.length : Int) := of_decide_eq_true (by first | (with_reducible assumption) | assumption)
        obtain ⟨ad175, e175, hx175_0⟩ := Kd.at_int HSz9_0 (ji5) p175 q175
        cases e175
        have hn175_0 : ad175.block ≠ g := Nat.ne_of_lt (Nat.lt_of_lt_of_le (by have := World.block_lt_of_cell? _ _ hx175_0; first | rwa [add_block] at this | exact this) (IsS45.ge HI0.out))
        replace hx175_0 := pw_cell_below HB.out hx175_0
        replace hx175_0 := (cell_far (p := ⟨g, 1, none⟩) (by first | (rw [add_block]; exact hn175_0) | (show (Addr.add _ _).block ≠ _; rw [add_block]; exact hn175_0) | exact hn175_0) (.int .i64 (wrap64 (s0_1 + 1)))).trans hx175_0
        (try have hy175_0 := fun (n_ : Nat) => (show (((w.drewN n_).setCell ⟨g, 1, none⟩ (.int .i64 (wrap64 (s0_1 + 1))))).cell? _ = some _ from hx175_0))
        clear hn175_0
        replace p175 := eq_true p175
        replace q175 := eq_true q175
        go_enter Try.func21, Try.ntmps21
        go_wp2_with (first | (go_at_call 12; (with_reducible refine (customsmade_Within.calls (rd s0_0 (ji5)) a1 t176 _ A8.out).mono ?_); rintro e w' ⟨rfl, ⟨nd, rfl⟩⟩; (try first | exact ⟨rfl, _, World.drewN_drewN _ _ _⟩ | exact ⟨rfl, _, Eq.trans (World.drewN_drewN _ _ _) (congrArg (World.drewN _) (Nat.add_assoc _ _ _))⟩)))
        repeat (go_quiet (first | (go_at_call 12; (with_reducible refine (customsmade_Within.calls (rd s0_0 (ji5)) a1 t176 _ A8.out).mono ?_); rintro e w' ⟨rfl, ⟨nd, rfl⟩⟩; (try first | exact ⟨rfl, _, World.drewN_drewN _ _ _⟩ | exact ⟨rfl, _, Eq.trans (World.drewN_drewN _ _ _) (congrArg (World.drewN _) (Nat.add_assoc _ _ _))⟩))); try go_wp2_with (first | (go_at_call 12; (with_reducible refine (customsmade_Within.calls (rd s0_0 (ji5)) a1 t176 _ A8.out).mono ?_); rintro e w' ⟨rfl, ⟨nd, rfl⟩⟩; (try first | exact ⟨rfl, _, World.drewN_drewN _ _ _⟩ | exact ⟨rfl, _, Eq.trans (World.drewN_drewN _ _ _) (congrArg (World.drewN _) (Nat.add_assoc _ _ _))⟩))))
        go_ret
        exact ⟨by first | rfl | (simp [errW_none, errW_some] <;> rfl) | (simp only [← hji5]; first | rfl | (simp [errW_none, errW_some] <;> rfl)) | (simp [*, errW_none, errW_some] <;> rfl) | (simp (disch := first | assumption | omega) only [Int.tdiv_eq_ediv_of_nonneg, Int.tmod_eq_emod_of_nonneg]; rfl), by repeat (first | (with_reducible first | exact HI0.out | apply IsS45.alloc | apply IsS45.drewN | apply IsS45.drew | apply IsS45.set_1) | exact HI0.out), by repeat (first | (with_reducible first | exact HB.out | apply below_alloc | apply pw_below_drewN | apply below_drew1 | refine below_set ?_ (IsS45.ge HI0.out)) | exact HB.out), by repeat (first | (with_reducible first | exact HK.out | apply KeepBut.set_ | apply keep_drewN | apply keep_drew | apply keep_alloc) | exact HK.out)⟩
      · rw [if_neg c7] at H
        exact absurd H (by simp)
    · rw [if_neg c6] at H
      exact absurd H (by simp)

end Go.Proofs.Ytpijnpoebkffkaa.PX
end
section
namespace Go.Proofs.Ytpijnpoebkffkaa.PX
open Go.RowKit Go.Proofs.YtpijnpoebkffkaaW.PrintWords Go.Proofs.YtpijnpoebkffkaaW.PrintLast Go.Proofs.YtpijnpoebkffkaaW.PrintMore
attribute [local go_sem] max2_int min2_int max_two min_two max_three min_three max_four min_four   -- for this text's walks alone
set_option linter.unusedVariables false
set_option linter.unusedSimpArgs false

/-! ### customsmade_Cut: function 17 -/
theorem R_keep_base {α : Type} {d : Kd α} {e : Nat} {w w1 : World} {base : Nat} {ok : Nat → Prop} {v : Value} {xs : List α} {g : Nat} (h : d.R e w base ok v xs) (hk : KeepBut w w1 g none) (hg : g < base) : d.R e w1 base ok v xs :=
  Kd.R_mono (Kd.R_keep (Kd.R_bound h) hk (fun k hk => by obtain ⟨_, hb, _⟩ := hk; omega)) (fun _ hk => hk.1)
/- what a source gives, and what is left of it -/
def srcNext (l : List Int) (m : Int) : Int × List Int := match l with
  | [] => (0, [])
  | x :: t => (x % m, t)
def Rng64 (x : Int) : Prop := -9223372036854775808 ≤ x ∧ x < 9223372036854775808
def rng64 (x : Int) : Bool := decide (-9223372036854775808 ≤ x) && decide (x < 9223372036854775808)
theorem rng_all {xs : List Int} (h : xs.all rng64 = true) : ∀ x ∈ xs, Rng64 x := by
  intro x hx
  have := List.all_eq_true.mp h x hx
  simpa [rng64, Rng64] using this
theorem all_rng {xs : List Int} (h : ∀ x ∈ xs, (Lit.int .i64 x).wf = true) : xs.all rng64 = true := by
  refine List.all_eq_true.mpr fun x hx => ?_
  have := h x hx
  simp [Lit.wf, IntKind.min, IntKind.max, IntKind.bits, IntKind.signed] at this
  simp [rng64]; omega
theorem within_is (x m : Int) (hx : Rng64 x) (h0 : 0 < m) (h1 : m ≤ 4611686018427387904) : customsmade_Within.f x m = some (x % m) := by
  unfold Rng64 at hx
  unfold customsmade_Within.f
  have e1 : -m < Int.tmod x m ∧ Int.tmod x m < m := by
    by_cases h : 0 ≤ x
    · rw [Int.tmod_eq_emod_of_nonneg h]; exact ⟨by have := Int.emod_nonneg x (show m ≠ 0 by omega); omega, Int.emod_lt_of_pos x h0⟩
    · have := Int.emod_nonneg (-x) (show m ≠ 0 by omega)
      have := Int.emod_lt_of_pos (-x) h0
      have e : Int.tmod x m = -((-x) % m) := by
        have := Int.neg_tmod (-x) m
        rw [Int.neg_neg] at this
        rw [this, Int.tmod_eq_emod_of_nonneg (by omega)]
      omega
  have e2 : Int.tmod (Int.tmod x m + m) m = x % m := by
    rw [Int.tmod_eq_emod_of_nonneg (by omega), Int.add_emod_right]
    by_cases h : 0 ≤ x
    · rw [Int.tmod_eq_emod_of_nonneg h, Int.emod_emod]
    · have h2 : x = Int.tmod x m + m * Int.tdiv x m := (Int.tmod_add_mul_tdiv x m).symm
      have h3 : (Int.tmod x m + m * Int.tdiv x m) % m = Int.tmod x m % m := Int.add_mul_emod_self_left _ _ _
      rw [← h2] at h3; exact h3.symm
  rw [if_neg (by omega)]
  have w1 : wrap64 (Int.tmod x m + m) = Int.tmod x m + m := by unfold wrap64; omega
  rw [w1, e2]
/-- At block g of W a source lies that has l left; its list came in by w0. -/
def Src (w0 W : World) (g : Nat) (l : List Int) : Prop := ∃ (ys : List Int) (j : Nat), IsS45 w0 W g ys j ∧ l = ys.drop j ∧ j ≤ ys.length ∧ ∀ x ∈ ys, Rng64 x
theorem srcNext_rng {l : List Int} {m a : Int} {l1 : List Int} (h : srcNext l m = (a, l1)) (hm : 0 < m) : 0 ≤ a ∧ a < m := by
  cases l with
  | nil => simp only [srcNext, Prod.mk.injEq] at h; omega
  | cons x t =>
    simp only [srcNext, Prod.mk.injEq] at h
    rw [← h.1]; exact ⟨Int.emod_nonneg x (by omega), Int.emod_lt_of_pos x hm⟩
theorem src_next {w0 w : World} {g : Nat} {l : List Int} (m : Int) (h : Src w0 w g l) (hB : Below w0.heap.size w0 w) (h0 : 0 < m) (h1 : m ≤ 4611686018427387904) (a : Int) (l1 : List Int) (hn : srcNext l m = (a, l1)) :
    Calls Try.prog 21 #[.pointer (some ⟨g, 0, none⟩), .int .i64 m] w fun e w' => e = .returned (.int .i64 a) ∧ Src w0 w' g l1 ∧ Below w0.heap.size w0 w' ∧ KeepBut w w' g none := by
  obtain ⟨ys, j, hI, rfl, hj, hx⟩ := h
  have hlen : ys.length ≤ 9223372036854775807 := by obtain ⟨A, c, _, _, hr⟩ := hI; exact hr.2.1
  by_cases hlt : j < ys.length
  · rw [List.drop_eq_getElem_cons hlt] at hn
    simp only [srcNext, Prod.mk.injEq] at hn
    have e : customsmade_Source_Next.f ys (j : Int) m = some (a, ((j + 1 : Nat) : Int)) := by
      unfold customsmade_Source_Next.f
      have w1 : wrap64 ((j : Int) + 1) = (j : Int) + 1 := by unfold wrap64; omega
      have w2 : wrap64 ((j : Int) + 1 - 1) = (j : Int) := by unfold wrap64; omega
      have er : rd ys (j : Int) = ys[j] := by unfold rd; rw [Int.toNat_natCast, List.getD_eq_getElem?_getD, List.getElem?_eq_getElem hlt]; rfl
      rw [if_neg (by omega), w1, w2, if_pos (by omega), if_pos (by omega), er, within_is _ m (hx _ (List.getElem_mem hlt)) h0 h1, hn.1]
      rfl
    refine (customsmade_Source_Next.calls g ys j m a _ w0 w hI hB e).mono ?_
    rintro e w' ⟨rfl, hI', hB', hK⟩
    exact ⟨rfl, ⟨ys, j + 1, hI', hn.2.symm, hlt, hx⟩, hB', hK⟩
  · rw [List.drop_of_length_le (by omega)] at hn
    simp only [srcNext, Prod.mk.injEq] at hn
    have e : customsmade_Source_Next.f ys (j : Int) m = some (a, (j : Int)) := by
      unfold customsmade_Source_Next.f
      rw [if_pos (by omega), hn.1]
    refine (customsmade_Source_Next.calls g ys j m a _ w0 w hI hB e).mono ?_
    rintro e w' ⟨rfl, hI', hB', hK⟩
    exact ⟨rfl, ⟨ys, j, hI', by rw [← hn.2, List.drop_of_length_le (by omega)], hj, hx⟩, hB', hK⟩
theorem cut_reads (A : Option Addr) (c : Nat) (xs : List Int) (m : Int) (w : World) (hr : Kd.C (Kd.int .i64) w A xs.length xs) (hc : xs.length ≤ c) (hm : 0 ≤ m) (ys : List Int) (hy : xs.take m.toNat = ys) :
    Calls Try.prog 17 #[.slice A xs.length c, .int .i64 m] w fun e w' => e = .returned (.slice A ys.length c) ∧ w = w' := by
  obtain ⟨i0, hi0, _, hsz, _⟩ := info_parts info3
  have hmax : xs.length ≤ 9223372036854775807 := hr.2.1
  by_cases h : m < (xs.length : Int)
  · have hcut := cut_to (P := Try.prog) 27 3 .i64 Try.underlying27 hi0 A xs.length c m hm (by omega) hc
    have hd : decide (m < (xs.length : Int)) = true := decide_eq_true h
    have e : ys.length = m.toNat := by rw [← hy, List.length_take]; omega
    rw [e]
    clear e h hr hy
    go_enter Try.func17, Try.ntmps17
    go_wp2
    go_ret
    exact ⟨rfl, rfl⟩
  · have hd : decide (m < (xs.length : Int)) = false := decide_eq_false h
    have e : ys.length = xs.length := by rw [← hy, List.length_take]; omega
    rw [e]
    clear e h hr hy
    go_enter Try.func17, Try.ntmps17
    go_wp2
    go_ret
    exact ⟨rfl, rfl⟩
theorem take_reads {A : Option Addr} {xs : List Int} {w : World} (hr : Kd.C (Kd.int .i64) w A xs.length xs) (m : Nat) (ys : List Int) (hy : xs.take m = ys) : Kd.C (Kd.int .i64) w A ys.length ys := by
  by_cases h : m ≤ xs.length
  · rw [← hy]; exact Kd.C_take hr h
  · rw [← hy, List.take_of_length_le (by omega)]; exact hr
theorem Src.new (w0 W : World) (A : Option Addr) (c : Nat) (ys : List Int) (hB : Below w0.heap.size w0 W) (hr : Kd.C (Kd.int .i64) w0 A ys.length ys) (hx : ∀ x ∈ ys, Rng64 x) : Src w0 (W.alloc (.cells #[.slice A ys.length c, .int .i64 0] 45)) W.heap.size ys :=
  ⟨ys, 0, IsS45.new w0 W A c ys 0 hB hr, rfl, Nat.zero_le _, hx⟩
theorem Src.below {w0 W W1 : World} {g : Nat} {l : List Int} (h : Src w0 W g l) (hw : Below W.heap.size W W1) : Src w0 W1 g l := by
  obtain ⟨ys, j, hI, hl, hj, hx⟩ := h; exact ⟨ys, j, hI.below hw, hl, hj, hx⟩
theorem Src.grown {w0 W W1 : World} {g : Nat} {l : List Int} {row : Option Nat} (h : Src w0 W g l) (hw : W.grownBy W1 row) (hne : some g ≠ row) : Src w0 W1 g l := by
  obtain ⟨ys, j, hI, hl, hj, hx⟩ := h; exact ⟨ys, j, hI.grown hw hne, hl, hj, hx⟩
theorem Src.lt {w0 W : World} {g : Nat} {l : List Int} (h : Src w0 W g l) : g < W.heap.size := by
  obtain ⟨ys, j, hI, _⟩ := h; exact hI.lt
theorem Src.own_ne {w0 W : World} {g : Nat} {l : List Int} {α : Type} {d : Kd α} {e : Nat} {base : Nat} {ok : Nat → Prop} {v : Value} {xs : List α} (h : Src w0 W g l) (ho : d.R e W base ok v xs) (ht : e ≠ 45) : some g ≠ v.ownBlock := by
  obtain ⟨ys, j, hI, _⟩ := h; exact hI.own_ne ho ht
def customsmade_Cut.f (l0 : List Int) (a1 : Int) : Option (List Int) := if (l0.length : Int) > a1 then (if 0 ≤ a1 then (if a1 ≤ (l0.length : Int) then (some (l0.take (a1 : Int).toNat)) else (none)) else (none)) else (some l0)
set_option maxHeartbeats 8000000 in
set_option maxRecDepth 100000 in
theorem customsmade_Cut.calls (P0_ : Nat → Prop) (A0 : Option Addr) (c0 : Nat) (l0 : List Int) (a1 : Int) (r : List Int) (w : World) (hs0 : Kd.V (Kd.int .i64) 3 w w.heap.size (fun k_ => P0_ k_) (.slice A0 l0.length c0) l0) (h : customsmade_Cut.f l0 a1 = some r) :
    Calls Try.prog 17 #[.slice A0 l0.length c0, .int .i64 a1] w fun e w' => ∃ v0_ : Value, e = .returned (v0_) ∧ Kd.V (Kd.int .i64) 3 w' w.heap.size (fun k_ => (P0_ k_ ∨ w.heap.size ≤ k_)) v0_ r ∧ Below w.heap.size w w' := by
  have HO0 := Aside0.mk (show Kd.V (Kd.int .i64) 3 w w.heap.size (fun k_ => (P0_ k_ ∨ w.heap.size ≤ k_)) (.slice A0 l0.length c0) l0 from Kd.V_mono hs0 (fun k_ hk => .inl hk))
  have HB := Aside0.mk (Below.refl w.heap.size w)
  have H : (if (l0.length : Int) > a1 then (if 0 ≤ a1 then (if a1 ≤ (l0.length : Int) then (some (l0.take (a1 : Int).toNat)) else (none)) else (none)) else (some l0)) = some r := h
  clear h
  by_cases c3 : (l0.length : Int) > a1
  · rw [if_pos c3] at H
    have c3b0 : decide (a1 < (l0.length : Int)) = true := decide_eq_true c3
    clear c3
    by_cases c4 : 0 ≤ a1
    · rw [if_pos c4] at H
      have c4b0 := eq_true c4
      have c4b1 : decide (0 ≤ a1) = true := decide_eq_true c4
      clear c4
      by_cases c5 : a1 ≤ (l0.length : Int)
      · rw [if_pos c5] at H
        have c5b0 := eq_true c5
        have c5b1 : decide (a1 ≤ (l0.length : Int)) = true := decide_eq_true c5
        clear c5
        obtain ⟨y175, hy175⟩ : ∃ y_ : List Int, y_ = (l0.take (a1 : Int).toNat) := ⟨_, rfl⟩
        replace H : (some y175) = some r := by first | (rw [hy175]; with_reducible exact H) | (have H2_ := (Option.bind_some _ _).symm.trans H; rw [hy175]; with_reducible exact H2_) | (have H2_ := (Option.bind_some _ _).symm.trans H; with_reducible exact H2_) | with_reducible exact H | (rw [hy175]; exact H) | exact H
        have Ny175 := Aside0.mk hy175
        clear hy175
        obtain rfl := Option.some.inj H
        have q6 : (a1 : Int) ≤ ((l0.length : Int) : Int) := of_decide_eq_true (by first | (with_reducible assumption) | assumption)
        obtain ⟨i06, hi06, _, hsz6, _⟩ := info_parts info3
        have hroom6 : l0.length ≤ c0 := (Kd.V_reads' HO0.out).2.1
        have hC6 : Kd.F (Kd.int .i64) _ _ A0 l0.length l0 := (Kd.V_at (base := w.heap.size) HO0.out).2.2
        have hcut6 := cut_to (P := Try.prog) 27 3 .i64 Try.underlying27 hi06 A0 l0.length c0 a1 (of_decide_eq_true (by first | (with_reducible assumption) | assumption)) q6 hroom6
        have hr6 := Kd.F_take (m := (a1 : Int).toNat) hC6 (by omega)
        have hy6 : y175.length = (a1 : Int).toNat := (by rw [Ny175.out, List.length_take]; omega)
        rw [← Ny175.out] at hr6
        rw [← hy6] at hcut6
        have HO179 := Aside0.mk (show Kd.V (Kd.int .i64) 3 _ w.heap.size _ (.slice A0 y175.length c0) y175 from Kd.V_mk (by omega) hr6)
        have HC179 := Aside0.mk (show y175.length ≤ c0 from by omega)
        clear hr6 hC6 hroom6 hi06 hsz6
        have KY6 := Aside0.mk hy6
        clear hy6
        replace q6 := eq_true q6
        go_enter Try.func17, Try.ntmps17
        go_wp2
        go_ret
        exact ⟨_, by first | rfl | (simp [errW_none, errW_some] <;> rfl) | (simp [*, errW_none, errW_some] <;> rfl) | (simp (disch := first | assumption | omega) only [Int.tdiv_eq_ediv_of_nonneg, Int.tmod_eq_emod_of_nonneg]; rfl), by (with_reducible repeat (first | apply Kd.V_alloc | apply Kd.V_drewN | apply Kd.V_drew)); exact HO179.out, by repeat (first | (with_reducible first | exact HB.out | apply below_alloc | apply pw_below_drewN | apply below_drew1) | exact HB.out)⟩
      · rw [if_neg c5] at H
        exact absurd H (by simp)
    · rw [if_neg c4] at H
      exact absurd H (by simp)
  · rw [if_neg c3] at H
    have c3b0 : decide (a1 < (l0.length : Int)) = false := decide_eq_false c3
    clear c3
    obtain rfl := Option.some.inj H
    go_enter Try.func17, Try.ntmps17
    go_wp2
    go_ret
    exact ⟨_, by first | rfl | (simp [errW_none, errW_some] <;> rfl) | (simp [*, errW_none, errW_some] <;> rfl) | (simp (disch := first | assumption | omega) only [Int.tdiv_eq_ediv_of_nonneg, Int.tmod_eq_emod_of_nonneg]; rfl), by (with_reducible repeat (first | apply Kd.V_alloc | apply Kd.V_drewN | apply Kd.V_drew)); exact HO0.out, by repeat (first | (with_reducible first | exact HB.out | apply below_alloc | apply pw_below_drewN | apply below_drew1) | exact HB.out)⟩

end Go.Proofs.Ytpijnpoebkffkaa.PX
end
section
namespace Go.Proofs.Ytpijnpoebkffkaa.PX
open Go.RowKit Go.Proofs.YtpijnpoebkffkaaW.PrintWords Go.Proofs.YtpijnpoebkffkaaW.PrintLast Go.Proofs.YtpijnpoebkffkaaW.PrintMore
attribute [local go_sem] max2_int min2_int max_two min_two max_three min_three max_four min_four   -- for this text's walks alone
set_option linter.unusedVariables false
set_option linter.unusedSimpArgs false

/-! ### customsmade_Small: function 22 -/
def customsmade_Small.f (s0_0 : List Int) (s0_1 : Int) (a1 : Int) (a2 : Int) : Option (Int × Int) := (customsmade_Source_Next.f s0_0 s0_1 5).bind fun bt177 => (if bt177.1 = 4 then ((customsmade_Source_Next.f s0_0 bt177.2 a2).bind fun bt179 => (some (bt179.1, bt179.2))) else ((customsmade_Source_Next.f s0_0 bt177.2 a1).bind fun bt181 => (some (bt181.1, bt181.2))))
set_option maxHeartbeats 8000000 in
set_option maxRecDepth 100000 in
theorem customsmade_Small.calls (g : Nat) (s0_0 : List Int) (s0_1 : Int) (a1 : Int) (a2 : Int) (r1 : Int) (r2 : Int) (w0 w : World) (hI : IsS45 w0 w g s0_0 s0_1) (hB : Below w0.heap.size w0 w) (h : customsmade_Small.f s0_0 s0_1 a1 a2 = some (r1, r2)) :
    Calls Try.prog 22 #[.pointer (some ⟨g, 0, none⟩), .int .i64 a1, .int .i64 a2] w fun e w' => e = .returned (.int .i64 r1) ∧ IsS45 w0 w' g s0_0 r2 ∧ Below w0.heap.size w0 w' ∧ KeepBut w w' g none := by
  have HI0 := Aside0.mk hI
  have HK := Aside0.mk (KeepBut.refl w g none)
  have HL := Aside0.mk hB.size
  clear hI
  have HW0 := Aside0.mk hB.size
  have HB := Aside0.mk hB
  clear hB
  have H : ((customsmade_Source_Next.f s0_0 s0_1 5).bind fun bt177 => (if bt177.1 = 4 then ((customsmade_Source_Next.f s0_0 bt177.2 a2).bind fun bt179 => (some (bt179.1, bt179.2))) else ((customsmade_Source_Next.f s0_0 bt177.2 a1).bind fun bt181 => (some (bt181.1, bt181.2))))) = some (r1, r2) := h
  clear h
  replace H := Option.bind_eq_some_iff.mp H
  obtain ⟨⟨t177, t178⟩, A40, H⟩ := H
  replace H : (if t177 = 4 then ((customsmade_Source_Next.f s0_0 t178 a2).bind fun bt179 => (some (bt179.1, bt179.2))) else ((customsmade_Source_Next.f s0_0 t178 a1).bind fun bt181 => (some (bt181.1, bt181.2)))) = some (r1, r2) := H
  have A4 := Aside0.mk A40
  clear A40
  by_cases c5 : t177 = 4
  · rw [if_pos c5] at H
    have c5b0 : (t177 == 4) = true := beq_iff_eq.mpr c5
    have c5b1 : (t177 != 4) = false := bne_eq_false_iff_eq.mpr c5
    clear c5
    replace H := Option.bind_eq_some_iff.mp H
    obtain ⟨⟨t179, t180⟩, A60, H⟩ := H
    replace H : (some (t179, t180)) = some (r1, r2) := H
    have A6 := Aside0.mk A60
    clear A60
    simp only [Option.some.injEq, Prod.mk.injEq] at H
    obtain ⟨rfl, rfl⟩ := H
    go_enter Try.func22, Try.ntmps22
    go_wp2_with (first | ((with_reducible refine gate_callee (f := 21) rfl ?_); refine goesL_ (some 8) rfl rfl Try.func21 (by kernel_rfl) rfl #[.pointer (some ⟨g, 0, none⟩), .int .i64 5] rfl (by (try simp only [List.map_toArray, List.map_cons, List.map_nil]); first | done | rfl | (simp only [List.length_drop, List.length_take]; rfl)) ?_; (with_reducible refine (customsmade_Source_Next.calls g s0_0 s0_1 5 t177 t178 w0 _ ?side1 ?side2 A4.out).mono ?_); (case side1 => repeat (first | (with_reducible first | exact HI0.out | apply IsS45.alloc | apply IsS45.drewN | apply IsS45.drew | apply IsS45.set_1) | exact HI0.out)); (case side2 => repeat (first | (with_reducible first | exact HB.out | apply below_alloc | apply pw_below_drewN | apply below_drew1 | refine below_set ?_ (IsS45.ge HI0.out)) | exact HB.out)); rintro e w7 ⟨rfl, hi, hb, hk⟩; refine ⟨_, rfl, ?_⟩; have n0_ := Aside0.mk (KeepBut.trans (by repeat (first | (with_reducible first | exact HK.out | apply KeepBut.set_ | apply keep_drewN | apply keep_drew | apply keep_alloc) | exact HK.out)) hk (.inl rfl)); have n1_ := Aside0.mk (hb); have n2_ := Aside0.mk (hi); clear HK; clear HB; clear HI0; have HK := n0_; have HB := n1_; have HI0 := n2_; clear n0_ n1_ n2_; (try clear hb); (try clear hb2); (try clear hk); (try clear hi)) | ((with_reducible refine gate_callee (f := 21) rfl ?_); refine goesL_ (some 12) rfl rfl Try.func21 (by kernel_rfl) rfl #[.pointer (some ⟨g, 0, none⟩), .int .i64 a2] rfl (by (try simp only [List.map_toArray, List.map_cons, List.map_nil]); first | done | rfl | (simp only [List.length_drop, List.length_take]; rfl)) ?_; (with_reducible refine (customsmade_Source_Next.calls g s0_0 t178 a2 t179 t180 w0 _ ?side1 ?side2 A6.out).mono ?_); (case side1 => repeat (first | (with_reducible first | exact HI0.out | apply IsS45.alloc | apply IsS45.drewN | apply IsS45.drew | apply IsS45.set_1) | exact HI0.out)); (case side2 => repeat (first | (with_reducible first | exact HB.out | apply below_alloc | apply pw_below_drewN | apply below_drew1 | refine below_set ?_ (IsS45.ge HI0.out)) | exact HB.out)); rintro e w8 ⟨rfl, hi, hb, hk⟩; refine ⟨_, rfl, ?_⟩; have n0_ := Aside0.mk (KeepBut.trans (by repeat (first | (with_reducible first | exact HK.out | apply KeepBut.set_ | apply keep_drewN | apply keep_drew | apply keep_alloc) | exact HK.out)) hk (.inl rfl)); have n1_ := Aside0.mk (hb); have n2_ := Aside0.mk (hi); clear HK; clear HB; clear HI0; have HK := n0_; have HB := n1_; have HI0 := n2_; clear n0_ n1_ n2_; (try clear hb); (try clear hb2); (try clear hk); (try clear hi)))
    go_ret
    exact ⟨by first | rfl | (simp [errW_none, errW_some] <;> rfl) | (simp [*, errW_none, errW_some] <;> rfl) | (simp (disch := first | assumption | omega) only [Int.tdiv_eq_ediv_of_nonneg, Int.tmod_eq_emod_of_nonneg]; rfl), by repeat (first | (with_reducible first | exact HI0.out | apply IsS45.alloc | apply IsS45.drewN | apply IsS45.drew | apply IsS45.set_1) | exact HI0.out), by repeat (first | (with_reducible first | exact HB.out | apply below_alloc | apply pw_below_drewN | apply below_drew1 | refine below_set ?_ (IsS45.ge HI0.out)) | exact HB.out), by repeat (first | (with_reducible first | exact HK.out | apply KeepBut.set_ | apply keep_drewN | apply keep_drew | apply keep_alloc) | exact HK.out)⟩
  · rw [if_neg c5] at H
    have c5b0 : (t177 == 4) = false := beq_eq_false_iff_ne.mpr c5
    have c5b1 : (t177 != 4) = true := bne_iff_ne.mpr c5
    replace H := Option.bind_eq_some_iff.mp H
    obtain ⟨⟨t181, t182⟩, A90, H⟩ := H
    replace H : (some (t181, t182)) = some (r1, r2) := H
    have A9 := Aside0.mk A90
    clear A90
    simp only [Option.some.injEq, Prod.mk.injEq] at H
    obtain ⟨rfl, rfl⟩ := H
    go_enter Try.func22, Try.ntmps22
    go_wp2_with (first | ((with_reducible refine gate_callee (f := 21) rfl ?_); refine goesL_ (some 8) rfl rfl Try.func21 (by kernel_rfl) rfl #[.pointer (some ⟨g, 0, none⟩), .int .i64 5] rfl (by (try simp only [List.map_toArray, List.map_cons, List.map_nil]); first | done | rfl | (simp only [List.length_drop, List.length_take]; rfl)) ?_; (with_reducible refine (customsmade_Source_Next.calls g s0_0 s0_1 5 t177 t178 w0 _ ?side1 ?side2 A4.out).mono ?_); (case side1 => repeat (first | (with_reducible first | exact HI0.out | apply IsS45.alloc | apply IsS45.drewN | apply IsS45.drew | apply IsS45.set_1) | exact HI0.out)); (case side2 => repeat (first | (with_reducible first | exact HB.out | apply below_alloc | apply pw_below_drewN | apply below_drew1 | refine below_set ?_ (IsS45.ge HI0.out)) | exact HB.out)); rintro e w10 ⟨rfl, hi, hb, hk⟩; refine ⟨_, rfl, ?_⟩; have n0_ := Aside0.mk (KeepBut.trans (by repeat (first | (with_reducible first | exact HK.out | apply KeepBut.set_ | apply keep_drewN | apply keep_drew | apply keep_alloc) | exact HK.out)) hk (.inl rfl)); have n1_ := Aside0.mk (hb); have n2_ := Aside0.mk (hi); clear HK; clear HB; clear HI0; have HK := n0_; have HB := n1_; have HI0 := n2_; clear n0_ n1_ n2_; (try clear hb); (try clear hb2); (try clear hk); (try clear hi)) | ((with_reducible refine gate_callee (f := 21) rfl ?_); refine goesL_ (some 15) rfl rfl Try.func21 (by kernel_rfl) rfl #[.pointer (some ⟨g, 0, none⟩), .int .i64 a1] rfl (by (try simp only [List.map_toArray, List.map_cons, List.map_nil]); first | done | rfl | (simp only [List.length_drop, List.length_take]; rfl)) ?_; (with_reducible refine (customsmade_Source_Next.calls g s0_0 t178 a1 t181 t182 w0 _ ?side1 ?side2 A9.out).mono ?_); (case side1 => repeat (first | (with_reducible first | exact HI0.out | apply IsS45.alloc | apply IsS45.drewN | apply IsS45.drew | apply IsS45.set_1) | exact HI0.out)); (case side2 => repeat (first | (with_reducible first | exact HB.out | apply below_alloc | apply pw_below_drewN | apply below_drew1 | refine below_set ?_ (IsS45.ge HI0.out)) | exact HB.out)); rintro e w11 ⟨rfl, hi, hb, hk⟩; refine ⟨_, rfl, ?_⟩; have n0_ := Aside0.mk (KeepBut.trans (by repeat (first | (with_reducible first | exact HK.out | apply KeepBut.set_ | apply keep_drewN | apply keep_drew | apply keep_alloc) | exact HK.out)) hk (.inl rfl)); have n1_ := Aside0.mk (hb); have n2_ := Aside0.mk (hi); clear HK; clear HB; clear HI0; have HK := n0_; have HB := n1_; have HI0 := n2_; clear n0_ n1_ n2_; (try clear hb); (try clear hb2); (try clear hk); (try clear hi)))
    go_ret
    exact ⟨by first | rfl | (simp [errW_none, errW_some] <;> rfl) | (simp [*, errW_none, errW_some] <;> rfl) | (simp (disch := first | assumption | omega) only [Int.tdiv_eq_ediv_of_nonneg, Int.tmod_eq_emod_of_nonneg]; rfl), by repeat (first | (with_reducible first | exact HI0.out | apply IsS45.alloc | apply IsS45.drewN | apply IsS45.drew | apply IsS45.set_1) | exact HI0.out), by repeat (first | (with_reducible first | exact HB.out | apply below_alloc | apply pw_below_drewN | apply below_drew1 | refine below_set ?_ (IsS45.ge HI0.out)) | exact HB.out), by repeat (first | (with_reducible first | exact HK.out | apply KeepBut.set_ | apply keep_drewN | apply keep_drew | apply keep_alloc) | exact HK.out)⟩

end Go.Proofs.Ytpijnpoebkffkaa.PX
end
section
namespace Go.Proofs.Ytpijnpoebkffkaa.PX
open Go.RowKit Go.Proofs.YtpijnpoebkffkaaW.PrintWords Go.Proofs.YtpijnpoebkffkaaW.PrintLast Go.Proofs.YtpijnpoebkffkaaW.PrintMore
attribute [local go_sem] max2_int min2_int max_two min_two max_three min_three max_four min_four   -- for this text's walks alone
set_option linter.unusedVariables false
set_option linter.unusedSimpArgs false

/-! ### customsmade_Requests: function 11 -/
/- a small number out of a source, and what is left of it -/
def smallS (l : List Int) (few n : Int) : Int × List Int := if (srcNext l 5).1 = 4 then srcNext (srcNext l 5).2 n else srcNext (srcNext l 5).2 few
theorem next_f {ys : List Int} {j : Nat} (hlen : ys.length ≤ 9223372036854775807) (hj : j ≤ ys.length) (hx : ∀ x ∈ ys, Rng64 x) (m : Int) (h0 : 0 < m) (h1 : m ≤ 4611686018427387904) : ∃ j' : Nat, customsmade_Source_Next.f ys (j : Int) m = some ((srcNext (ys.drop j) m).1, (j' : Int)) ∧ ys.drop j' = (srcNext (ys.drop j) m).2 ∧ j' ≤ ys.length := by
  by_cases hlt : j < ys.length
  · refine ⟨j + 1, ?_, ?_, hlt⟩
    · rw [List.drop_eq_getElem_cons hlt]
      unfold customsmade_Source_Next.f
      have w1 : wrap64 ((j : Int) + 1) = (j : Int) + 1 := by unfold wrap64; omega
      have w2 : wrap64 ((j : Int) + 1 - 1) = (j : Int) := by unfold wrap64; omega
      have er : rd ys (j : Int) = ys[j] := by unfold rd; rw [Int.toNat_natCast, List.getD_eq_getElem?_getD, List.getElem?_eq_getElem hlt]; rfl
      rw [if_neg (by omega), w1, w2, if_pos (by omega), if_pos (by omega), er, within_is _ m (hx _ (List.getElem_mem hlt)) h0 h1]
      rfl
    · rw [List.drop_eq_getElem_cons hlt]; rfl
  · refine ⟨j, ?_, ?_, hj⟩
    · rw [List.drop_of_length_le (by omega)]
      unfold customsmade_Source_Next.f
      rw [if_pos (by omega)]; rfl
    · rw [List.drop_of_length_le (by omega)]; rfl
theorem small_next {w0 w : World} {g : Nat} {l : List Int} (few n : Int) (h : Src w0 w g l) (hB : Below w0.heap.size w0 w) (f0 : 0 < few) (f1 : few ≤ 4611686018427387904) (n0 : 0 < n) (n1 : n ≤ 4611686018427387904) (a : Int) (l1 : List Int) (hn : smallS l few n = (a, l1)) :
    Calls Try.prog 22 #[.pointer (some ⟨g, 0, none⟩), .int .i64 few, .int .i64 n] w fun e w' => e = .returned (.int .i64 a) ∧ Src w0 w' g l1 ∧ Below w0.heap.size w0 w' ∧ KeepBut w w' g none := by
  obtain ⟨ys, j, hI, rfl, hj, hx⟩ := h
  have hlen : ys.length ≤ 9223372036854775807 := by obtain ⟨A, c, _, _, hr⟩ := hI; exact hr.2.1
  obtain ⟨j1, e1, d1, k1⟩ := next_f hlen hj hx 5 (by decide) (by decide)
  have key : ∃ j2 : Nat, customsmade_Small.f ys (j : Int) few n = some ((smallS (ys.drop j) few n).1, (j2 : Int)) ∧ ys.drop j2 = (smallS (ys.drop j) few n).2 ∧ j2 ≤ ys.length := by
    unfold customsmade_Small.f smallS
    rw [e1]
    simp only [Option.bind_some]
    by_cases c : (srcNext (ys.drop j) 5).1 = 4
    · obtain ⟨j2, e2, d2, k2⟩ := next_f hlen k1 hx n n0 n1
      rw [if_pos c, if_pos c, e2, ← d1]
      exact ⟨j2, rfl, d2, k2⟩
    · obtain ⟨j2, e2, d2, k2⟩ := next_f hlen k1 hx few f0 f1
      rw [if_neg c, if_neg c, e2, ← d1]
      exact ⟨j2, rfl, d2, k2⟩
  obtain ⟨j2, e2, d2, k2⟩ := key
  rw [hn] at e2 d2
  refine (customsmade_Small.calls g ys j few n a j2 w0 w hI hB e2).mono ?_
  rintro e w' ⟨rfl, hI', hB', hK⟩
  exact ⟨rfl, ⟨ys, j2, hI', d2.symm, k2, hx⟩, hB', hK⟩
theorem src_left {w0 w : World} {g : Nat} {l : List Int} (h : Src w0 w g l) (hB : Below w0.heap.size w0 w) :
    Calls Try.prog 20 #[.pointer (some ⟨g, 0, none⟩)] w fun e w' => e = .returned (.bool (decide (0 < l.length))) ∧ Src w0 w' g l ∧ Below w0.heap.size w0 w' ∧ KeepBut w w' g none := by
  obtain ⟨ys, j, hI, rfl, hj, hx⟩ := h
  refine (customsmade_Source_Left.calls g ys j (decide (0 < (ys.drop j).length)) j w0 w hI hB ?_).mono ?_
  · unfold customsmade_Source_Left.f
    rw [List.length_drop]
    refine congrArg (fun b => some (b, (j : Int))) ?_
    exact decide_eq_decide.mpr (by omega)
  · rintro e w' ⟨rfl, hI', hB', hK⟩
    exact ⟨rfl, ⟨ys, j, hI', rfl, hj, hx⟩, hB', hK⟩
theorem srcNext_len (l : List Int) (m : Int) : (srcNext l m).2.length = l.length - 1 := by cases l <;> simp [srcNext]
theorem smallS_len (l : List Int) (few n : Int) : (smallS l few n).2.length ≤ l.length := by
  unfold smallS
  split <;> rw [srcNext_len, srcNext_len] <;> omega
/- the requests of one day -/
def reqN : Nat → Int → List Int → List S37
  | 0, _, _ => []
  | n + 1, id, l => if l.length = 0 then [] else ⟨id + 1 + (srcNext l 3).1, (smallS (srcNext l 3).2 40 1000000001).1⟩ :: reqN n (id + 1 + (srcNext l 3).1) (smallS (srcNext l 3).2 40 1000000001).2
def customsmade_Requests.f (xs : List Int) : Option (List S37) := if xs.all rng64 = true then some (reqN 101 0 (xs.take 100)) else none
set_option maxHeartbeats 2000000 in
set_option maxRecDepth 100000 in
theorem customsmade_Requests.calls (A : Option Addr) (c : Nat) (xs : List Int) (r : List S37) (w : World) (hr : Kd.C (Kd.int .i64) w A xs.length xs) (hc : xs.length ≤ c) (h : customsmade_Requests.f xs = some r) :
    Calls Try.prog 11 #[.slice A xs.length c] w fun e w' => ∃ v0_ : Value, e = .returned (v0_) ∧ Kd.R k37 37 w' w.heap.size (fun _ => True) v0_ r ∧ Below w.heap.size w w' := by
  unfold customsmade_Requests.f at h
  by_cases hall : xs.all rng64 = true
  case neg => rw [if_neg hall] at h; exact absurd h (by simp)
  rw [if_pos hall] at h
  have hres := Option.some.inj h
  have hx := rng_all hall
  clear h hall
  have hu49 := Try.underlying45
  have hu25 := Try.underlying37
  obtain ⟨ys, hy⟩ : ∃ ys, xs.take 100 = ys := ⟨_, rfl⟩
  have hry := take_reads hr 100 ys hy
  have hxy : ∀ x ∈ ys, Rng64 x := fun x hm => hx x (List.mem_of_mem_take (hy ▸ hm))
  have hyl : ys.length ≤ 100 := by rw [← hy, List.length_take]; omega
  rw [hy] at hres
  go_enter Try.func11, Try.ntmps11
  go_wp2_with fail
  refine (cut_reads A c xs 100 _ hr hc (by decide) ys hy).mono ?_
  rintro e w1 ⟨rfl, rfl⟩
  have hS := Src.new w w A c ys (Below.refl _ _) hry hxy
  have hBw := below_alloc (Below.refl w.heap.size w) (.cells #[.slice A ys.length c, .int .i64 0] 45)
  have HS := Aside0.mk hS
  have HB := Aside0.mk hBw
  have Hres := Aside0.mk hres
  have HYL := Aside0.mk hyl
  have hgb : w.heap.size < w.heap.size + 1 := by omega
  clear hr hry hxy hx hc hy hS hBw hres hyl
  go_wp2_with fail
  have hsz0 : (w.alloc (Obj.cells #[Value.slice A ys.length c, Value.int IntKind.i64 0] 45)).heap.size = w.heap.size + 1 := by first | exact Array.size_push _ | (unfold World.alloc; simp)
  generalize (w.alloc (Obj.cells #[Value.slice A ys.length c, Value.int IntKind.i64 0] 45)) = W0 at HS HB hsz0 ⊢
  have hgW : w.heap.size < W0.heap.size := by omega
  go_loopg [4, 5] 101 (fun kq v4 v5 wr => ∃ (v : Value) (done : List S37) (id : Int) (l : List Int), v4 = v ∧ v5 = .int .i64 id ∧ 0 ≤ id ∧ id ≤ 3 * done.length ∧ done.length + l.length ≤ 100 ∧ l.length < kq ∧ Aside0 (Kd.R k37 37 wr W0.heap.size (fun _ => True) v done) ∧ Aside0 (Src w wr w.heap.size l) ∧ Aside0 (Below w.heap.size w wr) ∧ Aside0 (W0.heap.size ≤ wr.heap.size) ∧ Aside0 (done ++ reqN kq id l = r))
  case atStart => exact ⟨_, [], 0, ys, rfl, rfl, by omega, by simp, by have := HYL.out; simp; omega, by have := HYL.out; omega, ⟨Kd.R_nil _ _ _ _ _⟩, HS, HB, ⟨Nat.le_refl _⟩, ⟨by rw [← Hres.out]; rfl⟩⟩
  case round =>
    clear HS HB
    obtain ⟨v, done, id, l, rfl, rfl, hid0, hid1, hdl, hlk, HR, HS, HB, HW, Hr⟩ := hrel
    cases gk with
    | zero => exact absurd hlk (by omega)
    | succ n =>
      by_cases hl : 0 < l.length
      · have hd : decide (0 < l.length) = true := decide_eq_true hl
        obtain ⟨a, l1, hn1⟩ : ∃ a l1, srcNext l 3 = (a, l1) := ⟨_, _, rfl⟩
        obtain ⟨q, l2, hn2⟩ : ∃ q l2, smallS l1 40 1000000001 = (q, l2) := ⟨_, _, rfl⟩
        have ha := srcNext_rng hn1 (by decide)
        have hl1 : l1.length = l.length - 1 := by have := srcNext_len l 3; rw [hn1] at this; exact this
        have hl2 : l2.length ≤ l1.length := by have := smallS_len l1 40 1000000001; rw [hn2] at this; exact this
        have Hr1 : Aside0 (done ++ (⟨id + 1 + a, q⟩ :: reqN n (id + 1 + a) l2) = r) := ⟨by
          have := Hr.out
          rw [show reqN (n + 1) id l = ⟨id + 1 + (srcNext l 3).1, (smallS (srcNext l 3).2 40 1000000001).1⟩ :: reqN n (id + 1 + (srcNext l 3).1) (smallS (srcNext l 3).2 40 1000000001).2 from if_neg (by omega), hn1] at this
          dsimp only at this
          rw [hn2] at this
          exact this⟩
        have Hn1 := Aside0.mk hn1
        have Hn2 := Aside0.mk hn2
        clear hn1 hn2 Hr
        go_wp2_with (first
          | (go_at_call 20; refine (src_left HS.out HB.out).mono ?_; rintro e w3 ⟨rfl, hS3, hB3, hK3⟩)
          | (go_at_call 21; refine (src_next 3 hS3 hB3 (by decide) (by decide) a l1 Hn1.out).mono ?_; rintro e w4 ⟨rfl, hS4, hB4, hK4⟩)
          | (go_at_call 22; refine (small_next 40 1000000001 hS4 hB4 (by decide) (by decide) (by decide) (by decide) q l2 Hn2.out).mono ?_; rintro e w5 ⟨rfl, hS5, hB5, hK5⟩)
          | ((with_reducible refine gate_builtin (b := .append) (xs := #[.tmp 17, .tmp 22]) rfl ?_); at_builtin; refine Kd.R_append k37 (w0 := w5) W0.heap.size rfl (.tmp 17) (.tmp 22) 22 37 (.agg #[(.int .i64 0), (.int .i64 0)]) 16 rfl Try.underlying22 info37 rfl (by decide) (by omega) _ done ⟨id + 1 + a, q⟩ [.int .i64 (id + 1 + a), .int .i64 q] (fun _ => True) (fun _ => False) rfl rfl (k37_mkM _ _ _ _) (fun _ h => h.elim) (fun _ _ => trivial) (R_keep_base (R_keep_base (R_keep_base HR.out hK3 hgW) hK4 hgW) hK5 hgW) (Below.refl _ _) (Nat.le_trans HW.out (Nat.le_trans hK3.1 (Nat.le_trans hK4.1 hK5.1))) (by omega) ?_; intro v1 w6 hR6 hB6 hg6 hat6))
        have HS6 := Aside0.mk (hS5.grown hg6 (fun e => by have := Kd.R_base HR.out _ e.symm; omega))
        have HB6 := Aside0.mk (hB5.grown hg6 (Nat.le_trans hB5.size (Nat.le_refl _)) (fun k hk => by have := Kd.R_base HR.out k hk; omega))
        have HW6 : Aside0 (W0.heap.size ≤ w6.heap.size) := ⟨Nat.le_trans (Nat.le_trans HW.out (Nat.le_trans hK3.1 (Nat.le_trans hK4.1 hK5.1))) hg6.size⟩
        have HR6 := Aside0.mk hR6
        clear hR6 hB6 hg6 hat6 hS3 hB3 hK3 hS4 hB4 hK4 hS5 hB5 hK5 HS HB HR HW
        go_roundg n
        case measure => omega
        case rel => exact ⟨_, done ++ [⟨id + 1 + a, q⟩], id + 1 + a, l2, rfl, by go_num, by omega, by simp; omega, by simp; omega, by omega, HR6, HS6, HB6, HW6, ⟨by rw [← Hr1.out]; simp⟩⟩
      · have hd : decide (0 < l.length) = false := decide_eq_false hl
        have hlz : l.length = 0 := by omega
        have e : done = r := by
          have := Hr.out
          rw [show reqN (n + 1) id l = [] from if_pos hlz] at this
          simpa using this
        have He := Aside0.mk e
        clear e
        go_wp2_with (first | (go_at_call 20; refine (src_left HS.out HB.out).mono ?_; rintro e w3 ⟨rfl, hS3, hB3, hK3⟩))
        go_ret
        exact ⟨_, rfl, He.out ▸ Kd.R_lower (R_keep_base HR.out hK3 hgW) (by omega), hB3⟩

end Go.Proofs.Ytpijnpoebkffkaa.PX
end
section
namespace Go.Proofs.Ytpijnpoebkffkaa.PX
open Go.RowKit Go.Proofs.YtpijnpoebkffkaaW.PrintWords Go.Proofs.YtpijnpoebkffkaaW.PrintLast Go.Proofs.YtpijnpoebkffkaaW.PrintMore
attribute [local go_sem] max2_int min2_int max_two min_two max_three min_three max_four min_four   -- for this text's walks alone
set_option linter.unusedVariables false
set_option linter.unusedSimpArgs false

/-! ### customsref21_MulDiv: function 26 -/
mutual
def customsref21_MulDiv.l0 : Nat → Int → Int → Int → Int → Int → Int → Int → Option (Int)
  | 0, _, _, _, _, _, _, _ => none
  | k + 1, x1, x2, x7, x8, x9, x10, x11 => if x11 ≥ 0 then (if (wrap64 (2 * x10)) ≥ x2 then (customsref21_MulDiv.j1 k x1 x2 x7 x8 (wrap64 ((wrap64 (2 * x9)) + 1)) (wrap64 ((wrap64 (2 * x10)) - x2)) x11) else (customsref21_MulDiv.j1 k x1 x2 x7 x8 (wrap64 (2 * x9)) (wrap64 (2 * x10)) x11)) else (some (wrap64 (x7 + x9)))
def customsref21_MulDiv.j1 : Nat → Int → Int → Int → Int → Int → Int → Int → Option (Int)
  | 0, _, _, _, _, _, _, _ => none
  | k + 1, x1, x2, x7, x8, x9, x10, x11 => if 0 ≤ x11 then (if (Go.bits .and .i64 (shr .i64 x1 x11) 1) = 1 then (if (wrap64 (x10 + x8)) ≥ x2 then (customsref21_MulDiv.l0 k x1 x2 x7 x8 (wrap64 (x9 + 1)) (wrap64 ((wrap64 (x10 + x8)) - x2)) (wrap64 (x11 - 1))) else (customsref21_MulDiv.l0 k x1 x2 x7 x8 x9 (wrap64 (x10 + x8)) (wrap64 (x11 - 1)))) else (customsref21_MulDiv.l0 k x1 x2 x7 x8 x9 x10 (wrap64 (x11 - 1)))) else (none)
end
def customsref21_MulDiv.f (k : Nat) (a0 : Int) (a1 : Int) (a2 : Int) : Option (Int) := if a2 = 0 then (none) else (customsref21_MulDiv.l0 k a1 a2 (wrap64 ((wrap64 (Int.tdiv a0 a2)) * a1)) (Int.tmod a0 a2) 0 0 60)
set_option maxHeartbeats 8000000 in
set_option maxRecDepth 100000 in
theorem customsref21_MulDiv.calls (k : Nat) (a0 : Int) (a1 : Int) (a2 : Int) (r : Int) (w : World) (h : customsref21_MulDiv.f k a0 a1 a2 = some r) :
    Calls Try.prog 26 #[.int .i64 a0, .int .i64 a1, .int .i64 a2] w fun e w' => e = .returned (.int .i64 r) ∧ Drawn0 w w' := by
  have H : (if a2 = 0 then (none) else (customsref21_MulDiv.l0 k a1 a2 (wrap64 ((wrap64 (Int.tdiv a0 a2)) * a1)) (Int.tmod a0 a2) 0 0 60)) = some r := h
  clear h
  by_cases c4 : a2 = 0
  · rw [if_pos c4] at H
    exact absurd H (by simp)
  · rw [if_neg c4] at H
    have c4b0 : (a2 == 0) = false := beq_eq_false_iff_ne.mpr c4
    have c4b1 : (a2 != 0) = true := bne_iff_ne.mpr c4
    have H' := Aside0.mk H
    clear H
    go_enter Try.func26, Try.ntmps26
    go_wp2
    repeat (go_quiet (fail); try go_wp2)
    go_loopg [9, 10, 11] k (fun kq v9 v10 v11 w' => ∃ (x9_1 : Int) (x10_1 : Int) (x11_1 : Int), v9 = .int .i64 x9_1 ∧ v10 = .int .i64 x10_1 ∧ v11 = .int .i64 x11_1 ∧ Aside0 (customsref21_MulDiv.l0 kq a1 a2 (wrap64 ((wrap64 (Int.tdiv a0 a2)) * a1)) (Int.tmod a0 a2) x9_1 x10_1 x11_1 = some r) ∧ Aside0 (kq ≤ k) ∧ Drawn0 w w')
    case atStart => exact ⟨(0), (0), (60), (by first | rfl | (simp; done) | (simp [*]; done)), (by first | rfl | (simp; done) | (simp [*]; done)), (by first | rfl | (simp; done) | (simp [*]; done)), H', ⟨Nat.le_refl _⟩, by repeat (first | exact Drawn0.refl _ | apply Drawn0.step)⟩
    case round =>
      clear H'
      try clear c2
      try clear p2
      try clear c4
      try clear c4b0
      try clear c4b1
      obtain ⟨x9_1, x10_1, x11_1, rfl, rfl, rfl, HA, HK1, ⟨m1, rfl⟩⟩ := hrel
      cases gk with
      | zero => exact absurd HA.out (by simp [customsref21_MulDiv.l0])
      | succ k1 =>
        have H := HA.out
        clear HA
        simp only [customsref21_MulDiv.l0] at H
        by_cases c5 : x11_1 ≥ 0
        · rw [if_pos c5] at H
          have c5b0 : decide (0 ≤ x11_1) = true := decide_eq_true c5
          clear c5
          have HC6 := Aside0.mk H
          clear H
          go_upto_if 30 with (fail)
          repeat (go_quiet (fail); go_upto_if 30 with (fail))
          go_cut [9, 10] (fun v9 v10 wc => ∃ (kq : Nat) (x9_5 : Int) (x10_5 : Int), v9 = .int .i64 x9_5 ∧ v10 = .int .i64 x10_5 ∧ Aside0 (customsref21_MulDiv.j1 kq a1 a2 (wrap64 ((wrap64 (Int.tdiv a0 a2)) * a1)) (Int.tmod a0 a2) x9_5 x10_5 x11_1 = some r) ∧ Aside0 (kq ≤ k1) ∧ Drawn0 w wc)
          case first =>
            have H := HC6.out
            clear HC6
            by_cases c7 : (wrap64 (2 * x10_1)) ≥ a2
            · rw [if_pos c7] at H
              have c7b0 : decide (a2 ≤ (wrap64 (2 * x10_1))) = true := decide_eq_true c7
              clear c7
              (first | rw [c7b0] | (simp only [i64_w, i32_w]; rw [c7b0]) | skip)
              have H' := Aside0.mk H
              clear H
              go_wp2
              repeat (go_quiet (fail); try go_wp2)
              go_meet
              case rel => exact ⟨_, (wrap64 ((wrap64 (2 * x9_1)) + 1)), (wrap64 ((wrap64 (2 * x10_1)) - a2)), (by first | rfl | (simp; done) | (simp [*]; done)), (by first | rfl | (simp; done) | (simp [*]; done)), H', ⟨by have := HK1.out; first | omega | exact Nat.le_refl _⟩, by repeat (first | exact Drawn0.refl _ | apply Drawn0.step)⟩
            · rw [if_neg c7] at H
              have c7b0 : decide (a2 ≤ (wrap64 (2 * x10_1))) = false := decide_eq_false c7
              clear c7
              (first | rw [c7b0] | (simp only [i64_w, i32_w]; rw [c7b0]) | skip)
              have H' := Aside0.mk H
              clear H
              go_wp2
              repeat (go_quiet (fail); try go_wp2)
              go_meet
              case rel => exact ⟨_, (wrap64 (2 * x9_1)), (wrap64 (2 * x10_1)), (by first | rfl | (simp; done) | (simp [*]; done)), (by first | rfl | (simp; done) | (simp [*]; done)), H', ⟨by have := HK1.out; first | omega | exact Nat.le_refl _⟩, by repeat (first | exact Drawn0.refl _ | apply Drawn0.step)⟩
          case rest =>
            clear HC6
            try clear c2
            try clear p2
            try clear c4
            try clear c4b0
            try clear c4b1
            try clear c5
            try clear c5b0
            try clear p6
            try clear c7
            try clear c7b0
            try clear p2
            obtain ⟨kq, x9_5, x10_5, rfl, rfl, HA, HJ5, ⟨mc5, rfl⟩⟩ := hcut
            cases kq with
            | zero => exact absurd HA.out (by simp [customsref21_MulDiv.j1])
            | succ kj5 =>
              have H := HA.out
              clear HA
              simp only [customsref21_MulDiv.j1] at H
              by_cases c8 : 0 ≤ x11_1
              · rw [if_pos c8] at H
                have c8b0 := eq_true c8
                have c8b1 : decide (0 ≤ x11_1) = true := decide_eq_true c8
                clear c8
                obtain ⟨ji9, hji9⟩ : ∃ j_ : Int, (shr .i64 a1 x11_1) = j_ := ⟨_, rfl⟩
                replace H : (if (Go.bits .and .i64 (ji9) 1) = 1 then (if (wrap64 (x10_5 + (Int.tmod a0 a2))) ≥ a2 then (customsref21_MulDiv.l0 kj5 a1 a2 (wrap64 ((wrap64 (Int.tdiv a0 a2)) * a1)) (Int.tmod a0 a2) (wrap64 (x9_5 + 1)) (wrap64 ((wrap64 (x10_5 + (Int.tmod a0 a2))) - a2)) (wrap64 (x11_1 - 1))) else (customsref21_MulDiv.l0 kj5 a1 a2 (wrap64 ((wrap64 (Int.tdiv a0 a2)) * a1)) (Int.tmod a0 a2) x9_5 (wrap64 (x10_5 + (Int.tmod a0 a2))) (wrap64 (x11_1 - 1)))) else (customsref21_MulDiv.l0 kj5 a1 a2 (wrap64 ((wrap64 (Int.tdiv a0 a2)) * a1)) (Int.tmod a0 a2) x9_5 x10_5 (wrap64 (x11_1 - 1)))) = some r := by first | (rw [hji9] at H; exact H) | (simp only [hji9] at H ⊢; exact H)
                have hji9_ : (a1 / 2 ^ min x11_1.toNat 64) = ji9 := hji9
                have hji9z : x11_1 ≤ 64 → (a1 / 2 ^ x11_1.toNat) = ji9 := shr_small hji9
                by_cases c10 : (Go.bits .and .i64 (ji9) 1) = 1
                · rw [if_pos c10] at H
                  have c10b0 : ((Go.bits .and .i64 (ji9) 1) == 1) = true := beq_iff_eq.mpr c10
                  have c10b1 : ((Go.bits .and .i64 (ji9) 1) != 1) = false := bne_eq_false_iff_eq.mpr c10
                  clear c10
                  by_cases c11 : (wrap64 (x10_5 + (Int.tmod a0 a2))) ≥ a2
                  · rw [if_pos c11] at H
                    have c11b0 : decide (a2 ≤ (wrap64 (x10_5 + (Int.tmod a0 a2)))) = true := decide_eq_true c11
                    clear c11
                    have H' := Aside0.mk H
                    clear H
                    go_wp2
                    repeat (go_quiet (fail); try go_wp2)
                    go_roundg kj5
                    case measure => have := HK1.out; have := HJ5.out; omega
                    case rel => exact ⟨(wrap64 (x9_5 + 1)), (wrap64 ((wrap64 (x10_5 + (Int.tmod a0 a2))) - a2)), (wrap64 (x11_1 - 1)), (by first | rfl | (simp; done) | (simp [*]; done)), (by first | rfl | (simp; done) | (simp [*]; done)), (by first | rfl | (simp; done) | (simp [*]; done)), H', ⟨by have := HK1.out; have := HJ5.out; omega⟩, by repeat (first | exact Drawn0.refl _ | apply Drawn0.step)⟩
                  · rw [if_neg c11] at H
                    have c11b0 : decide (a2 ≤ (wrap64 (x10_5 + (Int.tmod a0 a2)))) = false := decide_eq_false c11
                    clear c11
                    have H' := Aside0.mk H
                    clear H
                    go_wp2
                    repeat (go_quiet (fail); try go_wp2)
                    go_roundg kj5
                    case measure => have := HK1.out; have := HJ5.out; omega
                    case rel => exact ⟨(x9_5), (wrap64 (x10_5 + (Int.tmod a0 a2))), (wrap64 (x11_1 - 1)), (by first | rfl | (simp; done) | (simp [*]; done)), (by first | rfl | (simp; done) | (simp [*]; done)), (by first | rfl | (simp; done) | (simp [*]; done)), H', ⟨by have := HK1.out; have := HJ5.out; omega⟩, by repeat (first | exact Drawn0.refl _ | apply Drawn0.step)⟩
                · rw [if_neg c10] at H
                  have c10b0 : ((Go.bits .and .i64 (ji9) 1) == 1) = false := beq_eq_false_iff_ne.mpr c10
                  have c10b1 : ((Go.bits .and .i64 (ji9) 1) != 1) = true := bne_iff_ne.mpr c10
                  have H' := Aside0.mk H
                  clear H
                  go_wp2
                  repeat (go_quiet (fail); try go_wp2)
                  go_roundg kj5
                  case measure => have := HK1.out; have := HJ5.out; omega
                  case rel => exact ⟨(x9_5), (x10_5), (wrap64 (x11_1 - 1)), (by first | rfl | (simp; done) | (simp [*]; done)), (by first | rfl | (simp; done) | (simp [*]; done)), (by first | rfl | (simp; done) | (simp [*]; done)), H', ⟨by have := HK1.out; have := HJ5.out; omega⟩, by repeat (first | exact Drawn0.refl _ | apply Drawn0.step)⟩
              · rw [if_neg c8] at H
                exact absurd H (by simp)
        · rw [if_neg c5] at H
          have c5b0 : decide (0 ≤ x11_1) = false := decide_eq_false c5
          clear c5
          obtain rfl := Option.some.inj H
          go_wp2
          repeat (go_quiet (fail); try go_wp2)
          go_ret
          exact ⟨by first | rfl | (simp; done) | (simp [*]; done), by repeat (first | exact Drawn0.refl _ | apply Drawn0.step)⟩

end Go.Proofs.Ytpijnpoebkffkaa.PX
end
section
namespace Go.Proofs.Ytpijnpoebkffkaa.PX
open Go.RowKit Go.Proofs.YtpijnpoebkffkaaW.PrintWords Go.Proofs.YtpijnpoebkffkaaW.PrintLast Go.Proofs.YtpijnpoebkffkaaW.PrintMore
attribute [local go_sem] max2_int min2_int max_two min_two max_three min_three max_four min_four   -- for this text's walks alone
set_option linter.unusedVariables false
set_option linter.unusedSimpArgs false

/-! ### customsref21_Rest: function 27 -/
mutual
def customsref21_Rest.l0 : Nat → Int → Int → Int → Int → Int → Option (Int)
  | 0, _, _, _, _, _ => none
  | k + 1, x1, x2, x7, x8, x9 => if x9 ≥ 0 then (if (wrap64 (2 * x8)) ≥ x2 then (customsref21_Rest.j1 k x1 x2 x7 (wrap64 ((wrap64 (2 * x8)) - x2)) x9) else (customsref21_Rest.j1 k x1 x2 x7 (wrap64 (2 * x8)) x9)) else (some x8)
def customsref21_Rest.j1 : Nat → Int → Int → Int → Int → Int → Option (Int)
  | 0, _, _, _, _, _ => none
  | k + 1, x1, x2, x7, x8, x9 => if 0 ≤ x9 then (if (Go.bits .and .i64 (shr .i64 x1 x9) 1) = 1 then (if (wrap64 (x8 + x7)) ≥ x2 then (customsref21_Rest.l0 k x1 x2 x7 (wrap64 ((wrap64 (x8 + x7)) - x2)) (wrap64 (x9 - 1))) else (customsref21_Rest.l0 k x1 x2 x7 (wrap64 (x8 + x7)) (wrap64 (x9 - 1)))) else (customsref21_Rest.l0 k x1 x2 x7 x8 (wrap64 (x9 - 1)))) else (none)
end
def customsref21_Rest.f (k : Nat) (a0 : Int) (a1 : Int) (a2 : Int) : Option (Int) := if a2 = 0 then (none) else (customsref21_Rest.l0 k a1 a2 (Int.tmod a0 a2) 0 60)
set_option maxHeartbeats 8000000 in
set_option maxRecDepth 100000 in
theorem customsref21_Rest.calls (k : Nat) (a0 : Int) (a1 : Int) (a2 : Int) (r : Int) (w : World) (h : customsref21_Rest.f k a0 a1 a2 = some r) :
    Calls Try.prog 27 #[.int .i64 a0, .int .i64 a1, .int .i64 a2] w fun e w' => e = .returned (.int .i64 r) ∧ Drawn0 w w' := by
  have H : (if a2 = 0 then (none) else (customsref21_Rest.l0 k a1 a2 (Int.tmod a0 a2) 0 60)) = some r := h
  clear h
  by_cases c4 : a2 = 0
  · rw [if_pos c4] at H
    exact absurd H (by simp)
  · rw [if_neg c4] at H
    have c4b0 : (a2 == 0) = false := beq_eq_false_iff_ne.mpr c4
    have c4b1 : (a2 != 0) = true := bne_iff_ne.mpr c4
    have H' := Aside0.mk H
    clear H
    go_enter Try.func27, Try.ntmps27
    go_wp2
    go_loopg [8, 9] k (fun kq v8 v9 w' => ∃ (x8_1 : Int) (x9_1 : Int), v8 = .int .i64 x8_1 ∧ v9 = .int .i64 x9_1 ∧ Aside0 (customsref21_Rest.l0 kq a1 a2 (Int.tmod a0 a2) x8_1 x9_1 = some r) ∧ Aside0 (kq ≤ k) ∧ Drawn0 w w')
    case atStart => exact ⟨(0), (60), (by first | rfl | (simp; done) | (simp [*]; done)), (by first | rfl | (simp; done) | (simp [*]; done)), H', ⟨Nat.le_refl _⟩, by repeat (first | exact Drawn0.refl _ | apply Drawn0.step)⟩
    case round =>
      clear H'
      try clear c2
      try clear p2
      try clear c4
      try clear c4b0
      try clear c4b1
      obtain ⟨x8_1, x9_1, rfl, rfl, HA, HK1, ⟨m1, rfl⟩⟩ := hrel
      cases gk with
      | zero => exact absurd HA.out (by simp [customsref21_Rest.l0])
      | succ k1 =>
        have H := HA.out
        clear HA
        simp only [customsref21_Rest.l0] at H
        by_cases c5 : x9_1 ≥ 0
        · rw [if_pos c5] at H
          have c5b0 : decide (0 ≤ x9_1) = true := decide_eq_true c5
          clear c5
          have HC6 := Aside0.mk H
          clear H
          go_upto_if 21 with (fail)
          go_cut [8] (fun v8 wc => ∃ (kq : Nat) (x8_5 : Int), v8 = .int .i64 x8_5 ∧ Aside0 (customsref21_Rest.j1 kq a1 a2 (Int.tmod a0 a2) x8_5 x9_1 = some r) ∧ Aside0 (kq ≤ k1) ∧ Drawn0 w wc)
          case first =>
            have H := HC6.out
            clear HC6
            by_cases c7 : (wrap64 (2 * x8_1)) ≥ a2
            · rw [if_pos c7] at H
              have c7b0 : decide (a2 ≤ (wrap64 (2 * x8_1))) = true := decide_eq_true c7
              clear c7
              (first | rw [c7b0] | (simp only [i64_w, i32_w]; rw [c7b0]) | skip)
              have H' := Aside0.mk H
              clear H
              go_wp2
              go_meet
              case rel => exact ⟨_, (wrap64 ((wrap64 (2 * x8_1)) - a2)), (by first | rfl | (simp; done) | (simp [*]; done)), H', ⟨by have := HK1.out; first | omega | exact Nat.le_refl _⟩, by repeat (first | exact Drawn0.refl _ | apply Drawn0.step)⟩
            · rw [if_neg c7] at H
              have c7b0 : decide (a2 ≤ (wrap64 (2 * x8_1))) = false := decide_eq_false c7
              clear c7
              (first | rw [c7b0] | (simp only [i64_w, i32_w]; rw [c7b0]) | skip)
              have H' := Aside0.mk H
              clear H
              go_wp2
              go_meet
              case rel => exact ⟨_, (wrap64 (2 * x8_1)), (by first | rfl | (simp; done) | (simp [*]; done)), H', ⟨by have := HK1.out; first | omega | exact Nat.le_refl _⟩, by repeat (first | exact Drawn0.refl _ | apply Drawn0.step)⟩
          case rest =>
            clear HC6
            try clear c2
            try clear p2
            try clear c4
            try clear c4b0
            try clear c4b1
            try clear c5
            try clear c5b0
            try clear p6
            try clear c7
            try clear c7b0
            try clear p2
            obtain ⟨kq, x8_5, rfl, HA, HJ5, ⟨mc5, rfl⟩⟩ := hcut
            cases kq with
            | zero => exact absurd HA.out (by simp [customsref21_Rest.j1])
            | succ kj5 =>
              have H := HA.out
              clear HA
              simp only [customsref21_Rest.j1] at H
              by_cases c8 : 0 ≤ x9_1
              · rw [if_pos c8] at H
                have c8b0 := eq_true c8
                have c8b1 : decide (0 ≤ x9_1) = true := decide_eq_true c8
                clear c8
                obtain ⟨ji9, hji9⟩ : ∃ j_ : Int, (shr .i64 a1 x9_1) = j_ := ⟨_, rfl⟩
                replace H : (if (Go.bits .and .i64 (ji9) 1) = 1 then (if (wrap64 (x8_5 + (Int.tmod a0 a2))) ≥ a2 then (customsref21_Rest.l0 kj5 a1 a2 (Int.tmod a0 a2) (wrap64 ((wrap64 (x8_5 + (Int.tmod a0 a2))) - a2)) (wrap64 (x9_1 - 1))) else (customsref21_Rest.l0 kj5 a1 a2 (Int.tmod a0 a2) (wrap64 (x8_5 + (Int.tmod a0 a2))) (wrap64 (x9_1 - 1)))) else (customsref21_Rest.l0 kj5 a1 a2 (Int.tmod a0 a2) x8_5 (wrap64 (x9_1 - 1)))) = some r := by first | (rw [hji9] at H; exact H) | (simp only [hji9] at H ⊢; exact H)
                have hji9_ : (a1 / 2 ^ min x9_1.toNat 64) = ji9 := hji9
                have hji9z : x9_1 ≤ 64 → (a1 / 2 ^ x9_1.toNat) = ji9 := shr_small hji9
                by_cases c10 : (Go.bits .and .i64 (ji9) 1) = 1
                · rw [if_pos c10] at H
                  have c10b0 : ((Go.bits .and .i64 (ji9) 1) == 1) = true := beq_iff_eq.mpr c10
                  have c10b1 : ((Go.bits .and .i64 (ji9) 1) != 1) = false := bne_eq_false_iff_eq.mpr c10
                  clear c10
                  by_cases c11 : (wrap64 (x8_5 + (Int.tmod a0 a2))) ≥ a2
                  · rw [if_pos c11] at H
                    have c11b0 : decide (a2 ≤ (wrap64 (x8_5 + (Int.tmod a0 a2)))) = true := decide_eq_true c11
                    clear c11
                    have H' := Aside0.mk H
                    clear H
                    go_wp2
                    go_roundg kj5
                    case measure => have := HK1.out; have := HJ5.out; omega
                    case rel => exact ⟨(wrap64 ((wrap64 (x8_5 + (Int.tmod a0 a2))) - a2)), (wrap64 (x9_1 - 1)), (by first | rfl | (simp; done) | (simp [*]; done)), (by first | rfl | (simp; done) | (simp [*]; done)), H', ⟨by have := HK1.out; have := HJ5.out; omega⟩, by repeat (first | exact Drawn0.refl _ | apply Drawn0.step)⟩
                  · rw [if_neg c11] at H
                    have c11b0 : decide (a2 ≤ (wrap64 (x8_5 + (Int.tmod a0 a2)))) = false := decide_eq_false c11
                    clear c11
                    have H' := Aside0.mk H
                    clear H
                    go_wp2
                    go_roundg kj5
                    case measure => have := HK1.out; have := HJ5.out; omega
                    case rel => exact ⟨(wrap64 (x8_5 + (Int.tmod a0 a2))), (wrap64 (x9_1 - 1)), (by first | rfl | (simp; done) | (simp [*]; done)), (by first | rfl | (simp; done) | (simp [*]; done)), H', ⟨by have := HK1.out; have := HJ5.out; omega⟩, by repeat (first | exact Drawn0.refl _ | apply Drawn0.step)⟩
                · rw [if_neg c10] at H
                  have c10b0 : ((Go.bits .and .i64 (ji9) 1) == 1) = false := beq_eq_false_iff_ne.mpr c10
                  have c10b1 : ((Go.bits .and .i64 (ji9) 1) != 1) = true := bne_iff_ne.mpr c10
                  have H' := Aside0.mk H
                  clear H
                  go_wp2
                  go_roundg kj5
                  case measure => have := HK1.out; have := HJ5.out; omega
                  case rel => exact ⟨(x8_5), (wrap64 (x9_1 - 1)), (by first | rfl | (simp; done) | (simp [*]; done)), (by first | rfl | (simp; done) | (simp [*]; done)), H', ⟨by have := HK1.out; have := HJ5.out; omega⟩, by repeat (first | exact Drawn0.refl _ | apply Drawn0.step)⟩
              · rw [if_neg c8] at H
                exact absurd H (by simp)
        · rw [if_neg c5] at H
          have c5b0 : decide (0 ≤ x9_1) = false := decide_eq_false c5
          clear c5
          obtain rfl := Option.some.inj H
          go_wp2
          go_ret
          exact ⟨by first | rfl | (simp; done) | (simp [*]; done), by repeat (first | exact Drawn0.refl _ | apply Drawn0.step)⟩

end Go.Proofs.Ytpijnpoebkffkaa.PX
end
section
namespace Go.Proofs.Ytpijnpoebkffkaa.PX
open Go.RowKit Go.Proofs.YtpijnpoebkffkaaW.PrintWords Go.Proofs.YtpijnpoebkffkaaW.PrintLast Go.Proofs.YtpijnpoebkffkaaW.PrintMore
attribute [local go_sem] max2_int min2_int max_two min_two max_three min_three max_four min_four   -- for this text's walks alone
set_option linter.unusedVariables false
set_option linter.unusedSimpArgs false

/-! ### customsref21_Share: function 24 -/
mutual
def customsref21_Share.l0 : Nat → Int → List Int → Int → Int → Option (List Int)
  | 0, _, _, _, _ => none
  | k + 1, x0, x1, x5, x6 => if x6 < (x1.length : Int) then (if 0 ≤ x6 then (customsref21_Share.l0 k x0 x1 (wrap64 (x5 + (rd x1 x6))) (wrap64 (x6 + 1))) else (none)) else ((some (([] : List Int) : List Int)).bind fun y184 => (if y184.length + x1.length < 17592186044416 then ((some (y184 ++ x1 : List Int)).bind fun y187 => (if x5 = 0 then (customsref21_Share.l1 k x0 y187 0) else (customsref21_Share.j2 k x0 x5 y187))) else (none)))
def customsref21_Share.j2 : Nat → Int → Int → List Int → Option (List Int)
  | 0, _, _, _ => none
  | k + 1, x0, x5, x7 => if 0 ≤ (x7.length : Int) then (if ((x7.length : Int) : Int).toNat ≤ 35184372088832 then (customsref21_Share.l2 k x0 x5 x7 (List.replicate ((x7.length : Int) : Int).toNat 0) x0 0) else (none)) else (none)
def customsref21_Share.l2 : Nat → Int → Int → List Int → List Int → Int → Int → Option (List Int)
  | 0, _, _, _, _, _, _ => none
  | k + 1, x0, x5, x7, x9, x10, x11 => if x11 < (x7.length : Int) then (if 0 ≤ x11 then ((customsref21_MulDiv.f k x0 (rd x7 x11) x5).bind fun t195 => (if x11 < (x9.length : Int) then ((some (x9.set (x11 : Int).toNat t195 : List Int)).bind fun y196 => (customsref21_Share.l2 k x0 x5 x7 y196 (wrap64 (x10 - (rd y196 x11))) (wrap64 (x11 + 1)))) else (none))) else (none)) else (if 0 ≤ (x7.length : Int) then (if ((x7.length : Int) : Int).toNat ≤ 281474976710656 then (customsref21_Share.l3 k x0 x5 x7 x9 x10 (List.replicate ((x7.length : Int) : Int).toNat false)) else (none)) else (none))
def customsref21_Share.l3 : Nat → Int → Int → List Int → List Int → Int → List Bool → Option (List Int)
  | 0, _, _, _, _, _, _ => none
  | k + 1, x0, x5, x7, x9, x10, x12 => if x10 > 0 then (customsref21_Share.l4 k x0 x5 x7 x9 x10 x12 (-1) 0) else (some x9)
def customsref21_Share.l4 : Nat → Int → Int → List Int → List Int → Int → List Bool → Int → Int → Option (List Int)
  | 0, _, _, _, _, _, _, _, _ => none
  | k + 1, x0, x5, x7, x9, x10, x12, x13, x14 => if x14 < (x7.length : Int) then (if 0 ≤ x14 then (if x14 < (x12.length : Int) then (if rdOf false x12 x14 = true then (customsref21_Share.l4 k x0 x5 x7 x9 x10 x12 x13 (wrap64 (x14 + 1))) else (if x13 < 0 then (customsref21_Share.l4 k x0 x5 x7 x9 x10 x12 x14 (wrap64 (x14 + 1))) else ((customsref21_Rest.f k x0 (rd x7 x14) x5).bind fun t206 => (if 0 ≤ x13 then (if x13 < (x7.length : Int) then ((customsref21_Rest.f k x0 (rd x7 x13) x5).bind fun t208 => (if t206 > t208 then (customsref21_Share.l4 k x0 x5 x7 x9 x10 x12 x14 (wrap64 (x14 + 1))) else (customsref21_Share.l4 k x0 x5 x7 x9 x10 x12 x13 (wrap64 (x14 + 1))))) else (none)) else (none))))) else (none)) else (none)) else (if x13 < 0 then (some x9) else (if 0 ≤ x13 then (if x13 < (x12.length : Int) then (if x13 < (x9.length : Int) then (customsref21_Share.l3 k x0 x5 x7 (x9.set (x13 : Int).toNat (wrap64 ((rd x9 x13) + 1))) (wrap64 (x10 - 1)) (x12.set (x13 : Int).toNat true)) else (none)) else (none)) else (none)))
def customsref21_Share.l1 : Nat → Int → List Int → Int → Option (List Int)
  | 0, _, _, _ => none
  | k + 1, x0, x7, x8 => if x8 < (x7.length : Int) then (if 0 ≤ x8 then (customsref21_Share.l1 k x0 (x7.set (x8 : Int).toNat 1) (wrap64 (x8 + 1))) else (none)) else (customsref21_Share.j2 k x0 (x7.length : Int) x7)
end
def customsref21_Share.f (k : Nat) (a0 : Int) (l1 : List Int) : Option (List Int) := customsref21_Share.l0 k a0 l1 0 0
set_option maxHeartbeats 8000000 in
set_option maxRecDepth 100000 in
theorem customsref21_Share.calls (k : Nat) (a0 : Int) (A1 : Option Addr) (c1 : Nat) (l1 : List Int) (r : List Int) (w : World) (hr1 : Kd.C (Kd.int .i64) w A1 l1.length l1) (hc1 : l1.length ≤ c1) (h : customsref21_Share.f k a0 l1 = some r) :
    Calls Try.prog 24 #[.int .i64 a0, .slice A1 l1.length c1] w fun e w' => ∃ v0_ : Value, e = .returned (v0_) ∧ Kd.R (Kd.int .i64) 3 w' w.heap.size (fun _ => True) v0_ r ∧ Below w.heap.size w w' := by
  have HR1 := Aside0.mk hr1
  have HC1 := Aside0.mk hc1
  clear hr1 hc1
  have HB := Aside0.mk (Below.refl w.heap.size w)
  have H : (customsref21_Share.l0 k a0 l1 0 0) = some r := h
  clear h
  have H' := Aside0.mk H
  clear H
  go_enter Try.func24, Try.ntmps24
  go_wp2
  repeat (go_quiet (fail); try go_wp2)
  go_loopg [5, 6] k (fun kq v5 v6 w' => ∃ (x5_1 : Int) (x6_1 : Int), v5 = .int .i64 x5_1 ∧ v6 = .int .i64 x6_1 ∧ Aside0 (customsref21_Share.l0 kq a0 l1 x5_1 x6_1 = some r) ∧ Aside0 (kq ≤ k) ∧ Aside0 (Below w.heap.size w w'))
  case atStart => exact ⟨(0), (0), (by first | rfl | (simp; done) | (simp [*]; done)), (by first | rfl | (simp; done) | (simp [*]; done)), H', ⟨Nat.le_refl _⟩, ⟨by repeat (first | (with_reducible first | exact HB.out | apply below_alloc | apply pw_below_drewN | apply below_drew1) | exact HB.out)⟩⟩
  case round =>
    clear H'
    try clear c1
    try clear c2
    try clear p2
    obtain ⟨x5_1, x6_1, rfl, rfl, HA, HK1, HB⟩ := hrel
    cases gk with
    | zero => exact absurd HA.out (by simp [customsref21_Share.l0])
    | succ k1 =>
      have H := HA.out
      clear HA
      simp only [customsref21_Share.l0] at H
      by_cases c3 : x6_1 < (l1.length : Int)
      · rw [if_pos c3] at H
        have c3b0 : decide (x6_1 < (l1.length : Int)) = true := decide_eq_true c3
        clear c3
        by_cases c4 : 0 ≤ x6_1
        · rw [if_pos c4] at H
          have c4b0 : decide (0 ≤ x6_1) = true := decide_eq_true c4
          clear c4
          have H' := Aside0.mk H
          clear H
          have p183 : 0 ≤ (x6_1 : Int) := of_decide_eq_true (by first | (with_reducible assumption) | assumption)
          have q183 : x6_1 < (l1.length : Int) := of_decide_eq_true (by first | (with_reducible assumption) | assumption)
          obtain ⟨ad183, e183, hx183_0⟩ := Kd.at_int HR1.out x6_1 p183 q183
          cases e183
          replace hx183_0 := (HB.out.cell (World.block_lt_of_cell? w _ hx183_0)).trans hx183_0
          replace p183 := eq_true p183
          replace q183 := eq_true q183
          go_wp2
          repeat (go_quiet (fail); try go_wp2)
          go_roundg k1
          case measure => have := HK1.out; omega
          case rel => exact ⟨(wrap64 (x5_1 + (rd l1 x6_1))), (wrap64 (x6_1 + 1)), (by first | rfl | (simp; done) | (simp [*]; done)), (by first | rfl | (simp; done) | (simp [*]; done)), H', ⟨by have := HK1.out; omega⟩, ⟨by repeat (first | (with_reducible first | exact HB.out | apply below_alloc | apply pw_below_drewN | apply below_drew1) | exact HB.out)⟩⟩
        · rw [if_neg c4] at H
          exact absurd H (by simp)
      · rw [if_neg c3] at H
        have c3b0 : decide (x6_1 < (l1.length : Int)) = false := decide_eq_false c3
        clear c3
        obtain ⟨y184, hy184⟩ : ∃ y_ : List Int, y_ = (([] : List Int)) := ⟨_, rfl⟩
        replace H : (if y184.length + l1.length < 17592186044416 then ((some (y184 ++ l1 : List Int)).bind fun y187 => (if x5_1 = 0 then (customsref21_Share.l1 k1 a0 y187 0) else (customsref21_Share.j2 k1 a0 x5_1 y187))) else (none)) = some r := by first | (rw [hy184]; with_reducible exact H) | (have H2_ := (Option.bind_some _ _).symm.trans H; rw [hy184]; with_reducible exact H2_) | (have H2_ := (Option.bind_some _ _).symm.trans H; with_reducible exact H2_) | with_reducible exact H | (rw [hy184]; exact H) | exact H
        have Ny184 := Aside0.mk hy184
        clear hy184
        by_cases c5 : y184.length + l1.length < 17592186044416
        · rw [if_pos c5] at H
          have LMc5 := Aside0.mk c5
          clear c5
          obtain ⟨y187, hy187⟩ : ∃ y_ : List Int, y_ = (y184 ++ l1) := ⟨_, rfl⟩
          replace H : (if x5_1 = 0 then (customsref21_Share.l1 k1 a0 y187 0) else (customsref21_Share.j2 k1 a0 x5_1 y187)) = some r := by first | (rw [hy187]; with_reducible exact H) | (have H2_ := (Option.bind_some _ _).symm.trans H; rw [hy187]; with_reducible exact H2_) | (have H2_ := (Option.bind_some _ _).symm.trans H; with_reducible exact H2_) | with_reducible exact H | (rw [hy187]; exact H) | exact H
          have Ny187 := Aside0.mk hy187
          clear hy187
          have HC6 := Aside0.mk H
          clear H
          go_upto_if 31 with (first | ((with_reducible refine gate_dst (N := 27) rfl ?_); refine Kd.R_lit (Kd.int .i64) _ 3 ?hg (N := 27) ?hd (xs := ([] : List Int)) (inner := []) (ok := fun _ => True) (okp := fun _ => True) ?hr ?hp (fun _ hk => hk) trivial (Below.refl _ _) (Nat.le_refl _) (by simp) ?_; (case hd => rfl); (case hg => rfl); (case hr => first | (go_simp; done) | (go_simp; rfl)); (case hp => exact (Reps.none _ _)); intro v185 w7 ho8 hb hg_ hnew_; clear hg_ hnew_; (first | rw [← Ny184.out] at ho8 | (simp only [Int.reduceToNat] at ho8; rw [← Ny184.out] at ho8)); have n0_ := Aside0.mk (Kd.R_lower ho8 (below_size (by repeat (first | (with_reducible first | exact HB.out | apply below_alloc | apply pw_below_drewN | apply below_drew1) | exact HB.out)))); have n1_ := Aside0.mk (below_step (by repeat (first | (with_reducible first | exact HB.out | apply below_alloc | apply pw_below_drewN | apply below_drew1) | exact HB.out)) hb); clear HB; have HO186 := n0_; have HB := n1_; clear n0_ n1_; clear hb ho8) | ((with_reducible refine gate_builtin (b := .append) (xs := #[.tmp 27, .tmp 28]) rfl ?_); at_builtin; refine Kd.R_append_rows (Kd.int .i64) (w0 := w) w.heap.size rfl (.tmp 27) (.tmp 28) 27 3 (.int .i64 0) 8 rfl Try.underlying27 info3 rfl (by decide) (by omega) v185 y184 l1 _ _ _ (fun _ => True) (fun _ => False) rfl rfl ?aO ?aR (fun _ _ h => h) (fun _ h => h.elim) ?aF ?aB ?aS ?aL ?_; (case aR => repeat (first | exact (Kd.C_below HR1.out HB.out) | (with_reducible refine Kd.C_alloc ?_ _) | (with_reducible refine Kd.C_drewN ?_ _) | (with_reducible refine Kd.C_drew ?_))); (case aB => exact (by repeat (first | (with_reducible first | exact HB.out | apply below_alloc | apply pw_below_drewN | apply below_drew1) | exact HB.out))); (case aF => exact (fun _ _ => trivial)); (case aO => exact (by (with_reducible repeat (first | apply Kd.R_alloc | apply Kd.R_drewN | apply Kd.R_drew)); exact HO186.out)); (case aS => exact (below_size (by repeat (first | (with_reducible first | exact HB.out | apply below_alloc | apply pw_below_drewN | apply below_drew1) | exact HB.out)))); (case aL => have := LMc5.out; omega); intro v188 w9 ho hb hg hat; rw [← Ny187.out] at ho; have n0_ := Aside0.mk (hb); have n1_ := Aside0.mk (ho); clear HB; clear HO186; have HB := n0_; have HO189 := n1_; clear n0_ n1_; clear ho hb hg hat))
          repeat (go_quiet (first | ((with_reducible refine gate_dst (N := 27) rfl ?_); refine Kd.R_lit (Kd.int .i64) _ 3 ?hg (N := 27) ?hd (xs := ([] : List Int)) (inner := []) (ok := fun _ => True) (okp := fun _ => True) ?hr ?hp (fun _ hk => hk) trivial (Below.refl _ _) (Nat.le_refl _) (by simp) ?_; (case hd => rfl); (case hg => rfl); (case hr => first | (go_simp; done) | (go_simp; rfl)); (case hp => exact (Reps.none _ _)); intro v185 w7 ho8 hb hg_ hnew_; clear hg_ hnew_; (first | rw [← Ny184.out] at ho8 | (simp only [Int.reduceToNat] at ho8; rw [← Ny184.out] at ho8)); have n0_ := Aside0.mk (Kd.R_lower ho8 (below_size (by repeat (first | (with_reducible first | exact HB.out | apply below_alloc | apply pw_below_drewN | apply below_drew1) | exact HB.out)))); have n1_ := Aside0.mk (below_step (by repeat (first | (with_reducible first | exact HB.out | apply below_alloc | apply pw_below_drewN | apply below_drew1) | exact HB.out)) hb); clear HB; have HO186 := n0_; have HB := n1_; clear n0_ n1_; clear hb ho8) | ((with_reducible refine gate_builtin (b := .append) (xs := #[.tmp 27, .tmp 28]) rfl ?_); at_builtin; refine Kd.R_append_rows (Kd.int .i64) (w0 := w) w.heap.size rfl (.tmp 27) (.tmp 28) 27 3 (.int .i64 0) 8 rfl Try.underlying27 info3 rfl (by decide) (by omega) v185 y184 l1 _ _ _ (fun _ => True) (fun _ => False) rfl rfl ?aO ?aR (fun _ _ h => h) (fun _ h => h.elim) ?aF ?aB ?aS ?aL ?_; (case aR => repeat (first | exact (Kd.C_below HR1.out HB.out) | (with_reducible refine Kd.C_alloc ?_ _) | (with_reducible refine Kd.C_drewN ?_ _) | (with_reducible refine Kd.C_drew ?_))); (case aB => exact (by repeat (first | (with_reducible first | exact HB.out | apply below_alloc | apply pw_below_drewN | apply below_drew1) | exact HB.out))); (case aF => exact (fun _ _ => trivial)); (case aO => exact (by (with_reducible repeat (first | apply Kd.R_alloc | apply Kd.R_drewN | apply Kd.R_drew)); exact HO186.out)); (case aS => exact (below_size (by repeat (first | (with_reducible first | exact HB.out | apply below_alloc | apply pw_below_drewN | apply below_drew1) | exact HB.out)))); (case aL => have := LMc5.out; omega); intro v188 w9 ho hb hg hat; rw [← Ny187.out] at ho; have n0_ := Aside0.mk (hb); have n1_ := Aside0.mk (ho); clear HB; clear HO186; have HB := n0_; have HO189 := n1_; clear n0_ n1_; clear ho hb hg hat)); go_upto_if 31 with (first | ((with_reducible refine gate_dst (N := 27) rfl ?_); refine Kd.R_lit (Kd.int .i64) _ 3 ?hg (N := 27) ?hd (xs := ([] : List Int)) (inner := []) (ok := fun _ => True) (okp := fun _ => True) ?hr ?hp (fun _ hk => hk) trivial (Below.refl _ _) (Nat.le_refl _) (by simp) ?_; (case hd => rfl); (case hg => rfl); (case hr => first | (go_simp; done) | (go_simp; rfl)); (case hp => exact (Reps.none _ _)); intro v185 w7 ho8 hb hg_ hnew_; clear hg_ hnew_; (first | rw [← Ny184.out] at ho8 | (simp only [Int.reduceToNat] at ho8; rw [← Ny184.out] at ho8)); have n0_ := Aside0.mk (Kd.R_lower ho8 (below_size (by repeat (first | (with_reducible first | exact HB.out | apply below_alloc | apply pw_below_drewN | apply below_drew1) | exact HB.out)))); have n1_ := Aside0.mk (below_step (by repeat (first | (with_reducible first | exact HB.out | apply below_alloc | apply pw_below_drewN | apply below_drew1) | exact HB.out)) hb); clear HB; have HO186 := n0_; have HB := n1_; clear n0_ n1_; clear hb ho8) | ((with_reducible refine gate_builtin (b := .append) (xs := #[.tmp 27, .tmp 28]) rfl ?_); at_builtin; refine Kd.R_append_rows (Kd.int .i64) (w0 := w) w.heap.size rfl (.tmp 27) (.tmp 28) 27 3 (.int .i64 0) 8 rfl Try.underlying27 info3 rfl (by decide) (by omega) v185 y184 l1 _ _ _ (fun _ => True) (fun _ => False) rfl rfl ?aO ?aR (fun _ _ h => h) (fun _ h => h.elim) ?aF ?aB ?aS ?aL ?_; (case aR => repeat (first | exact (Kd.C_below HR1.out HB.out) | (with_reducible refine Kd.C_alloc ?_ _) | (with_reducible refine Kd.C_drewN ?_ _) | (with_reducible refine Kd.C_drew ?_))); (case aB => exact (by repeat (first | (with_reducible first | exact HB.out | apply below_alloc | apply pw_below_drewN | apply below_drew1) | exact HB.out))); (case aF => exact (fun _ _ => trivial)); (case aO => exact (by (with_reducible repeat (first | apply Kd.R_alloc | apply Kd.R_drewN | apply Kd.R_drew)); exact HO186.out)); (case aS => exact (below_size (by repeat (first | (with_reducible first | exact HB.out | apply below_alloc | apply pw_below_drewN | apply below_drew1) | exact HB.out)))); (case aL => have := LMc5.out; omega); intro v188 w9 ho hb hg hat; rw [← Ny187.out] at ho; have n0_ := Aside0.mk (hb); have n1_ := Aside0.mk (ho); clear HB; clear HO186; have HB := n0_; have HO189 := n1_; clear n0_ n1_; clear ho hb hg hat)))
          (try simp only [Act.put, List.setIfInBounds_toArray, List.set_cons_zero, List.set_cons_succ])
          go_cut [5] (fun v5 wc => ∃ (kq : Nat) (x5_5 : Int) (x7_5 : List Int), v5 = .int .i64 x5_5 ∧ Aside0 (customsref21_Share.j2 kq a0 x5_5 x7_5 = some r) ∧ Aside0 (kq ≤ k1) ∧ Aside0 (Kd.R (Kd.int .i64) 3 wc w.heap.size (fun _ => True) v188 x7_5) ∧ Aside0 (Below w.heap.size w wc))
          case first =>
            have H := HC6.out
            clear HC6
            by_cases c10 : x5_1 = 0
            · rw [if_pos c10] at H
              have c10b0 : (x5_1 == 0) = true := beq_iff_eq.mpr c10
              have c10b1 : (x5_1 != 0) = false := bne_eq_false_iff_eq.mpr c10
              clear c10
              (first | rw [c10b0] | (simp only [i64_w, i32_w]; rw [c10b0]) | skip)
              have H' := Aside0.mk H
              clear H
              go_wp2
              repeat (go_quiet (fail); try go_wp2)
              go_loopg [8] k1 (fun kq v8 w' => ∃ (x7_2 : List Int) (x8_2 : Int), v8 = .int .i64 x8_2 ∧ Aside0 (customsref21_Share.l1 kq a0 x7_2 x8_2 = some r) ∧ Aside0 (kq ≤ k1) ∧ Aside0 (Kd.R (Kd.int .i64) 3 w' w.heap.size (fun _ => True) v188 x7_2) ∧ Aside0 (Below w.heap.size w w'))
              case atStart => exact ⟨(y187), (0), (by first | rfl | (simp; done) | (simp [*]; done)), H', ⟨Nat.le_refl _⟩, ⟨by (with_reducible repeat (first | apply Kd.R_alloc | apply Kd.R_drewN | apply Kd.R_drew)); exact HO189.out⟩, ⟨by repeat (first | (with_reducible first | exact HB.out | apply below_alloc | apply pw_below_drewN | apply below_drew1) | exact HB.out)⟩⟩
              case round =>
                clear H'
                try clear c1
                try clear p1
                try clear q1
                try clear hx1
                try clear c2
                try clear p2
                try clear c3
                try clear c3b0
                try clear c4
                try clear c4b0
                try clear c5
                try clear p6
                try clear c10
                try clear c10b0
                try clear c10b1
                try clear hx183_0
                try clear p183
                try clear p2
                try clear q183
                obtain ⟨x7_2, x8_2, rfl, HA, HK2, HO_7, HB⟩ := hrel
                cases gk with
                | zero => exact absurd HA.out (by simp [customsref21_Share.l1])
                | succ k2 =>
                  have H := HA.out
                  clear HA
                  simp only [customsref21_Share.l1] at H
                  by_cases c11 : x8_2 < (x7_2.length : Int)
                  · rw [if_pos c11] at H
                    have c11b0 : decide (x8_2 < (x7_2.length : Int)) = true := decide_eq_true c11
                    clear c11
                    by_cases c12 : 0 ≤ x8_2
                    · rw [if_pos c12] at H
                      have c12b0 : decide (0 ≤ x8_2) = true := decide_eq_true c12
                      clear c12
                      obtain ⟨y190, hy190⟩ : ∃ y_ : List Int, y_ = (x7_2.set (x8_2 : Int).toNat 1) := ⟨_, rfl⟩
                      replace H : (customsref21_Share.l1 k2 a0 y190 (wrap64 (x8_2 + 1))) = some r := by first | (rw [hy190]; with_reducible exact H) | (have H2_ := (Option.bind_some _ _).symm.trans H; rw [hy190]; with_reducible exact H2_) | (have H2_ := (Option.bind_some _ _).symm.trans H; with_reducible exact H2_) | with_reducible exact H | (rw [hy190]; exact H) | exact H
                      have Ny190 := Aside0.mk hy190
                      clear hy190
                      have H' := Aside0.mk H
                      clear H
                      obtain ⟨Ao14, co14, eo14⟩ := Kd.R_slice HO_7.out
                      subst eo14
                      have p13 : 0 ≤ (x8_2 : Int) := of_decide_eq_true (by first | (with_reducible assumption) | assumption)
                      have q13 : (x8_2 : Int) < ((x7_2.length : Int) : Int) := of_decide_eq_true (by first | (with_reducible assumption) | assumption)
                      obtain ⟨go13, co13, eo13, gb13, gl13, cl13, HG13⟩ := Kd.R_form HO_7.out (by omega)
                      (first | cases eo13 | (injection eo13 with ea_ en_ ec_; (first | subst ea_ | (injection ea_ with ea_; subst ea_)); subst ec_; clear en_))
                      have GB13 := Aside0.mk gb13
                      have GG13 := Aside0.mk HG13
                      clear gb13 gl13 HG13
                      obtain ⟨hx13_0, hf13_0⟩ := Kd.R_celln 0 HO_7.out (x8_2 : Int) p13 q13
                      replace p13 := eq_true p13
                      replace q13 := eq_true q13
                      have HP15 := Kd.R_putg HO_7.out (x8_2 : Int) 1
                      go_wp2_with (first | ((with_reducible refine gate_store (t := 3) (p := 40) rfl ?_); (try (rw [drewN_self wr]; generalize hq_ : World.drewN wr _ = wr; have n0_ := Aside0.mk (Kd.R_at hq_ HO_7.out); have n1_ := Aside0.mk (below_at hq_ HB.out); clear hq_ HO_7 HB; have HO_7 := n0_; have HB := n1_; clear n0_ n1_; (try (have HP15 := Kd.R_putg HO_7.out (x8_2 : Int) 1)))); refine store_event (t := 3) (p := 40) (v := ?vo_w16) (w1 := (wr.setCell ⟨go13, (x8_2 : Int).toNat, none⟩ (.int .i64 1))) ?hg ?ho ?hn ?hr ?_; (case ho => rfl); (case hg => rfl); (case hn => rfl); (case hr => first | (go_simp; done) | (go_simp; rfl)); intro w16 hw; have hg : wr.grownBy w16 (some go13) := (by rw [hw]; exact HP15.2); have hp_ : Kd.R (Kd.int .i64) 3 w16 w.heap.size (fun _ => True) (.slice (some ⟨go13, 0, none⟩) x7_2.length co14) y190 := (by rw [hw, Ny190.out]; exact HP15.1); clear HP15; have n0_ := Aside0.mk (hp_); have n1_ := Aside0.mk ((by rw [hw]; exact below_set (HB.out) GB13.out : Below w.heap.size w w16)); clear HO_7; clear HB; have HO_7 := n0_; have HB := n1_; clear n0_ n1_; clear hg hw hp_))
                      repeat (go_quiet (first | ((with_reducible refine gate_store (t := 3) (p := 40) rfl ?_); (try (rw [drewN_self wr]; generalize hq_ : World.drewN wr _ = wr; have n0_ := Aside0.mk (Kd.R_at hq_ HO_7.out); have n1_ := Aside0.mk (below_at hq_ HB.out); clear hq_ HO_7 HB; have HO_7 := n0_; have HB := n1_; clear n0_ n1_; (try (have HP15 := Kd.R_putg HO_7.out (x8_2 : Int) 1)))); refine store_event (t := 3) (p := 40) (v := ?vo_w16) (w1 := (wr.setCell ⟨go13, (x8_2 : Int).toNat, none⟩ (.int .i64 1))) ?hg ?ho ?hn ?hr ?_; (case ho => rfl); (case hg => rfl); (case hn => rfl); (case hr => first | (go_simp; done) | (go_simp; rfl)); intro w16 hw; have hg : wr.grownBy w16 (some go13) := (by rw [hw]; exact HP15.2); have hp_ : Kd.R (Kd.int .i64) 3 w16 w.heap.size (fun _ => True) (.slice (some ⟨go13, 0, none⟩) x7_2.length co14) y190 := (by rw [hw, Ny190.out]; exact HP15.1); clear HP15; have n0_ := Aside0.mk (hp_); have n1_ := Aside0.mk ((by rw [hw]; exact below_set (HB.out) GB13.out : Below w.heap.size w w16)); clear HO_7; clear HB; have HO_7 := n0_; have HB := n1_; clear n0_ n1_; clear hg hw hp_)); try go_wp2_with (first | ((with_reducible refine gate_store (t := 3) (p := 40) rfl ?_); (try (rw [drewN_self wr]; generalize hq_ : World.drewN wr _ = wr; have n0_ := Aside0.mk (Kd.R_at hq_ HO_7.out); have n1_ := Aside0.mk (below_at hq_ HB.out); clear hq_ HO_7 HB; have HO_7 := n0_; have HB := n1_; clear n0_ n1_; (try (have HP15 := Kd.R_putg HO_7.out (x8_2 : Int) 1)))); refine store_event (t := 3) (p := 40) (v := ?vo_w16) (w1 := (wr.setCell ⟨go13, (x8_2 : Int).toNat, none⟩ (.int .i64 1))) ?hg ?ho ?hn ?hr ?_; (case ho => rfl); (case hg => rfl); (case hn => rfl); (case hr => first | (go_simp; done) | (go_simp; rfl)); intro w16 hw; have hg : wr.grownBy w16 (some go13) := (by rw [hw]; exact HP15.2); have hp_ : Kd.R (Kd.int .i64) 3 w16 w.heap.size (fun _ => True) (.slice (some ⟨go13, 0, none⟩) x7_2.length co14) y190 := (by rw [hw, Ny190.out]; exact HP15.1); clear HP15; have n0_ := Aside0.mk (hp_); have n1_ := Aside0.mk ((by rw [hw]; exact below_set (HB.out) GB13.out : Below w.heap.size w w16)); clear HO_7; clear HB; have HO_7 := n0_; have HB := n1_; clear n0_ n1_; clear hg hw hp_)))
                      go_roundg k2
                      case measure => have := HK1.out; have := HK2.out; omega
                      case rel => exact ⟨(y190), (wrap64 (x8_2 + 1)), (by first | rfl | (simp; done) | (simp [*]; done)), H', ⟨by have := HK1.out; have := HK2.out; omega⟩, ⟨by (with_reducible repeat (first | apply Kd.R_alloc | apply Kd.R_drewN | apply Kd.R_drew)); exact HO_7.out⟩, ⟨by repeat (first | (with_reducible first | exact HB.out | apply below_alloc | apply pw_below_drewN | apply below_drew1) | exact HB.out)⟩⟩
                    · rw [if_neg c12] at H
                      exact absurd H (by simp)
                  · rw [if_neg c11] at H
                    have c11b0 : decide (x8_2 < (x7_2.length : Int)) = false := decide_eq_false c11
                    clear c11
                    have H' := Aside0.mk H
                    clear H
                    obtain ⟨Ao17, co17, eo17⟩ := Kd.R_slice HO_7.out
                    subst eo17
                    go_wp2
                    repeat (go_quiet (fail); try go_wp2)
                    go_meet
                    case rel => exact ⟨_, ((x7_2.length : Int)), (x7_2), (by first | rfl | (simp; done) | (simp [*]; done)), H', ⟨by have := HK1.out; have := HK2.out; first | omega | exact Nat.le_refl _⟩, ⟨by (with_reducible repeat (first | apply Kd.R_alloc | apply Kd.R_drewN | apply Kd.R_drew)); exact HO_7.out⟩, ⟨by repeat (first | (with_reducible first | exact HB.out | apply below_alloc | apply pw_below_drewN | apply below_drew1) | exact HB.out)⟩⟩
            · rw [if_neg c10] at H
              have c10b0 : (x5_1 == 0) = false := beq_eq_false_iff_ne.mpr c10
              have c10b1 : (x5_1 != 0) = true := bne_iff_ne.mpr c10
              (first | rw [c10b0] | (simp only [i64_w, i32_w]; rw [c10b0]) | skip)
              have H' := Aside0.mk H
              clear H
              go_wp2
              repeat (go_quiet (fail); try go_wp2)
              go_meet
              case rel => exact ⟨_, (x5_1), (y187), (by first | rfl | (simp; done) | (simp [*]; done)), H', ⟨by have := HK1.out; first | omega | exact Nat.le_refl _⟩, ⟨by (with_reducible repeat (first | apply Kd.R_alloc | apply Kd.R_drewN | apply Kd.R_drew)); exact HO189.out⟩, ⟨by repeat (first | (with_reducible first | exact HB.out | apply below_alloc | apply pw_below_drewN | apply below_drew1) | exact HB.out)⟩⟩
          case rest =>
            clear HC6
            try clear c1
            try clear p1
            try clear q1
            try clear hx1
            try clear c2
            try clear p2
            try clear c3
            try clear c3b0
            try clear c4
            try clear c4b0
            try clear c5
            try clear p6
            try clear c10
            try clear c10b0
            try clear c10b1
            try clear c11
            try clear c11b0
            try clear c12
            try clear c12b0
            try clear p13
            try clear q13
            try clear hx13
            try clear hf13
            try clear hx13_0
            try clear hx183_0
            try clear p1
            try clear p13
            try clear p183
            try clear p2
            try clear p6
            try clear q1
            try clear q13
            try clear q183
            obtain ⟨kq, x5_5, x7_5, rfl, HA, HJ5, HO_7, HB⟩ := hcut
            cases kq with
            | zero => exact absurd HA.out (by simp [customsref21_Share.j2])
            | succ kj5 =>
              have H := HA.out
              clear HA
              simp only [customsref21_Share.j2] at H
              by_cases c18 : 0 ≤ (x7_5.length : Int)
              · rw [if_pos c18] at H
                have c18b0 := eq_true c18
                have c18b1 : decide (0 ≤ (x7_5.length : Int)) = true := decide_eq_true c18
                clear c18
                by_cases c19 : ((x7_5.length : Int) : Int).toNat ≤ 35184372088832
                · rw [if_pos c19] at H
                  have c19b0 := eq_true c19
                  have c19b1 : decide (((x7_5.length : Int) : Int).toNat ≤ 35184372088832) = true := decide_eq_true c19
                  clear c19
                  obtain ⟨y191, hy191⟩ : ∃ y_ : List Int, y_ = (List.replicate ((x7_5.length : Int) : Int).toNat 0) := ⟨_, rfl⟩
                  replace H : (customsref21_Share.l2 kj5 a0 x5_5 x7_5 y191 a0 0) = some r := by first | (rw [hy191]; with_reducible exact H) | (have H2_ := (Option.bind_some _ _).symm.trans H; rw [hy191]; with_reducible exact H2_) | (have H2_ := (Option.bind_some _ _).symm.trans H; with_reducible exact H2_) | with_reducible exact H | (rw [hy191]; exact H) | exact H
                  have Ny191 := Aside0.mk hy191
                  clear hy191
                  have H' := Aside0.mk H
                  clear H
                  obtain ⟨Ao20, co20, eo20⟩ := Kd.R_slice HO_7.out
                  subst eo20
                  go_wp2_with (first | ((with_reducible refine gate_dst (N := 45) rfl ?_); refine Kd.R_make (Kd.int .i64) _ 3 rfl (N := 45) rfl 27 _ _ rfl (x7_5.length : Int) rfl rfl Try.underlying27 (.int .i64 0) 8 info3 rfl (by decide) (by omega) 0 (ok := fun _ => True) (okp := fun _ => True) rfl (fun _ hk => hk) trivial (of_decide_eq_true (by first | (with_reducible assumption) | assumption)) (Nat.le_trans (Nat.mul_le_mul_right _ (of_decide_eq_true (by first | (with_reducible assumption) | assumption) : (x7_5.length : Int).toNat ≤ 35184372088832)) (by omega)) (Below.refl _ _) (Nat.le_refl _) ?_; intro v192 w21 ho22 hb hg_ hnew_; clear hg_ hnew_; (first | rw [← Ny191.out] at ho22 | (simp only [Int.reduceToNat] at ho22; rw [← Ny191.out] at ho22)); have n0_ := Aside0.mk (Kd.R_elder' (by (with_reducible repeat (first | apply Kd.R_alloc | apply Kd.R_drewN | apply Kd.R_drew)); exact HO_7.out) (Kd.R_base ho22) hb); have n1_ := Aside0.mk (Kd.R_lower (Kd.R_new' ho22 (Kd.R_lt (by (with_reducible repeat (first | apply Kd.R_alloc | apply Kd.R_drewN | apply Kd.R_drew)); exact HO_7.out))) (below_size (by repeat (first | (with_reducible first | exact HB.out | apply below_alloc | apply pw_below_drewN | apply below_drew1) | exact HB.out)))); have n2_ := Aside0.mk (below_step (by repeat (first | (with_reducible first | exact HB.out | apply below_alloc | apply pw_below_drewN | apply below_drew1) | exact HB.out)) hb); clear HO_7; clear HB; have HO_7 := n0_; have HO193 := n1_; have HB := n2_; clear n0_ n1_ n2_; clear hb ho22))
                  repeat (go_quiet (first | ((with_reducible refine gate_dst (N := 45) rfl ?_); refine Kd.R_make (Kd.int .i64) _ 3 rfl (N := 45) rfl 27 _ _ rfl (x7_5.length : Int) rfl rfl Try.underlying27 (.int .i64 0) 8 info3 rfl (by decide) (by omega) 0 (ok := fun _ => True) (okp := fun _ => True) rfl (fun _ hk => hk) trivial (of_decide_eq_true (by first | (with_reducible assumption) | assumption)) (Nat.le_trans (Nat.mul_le_mul_right _ (of_decide_eq_true (by first | (with_reducible assumption) | assumption) : (x7_5.length : Int).toNat ≤ 35184372088832)) (by omega)) (Below.refl _ _) (Nat.le_refl _) ?_; intro v192 w21 ho22 hb hg_ hnew_; clear hg_ hnew_; (first | rw [← Ny191.out] at ho22 | (simp only [Int.reduceToNat] at ho22; rw [← Ny191.out] at ho22)); have n0_ := Aside0.mk (Kd.R_elder' (by (with_reducible repeat (first | apply Kd.R_alloc | apply Kd.R_drewN | apply Kd.R_drew)); exact HO_7.out) (Kd.R_base ho22) hb); have n1_ := Aside0.mk (Kd.R_lower (Kd.R_new' ho22 (Kd.R_lt (by (with_reducible repeat (first | apply Kd.R_alloc | apply Kd.R_drewN | apply Kd.R_drew)); exact HO_7.out))) (below_size (by repeat (first | (with_reducible first | exact HB.out | apply below_alloc | apply pw_below_drewN | apply below_drew1) | exact HB.out)))); have n2_ := Aside0.mk (below_step (by repeat (first | (with_reducible first | exact HB.out | apply below_alloc | apply pw_below_drewN | apply below_drew1) | exact HB.out)) hb); clear HO_7; clear HB; have HO_7 := n0_; have HO193 := n1_; have HB := n2_; clear n0_ n1_ n2_; clear hb ho22)); try go_wp2_with (first | ((with_reducible refine gate_dst (N := 45) rfl ?_); refine Kd.R_make (Kd.int .i64) _ 3 rfl (N := 45) rfl 27 _ _ rfl (x7_5.length : Int) rfl rfl Try.underlying27 (.int .i64 0) 8 info3 rfl (by decide) (by omega) 0 (ok := fun _ => True) (okp := fun _ => True) rfl (fun _ hk => hk) trivial (of_decide_eq_true (by first | (with_reducible assumption) | assumption)) (Nat.le_trans (Nat.mul_le_mul_right _ (of_decide_eq_true (by first | (with_reducible assumption) | assumption) : (x7_5.length : Int).toNat ≤ 35184372088832)) (by omega)) (Below.refl _ _) (Nat.le_refl _) ?_; intro v192 w21 ho22 hb hg_ hnew_; clear hg_ hnew_; (first | rw [← Ny191.out] at ho22 | (simp only [Int.reduceToNat] at ho22; rw [← Ny191.out] at ho22)); have n0_ := Aside0.mk (Kd.R_elder' (by (with_reducible repeat (first | apply Kd.R_alloc | apply Kd.R_drewN | apply Kd.R_drew)); exact HO_7.out) (Kd.R_base ho22) hb); have n1_ := Aside0.mk (Kd.R_lower (Kd.R_new' ho22 (Kd.R_lt (by (with_reducible repeat (first | apply Kd.R_alloc | apply Kd.R_drewN | apply Kd.R_drew)); exact HO_7.out))) (below_size (by repeat (first | (with_reducible first | exact HB.out | apply below_alloc | apply pw_below_drewN | apply below_drew1) | exact HB.out)))); have n2_ := Aside0.mk (below_step (by repeat (first | (with_reducible first | exact HB.out | apply below_alloc | apply pw_below_drewN | apply below_drew1) | exact HB.out)) hb); clear HO_7; clear HB; have HO_7 := n0_; have HO193 := n1_; have HB := n2_; clear n0_ n1_ n2_; clear hb ho22)))
                  go_loopg [10, 11] kj5 (fun kq v10 v11 w' => ∃ (x9_3 : List Int) (x10_3 : Int) (x11_3 : Int), v10 = .int .i64 x10_3 ∧ v11 = .int .i64 x11_3 ∧ Aside0 (customsref21_Share.l2 kq a0 x5_5 x7_5 x9_3 x10_3 x11_3 = some r) ∧ Aside0 (kq ≤ kj5) ∧ Aside0 (Kd.R (Kd.int .i64) 3 w' w.heap.size (fun k_ => some k_ ≠ (v192 : Value).ownBlock) (.slice Ao20 x7_5.length co20) x7_5) ∧ Aside0 (Kd.R (Kd.int .i64) 3 w' w.heap.size (fun k_ => some k_ ≠ ((.slice Ao20 x7_5.length co20) : Value).ownBlock) v192 x9_3) ∧ Aside0 (Below w.heap.size w w'))
                  case atStart => exact ⟨(y191), (a0), (0), (by first | rfl | (simp; done) | (simp [*]; done)), (by first | rfl | (simp; done) | (simp [*]; done)), H', ⟨Nat.le_refl _⟩, ⟨by (with_reducible repeat (first | apply Kd.R_alloc | apply Kd.R_drewN | apply Kd.R_drew)); exact Kd.R_mono HO_7.out (fun _ hk => hk.2)⟩, ⟨by (with_reducible repeat (first | apply Kd.R_alloc | apply Kd.R_drewN | apply Kd.R_drew)); exact Kd.R_mono HO193.out (fun _ hk => hk.2)⟩, ⟨by repeat (first | (with_reducible first | exact HB.out | apply below_alloc | apply pw_below_drewN | apply below_drew1) | exact HB.out)⟩⟩
                  case round =>
                    clear H'
                    try clear c1
                    try clear p1
                    try clear q1
                    try clear hx1
                    try clear c2
                    try clear p2
                    try clear c3
                    try clear c3b0
                    try clear c4
                    try clear c4b0
                    try clear c5
                    try clear p6
                    try clear c10
                    try clear c10b0
                    try clear c10b1
                    try clear c11
                    try clear c11b0
                    try clear c12
                    try clear c12b0
                    try clear p13
                    try clear q13
                    try clear hx13
                    try clear hf13
                    try clear c18
                    try clear c18b0
                    try clear c18b1
                    try clear p18
                    try clear q18
                    try clear hx18
                    try clear c19
                    try clear c19b0
                    try clear c19b1
                    try clear hx13_0
                    try clear hx183_0
                    try clear p1
                    try clear p13
                    try clear p183
                    try clear p2
                    try clear p6
                    try clear q1
                    try clear q13
                    try clear q183
                    obtain ⟨x9_3, x10_3, x11_3, rfl, rfl, HA, HK3, HO_7, HO_9, HB⟩ := hrel
                    cases gk with
                    | zero => exact absurd HA.out (by simp [customsref21_Share.l2])
                    | succ k3 =>
                      have H := HA.out
                      clear HA
                      simp only [customsref21_Share.l2] at H
                      by_cases c23 : x11_3 < (x7_5.length : Int)
                      · rw [if_pos c23] at H
                        have c23b0 : decide (x11_3 < (x7_5.length : Int)) = true := decide_eq_true c23
                        clear c23
                        by_cases c24 : 0 ≤ x11_3
                        · rw [if_pos c24] at H
                          have c24b0 : decide (0 ≤ x11_3) = true := decide_eq_true c24
                          clear c24
                          replace H := Option.bind_eq_some_iff.mp H
                          obtain ⟨t195, A250, H⟩ := H
                          replace H : (if x11_3 < (x9_3.length : Int) then ((some (x9_3.set (x11_3 : Int).toNat t195 : List Int)).bind fun y196 => (customsref21_Share.l2 k3 a0 x5_5 x7_5 y196 (wrap64 (x10_3 - (rd y196 x11_3))) (wrap64 (x11_3 + 1)))) else (none)) = some r := H
                          have A25 := Aside0.mk A250
                          clear A250
                          by_cases c26 : x11_3 < (x9_3.length : Int)
                          · rw [if_pos c26] at H
                            have c26b0 : decide (x11_3 < (x9_3.length : Int)) = true := decide_eq_true c26
                            clear c26
                            obtain ⟨y196, hy196⟩ : ∃ y_ : List Int, y_ = (x9_3.set (x11_3 : Int).toNat t195) := ⟨_, rfl⟩
                            replace H : (customsref21_Share.l2 k3 a0 x5_5 x7_5 y196 (wrap64 (x10_3 - (rd y196 x11_3))) (wrap64 (x11_3 + 1))) = some r := by first | (rw [hy196]; with_reducible exact H) | (have H2_ := (Option.bind_some _ _).symm.trans H; rw [hy196]; with_reducible exact H2_) | (have H2_ := (Option.bind_some _ _).symm.trans H; with_reducible exact H2_) | with_reducible exact H | (rw [hy196]; exact H) | exact H
                            have Ny196 := Aside0.mk hy196
                            clear hy196
                            have H' := Aside0.mk H
                            clear H
                            have p194 : 0 ≤ (x11_3 : Int) := of_decide_eq_true (by first | (with_reducible assumption) | assumption)
                            have q194 : x11_3 < (x7_5.length : Int) := of_decide_eq_true (by first | (with_reducible assumption) | assumption)
                            obtain ⟨ad194, e194, hx194_0⟩ := Kd.at_int (Kd.R_reads' HO_7.out).2.2 x11_3 p194 q194
                            cases e194
                            replace p194 := eq_true p194
                            replace q194 := eq_true q194
                            go_wp2_with (first | (go_at_call 26; (with_reducible refine (customsref21_MulDiv.calls k3 a0 (rd x7_5 x11_3) x5_5 t195 _ A25.out).mono ?_); rintro e w' ⟨rfl, ⟨nd, rfl⟩⟩; (try first | exact ⟨rfl, _, World.drewN_drewN _ _ _⟩ | exact ⟨rfl, _, Eq.trans (World.drewN_drewN _ _ _) (congrArg (World.drewN _) (Nat.add_assoc _ _ _))⟩); have p27 : 0 ≤ (x11_3 : Int) := of_decide_eq_true (by first | (with_reducible assumption) | assumption); have q27 : (x11_3 : Int) < ((x9_3.length : Int) : Int) := of_decide_eq_true (by first | (with_reducible assumption) | assumption); obtain ⟨go27, co27, eo27, gb27, gl27, cl27, HG27⟩ := Kd.R_form HO_9.out (by omega); (first | cases eo27 | (injection eo27 with ea_ en_ ec_; (first | subst ea_ | (injection ea_ with ea_; subst ea_)); subst ec_; clear en_)); have GB27 := Aside0.mk gb27; have GG27 := Aside0.mk HG27; clear gb27 gl27 HG27; obtain ⟨hx27_0, hf27_0⟩ := Kd.R_celln 0 HO_9.out (x11_3 : Int) p27 q27; replace p27 := eq_true p27; replace q27 := eq_true q27; obtain ⟨hy28_, hz28_⟩ := Kd.R_celln 0 HO_9.out (x11_3 : Int) (of_decide_eq_true (by first | (with_reducible assumption) | assumption)) (of_decide_eq_true (by first | (with_reducible assumption) | assumption)); have HP28 := Kd.R_putg HO_9.out (x11_3 : Int) t195) | ((with_reducible refine gate_store (t := 3) (p := 62) rfl ?_); (try (rw [drewN_self wr]; generalize hq_ : World.drewN wr _ = wr; have n0_ := Aside0.mk (Kd.R_at hq_ HO_7.out); have n1_ := Aside0.mk (Kd.R_at hq_ HO_9.out); have n2_ := Aside0.mk (below_at hq_ HB.out); clear hq_ HO_7 HO_9 HB; have HO_7 := n0_; have HO_9 := n1_; have HB := n2_; clear n0_ n1_ n2_; (try (obtain ⟨hy28_, hz28_⟩ := Kd.R_celln 0 HO_9.out (x11_3 : Int) (of_decide_eq_true (by first | (with_reducible assumption) | assumption)) (of_decide_eq_true (by first | (with_reducible assumption) | assumption)))); (try (have HP28 := Kd.R_putg HO_9.out (x11_3 : Int) t195)))); refine store_event (t := 3) (p := 62) (v := ?vo_w29) (w1 := (wr.setCell ⟨go27, (x11_3 : Int).toNat, none⟩ (.int .i64 t195))) ?hg ?ho ?hn ?hr ?_; (case ho => rfl); (case hg => rfl); (case hn => rfl); (case hr => first | (go_simp; done) | (go_simp; rfl)); intro w29 hw; have hg : wr.grownBy w29 (some go27) := (by rw [hw]; exact HP28.2); have hp_ : Kd.R (Kd.int .i64) 3 w29 w.heap.size (fun k_ => some k_ ≠ (.slice (some ad194) x7_5.length co20 : Value).ownBlock) (.slice (some ⟨go27, 0, none⟩) x9_3.length co27) y196 := (by rw [hw, Ny196.out]; exact HP28.1); clear HP28; have n0_ := Aside0.mk (Kd.R_after (v := (.slice (some ⟨go27, 0, none⟩) x9_3.length co27)) (v1 := (.slice (some ⟨go27, 0, none⟩) x9_3.length co27)) (ok := (fun _ => True)) (by (with_reducible repeat (first | apply Kd.R_alloc | apply Kd.R_drewN | apply Kd.R_drew)); exact Kd.R_mono HO_7.out (fun _ hk => ⟨trivial, hk⟩)) hg (.inl rfl)); have n1_ := Aside0.mk (hp_); have n2_ := Aside0.mk ((by rw [hw]; exact below_set (HB.out) GB27.out : Below w.heap.size w w29)); clear HO_7; clear HO_9; clear HB; have HO_7 := n0_; have HO_9 := n1_; have HB := n2_; clear n0_ n1_ n2_; clear hg hw hp_; have p197 : 0 ≤ (x11_3 : Int) := of_decide_eq_true (by first | (with_reducible assumption) | assumption); have q197 : x11_3 < (y196.length : Int) := (by have h_ : (x11_3 : Int) < ((x9_3.length : Int) : Int) := of_decide_eq_true (by first | (with_reducible assumption) | assumption); first | (have e_ := (Kd.R_reads' HO_9.out).1; omega) | simpa only [Ny196.out, List.length_set] using h_); have ql197 : ((x11_3 : Int) < ((x9_3.length : Int) : Int)) = True := eq_true (of_decide_eq_true (by first | (with_reducible assumption) | assumption)); obtain ⟨ad197, e197, hx197_0⟩ := Kd.at_int (Kd.R_reads' HO_9.out).2.2 x11_3 p197 q197; obtain rfl : (⟨go27, 0, none⟩ : Addr) = ad197 := (by injection e197); (first | simp only [add_plain] at hx197_0 | simp only [add_at] at hx197_0 | simp only [Addr.add, Nat.zero_add] at hx197_0 | skip); replace p197 := eq_true p197; replace q197 := eq_true q197))
                            repeat (go_quiet (first | (go_at_call 26; (with_reducible refine (customsref21_MulDiv.calls k3 a0 (rd x7_5 x11_3) x5_5 t195 _ A25.out).mono ?_); rintro e w' ⟨rfl, ⟨nd, rfl⟩⟩; (try first | exact ⟨rfl, _, World.drewN_drewN _ _ _⟩ | exact ⟨rfl, _, Eq.trans (World.drewN_drewN _ _ _) (congrArg (World.drewN _) (Nat.add_assoc _ _ _))⟩); have p27 : 0 ≤ (x11_3 : Int) := of_decide_eq_true (by first | (with_reducible assumption) | assumption); have q27 : (x11_3 : Int) < ((x9_3.length : Int) : Int) := of_decide_eq_true (by first | (with_reducible assumption) | assumption); obtain ⟨go27, co27, eo27, gb27, gl27, cl27, HG27⟩ := Kd.R_form HO_9.out (by omega); (first | cases eo27 | (injection eo27 with ea_ en_ ec_; (first | subst ea_ | (injection ea_ with ea_; subst ea_)); subst ec_; clear en_)); have GB27 := Aside0.mk gb27; have GG27 := Aside0.mk HG27; clear gb27 gl27 HG27; obtain ⟨hx27_0, hf27_0⟩ := Kd.R_celln 0 HO_9.out (x11_3 : Int) p27 q27; replace p27 := eq_true p27; replace q27 := eq_true q27; obtain ⟨hy28_, hz28_⟩ := Kd.R_celln 0 HO_9.out (x11_3 : Int) (of_decide_eq_true (by first | (with_reducible assumption) | assumption)) (of_decide_eq_true (by first | (with_reducible assumption) | assumption)); have HP28 := Kd.R_putg HO_9.out (x11_3 : Int) t195) | ((with_reducible refine gate_store (t := 3) (p := 62) rfl ?_); (try (rw [drewN_self wr]; generalize hq_ : World.drewN wr _ = wr; have n0_ := Aside0.mk (Kd.R_at hq_ HO_7.out); have n1_ := Aside0.mk (Kd.R_at hq_ HO_9.out); have n2_ := Aside0.mk (below_at hq_ HB.out); clear hq_ HO_7 HO_9 HB; have HO_7 := n0_; have HO_9 := n1_; have HB := n2_; clear n0_ n1_ n2_; (try (obtain ⟨hy28_, hz28_⟩ := Kd.R_celln 0 HO_9.out (x11_3 : Int) (of_decide_eq_true (by first | (with_reducible assumption) | assumption)) (of_decide_eq_true (by first | (with_reducible assumption) | assumption)))); (try (have HP28 := Kd.R_putg HO_9.out (x11_3 : Int) t195)))); refine store_event (t := 3) (p := 62) (v := ?vo_w29) (w1 := (wr.setCell ⟨go27, (x11_3 : Int).toNat, none⟩ (.int .i64 t195))) ?hg ?ho ?hn ?hr ?_; (case ho => rfl); (case hg => rfl); (case hn => rfl); (case hr => first | (go_simp; done) | (go_simp; rfl)); intro w29 hw; have hg : wr.grownBy w29 (some go27) := (by rw [hw]; exact HP28.2); have hp_ : Kd.R (Kd.int .i64) 3 w29 w.heap.size (fun k_ => some k_ ≠ (.slice (some ad194) x7_5.length co20 : Value).ownBlock) (.slice (some ⟨go27, 0, none⟩) x9_3.length co27) y196 := (by rw [hw, Ny196.out]; exact HP28.1); clear HP28; have n0_ := Aside0.mk (Kd.R_after (v := (.slice (some ⟨go27, 0, none⟩) x9_3.length co27)) (v1 := (.slice (some ⟨go27, 0, none⟩) x9_3.length co27)) (ok := (fun _ => True)) (by (with_reducible repeat (first | apply Kd.R_alloc | apply Kd.R_drewN | apply Kd.R_drew)); exact Kd.R_mono HO_7.out (fun _ hk => ⟨trivial, hk⟩)) hg (.inl rfl)); have n1_ := Aside0.mk (hp_); have n2_ := Aside0.mk ((by rw [hw]; exact below_set (HB.out) GB27.out : Below w.heap.size w w29)); clear HO_7; clear HO_9; clear HB; have HO_7 := n0_; have HO_9 := n1_; have HB := n2_; clear n0_ n1_ n2_; clear hg hw hp_; have p197 : 0 ≤ (x11_3 : Int) := of_decide_eq_true (by first | (with_reducible assumption) | assumption); have q197 : x11_3 < (y196.length : Int) := (by have h_ : (x11_3 : Int) < ((x9_3.length : Int) : Int) := of_decide_eq_true (by first | (with_reducible assumption) | assumption); first | (have e_ := (Kd.R_reads' HO_9.out).1; omega) | simpa only [Ny196.out, List.length_set] using h_); have ql197 : ((x11_3 : Int) < ((x9_3.length : Int) : Int)) = True := eq_true (of_decide_eq_true (by first | (with_reducible assumption) | assumption)); obtain ⟨ad197, e197, hx197_0⟩ := Kd.at_int (Kd.R_reads' HO_9.out).2.2 x11_3 p197 q197; obtain rfl : (⟨go27, 0, none⟩ : Addr) = ad197 := (by injection e197); (first | simp only [add_plain] at hx197_0 | simp only [add_at] at hx197_0 | simp only [Addr.add, Nat.zero_add] at hx197_0 | skip); replace p197 := eq_true p197; replace q197 := eq_true q197)); try go_wp2_with (first | (go_at_call 26; (with_reducible refine (customsref21_MulDiv.calls k3 a0 (rd x7_5 x11_3) x5_5 t195 _ A25.out).mono ?_); rintro e w' ⟨rfl, ⟨nd, rfl⟩⟩; (try first | exact ⟨rfl, _, World.drewN_drewN _ _ _⟩ | exact ⟨rfl, _, Eq.trans (World.drewN_drewN _ _ _) (congrArg (World.drewN _) (Nat.add_assoc _ _ _))⟩); have p27 : 0 ≤ (x11_3 : Int) := of_decide_eq_true (by first | (with_reducible assumption) | assumption); have q27 : (x11_3 : Int) < ((x9_3.length : Int) : Int) := of_decide_eq_true (by first | (with_reducible assumption) | assumption); obtain ⟨go27, co27, eo27, gb27, gl27, cl27, HG27⟩ := Kd.R_form HO_9.out (by omega); (first | cases eo27 | (injection eo27 with ea_ en_ ec_; (first | subst ea_ | (injection ea_ with ea_; subst ea_)); subst ec_; clear en_)); have GB27 := Aside0.mk gb27; have GG27 := Aside0.mk HG27; clear gb27 gl27 HG27; obtain ⟨hx27_0, hf27_0⟩ := Kd.R_celln 0 HO_9.out (x11_3 : Int) p27 q27; replace p27 := eq_true p27; replace q27 := eq_true q27; obtain ⟨hy28_, hz28_⟩ := Kd.R_celln 0 HO_9.out (x11_3 : Int) (of_decide_eq_true (by first | (with_reducible assumption) | assumption)) (of_decide_eq_true (by first | (with_reducible assumption) | assumption)); have HP28 := Kd.R_putg HO_9.out (x11_3 : Int) t195) | ((with_reducible refine gate_store (t := 3) (p := 62) rfl ?_); (try (rw [drewN_self wr]; generalize hq_ : World.drewN wr _ = wr; have n0_ := Aside0.mk (Kd.R_at hq_ HO_7.out); have n1_ := Aside0.mk (Kd.R_at hq_ HO_9.out); have n2_ := Aside0.mk (below_at hq_ HB.out); clear hq_ HO_7 HO_9 HB; have HO_7 := n0_; have HO_9 := n1_; have HB := n2_; clear n0_ n1_ n2_; (try (obtain ⟨hy28_, hz28_⟩ := Kd.R_celln 0 HO_9.out (x11_3 : Int) (of_decide_eq_true (by first | (with_reducible assumption) | assumption)) (of_decide_eq_true (by first | (with_reducible assumption) | assumption)))); (try (have HP28 := Kd.R_putg HO_9.out (x11_3 : Int) t195)))); refine store_event (t := 3) (p := 62) (v := ?vo_w29) (w1 := (wr.setCell ⟨go27, (x11_3 : Int).toNat, none⟩ (.int .i64 t195))) ?hg ?ho ?hn ?hr ?_; (case ho => rfl); (case hg => rfl); (case hn => rfl); (case hr => first | (go_simp; done) | (go_simp; rfl)); intro w29 hw; have hg : wr.grownBy w29 (some go27) := (by rw [hw]; exact HP28.2); have hp_ : Kd.R (Kd.int .i64) 3 w29 w.heap.size (fun k_ => some k_ ≠ (.slice (some ad194) x7_5.length co20 : Value).ownBlock) (.slice (some ⟨go27, 0, none⟩) x9_3.length co27) y196 := (by rw [hw, Ny196.out]; exact HP28.1); clear HP28; have n0_ := Aside0.mk (Kd.R_after (v := (.slice (some ⟨go27, 0, none⟩) x9_3.length co27)) (v1 := (.slice (some ⟨go27, 0, none⟩) x9_3.length co27)) (ok := (fun _ => True)) (by (with_reducible repeat (first | apply Kd.R_alloc | apply Kd.R_drewN | apply Kd.R_drew)); exact Kd.R_mono HO_7.out (fun _ hk => ⟨trivial, hk⟩)) hg (.inl rfl)); have n1_ := Aside0.mk (hp_); have n2_ := Aside0.mk ((by rw [hw]; exact below_set (HB.out) GB27.out : Below w.heap.size w w29)); clear HO_7; clear HO_9; clear HB; have HO_7 := n0_; have HO_9 := n1_; have HB := n2_; clear n0_ n1_ n2_; clear hg hw hp_; have p197 : 0 ≤ (x11_3 : Int) := of_decide_eq_true (by first | (with_reducible assumption) | assumption); have q197 : x11_3 < (y196.length : Int) := (by have h_ : (x11_3 : Int) < ((x9_3.length : Int) : Int) := of_decide_eq_true (by first | (with_reducible assumption) | assumption); first | (have e_ := (Kd.R_reads' HO_9.out).1; omega) | simpa only [Ny196.out, List.length_set] using h_); have ql197 : ((x11_3 : Int) < ((x9_3.length : Int) : Int)) = True := eq_true (of_decide_eq_true (by first | (with_reducible assumption) | assumption)); obtain ⟨ad197, e197, hx197_0⟩ := Kd.at_int (Kd.R_reads' HO_9.out).2.2 x11_3 p197 q197; obtain rfl : (⟨go27, 0, none⟩ : Addr) = ad197 := (by injection e197); (first | simp only [add_plain] at hx197_0 | simp only [add_at] at hx197_0 | simp only [Addr.add, Nat.zero_add] at hx197_0 | skip); replace p197 := eq_true p197; replace q197 := eq_true q197)))
                            go_roundg k3
                            case measure => have := HK1.out; have := HJ5.out; have := HK3.out; omega
                            case rel => exact ⟨(y196), (wrap64 (x10_3 - (rd y196 x11_3))), (wrap64 (x11_3 + 1)), (by first | rfl | (simp; done) | (simp [*]; done)), (by first | rfl | (simp; done) | (simp [*]; done)), H', ⟨by have := HK1.out; have := HJ5.out; have := HK3.out; omega⟩, ⟨by (with_reducible repeat (first | apply Kd.R_alloc | apply Kd.R_drewN | apply Kd.R_drew)); exact Kd.R_mono HO_7.out (fun _ hk => hk.2)⟩, ⟨by (with_reducible repeat (first | apply Kd.R_alloc | apply Kd.R_drewN | apply Kd.R_drew)); exact HO_9.out⟩, ⟨by repeat (first | (with_reducible first | exact HB.out | apply below_alloc | apply pw_below_drewN | apply below_drew1) | exact HB.out)⟩⟩
                          · rw [if_neg c26] at H
                            exact absurd H (by simp)
                        · rw [if_neg c24] at H
                          exact absurd H (by simp)
                      · rw [if_neg c23] at H
                        have c23b0 : decide (x11_3 < (x7_5.length : Int)) = false := decide_eq_false c23
                        clear c23
                        by_cases c30 : 0 ≤ (x7_5.length : Int)
                        · rw [if_pos c30] at H
                          have c30b0 := eq_true c30
                          have c30b1 : decide (0 ≤ (x7_5.length : Int)) = true := decide_eq_true c30
                          clear c30
                          by_cases c31 : ((x7_5.length : Int) : Int).toNat ≤ 281474976710656
                          · rw [if_pos c31] at H
                            have c31b0 := eq_true c31
                            have c31b1 : decide (((x7_5.length : Int) : Int).toNat ≤ 281474976710656) = true := decide_eq_true c31
                            clear c31
                            obtain ⟨y198, hy198⟩ : ∃ y_ : List Bool, y_ = (List.replicate ((x7_5.length : Int) : Int).toNat false) := ⟨_, rfl⟩
                            replace H : (customsref21_Share.l3 k3 a0 x5_5 x7_5 x9_3 x10_3 y198) = some r := by first | (rw [hy198]; with_reducible exact H) | (have H2_ := (Option.bind_some _ _).symm.trans H; rw [hy198]; with_reducible exact H2_) | (have H2_ := (Option.bind_some _ _).symm.trans H; with_reducible exact H2_) | with_reducible exact H | (rw [hy198]; exact H) | exact H
                            have Ny198 := Aside0.mk hy198
                            clear hy198
                            have H' := Aside0.mk H
                            clear H
                            go_wp2_with (first | ((with_reducible refine gate_dst (N := 71) rfl ?_); refine Kd.R_make Kd.bool _ 4 rfl (N := 71) rfl 52 _ _ rfl (x7_5.length : Int) rfl rfl Try.underlying52 (.bool false) 1 info4 rfl (by decide) (by omega) false (ok := fun _ => True) (okp := fun _ => True) rfl (fun _ hk => hk) trivial (of_decide_eq_true (by first | (with_reducible assumption) | assumption)) (Nat.le_trans (Nat.mul_le_mul_right _ (of_decide_eq_true (by first | (with_reducible assumption) | assumption) : (x7_5.length : Int).toNat ≤ 281474976710656)) (by omega)) (Below.refl _ _) (Nat.le_refl _) ?_; intro v199 w32 ho33 hb hg_ hnew_; clear hg_ hnew_; (first | rw [← Ny198.out] at ho33 | (simp only [Int.reduceToNat] at ho33; rw [← Ny198.out] at ho33)); have n0_ := Aside0.mk (Kd.R_below (by (with_reducible repeat (first | apply Kd.R_alloc | apply Kd.R_drewN | apply Kd.R_drew)); exact HO_7.out) hb); have n1_ := Aside0.mk (Kd.R_below (by (with_reducible repeat (first | apply Kd.R_alloc | apply Kd.R_drewN | apply Kd.R_drew)); exact HO_9.out) hb); have n2_ := Aside0.mk (Kd.R_lower ho33 (below_size (by repeat (first | (with_reducible first | exact HB.out | apply below_alloc | apply pw_below_drewN | apply below_drew1) | exact HB.out)))); have n3_ := Aside0.mk (below_step (by repeat (first | (with_reducible first | exact HB.out | apply below_alloc | apply pw_below_drewN | apply below_drew1) | exact HB.out)) hb); clear HO_7; clear HO_9; clear HB; have HO_7 := n0_; have HO_9 := n1_; have HO200 := n2_; have HB := n3_; clear n0_ n1_ n2_ n3_; clear hb ho33))
                            repeat (go_quiet (first | ((with_reducible refine gate_dst (N := 71) rfl ?_); refine Kd.R_make Kd.bool _ 4 rfl (N := 71) rfl 52 _ _ rfl (x7_5.length : Int) rfl rfl Try.underlying52 (.bool false) 1 info4 rfl (by decide) (by omega) false (ok := fun _ => True) (okp := fun _ => True) rfl (fun _ hk => hk) trivial (of_decide_eq_true (by first | (with_reducible assumption) | assumption)) (Nat.le_trans (Nat.mul_le_mul_right _ (of_decide_eq_true (by first | (with_reducible assumption) | assumption) : (x7_5.length : Int).toNat ≤ 281474976710656)) (by omega)) (Below.refl _ _) (Nat.le_refl _) ?_; intro v199 w32 ho33 hb hg_ hnew_; clear hg_ hnew_; (first | rw [← Ny198.out] at ho33 | (simp only [Int.reduceToNat] at ho33; rw [← Ny198.out] at ho33)); have n0_ := Aside0.mk (Kd.R_below (by (with_reducible repeat (first | apply Kd.R_alloc | apply Kd.R_drewN | apply Kd.R_drew)); exact HO_7.out) hb); have n1_ := Aside0.mk (Kd.R_below (by (with_reducible repeat (first | apply Kd.R_alloc | apply Kd.R_drewN | apply Kd.R_drew)); exact HO_9.out) hb); have n2_ := Aside0.mk (Kd.R_lower ho33 (below_size (by repeat (first | (with_reducible first | exact HB.out | apply below_alloc | apply pw_below_drewN | apply below_drew1) | exact HB.out)))); have n3_ := Aside0.mk (below_step (by repeat (first | (with_reducible first | exact HB.out | apply below_alloc | apply pw_below_drewN | apply below_drew1) | exact HB.out)) hb); clear HO_7; clear HO_9; clear HB; have HO_7 := n0_; have HO_9 := n1_; have HO200 := n2_; have HB := n3_; clear n0_ n1_ n2_ n3_; clear hb ho33)); try go_wp2_with (first | ((with_reducible refine gate_dst (N := 71) rfl ?_); refine Kd.R_make Kd.bool _ 4 rfl (N := 71) rfl 52 _ _ rfl (x7_5.length : Int) rfl rfl Try.underlying52 (.bool false) 1 info4 rfl (by decide) (by omega) false (ok := fun _ => True) (okp := fun _ => True) rfl (fun _ hk => hk) trivial (of_decide_eq_true (by first | (with_reducible assumption) | assumption)) (Nat.le_trans (Nat.mul_le_mul_right _ (of_decide_eq_true (by first | (with_reducible assumption) | assumption) : (x7_5.length : Int).toNat ≤ 281474976710656)) (by omega)) (Below.refl _ _) (Nat.le_refl _) ?_; intro v199 w32 ho33 hb hg_ hnew_; clear hg_ hnew_; (first | rw [← Ny198.out] at ho33 | (simp only [Int.reduceToNat] at ho33; rw [← Ny198.out] at ho33)); have n0_ := Aside0.mk (Kd.R_below (by (with_reducible repeat (first | apply Kd.R_alloc | apply Kd.R_drewN | apply Kd.R_drew)); exact HO_7.out) hb); have n1_ := Aside0.mk (Kd.R_below (by (with_reducible repeat (first | apply Kd.R_alloc | apply Kd.R_drewN | apply Kd.R_drew)); exact HO_9.out) hb); have n2_ := Aside0.mk (Kd.R_lower ho33 (below_size (by repeat (first | (with_reducible first | exact HB.out | apply below_alloc | apply pw_below_drewN | apply below_drew1) | exact HB.out)))); have n3_ := Aside0.mk (below_step (by repeat (first | (with_reducible first | exact HB.out | apply below_alloc | apply pw_below_drewN | apply below_drew1) | exact HB.out)) hb); clear HO_7; clear HO_9; clear HB; have HO_7 := n0_; have HO_9 := n1_; have HO200 := n2_; have HB := n3_; clear n0_ n1_ n2_ n3_; clear hb ho33)))
                            go_loopg [10] k3 (fun kq v10 w' => ∃ (x9_4 : List Int) (x10_4 : Int) (x12_4 : List Bool), v10 = .int .i64 x10_4 ∧ Aside0 (customsref21_Share.l3 kq a0 x5_5 x7_5 x9_4 x10_4 x12_4 = some r) ∧ Aside0 (kq ≤ k3) ∧ Aside0 (Kd.R (Kd.int .i64) 3 w' w.heap.size (fun k_ => some k_ ≠ (v192 : Value).ownBlock) (.slice Ao20 x7_5.length co20) x7_5) ∧ Aside0 (Kd.R (Kd.int .i64) 3 w' w.heap.size (fun k_ => some k_ ≠ ((.slice Ao20 x7_5.length co20) : Value).ownBlock) v192 x9_4) ∧ Aside0 (Kd.R Kd.bool 4 w' w.heap.size (fun _ => True) v199 x12_4) ∧ Aside0 (Below w.heap.size w w'))
                            case atStart => exact ⟨(x9_3), (x10_3), (y198), (by first | rfl | (simp; done) | (simp [*]; done)), H', ⟨Nat.le_refl _⟩, ⟨by (with_reducible repeat (first | apply Kd.R_alloc | apply Kd.R_drewN | apply Kd.R_drew)); exact HO_7.out⟩, ⟨by (with_reducible repeat (first | apply Kd.R_alloc | apply Kd.R_drewN | apply Kd.R_drew)); exact HO_9.out⟩, ⟨by (with_reducible repeat (first | apply Kd.R_alloc | apply Kd.R_drewN | apply Kd.R_drew)); exact HO200.out⟩, ⟨by repeat (first | (with_reducible first | exact HB.out | apply below_alloc | apply pw_below_drewN | apply below_drew1) | exact HB.out)⟩⟩
                            case round =>
                              clear H'
                              try clear c1
                              try clear p1
                              try clear q1
                              try clear hx1
                              try clear c2
                              try clear p2
                              try clear q2
                              try clear hx2
                              try clear hf2
                              try clear c3
                              try clear c3b0
                              try clear c4
                              try clear c4b0
                              try clear c5
                              try clear p6
                              try clear c10
                              try clear c10b0
                              try clear c10b1
                              try clear c11
                              try clear c11b0
                              try clear c12
                              try clear c12b0
                              try clear p13
                              try clear q13
                              try clear hx13
                              try clear hf13
                              try clear c18
                              try clear c18b0
                              try clear c18b1
                              try clear p18
                              try clear q18
                              try clear hx18
                              try clear c19
                              try clear c19b0
                              try clear c19b1
                              try clear p19
                              try clear q19
                              try clear hx19
                              try clear c23
                              try clear c23b0
                              try clear c24
                              try clear c24b0
                              try clear c26
                              try clear c26b0
                              try clear p27
                              try clear q27
                              try clear hx27
                              try clear hf27
                              try clear c30
                              try clear c30b0
                              try clear c30b1
                              try clear c31
                              try clear c31b0
                              try clear c31b1
                              try clear hx13_0
                              try clear hx183_0
                              try clear hx194_0
                              try clear hx197_0
                              try clear hx27_0
                              try clear p1
                              try clear p13
                              try clear p18
                              try clear p183
                              try clear p194
                              try clear p197
                              try clear p2
                              try clear p27
                              try clear p6
                              try clear q1
                              try clear q13
                              try clear q18
                              try clear q183
                              try clear q194
                              try clear q197
                              try clear q27
                              obtain ⟨x9_4, x10_4, x12_4, rfl, HA, HK4, HO_7, HO_9, HO_12, HB⟩ := hrel
                              cases gk with
                              | zero => exact absurd HA.out (by simp [customsref21_Share.l3])
                              | succ k4 =>
                                have H := HA.out
                                clear HA
                                simp only [customsref21_Share.l3] at H
                                by_cases c34 : x10_4 > 0
                                · rw [if_pos c34] at H
                                  have c34b0 : decide (0 < x10_4) = true := decide_eq_true c34
                                  clear c34
                                  have H' := Aside0.mk H
                                  clear H
                                  go_wp2
                                  repeat (go_quiet (fail); try go_wp2)
                                  go_loopg [13, 14] k4 (fun kq v13 v14 w' => ∃ (x13_5 : Int) (x14_5 : Int), v13 = .int .i64 x13_5 ∧ v14 = .int .i64 x14_5 ∧ Aside0 (customsref21_Share.l4 kq a0 x5_5 x7_5 x9_4 x10_4 x12_4 x13_5 x14_5 = some r) ∧ Aside0 (kq ≤ k4) ∧ Aside0 (Kd.R (Kd.int .i64) 3 w' w.heap.size (fun k_ => some k_ ≠ (v192 : Value).ownBlock) (.slice Ao20 x7_5.length co20) x7_5) ∧ Aside0 (Kd.R (Kd.int .i64) 3 w' w.heap.size (fun k_ => some k_ ≠ ((.slice Ao20 x7_5.length co20) : Value).ownBlock) v192 x9_4) ∧ Aside0 (Kd.R Kd.bool 4 w' w.heap.size (fun _ => True) v199 x12_4) ∧ Aside0 (Below w.heap.size w w'))
                                  case atStart => exact ⟨((-1)), (0), (by first | rfl | (simp; done) | (simp [*]; done)), (by first | rfl | (simp; done) | (simp [*]; done)), H', ⟨Nat.le_refl _⟩, ⟨by (with_reducible repeat (first | apply Kd.R_alloc | apply Kd.R_drewN | apply Kd.R_drew)); exact HO_7.out⟩, ⟨by (with_reducible repeat (first | apply Kd.R_alloc | apply Kd.R_drewN | apply Kd.R_drew)); exact HO_9.out⟩, ⟨by (with_reducible repeat (first | apply Kd.R_alloc | apply Kd.R_drewN | apply Kd.R_drew)); exact HO_12.out⟩, ⟨by repeat (first | (with_reducible first | exact HB.out | apply below_alloc | apply pw_below_drewN | apply below_drew1) | exact HB.out)⟩⟩
                                  case round =>
                                    clear H'
                                    try clear c1
                                    try clear p1
                                    try clear q1
                                    try clear hx1
                                    try clear c2
                                    try clear p2
                                    try clear q2
                                    try clear hx2
                                    try clear hf2
                                    try clear c3
                                    try clear c3b0
                                    try clear c4
                                    try clear c4b0
                                    try clear c5
                                    try clear p6
                                    try clear c10
                                    try clear c10b0
                                    try clear c10b1
                                    try clear c11
                                    try clear c11b0
                                    try clear c12
                                    try clear c12b0
                                    try clear p13
                                    try clear q13
                                    try clear hx13
                                    try clear hf13
                                    try clear c18
                                    try clear c18b0
                                    try clear c18b1
                                    try clear p18
                                    try clear q18
                                    try clear hx18
                                    try clear c19
                                    try clear c19b0
                                    try clear c19b1
                                    try clear p19
                                    try clear q19
                                    try clear hx19
                                    try clear c23
                                    try clear c23b0
                                    try clear c24
                                    try clear c24b0
                                    try clear c26
                                    try clear c26b0
                                    try clear p27
                                    try clear q27
                                    try clear hx27
                                    try clear hf27
                                    try clear c30
                                    try clear c30b0
                                    try clear c30b1
                                    try clear c31
                                    try clear c31b0
                                    try clear c31b1
                                    try clear c34
                                    try clear c34b0
                                    try clear hx13_0
                                    try clear hx183_0
                                    try clear hx194_0
                                    try clear hx197_0
                                    try clear hx27_0
                                    try clear p1
                                    try clear p13
                                    try clear p18
                                    try clear p183
                                    try clear p19
                                    try clear p194
                                    try clear p197
                                    try clear p2
                                    try clear p27
                                    try clear p6
                                    try clear q1
                                    try clear q13
                                    try clear q18
                                    try clear q183
                                    try clear q19
                                    try clear q194
                                    try clear q197
                                    try clear q2
                                    try clear q27
                                    obtain ⟨x13_5, x14_5, rfl, rfl, HA, HK5, HO_7, HO_9, HO_12, HB⟩ := hrel
                                    cases gk with
                                    | zero => exact absurd HA.out (by simp [customsref21_Share.l4])
                                    | succ k5 =>
                                      have H := HA.out
                                      clear HA
                                      simp only [customsref21_Share.l4] at H
                                      by_cases c35 : x14_5 < (x7_5.length : Int)
                                      · rw [if_pos c35] at H
                                        have c35b0 : decide (x14_5 < (x7_5.length : Int)) = true := decide_eq_true c35
                                        clear c35
                                        by_cases c36 : 0 ≤ x14_5
                                        · rw [if_pos c36] at H
                                          have c36b0 : decide (0 ≤ x14_5) = true := decide_eq_true c36
                                          clear c36
                                          by_cases c37 : x14_5 < (x12_4.length : Int)
                                          · rw [if_pos c37] at H
                                            have c37b0 : decide (x14_5 < (x12_4.length : Int)) = true := decide_eq_true c37
                                            clear c37
                                            obtain ⟨bq38, hbq38⟩ : ∃ b_ : Bool, b_ = (rdOf false x12_4 x14_5) := ⟨_, rfl⟩
                                            replace H : (if bq38 = true then (customsref21_Share.l4 k5 a0 x5_5 x7_5 x9_4 x10_4 x12_4 x13_5 (wrap64 (x14_5 + 1))) else (if x13_5 < 0 then (customsref21_Share.l4 k5 a0 x5_5 x7_5 x9_4 x10_4 x12_4 x14_5 (wrap64 (x14_5 + 1))) else ((customsref21_Rest.f k5 a0 (rd x7_5 x14_5) x5_5).bind fun t206 => (if 0 ≤ x13_5 then (if x13_5 < (x7_5.length : Int) then ((customsref21_Rest.f k5 a0 (rd x7_5 x13_5) x5_5).bind fun t208 => (if t206 > t208 then (customsref21_Share.l4 k5 a0 x5_5 x7_5 x9_4 x10_4 x12_4 x14_5 (wrap64 (x14_5 + 1))) else (customsref21_Share.l4 k5 a0 x5_5 x7_5 x9_4 x10_4 x12_4 x13_5 (wrap64 (x14_5 + 1))))) else (none)) else (none))))) = some r := by rw [← hbq38] at H; exact H
                                            have Nbq38 := Aside0.mk hbq38
                                            clear hbq38
                                            by_cases c39 : bq38 = true
                                            · subst c39
                                              have H1 : (customsref21_Share.l4 k5 a0 x5_5 x7_5 x9_4 x10_4 x12_4 x13_5 (wrap64 (x14_5 + 1))) = some r := by rw [if_pos rfl] at H; exact H
                                              clear H
                                              have H := H1
                                              clear H1
                                              have H' := Aside0.mk H
                                              clear H
                                              obtain ⟨Ao40, co40, eo40⟩ := Kd.R_slice HO_12.out
                                              subst eo40
                                              have p204 : 0 ≤ (x14_5 : Int) := of_decide_eq_true (by first | (with_reducible assumption) | assumption)
                                              have q204 : x14_5 < (x12_4.length : Int) := of_decide_eq_true (by first | (with_reducible assumption) | assumption)
                                              obtain ⟨ad204, e204, hx204_0⟩ := Kd.at_bool (Kd.R_reads' HO_12.out).2.2 x14_5 p204 q204
                                              (try rw [← Nbq38.out] at hx204_0)
                                              cases e204
                                              replace p204 := eq_true p204
                                              replace q204 := eq_true q204
                                              go_wp2
                                              repeat (go_quiet (fail); try go_wp2)
                                              go_roundg k5
                                              case measure => have := HK1.out; have := HJ5.out; have := HK3.out; have := HK4.out; have := HK5.out; omega
                                              case rel => exact ⟨(x13_5), (wrap64 (x14_5 + 1)), (by first | rfl | (simp; done) | (simp [*]; done)), (by first | rfl | (simp; done) | (simp [*]; done)), H', ⟨by have := HK1.out; have := HJ5.out; have := HK3.out; have := HK4.out; have := HK5.out; omega⟩, ⟨by (with_reducible repeat (first | apply Kd.R_alloc | apply Kd.R_drewN | apply Kd.R_drew)); exact HO_7.out⟩, ⟨by (with_reducible repeat (first | apply Kd.R_alloc | apply Kd.R_drewN | apply Kd.R_drew)); exact HO_9.out⟩, ⟨by (with_reducible repeat (first | apply Kd.R_alloc | apply Kd.R_drewN | apply Kd.R_drew)); exact HO_12.out⟩, ⟨by repeat (first | (with_reducible first | exact HB.out | apply below_alloc | apply pw_below_drewN | apply below_drew1) | exact HB.out)⟩⟩
                                            · replace c39 := Bool.eq_false_iff.mpr c39
                                              subst c39
                                              have H1 : (if x13_5 < 0 then (customsref21_Share.l4 k5 a0 x5_5 x7_5 x9_4 x10_4 x12_4 x14_5 (wrap64 (x14_5 + 1))) else ((customsref21_Rest.f k5 a0 (rd x7_5 x14_5) x5_5).bind fun t206 => (if 0 ≤ x13_5 then (if x13_5 < (x7_5.length : Int) then ((customsref21_Rest.f k5 a0 (rd x7_5 x13_5) x5_5).bind fun t208 => (if t206 > t208 then (customsref21_Share.l4 k5 a0 x5_5 x7_5 x9_4 x10_4 x12_4 x14_5 (wrap64 (x14_5 + 1))) else (customsref21_Share.l4 k5 a0 x5_5 x7_5 x9_4 x10_4 x12_4 x13_5 (wrap64 (x14_5 + 1))))) else (none)) else (none)))) = some r := by rw [if_neg (show ¬ (false = true) by decide)] at H; exact H
                                              clear H
                                              have H := H1
                                              clear H1
                                              by_cases c41 : x13_5 < 0
                                              · rw [if_pos c41] at H
                                                have c41b0 : decide (x13_5 < 0) = true := decide_eq_true c41
                                                clear c41
                                                have H' := Aside0.mk H
                                                clear H
                                                obtain ⟨Ao42, co42, eo42⟩ := Kd.R_slice HO_12.out
                                                subst eo42
                                                have p204 : 0 ≤ (x14_5 : Int) := of_decide_eq_true (by first | (with_reducible assumption) | assumption)
                                                have q204 : x14_5 < (x12_4.length : Int) := of_decide_eq_true (by first | (with_reducible assumption) | assumption)
                                                obtain ⟨ad204, e204, hx204_0⟩ := Kd.at_bool (Kd.R_reads' HO_12.out).2.2 x14_5 p204 q204
                                                (try rw [← Nbq38.out] at hx204_0)
                                                cases e204
                                                replace p204 := eq_true p204
                                                replace q204 := eq_true q204
                                                go_wp2
                                                repeat (go_quiet (fail); try go_wp2)
                                                go_roundg k5
                                                case measure => have := HK1.out; have := HJ5.out; have := HK3.out; have := HK4.out; have := HK5.out; omega
                                                case rel => exact ⟨(x14_5), (wrap64 (x14_5 + 1)), (by first | rfl | (simp; done) | (simp [*]; done)), (by first | rfl | (simp; done) | (simp [*]; done)), H', ⟨by have := HK1.out; have := HJ5.out; have := HK3.out; have := HK4.out; have := HK5.out; omega⟩, ⟨by (with_reducible repeat (first | apply Kd.R_alloc | apply Kd.R_drewN | apply Kd.R_drew)); exact HO_7.out⟩, ⟨by (with_reducible repeat (first | apply Kd.R_alloc | apply Kd.R_drewN | apply Kd.R_drew)); exact HO_9.out⟩, ⟨by (with_reducible repeat (first | apply Kd.R_alloc | apply Kd.R_drewN | apply Kd.R_drew)); exact HO_12.out⟩, ⟨by repeat (first | (with_reducible first | exact HB.out | apply below_alloc | apply pw_below_drewN | apply below_drew1) | exact HB.out)⟩⟩
                                              · rw [if_neg c41] at H
                                                have c41b0 : decide (x13_5 < 0) = false := decide_eq_false c41
                                                clear c41
                                                replace H := Option.bind_eq_some_iff.mp H
                                                obtain ⟨t206, A430, H⟩ := H
                                                replace H : (if 0 ≤ x13_5 then (if x13_5 < (x7_5.length : Int) then ((customsref21_Rest.f k5 a0 (rd x7_5 x13_5) x5_5).bind fun t208 => (if t206 > t208 then (customsref21_Share.l4 k5 a0 x5_5 x7_5 x9_4 x10_4 x12_4 x14_5 (wrap64 (x14_5 + 1))) else (customsref21_Share.l4 k5 a0 x5_5 x7_5 x9_4 x10_4 x12_4 x13_5 (wrap64 (x14_5 + 1))))) else (none)) else (none)) = some r := H
                                                have A43 := Aside0.mk A430
                                                clear A430
                                                by_cases c44 : 0 ≤ x13_5
                                                · rw [if_pos c44] at H
                                                  have c44b0 : decide (0 ≤ x13_5) = true := decide_eq_true c44
                                                  clear c44
                                                  by_cases c45 : x13_5 < (x7_5.length : Int)
                                                  · rw [if_pos c45] at H
                                                    have c45b0 : decide (x13_5 < (x7_5.length : Int)) = true := decide_eq_true c45
                                                    clear c45
                                                    replace H := Option.bind_eq_some_iff.mp H
                                                    obtain ⟨t208, A460, H⟩ := H
                                                    replace H : (if t206 > t208 then (customsref21_Share.l4 k5 a0 x5_5 x7_5 x9_4 x10_4 x12_4 x14_5 (wrap64 (x14_5 + 1))) else (customsref21_Share.l4 k5 a0 x5_5 x7_5 x9_4 x10_4 x12_4 x13_5 (wrap64 (x14_5 + 1)))) = some r := H
                                                    have A46 := Aside0.mk A460
                                                    clear A460
                                                    by_cases c47 : t206 > t208
                                                    · rw [if_pos c47] at H
                                                      have c47b0 : decide (t208 < t206) = true := decide_eq_true c47
                                                      clear c47
                                                      have H' := Aside0.mk H
                                                      clear H
                                                      obtain ⟨Ao48, co48, eo48⟩ := Kd.R_slice HO_12.out
                                                      subst eo48
                                                      have p204 : 0 ≤ (x14_5 : Int) := of_decide_eq_true (by first | (with_reducible assumption) | assumption)
                                                      have q204 : x14_5 < (x12_4.length : Int) := of_decide_eq_true (by first | (with_reducible assumption) | assumption)
                                                      obtain ⟨ad204, e204, hx204_0⟩ := Kd.at_bool (Kd.R_reads' HO_12.out).2.2 x14_5 p204 q204
                                                      (try rw [← Nbq38.out] at hx204_0)
                                                      cases e204
                                                      replace p204 := eq_true p204
                                                      replace q204 := eq_true q204
                                                      have p205 : 0 ≤ (x14_5 : Int) := of_decide_eq_true (by first | (with_reducible assumption) | assumption)
                                                      have q205 : x14_5 < (x7_5.length : Int) := of_decide_eq_true (by first | (with_reducible assumption) | assumption)
                                                      obtain ⟨ad205, e205, hx205_0⟩ := Kd.at_int (Kd.R_reads' HO_7.out).2.2 x14_5 p205 q205
                                                      cases e205
                                                      replace p205 := eq_true p205
                                                      replace q205 := eq_true q205
                                                      go_wp2_with (first | (go_at_call 27; (with_reducible refine (customsref21_Rest.calls k5 a0 (rd x7_5 x14_5) x5_5 t206 _ A43.out).mono ?_); rintro e w' ⟨rfl, ⟨nd, rfl⟩⟩; (try first | exact ⟨rfl, _, World.drewN_drewN _ _ _⟩ | exact ⟨rfl, _, Eq.trans (World.drewN_drewN _ _ _) (congrArg (World.drewN _) (Nat.add_assoc _ _ _))⟩); have p207 : 0 ≤ (x13_5 : Int) := of_decide_eq_true (by first | (with_reducible assumption) | assumption); have q207 : x13_5 < (x7_5.length : Int) := of_decide_eq_true (by first | (with_reducible assumption) | assumption); obtain ⟨ad207, e207, hx207_0⟩ := Kd.at_int (Kd.R_reads' HO_7.out).2.2 x13_5 p207 q207; obtain rfl : ad205 = ad207 := (by injection e207); replace p207 := eq_true p207; replace q207 := eq_true q207) | (go_at_call 27; (with_reducible refine (customsref21_Rest.calls k5 a0 (rd x7_5 x13_5) x5_5 t208 _ A46.out).mono ?_); rintro e w' ⟨rfl, ⟨nd, rfl⟩⟩; (try first | exact ⟨rfl, _, World.drewN_drewN _ _ _⟩ | exact ⟨rfl, _, Eq.trans (World.drewN_drewN _ _ _) (congrArg (World.drewN _) (Nat.add_assoc _ _ _))⟩)))
                                                      repeat (go_quiet (first | (go_at_call 27; (with_reducible refine (customsref21_Rest.calls k5 a0 (rd x7_5 x14_5) x5_5 t206 _ A43.out).mono ?_); rintro e w' ⟨rfl, ⟨nd, rfl⟩⟩; (try first | exact ⟨rfl, _, World.drewN_drewN _ _ _⟩ | exact ⟨rfl, _, Eq.trans (World.drewN_drewN _ _ _) (congrArg (World.drewN _) (Nat.add_assoc _ _ _))⟩); have p207 : 0 ≤ (x13_5 : Int) := of_decide_eq_true (by first | (with_reducible assumption) | assumption); have q207 : x13_5 < (x7_5.length : Int) := of_decide_eq_true (by first | (with_reducible assumption) | assumption); obtain ⟨ad207, e207, hx207_0⟩ := Kd.at_int (Kd.R_reads' HO_7.out).2.2 x13_5 p207 q207; obtain rfl : ad205 = ad207 := (by injection e207); replace p207 := eq_true p207; replace q207 := eq_true q207) | (go_at_call 27; (with_reducible refine (customsref21_Rest.calls k5 a0 (rd x7_5 x13_5) x5_5 t208 _ A46.out).mono ?_); rintro e w' ⟨rfl, ⟨nd, rfl⟩⟩; (try first | exact ⟨rfl, _, World.drewN_drewN _ _ _⟩ | exact ⟨rfl, _, Eq.trans (World.drewN_drewN _ _ _) (congrArg (World.drewN _) (Nat.add_assoc _ _ _))⟩))); try go_wp2_with (first | (go_at_call 27; (with_reducible refine (customsref21_Rest.calls k5 a0 (rd x7_5 x14_5) x5_5 t206 _ A43.out).mono ?_); rintro e w' ⟨rfl, ⟨nd, rfl⟩⟩; (try first | exact ⟨rfl, _, World.drewN_drewN _ _ _⟩ | exact ⟨rfl, _, Eq.trans (World.drewN_drewN _ _ _) (congrArg (World.drewN _) (Nat.add_assoc _ _ _))⟩); have p207 : 0 ≤ (x13_5 : Int) := of_decide_eq_true (by first | (with_reducible assumption) | assumption); have q207 : x13_5 < (x7_5.length : Int) := of_decide_eq_true (by first | (with_reducible assumption) | assumption); obtain ⟨ad207, e207, hx207_0⟩ := Kd.at_int (Kd.R_reads' HO_7.out).2.2 x13_5 p207 q207; obtain rfl : ad205 = ad207 := (by injection e207); replace p207 := eq_true p207; replace q207 := eq_true q207) | (go_at_call 27; (with_reducible refine (customsref21_Rest.calls k5 a0 (rd x7_5 x13_5) x5_5 t208 _ A46.out).mono ?_); rintro e w' ⟨rfl, ⟨nd, rfl⟩⟩; (try first | exact ⟨rfl, _, World.drewN_drewN _ _ _⟩ | exact ⟨rfl, _, Eq.trans (World.drewN_drewN _ _ _) (congrArg (World.drewN _) (Nat.add_assoc _ _ _))⟩))))
                                                      go_roundg k5
                                                      case measure => have := HK1.out; have := HJ5.out; have := HK3.out; have := HK4.out; have := HK5.out; omega
                                                      case rel => exact ⟨(x14_5), (wrap64 (x14_5 + 1)), (by first | rfl | (simp; done) | (simp [*]; done)), (by first | rfl | (simp; done) | (simp [*]; done)), H', ⟨by have := HK1.out; have := HJ5.out; have := HK3.out; have := HK4.out; have := HK5.out; omega⟩, ⟨by (with_reducible repeat (first | apply Kd.R_alloc | apply Kd.R_drewN | apply Kd.R_drew)); exact HO_7.out⟩, ⟨by (with_reducible repeat (first | apply Kd.R_alloc | apply Kd.R_drewN | apply Kd.R_drew)); exact HO_9.out⟩, ⟨by (with_reducible repeat (first | apply Kd.R_alloc | apply Kd.R_drewN | apply Kd.R_drew)); exact HO_12.out⟩, ⟨by repeat (first | (with_reducible first | exact HB.out | apply below_alloc | apply pw_below_drewN | apply below_drew1) | exact HB.out)⟩⟩
                                                    · rw [if_neg c47] at H
                                                      have c47b0 : decide (t208 < t206) = false := decide_eq_false c47
                                                      clear c47
                                                      have H' := Aside0.mk H
                                                      clear H
                                                      obtain ⟨Ao49, co49, eo49⟩ := Kd.R_slice HO_12.out
                                                      subst eo49
                                                      have p204 : 0 ≤ (x14_5 : Int) := of_decide_eq_true (by first | (with_reducible assumption) | assumption)
                                                      have q204 : x14_5 < (x12_4.length : Int) := of_decide_eq_true (by first | (with_reducible assumption) | assumption)
                                                      obtain ⟨ad204, e204, hx204_0⟩ := Kd.at_bool (Kd.R_reads' HO_12.out).2.2 x14_5 p204 q204
                                                      (try rw [← Nbq38.out] at hx204_0)
                                                      cases e204
                                                      replace p204 := eq_true p204
                                                      replace q204 := eq_true q204
                                                      have p205 : 0 ≤ (x14_5 : Int) := of_decide_eq_true (by first | (with_reducible assumption) | assumption)
                                                      have q205 : x14_5 < (x7_5.length : Int) := of_decide_eq_true (by first | (with_reducible assumption) | assumption)
                                                      obtain ⟨ad205, e205, hx205_0⟩ := Kd.at_int (Kd.R_reads' HO_7.out).2.2 x14_5 p205 q205
                                                      cases e205
                                                      replace p205 := eq_true p205
                                                      replace q205 := eq_true q205
                                                      go_wp2_with (first | (go_at_call 27; (with_reducible refine (customsref21_Rest.calls k5 a0 (rd x7_5 x14_5) x5_5 t206 _ A43.out).mono ?_); rintro e w' ⟨rfl, ⟨nd, rfl⟩⟩; (try first | exact ⟨rfl, _, World.drewN_drewN _ _ _⟩ | exact ⟨rfl, _, Eq.trans (World.drewN_drewN _ _ _) (congrArg (World.drewN _) (Nat.add_assoc _ _ _))⟩); have p207 : 0 ≤ (x13_5 : Int) := of_decide_eq_true (by first | (with_reducible assumption) | assumption); have q207 : x13_5 < (x7_5.length : Int) := of_decide_eq_true (by first | (with_reducible assumption) | assumption); obtain ⟨ad207, e207, hx207_0⟩ := Kd.at_int (Kd.R_reads' HO_7.out).2.2 x13_5 p207 q207; obtain rfl : ad205 = ad207 := (by injection e207); replace p207 := eq_true p207; replace q207 := eq_true q207) | (go_at_call 27; (with_reducible refine (customsref21_Rest.calls k5 a0 (rd x7_5 x13_5) x5_5 t208 _ A46.out).mono ?_); rintro e w' ⟨rfl, ⟨nd, rfl⟩⟩; (try first | exact ⟨rfl, _, World.drewN_drewN _ _ _⟩ | exact ⟨rfl, _, Eq.trans (World.drewN_drewN _ _ _) (congrArg (World.drewN _) (Nat.add_assoc _ _ _))⟩)))
                                                      repeat (go_quiet (first | (go_at_call 27; (with_reducible refine (customsref21_Rest.calls k5 a0 (rd x7_5 x14_5) x5_5 t206 _ A43.out).mono ?_); rintro e w' ⟨rfl, ⟨nd, rfl⟩⟩; (try first | exact ⟨rfl, _, World.drewN_drewN _ _ _⟩ | exact ⟨rfl, _, Eq.trans (World.drewN_drewN _ _ _) (congrArg (World.drewN _) (Nat.add_assoc _ _ _))⟩); have p207 : 0 ≤ (x13_5 : Int) := of_decide_eq_true (by first | (with_reducible assumption) | assumption); have q207 : x13_5 < (x7_5.length : Int) := of_decide_eq_true (by first | (with_reducible assumption) | assumption); obtain ⟨ad207, e207, hx207_0⟩ := Kd.at_int (Kd.R_reads' HO_7.out).2.2 x13_5 p207 q207; obtain rfl : ad205 = ad207 := (by injection e207); replace p207 := eq_true p207; replace q207 := eq_true q207) | (go_at_call 27; (with_reducible refine (customsref21_Rest.calls k5 a0 (rd x7_5 x13_5) x5_5 t208 _ A46.out).mono ?_); rintro e w' ⟨rfl, ⟨nd, rfl⟩⟩; (try first | exact ⟨rfl, _, World.drewN_drewN _ _ _⟩ | exact ⟨rfl, _, Eq.trans (World.drewN_drewN _ _ _) (congrArg (World.drewN _) (Nat.add_assoc _ _ _))⟩))); try go_wp2_with (first | (go_at_call 27; (with_reducible refine (customsref21_Rest.calls k5 a0 (rd x7_5 x14_5) x5_5 t206 _ A43.out).mono ?_); rintro e w' ⟨rfl, ⟨nd, rfl⟩⟩; (try first | exact ⟨rfl, _, World.drewN_drewN _ _ _⟩ | exact ⟨rfl, _, Eq.trans (World.drewN_drewN _ _ _) (congrArg (World.drewN _) (Nat.add_assoc _ _ _))⟩); have p207 : 0 ≤ (x13_5 : Int) := of_decide_eq_true (by first | (with_reducible assumption) | assumption); have q207 : x13_5 < (x7_5.length : Int) := of_decide_eq_true (by first | (with_reducible assumption) | assumption); obtain ⟨ad207, e207, hx207_0⟩ := Kd.at_int (Kd.R_reads' HO_7.out).2.2 x13_5 p207 q207; obtain rfl : ad205 = ad207 := (by injection e207); replace p207 := eq_true p207; replace q207 := eq_true q207) | (go_at_call 27; (with_reducible refine (customsref21_Rest.calls k5 a0 (rd x7_5 x13_5) x5_5 t208 _ A46.out).mono ?_); rintro e w' ⟨rfl, ⟨nd, rfl⟩⟩; (try first | exact ⟨rfl, _, World.drewN_drewN _ _ _⟩ | exact ⟨rfl, _, Eq.trans (World.drewN_drewN _ _ _) (congrArg (World.drewN _) (Nat.add_assoc _ _ _))⟩))))
                                                      go_roundg k5
                                                      case measure => have := HK1.out; have := HJ5.out; have := HK3.out; have := HK4.out; have := HK5.out; omega
                                                      case rel => exact ⟨(x13_5), (wrap64 (x14_5 + 1)), (by first | rfl | (simp; done) | (simp [*]; done)), (by first | rfl | (simp; done) | (simp [*]; done)), H', ⟨by have := HK1.out; have := HJ5.out; have := HK3.out; have := HK4.out; have := HK5.out; omega⟩, ⟨by (with_reducible repeat (first | apply Kd.R_alloc | apply Kd.R_drewN | apply Kd.R_drew)); exact HO_7.out⟩, ⟨by (with_reducible repeat (first | apply Kd.R_alloc | apply Kd.R_drewN | apply Kd.R_drew)); exact HO_9.out⟩, ⟨by (with_reducible repeat (first | apply Kd.R_alloc | apply Kd.R_drewN | apply Kd.R_drew)); exact HO_12.out⟩, ⟨by repeat (first | (with_reducible first | exact HB.out | apply below_alloc | apply pw_below_drewN | apply below_drew1) | exact HB.out)⟩⟩
                                                  · rw [if_neg c45] at H
                                                    exact absurd H (by simp)
                                                · rw [if_neg c44] at H
                                                  exact absurd H (by simp)
                                          · rw [if_neg c37] at H
                                            exact absurd H (by simp)
                                        · rw [if_neg c36] at H
                                          exact absurd H (by simp)
                                      · rw [if_neg c35] at H
                                        have c35b0 : decide (x14_5 < (x7_5.length : Int)) = false := decide_eq_false c35
                                        clear c35
                                        by_cases c50 : x13_5 < 0
                                        · rw [if_pos c50] at H
                                          have c50b0 : decide (x13_5 < 0) = true := decide_eq_true c50
                                          clear c50
                                          obtain rfl := Option.some.inj H
                                          go_wp2
                                          repeat (go_quiet (fail); try go_wp2)
                                          go_ret
                                          exact ⟨_, by first | rfl | (simp [errW_none, errW_some] <;> rfl) | (simp [*, errW_none, errW_some] <;> rfl) | (simp (disch := first | assumption | omega) only [Int.tdiv_eq_ediv_of_nonneg, Int.tmod_eq_emod_of_nonneg]; rfl), by (with_reducible repeat (first | apply Kd.R_alloc | apply Kd.R_drewN | apply Kd.R_drew)); exact Kd.R_mono HO_9.out (fun _ hk => trivial), by repeat (first | (with_reducible first | exact HB.out | apply below_alloc | apply pw_below_drewN | apply below_drew1) | exact HB.out)⟩
                                        · rw [if_neg c50] at H
                                          have c50b0 : decide (x13_5 < 0) = false := decide_eq_false c50
                                          clear c50
                                          by_cases c51 : 0 ≤ x13_5
                                          · rw [if_pos c51] at H
                                            have c51b0 : decide (0 ≤ x13_5) = true := decide_eq_true c51
                                            clear c51
                                            by_cases c52 : x13_5 < (x12_4.length : Int)
                                            · rw [if_pos c52] at H
                                              have c52b0 : decide (x13_5 < (x12_4.length : Int)) = true := decide_eq_true c52
                                              clear c52
                                              obtain ⟨y201, hy201⟩ : ∃ y_ : List Bool, y_ = (x12_4.set (x13_5 : Int).toNat true) := ⟨_, rfl⟩
                                              replace H : (if x13_5 < (x9_4.length : Int) then (customsref21_Share.l3 k5 a0 x5_5 x7_5 (x9_4.set (x13_5 : Int).toNat (wrap64 ((rd x9_4 x13_5) + 1))) (wrap64 (x10_4 - 1)) y201) else (none)) = some r := by first | (rw [hy201]; with_reducible exact H) | (have H2_ := (Option.bind_some _ _).symm.trans H; rw [hy201]; with_reducible exact H2_) | (have H2_ := (Option.bind_some _ _).symm.trans H; with_reducible exact H2_) | with_reducible exact H | (rw [hy201]; exact H) | exact H
                                              have Ny201 := Aside0.mk hy201
                                              clear hy201
                                              by_cases c54 : x13_5 < (x9_4.length : Int)
                                              · rw [if_pos c54] at H
                                                have c54b0 : decide (x13_5 < (x9_4.length : Int)) = true := decide_eq_true c54
                                                clear c54
                                                obtain ⟨y203, hy203⟩ : ∃ y_ : List Int, y_ = (x9_4.set (x13_5 : Int).toNat (wrap64 ((rd x9_4 x13_5) + 1))) := ⟨_, rfl⟩
                                                replace H : (customsref21_Share.l3 k5 a0 x5_5 x7_5 y203 (wrap64 (x10_4 - 1)) y201) = some r := by first | (rw [hy203]; with_reducible exact H) | (have H2_ := (Option.bind_some _ _).symm.trans H; rw [hy203]; with_reducible exact H2_) | (have H2_ := (Option.bind_some _ _).symm.trans H; with_reducible exact H2_) | with_reducible exact H | (rw [hy203]; exact H) | exact H
                                                have Ny203 := Aside0.mk hy203
                                                clear hy203
                                                have H' := Aside0.mk H
                                                clear H
                                                have p53 : 0 ≤ (x13_5 : Int) := of_decide_eq_true (by first | (with_reducible assumption) | assumption)
                                                have q53 : (x13_5 : Int) < ((x12_4.length : Int) : Int) := of_decide_eq_true (by first | (with_reducible assumption) | assumption)
                                                obtain ⟨go53, co53, eo53, gb53, gl53, cl53, HG53⟩ := Kd.R_form HO_12.out (by omega)
                                                (first | cases eo53 | (injection eo53 with ea_ en_ ec_; (first | subst ea_ | (injection ea_ with ea_; subst ea_)); subst ec_; clear en_))
                                                have GB53 := Aside0.mk gb53
                                                have GG53 := Aside0.mk HG53
                                                clear gb53 gl53 HG53
                                                obtain ⟨hx53_0, hf53_0⟩ := Kd.R_celln false HO_12.out (x13_5 : Int) p53 q53
                                                replace p53 := eq_true p53
                                                replace q53 := eq_true q53
                                                have HP56 := Kd.R_putg HO_12.out (x13_5 : Int) true
                                                go_wp2_with (first | ((with_reducible refine gate_store (t := 4) (p := 114) rfl ?_); (try (rw [drewN_self wr]; generalize hq_ : World.drewN wr _ = wr; have n0_ := Aside0.mk (Kd.R_at hq_ HO_7.out); have n1_ := Aside0.mk (Kd.R_at hq_ HO_9.out); have n2_ := Aside0.mk (Kd.R_at hq_ HO_12.out); have n3_ := Aside0.mk (below_at hq_ HB.out); clear hq_ HO_7 HO_9 HO_12 HB; have HO_7 := n0_; have HO_9 := n1_; have HO_12 := n2_; have HB := n3_; clear n0_ n1_ n2_ n3_; (try (have HP56 := Kd.R_putg HO_12.out (x13_5 : Int) true)))); refine store_event (t := 4) (p := 114) (v := ?vo_w57) (w1 := (wr.setCell ⟨go53, (x13_5 : Int).toNat, none⟩ (.bool true))) ?hg ?ho ?hn ?hr ?_; (case ho => rfl); (case hg => rfl); (case hn => rfl); (case hr => first | (go_simp; done) | (go_simp; rfl)); intro w57 hw; have hg : wr.grownBy w57 (some go53) := (by rw [hw]; exact HP56.2); have hp_ : Kd.R Kd.bool 4 w57 w.heap.size (fun _ => True) (.slice (some ⟨go53, 0, none⟩) x12_4.length co53) y201 := (by rw [hw, Ny201.out]; exact HP56.1); clear HP56; have n0_ := Aside0.mk (Kd.R_over' (v := (.slice (some ⟨go53, 0, none⟩) x12_4.length co53)) (by (with_reducible repeat (first | apply Kd.R_alloc | apply Kd.R_drewN | apply Kd.R_drew)); exact HO_7.out) (Kd.R_typed HO_12.out) (by decide) hg); have n1_ := Aside0.mk (Kd.R_over' (v := (.slice (some ⟨go53, 0, none⟩) x12_4.length co53)) (by (with_reducible repeat (first | apply Kd.R_alloc | apply Kd.R_drewN | apply Kd.R_drew)); exact HO_9.out) (Kd.R_typed HO_12.out) (by decide) hg); have n2_ := Aside0.mk (hp_); have n3_ := Aside0.mk ((by rw [hw]; exact below_set (HB.out) GB53.out : Below w.heap.size w w57)); clear HO_7; clear HO_9; clear HO_12; clear HB; have HO_7 := n0_; have HO_9 := n1_; have HO_12 := n2_; have HB := n3_; clear n0_ n1_ n2_ n3_; clear hg hw hp_; obtain ⟨Ao58, co58, eo58⟩ := Kd.R_slice HO_9.out; subst eo58; have p202 : 0 ≤ (x13_5 : Int) := of_decide_eq_true (by first | (with_reducible assumption) | assumption); have q202 : x13_5 < (x9_4.length : Int) := of_decide_eq_true (by first | (with_reducible assumption) | assumption); obtain ⟨ad202, e202, hx202_0⟩ := Kd.at_int (Kd.R_reads' HO_9.out).2.2 x13_5 p202 q202; cases e202; replace p202 := eq_true p202; replace q202 := eq_true q202; have p55 : 0 ≤ (x13_5 : Int) := of_decide_eq_true (by first | (with_reducible assumption) | assumption); have q55 : (x13_5 : Int) < ((x9_4.length : Int) : Int) := of_decide_eq_true (by first | (with_reducible assumption) | assumption); obtain ⟨go55, co55, eo55, gb55, gl55, cl55, HG55⟩ := Kd.R_form HO_9.out (by omega); (first | cases eo55 | (injection eo55 with ea_ en_ ec_; (first | subst ea_ | (injection ea_ with ea_; subst ea_)); subst ec_; clear en_)); have GB55 := Aside0.mk gb55; have GG55 := Aside0.mk HG55; clear gb55 gl55 HG55; (first | simp only [add_plain] at hx202_0 | skip); obtain ⟨hx55_0, hf55_0⟩ := Kd.R_celln 0 HO_9.out (x13_5 : Int) p55 q55; replace p55 := eq_true p55; replace q55 := eq_true q55; obtain ⟨hy59_, hz59_⟩ := Kd.R_celln 0 HO_9.out (x13_5 : Int) (of_decide_eq_true (by first | (with_reducible assumption) | assumption)) (of_decide_eq_true (by first | (with_reducible assumption) | assumption)); have HP59 := Kd.R_putg HO_9.out (x13_5 : Int) (wrap64 ((rd x9_4 x13_5) + 1))) | ((with_reducible refine gate_store (t := 3) (p := 120) rfl ?_); (try (rw [drewN_self w57]; generalize hq_ : World.drewN w57 _ = w57; have n0_ := Aside0.mk (Kd.R_at hq_ HO_7.out); have n1_ := Aside0.mk (Kd.R_at hq_ HO_9.out); have n2_ := Aside0.mk (Kd.R_at hq_ HO_12.out); have n3_ := Aside0.mk (below_at hq_ HB.out); clear hq_ HO_7 HO_9 HO_12 HB; have HO_7 := n0_; have HO_9 := n1_; have HO_12 := n2_; have HB := n3_; clear n0_ n1_ n2_ n3_; (try (obtain ⟨hy59_, hz59_⟩ := Kd.R_celln 0 HO_9.out (x13_5 : Int) (of_decide_eq_true (by first | (with_reducible assumption) | assumption)) (of_decide_eq_true (by first | (with_reducible assumption) | assumption)))); (try (have HP59 := Kd.R_putg HO_9.out (x13_5 : Int) (wrap64 ((rd x9_4 x13_5) + 1)))))); refine store_event (t := 3) (p := 120) (v := ?vo_w60) (w1 := (w57.setCell ⟨go55, (x13_5 : Int).toNat, none⟩ (.int .i64 (wrap64 ((rd x9_4 x13_5) + 1))))) ?hg ?ho ?hn ?hr ?_; (case ho => rfl); (case hg => rfl); (case hn => rfl); (case hr => first | (go_simp; done) | (go_simp; rfl)); intro w60 hw; have hg : w57.grownBy w60 (some go55) := (by rw [hw]; exact HP59.2); have hp_ : Kd.R (Kd.int .i64) 3 w60 w.heap.size (fun k_ => some k_ ≠ (.slice Ao20 x7_5.length co20 : Value).ownBlock) (.slice (some ⟨go55, 0, none⟩) x9_4.length co58) y203 := (by rw [hw, Ny203.out]; exact HP59.1); clear HP59; have n0_ := Aside0.mk (Kd.R_after (v := (.slice (some ⟨go55, 0, none⟩) x9_4.length co58)) (v1 := (.slice (some ⟨go55, 0, none⟩) x9_4.length co58)) (ok := (fun _ => True)) (by (with_reducible repeat (first | apply Kd.R_alloc | apply Kd.R_drewN | apply Kd.R_drew)); exact Kd.R_mono HO_7.out (fun _ hk => ⟨trivial, hk⟩)) hg (.inl rfl)); have n1_ := Aside0.mk (hp_); have n2_ := Aside0.mk (Kd.R_over' (v := (.slice (some ⟨go55, 0, none⟩) x9_4.length co58)) (by (with_reducible repeat (first | apply Kd.R_alloc | apply Kd.R_drewN | apply Kd.R_drew)); exact HO_12.out) (Kd.R_typed HO_9.out) (by decide) hg); have n3_ := Aside0.mk ((by rw [hw]; exact below_set (HB.out) GB55.out : Below w.heap.size w w60)); clear HO_7; clear HO_9; clear HO_12; clear HB; have HO_7 := n0_; have HO_9 := n1_; have HO_12 := n2_; have HB := n3_; clear n0_ n1_ n2_ n3_; clear hg hw hp_))
                                                repeat (go_quiet (first | ((with_reducible refine gate_store (t := 4) (p := 114) rfl ?_); (try (rw [drewN_self wr]; generalize hq_ : World.drewN wr _ = wr; have n0_ := Aside0.mk (Kd.R_at hq_ HO_7.out); have n1_ := Aside0.mk (Kd.R_at hq_ HO_9.out); have n2_ := Aside0.mk (Kd.R_at hq_ HO_12.out); have n3_ := Aside0.mk (below_at hq_ HB.out); clear hq_ HO_7 HO_9 HO_12 HB; have HO_7 := n0_; have HO_9 := n1_; have HO_12 := n2_; have HB := n3_; clear n0_ n1_ n2_ n3_; (try (have HP56 := Kd.R_putg HO_12.out (x13_5 : Int) true)))); refine store_event (t := 4) (p := 114) (v := ?vo_w57) (w1 := (wr.setCell ⟨go53, (x13_5 : Int).toNat, none⟩ (.bool true))) ?hg ?ho ?hn ?hr ?_; (case ho => rfl); (case hg => rfl); (case hn => rfl); (case hr => first | (go_simp; done) | (go_simp; rfl)); intro w57 hw; have hg : wr.grownBy w57 (some go53) := (by rw [hw]; exact HP56.2); have hp_ : Kd.R Kd.bool 4 w57 w.heap.size (fun _ => True) (.slice (some ⟨go53, 0, none⟩) x12_4.length co53) y201 := (by rw [hw, Ny201.out]; exact HP56.1); clear HP56; have n0_ := Aside0.mk (Kd.R_over' (v := (.slice (some ⟨go53, 0, none⟩) x12_4.length co53)) (by (with_reducible repeat (first | apply Kd.R_alloc | apply Kd.R_drewN | apply Kd.R_drew)); exact HO_7.out) (Kd.R_typed HO_12.out) (by decide) hg); have n1_ := Aside0.mk (Kd.R_over' (v := (.slice (some ⟨go53, 0, none⟩) x12_4.length co53)) (by (with_reducible repeat (first | apply Kd.R_alloc | apply Kd.R_drewN | apply Kd.R_drew)); exact HO_9.out) (Kd.R_typed HO_12.out) (by decide) hg); have n2_ := Aside0.mk (hp_); have n3_ := Aside0.mk ((by rw [hw]; exact below_set (HB.out) GB53.out : Below w.heap.size w w57)); clear HO_7; clear HO_9; clear HO_12; clear HB; have HO_7 := n0_; have HO_9 := n1_; have HO_12 := n2_; have HB := n3_; clear n0_ n1_ n2_ n3_; clear hg hw hp_; obtain ⟨Ao58, co58, eo58⟩ := Kd.R_slice HO_9.out; subst eo58; have p202 : 0 ≤ (x13_5 : Int) := of_decide_eq_true (by first | (with_reducible assumption) | assumption); have q202 : x13_5 < (x9_4.length : Int) := of_decide_eq_true (by first | (with_reducible assumption) | assumption); obtain ⟨ad202, e202, hx202_0⟩ := Kd.at_int (Kd.R_reads' HO_9.out).2.2 x13_5 p202 q202; cases e202; replace p202 := eq_true p202; replace q202 := eq_true q202; have p55 : 0 ≤ (x13_5 : Int) := of_decide_eq_true (by first | (with_reducible assumption) | assumption); have q55 : (x13_5 : Int) < ((x9_4.length : Int) : Int) := of_decide_eq_true (by first | (with_reducible assumption) | assumption); obtain ⟨go55, co55, eo55, gb55, gl55, cl55, HG55⟩ := Kd.R_form HO_9.out (by omega); (first | cases eo55 | (injection eo55 with ea_ en_ ec_; (first | subst ea_ | (injection ea_ with ea_; subst ea_)); subst ec_; clear en_)); have GB55 := Aside0.mk gb55; have GG55 := Aside0.mk HG55; clear gb55 gl55 HG55; (first | simp only [add_plain] at hx202_0 | skip); obtain ⟨hx55_0, hf55_0⟩ := Kd.R_celln 0 HO_9.out (x13_5 : Int) p55 q55; replace p55 := eq_true p55; replace q55 := eq_true q55; obtain ⟨hy59_, hz59_⟩ := Kd.R_celln 0 HO_9.out (x13_5 : Int) (of_decide_eq_true (by first | (with_reducible assumption) | assumption)) (of_decide_eq_true (by first | (with_reducible assumption) | assumption)); have HP59 := Kd.R_putg HO_9.out (x13_5 : Int) (wrap64 ((rd x9_4 x13_5) + 1))) | ((with_reducible refine gate_store (t := 3) (p := 120) rfl ?_); (try (rw [drewN_self w57]; generalize hq_ : World.drewN w57 _ = w57; have n0_ := Aside0.mk (Kd.R_at hq_ HO_7.out); have n1_ := Aside0.mk (Kd.R_at hq_ HO_9.out); have n2_ := Aside0.mk (Kd.R_at hq_ HO_12.out); have n3_ := Aside0.mk (below_at hq_ HB.out); clear hq_ HO_7 HO_9 HO_12 HB; have HO_7 := n0_; have HO_9 := n1_; have HO_12 := n2_; have HB := n3_; clear n0_ n1_ n2_ n3_; (try (obtain ⟨hy59_, hz59_⟩ := Kd.R_celln 0 HO_9.out (x13_5 : Int) (of_decide_eq_true (by first | (with_reducible assumption) | assumption)) (of_decide_eq_true (by first | (with_reducible assumption) | assumption)))); (try (have HP59 := Kd.R_putg HO_9.out (x13_5 : Int) (wrap64 ((rd x9_4 x13_5) + 1)))))); refine store_event (t := 3) (p := 120) (v := ?vo_w60) (w1 := (w57.setCell ⟨go55, (x13_5 : Int).toNat, none⟩ (.int .i64 (wrap64 ((rd x9_4 x13_5) + 1))))) ?hg ?ho ?hn ?hr ?_; (case ho => rfl); (case hg => rfl); (case hn => rfl); (case hr => first | (go_simp; done) | (go_simp; rfl)); intro w60 hw; have hg : w57.grownBy w60 (some go55) := (by rw [hw]; exact HP59.2); have hp_ : Kd.R (Kd.int .i64) 3 w60 w.heap.size (fun k_ => some k_ ≠ (.slice Ao20 x7_5.length co20 : Value).ownBlock) (.slice (some ⟨go55, 0, none⟩) x9_4.length co58) y203 := (by rw [hw, Ny203.out]; exact HP59.1); clear HP59; have n0_ := Aside0.mk (Kd.R_after (v := (.slice (some ⟨go55, 0, none⟩) x9_4.length co58)) (v1 := (.slice (some ⟨go55, 0, none⟩) x9_4.length co58)) (ok := (fun _ => True)) (by (with_reducible repeat (first | apply Kd.R_alloc | apply Kd.R_drewN | apply Kd.R_drew)); exact Kd.R_mono HO_7.out (fun _ hk => ⟨trivial, hk⟩)) hg (.inl rfl)); have n1_ := Aside0.mk (hp_); have n2_ := Aside0.mk (Kd.R_over' (v := (.slice (some ⟨go55, 0, none⟩) x9_4.length co58)) (by (with_reducible repeat (first | apply Kd.R_alloc | apply Kd.R_drewN | apply Kd.R_drew)); exact HO_12.out) (Kd.R_typed HO_9.out) (by decide) hg); have n3_ := Aside0.mk ((by rw [hw]; exact below_set (HB.out) GB55.out : Below w.heap.size w w60)); clear HO_7; clear HO_9; clear HO_12; clear HB; have HO_7 := n0_; have HO_9 := n1_; have HO_12 := n2_; have HB := n3_; clear n0_ n1_ n2_ n3_; clear hg hw hp_)); try go_wp2_with (first | ((with_reducible refine gate_store (t := 4) (p := 114) rfl ?_); (try (rw [drewN_self wr]; generalize hq_ : World.drewN wr _ = wr; have n0_ := Aside0.mk (Kd.R_at hq_ HO_7.out); have n1_ := Aside0.mk (Kd.R_at hq_ HO_9.out); have n2_ := Aside0.mk (Kd.R_at hq_ HO_12.out); have n3_ := Aside0.mk (below_at hq_ HB.out); clear hq_ HO_7 HO_9 HO_12 HB; have HO_7 := n0_; have HO_9 := n1_; have HO_12 := n2_; have HB := n3_; clear n0_ n1_ n2_ n3_; (try (have HP56 := Kd.R_putg HO_12.out (x13_5 : Int) true)))); refine store_event (t := 4) (p := 114) (v := ?vo_w57) (w1 := (wr.setCell ⟨go53, (x13_5 : Int).toNat, none⟩ (.bool true))) ?hg ?ho ?hn ?hr ?_; (case ho => rfl); (case hg => rfl); (case hn => rfl); (case hr => first | (go_simp; done) | (go_simp; rfl)); intro w57 hw; have hg : wr.grownBy w57 (some go53) := (by rw [hw]; exact HP56.2); have hp_ : Kd.R Kd.bool 4 w57 w.heap.size (fun _ => True) (.slice (some ⟨go53, 0, none⟩) x12_4.length co53) y201 := (by rw [hw, Ny201.out]; exact HP56.1); clear HP56; have n0_ := Aside0.mk (Kd.R_over' (v := (.slice (some ⟨go53, 0, none⟩) x12_4.length co53)) (by (with_reducible repeat (first | apply Kd.R_alloc | apply Kd.R_drewN | apply Kd.R_drew)); exact HO_7.out) (Kd.R_typed HO_12.out) (by decide) hg); have n1_ := Aside0.mk (Kd.R_over' (v := (.slice (some ⟨go53, 0, none⟩) x12_4.length co53)) (by (with_reducible repeat (first | apply Kd.R_alloc | apply Kd.R_drewN | apply Kd.R_drew)); exact HO_9.out) (Kd.R_typed HO_12.out) (by decide) hg); have n2_ := Aside0.mk (hp_); have n3_ := Aside0.mk ((by rw [hw]; exact below_set (HB.out) GB53.out : Below w.heap.size w w57)); clear HO_7; clear HO_9; clear HO_12; clear HB; have HO_7 := n0_; have HO_9 := n1_; have HO_12 := n2_; have HB := n3_; clear n0_ n1_ n2_ n3_; clear hg hw hp_; obtain ⟨Ao58, co58, eo58⟩ := Kd.R_slice HO_9.out; subst eo58; have p202 : 0 ≤ (x13_5 : Int) := of_decide_eq_true (by first | (with_reducible assumption) | assumption); have q202 : x13_5 < (x9_4.length : Int) := of_decide_eq_true (by first | (with_reducible assumption) | assumption); obtain ⟨ad202, e202, hx202_0⟩ := Kd.at_int (Kd.R_reads' HO_9.out).2.2 x13_5 p202 q202; cases e202; replace p202 := eq_true p202; replace q202 := eq_true q202; have p55 : 0 ≤ (x13_5 : Int) := of_decide_eq_true (by first | (with_reducible assumption) | assumption); have q55 : (x13_5 : Int) < ((x9_4.length : Int) : Int) := of_decide_eq_true (by first | (with_reducible assumption) | assumption); obtain ⟨go55, co55, eo55, gb55, gl55, cl55, HG55⟩ := Kd.R_form HO_9.out (by omega); (first | cases eo55 | (injection eo55 with ea_ en_ ec_; (first | subst ea_ | (injection ea_ with ea_; subst ea_)); subst ec_; clear en_)); have GB55 := Aside0.mk gb55; have GG55 := Aside0.mk HG55; clear gb55 gl55 HG55; (first | simp only [add_plain] at hx202_0 | skip); obtain ⟨hx55_0, hf55_0⟩ := Kd.R_celln 0 HO_9.out (x13_5 : Int) p55 q55; replace p55 := eq_true p55; replace q55 := eq_true q55; obtain ⟨hy59_, hz59_⟩ := Kd.R_celln 0 HO_9.out (x13_5 : Int) (of_decide_eq_true (by first | (with_reducible assumption) | assumption)) (of_decide_eq_true (by first | (with_reducible assumption) | assumption)); have HP59 := Kd.R_putg HO_9.out (x13_5 : Int) (wrap64 ((rd x9_4 x13_5) + 1))) | ((with_reducible refine gate_store (t := 3) (p := 120) rfl ?_); (try (rw [drewN_self w57]; generalize hq_ : World.drewN w57 _ = w57; have n0_ := Aside0.mk (Kd.R_at hq_ HO_7.out); have n1_ := Aside0.mk (Kd.R_at hq_ HO_9.out); have n2_ := Aside0.mk (Kd.R_at hq_ HO_12.out); have n3_ := Aside0.mk (below_at hq_ HB.out); clear hq_ HO_7 HO_9 HO_12 HB; have HO_7 := n0_; have HO_9 := n1_; have HO_12 := n2_; have HB := n3_; clear n0_ n1_ n2_ n3_; (try (obtain ⟨hy59_, hz59_⟩ := Kd.R_celln 0 HO_9.out (x13_5 : Int) (of_decide_eq_true (by first | (with_reducible assumption) | assumption)) (of_decide_eq_true (by first | (with_reducible assumption) | assumption)))); (try (have HP59 := Kd.R_putg HO_9.out (x13_5 : Int) (wrap64 ((rd x9_4 x13_5) + 1)))))); refine store_event (t := 3) (p := 120) (v := ?vo_w60) (w1 := (w57.setCell ⟨go55, (x13_5 : Int).toNat, none⟩ (.int .i64 (wrap64 ((rd x9_4 x13_5) + 1))))) ?hg ?ho ?hn ?hr ?_; (case ho => rfl); (case hg => rfl); (case hn => rfl); (case hr => first | (go_simp; done) | (go_simp; rfl)); intro w60 hw; have hg : w57.grownBy w60 (some go55) := (by rw [hw]; exact HP59.2); have hp_ : Kd.R (Kd.int .i64) 3 w60 w.heap.size (fun k_ => some k_ ≠ (.slice Ao20 x7_5.length co20 : Value).ownBlock) (.slice (some ⟨go55, 0, none⟩) x9_4.length co58) y203 := (by rw [hw, Ny203.out]; exact HP59.1); clear HP59; have n0_ := Aside0.mk (Kd.R_after (v := (.slice (some ⟨go55, 0, none⟩) x9_4.length co58)) (v1 := (.slice (some ⟨go55, 0, none⟩) x9_4.length co58)) (ok := (fun _ => True)) (by (with_reducible repeat (first | apply Kd.R_alloc | apply Kd.R_drewN | apply Kd.R_drew)); exact Kd.R_mono HO_7.out (fun _ hk => ⟨trivial, hk⟩)) hg (.inl rfl)); have n1_ := Aside0.mk (hp_); have n2_ := Aside0.mk (Kd.R_over' (v := (.slice (some ⟨go55, 0, none⟩) x9_4.length co58)) (by (with_reducible repeat (first | apply Kd.R_alloc | apply Kd.R_drewN | apply Kd.R_drew)); exact HO_12.out) (Kd.R_typed HO_9.out) (by decide) hg); have n3_ := Aside0.mk ((by rw [hw]; exact below_set (HB.out) GB55.out : Below w.heap.size w w60)); clear HO_7; clear HO_9; clear HO_12; clear HB; have HO_7 := n0_; have HO_9 := n1_; have HO_12 := n2_; have HB := n3_; clear n0_ n1_ n2_ n3_; clear hg hw hp_)))
                                                go_roundg k5
                                                case measure => have := HK1.out; have := HJ5.out; have := HK3.out; have := HK4.out; have := HK5.out; omega
                                                case rel => exact ⟨(y203), (wrap64 (x10_4 - 1)), (y201), (by first | rfl | (simp; done) | (simp [*]; done)), H', ⟨by have := HK1.out; have := HJ5.out; have := HK3.out; have := HK4.out; have := HK5.out; omega⟩, ⟨by (with_reducible repeat (first | apply Kd.R_alloc | apply Kd.R_drewN | apply Kd.R_drew)); exact Kd.R_mono HO_7.out (fun _ hk => hk.2)⟩, ⟨by (with_reducible repeat (first | apply Kd.R_alloc | apply Kd.R_drewN | apply Kd.R_drew)); exact HO_9.out⟩, ⟨by (with_reducible repeat (first | apply Kd.R_alloc | apply Kd.R_drewN | apply Kd.R_drew)); exact HO_12.out⟩, ⟨by repeat (first | (with_reducible first | exact HB.out | apply below_alloc | apply pw_below_drewN | apply below_drew1) | exact HB.out)⟩⟩
                                              · rw [if_neg c54] at H
                                                exact absurd H (by simp)
                                            · rw [if_neg c52] at H
                                              exact absurd H (by simp)
                                          · rw [if_neg c51] at H
                                            exact absurd H (by simp)
                                · rw [if_neg c34] at H
                                  have c34b0 : decide (0 < x10_4) = false := decide_eq_false c34
                                  clear c34
                                  obtain rfl := Option.some.inj H
                                  go_wp2
                                  repeat (go_quiet (fail); try go_wp2)
                                  go_ret
                                  exact ⟨_, by first | rfl | (simp [errW_none, errW_some] <;> rfl) | (simp [*, errW_none, errW_some] <;> rfl) | (simp (disch := first | assumption | omega) only [Int.tdiv_eq_ediv_of_nonneg, Int.tmod_eq_emod_of_nonneg]; rfl), by (with_reducible repeat (first | apply Kd.R_alloc | apply Kd.R_drewN | apply Kd.R_drew)); exact Kd.R_mono HO_9.out (fun _ hk => trivial), by repeat (first | (with_reducible first | exact HB.out | apply below_alloc | apply pw_below_drewN | apply below_drew1) | exact HB.out)⟩
                          · rw [if_neg c31] at H
                            exact absurd H (by simp)
                        · rw [if_neg c30] at H
                          exact absurd H (by simp)
                · rw [if_neg c19] at H
                  exact absurd H (by simp)
              · rw [if_neg c18] at H
                exact absurd H (by simp)
        · rw [if_neg c5] at H
          exact absurd H (by simp)

end Go.Proofs.Ytpijnpoebkffkaa.PX
end
section
namespace Go.Proofs.Ytpijnpoebkffkaa.PX
open Go.RowKit Go.Proofs.YtpijnpoebkffkaaW.PrintWords Go.Proofs.YtpijnpoebkffkaaW.PrintLast Go.Proofs.YtpijnpoebkffkaaW.PrintMore
attribute [local go_sem] max2_int min2_int max_two min_two max_three min_three max_four min_four   -- for this text's walks alone
set_option linter.unusedVariables false
set_option linter.unusedSimpArgs false

/-! ### customsref21_ValidRequests: function 9 -/
mutual
def customsref21_ValidRequests.l0 : Nat → List (S37) → Int → Option (Int)
  | 0, _, _ => none
  | k + 1, x0, x3 => if x3 < (x0.length : Int) then (if 0 ≤ x3 then (if ((rd_T37 x0 x3).f0) < 1 then (some 2) else (if ((rd_T37 x0 x3).f0) > 1000000 then (some 2) else (if ((rd_T37 x0 x3).f1) < 0 then (some 2) else (if ((rd_T37 x0 x3).f1) > 1000000000 then (some 2) else (customsref21_ValidRequests.l0 k x0 (wrap64 (x3 + 1))))))) else (none)) else (customsref21_ValidRequests.l1 k x0 1)
def customsref21_ValidRequests.l1 : Nat → List (S37) → Int → Option (Int)
  | 0, _, _ => none
  | k + 1, x0, x4 => if x4 < (x0.length : Int) then (if 0 ≤ x4 then (if 0 ≤ (wrap64 (x4 - 1)) then (if (wrap64 (x4 - 1)) < (x0.length : Int) then (if ((rd_T37 x0 x4).f0) ≤ ((rd_T37 x0 (wrap64 (x4 - 1))).f0) then (some 9) else (customsref21_ValidRequests.l1 k x0 (wrap64 (x4 + 1)))) else (none)) else (none)) else (none)) else (some 0)
end
def customsref21_ValidRequests.f (k : Nat) (l0 : List (S37)) : Option (Int) := if (l0.length : Int) > 200 then (some 8) else (customsref21_ValidRequests.l0 k l0 0)
set_option maxHeartbeats 8000000 in
set_option maxRecDepth 100000 in
theorem customsref21_ValidRequests.calls (k : Nat) (A0 : Option Addr) (c0 : Nat) (l0 : List (S37)) (r : Int) (w : World) (hr0 : Kd.C k37 w A0 l0.length l0) (hc0 : l0.length ≤ c0) (h : customsref21_ValidRequests.f k l0 = some r) :
    Calls Try.prog 9 #[.slice A0 l0.length c0] w fun e w' => e = .returned (.int .i64 r) ∧ Drawn0 w w' := by
  have HR0 := Aside0.mk hr0
  have HC0 := Aside0.mk hc0
  clear hr0 hc0
  have H : (if (l0.length : Int) > 200 then (some 8) else (customsref21_ValidRequests.l0 k l0 0)) = some r := h
  clear h
  by_cases c2 : (l0.length : Int) > 200
  · rw [if_pos c2] at H
    have c2b0 : decide (200 < (l0.length : Int)) = true := decide_eq_true c2
    have c2b1 : decide (200 < l0.length) = true := decide_eq_true (by omega)
    clear c2
    obtain rfl := Option.some.inj H
    go_enter Try.func9, Try.ntmps9
    go_wp2
    repeat (go_quiet (fail); try go_wp2)
    go_ret
    exact ⟨by first | rfl | (simp; done) | (simp [*]; done), by repeat (first | exact Drawn0.refl _ | apply Drawn0.step)⟩
  · rw [if_neg c2] at H
    have c2b0 : decide (200 < (l0.length : Int)) = false := decide_eq_false c2
    have c2b1 : decide (200 < l0.length) = false := decide_eq_false (by omega)
    clear c2
    have H' := Aside0.mk H
    clear H
    go_enter Try.func9, Try.ntmps9
    go_wp2
    repeat (go_quiet (fail); try go_wp2)
    go_loopg [3] k (fun kq v3 w' => ∃ (x3_1 : Int), v3 = .int .i64 x3_1 ∧ Aside0 (customsref21_ValidRequests.l0 kq l0 x3_1 = some r) ∧ Aside0 (kq ≤ k) ∧ Drawn0 w w')
    case atStart => exact ⟨(0), (by first | rfl | (simp; done) | (simp [*]; done)), H', ⟨Nat.le_refl _⟩, by repeat (first | exact Drawn0.refl _ | apply Drawn0.step)⟩
    case round =>
      clear H'
      try clear c2
      try clear c2b0
      try clear c2b1
      try clear p2
      obtain ⟨x3_1, rfl, HA, HK1, ⟨m1, rfl⟩⟩ := hrel
      cases gk with
      | zero => exact absurd HA.out (by simp [customsref21_ValidRequests.l0])
      | succ k1 =>
        have H := HA.out
        clear HA
        simp only [customsref21_ValidRequests.l0] at H
        by_cases c3 : x3_1 < (l0.length : Int)
        · rw [if_pos c3] at H
          have c3b0 : decide (x3_1 < (l0.length : Int)) = true := decide_eq_true c3
          clear c3
          by_cases c4 : 0 ≤ x3_1
          · rw [if_pos c4] at H
            have c4b0 : decide (0 ≤ x3_1) = true := decide_eq_true c4
            clear c4
            by_cases c5 : ((rd_T37 l0 x3_1).f0) < 1
            · rw [if_pos c5] at H
              have c5b0 : decide (((rd_T37 l0 x3_1).f0) < 1) = true := decide_eq_true c5
              clear c5
              obtain rfl := Option.some.inj H
              have p105 : 0 ≤ (x3_1 : Int) := of_decide_eq_true (by first | (with_reducible assumption) | assumption)
              have q105 : x3_1 < (l0.length : Int) := of_decide_eq_true (by first | (with_reducible assumption) | assumption)
              obtain ⟨ad105, e105, hx105_0, hx105_1⟩ := at_T37 HR0.out x3_1 p105 q105
              cases e105
              replace p105 := eq_true p105
              replace q105 := eq_true q105
              go_wp2
              repeat (go_quiet (fail); try go_wp2)
              go_ret
              exact ⟨by first | rfl | (simp; done) | (simp [*]; done), by repeat (first | exact Drawn0.refl _ | apply Drawn0.step)⟩
            · rw [if_neg c5] at H
              have c5b0 : decide (((rd_T37 l0 x3_1).f0) < 1) = false := decide_eq_false c5
              clear c5
              by_cases c6 : ((rd_T37 l0 x3_1).f0) > 1000000
              · rw [if_pos c6] at H
                have c6b0 : decide (1000000 < ((rd_T37 l0 x3_1).f0)) = true := decide_eq_true c6
                clear c6
                obtain rfl := Option.some.inj H
                have p105 : 0 ≤ (x3_1 : Int) := of_decide_eq_true (by first | (with_reducible assumption) | assumption)
                have q105 : x3_1 < (l0.length : Int) := of_decide_eq_true (by first | (with_reducible assumption) | assumption)
                obtain ⟨ad105, e105, hx105_0, hx105_1⟩ := at_T37 HR0.out x3_1 p105 q105
                cases e105
                replace p105 := eq_true p105
                replace q105 := eq_true q105
                have p106 : 0 ≤ (x3_1 : Int) := of_decide_eq_true (by first | (with_reducible assumption) | assumption)
                have q106 : x3_1 < (l0.length : Int) := of_decide_eq_true (by first | (with_reducible assumption) | assumption)
                obtain ⟨ad106, e106, hx106_0, hx106_1⟩ := at_T37 HR0.out x3_1 p106 q106
                obtain rfl : ad105 = ad106 := (by injection e106)
                replace p106 := eq_true p106
                replace q106 := eq_true q106
                go_wp2
                repeat (go_quiet (fail); try go_wp2)
                go_ret
                exact ⟨by first | rfl | (simp; done) | (simp [*]; done), by repeat (first | exact Drawn0.refl _ | apply Drawn0.step)⟩
              · rw [if_neg c6] at H
                have c6b0 : decide (1000000 < ((rd_T37 l0 x3_1).f0)) = false := decide_eq_false c6
                clear c6
                by_cases c7 : ((rd_T37 l0 x3_1).f1) < 0
                · rw [if_pos c7] at H
                  have c7b0 : decide (((rd_T37 l0 x3_1).f1) < 0) = true := decide_eq_true c7
                  clear c7
                  obtain rfl := Option.some.inj H
                  have p105 : 0 ≤ (x3_1 : Int) := of_decide_eq_true (by first | (with_reducible assumption) | assumption)
                  have q105 : x3_1 < (l0.length : Int) := of_decide_eq_true (by first | (with_reducible assumption) | assumption)
                  obtain ⟨ad105, e105, hx105_0, hx105_1⟩ := at_T37 HR0.out x3_1 p105 q105
                  cases e105
                  replace p105 := eq_true p105
                  replace q105 := eq_true q105
                  have p106 : 0 ≤ (x3_1 : Int) := of_decide_eq_true (by first | (with_reducible assumption) | assumption)
                  have q106 : x3_1 < (l0.length : Int) := of_decide_eq_true (by first | (with_reducible assumption) | assumption)
                  obtain ⟨ad106, e106, hx106_0, hx106_1⟩ := at_T37 HR0.out x3_1 p106 q106
                  obtain rfl : ad105 = ad106 := (by injection e106)
                  replace p106 := eq_true p106
                  replace q106 := eq_true q106
                  have p107 : 0 ≤ (x3_1 : Int) := of_decide_eq_true (by first | (with_reducible assumption) | assumption)
                  have q107 : x3_1 < (l0.length : Int) := of_decide_eq_true (by first | (with_reducible assumption) | assumption)
                  obtain ⟨ad107, e107, hx107_0, hx107_1⟩ := at_T37 HR0.out x3_1 p107 q107
                  obtain rfl : ad105 = ad107 := (by injection e107)
                  replace p107 := eq_true p107
                  replace q107 := eq_true q107
                  go_wp2
                  repeat (go_quiet (fail); try go_wp2)
                  go_ret
                  exact ⟨by first | rfl | (simp; done) | (simp [*]; done), by repeat (first | exact Drawn0.refl _ | apply Drawn0.step)⟩
                · rw [if_neg c7] at H
                  have c7b0 : decide (((rd_T37 l0 x3_1).f1) < 0) = false := decide_eq_false c7
                  clear c7
                  by_cases c8 : ((rd_T37 l0 x3_1).f1) > 1000000000
                  · rw [if_pos c8] at H
                    have c8b0 : decide (1000000000 < ((rd_T37 l0 x3_1).f1)) = true := decide_eq_true c8
                    clear c8
                    obtain rfl := Option.some.inj H
                    have p105 : 0 ≤ (x3_1 : Int) := of_decide_eq_true (by first | (with_reducible assumption) | assumption)
                    have q105 : x3_1 < (l0.length : Int) := of_decide_eq_true (by first | (with_reducible assumption) | assumption)
                    obtain ⟨ad105, e105, hx105_0, hx105_1⟩ := at_T37 HR0.out x3_1 p105 q105
                    cases e105
                    replace p105 := eq_true p105
                    replace q105 := eq_true q105
                    have p106 : 0 ≤ (x3_1 : Int) := of_decide_eq_true (by first | (with_reducible assumption) | assumption)
                    have q106 : x3_1 < (l0.length : Int) := of_decide_eq_true (by first | (with_reducible assumption) | assumption)
                    obtain ⟨ad106, e106, hx106_0, hx106_1⟩ := at_T37 HR0.out x3_1 p106 q106
                    obtain rfl : ad105 = ad106 := (by injection e106)
                    replace p106 := eq_true p106
                    replace q106 := eq_true q106
                    have p107 : 0 ≤ (x3_1 : Int) := of_decide_eq_true (by first | (with_reducible assumption) | assumption)
                    have q107 : x3_1 < (l0.length : Int) := of_decide_eq_true (by first | (with_reducible assumption) | assumption)
                    obtain ⟨ad107, e107, hx107_0, hx107_1⟩ := at_T37 HR0.out x3_1 p107 q107
                    obtain rfl : ad105 = ad107 := (by injection e107)
                    replace p107 := eq_true p107
                    replace q107 := eq_true q107
                    have p108 : 0 ≤ (x3_1 : Int) := of_decide_eq_true (by first | (with_reducible assumption) | assumption)
                    have q108 : x3_1 < (l0.length : Int) := of_decide_eq_true (by first | (with_reducible assumption) | assumption)
                    obtain ⟨ad108, e108, hx108_0, hx108_1⟩ := at_T37 HR0.out x3_1 p108 q108
                    obtain rfl : ad105 = ad108 := (by injection e108)
                    replace p108 := eq_true p108
                    replace q108 := eq_true q108
                    go_wp2
                    repeat (go_quiet (fail); try go_wp2)
                    go_ret
                    exact ⟨by first | rfl | (simp; done) | (simp [*]; done), by repeat (first | exact Drawn0.refl _ | apply Drawn0.step)⟩
                  · rw [if_neg c8] at H
                    have c8b0 : decide (1000000000 < ((rd_T37 l0 x3_1).f1)) = false := decide_eq_false c8
                    clear c8
                    have H' := Aside0.mk H
                    clear H
                    have p105 : 0 ≤ (x3_1 : Int) := of_decide_eq_true (by first | (with_reducible assumption) | assumption)
                    have q105 : x3_1 < (l0.length : Int) := of_decide_eq_true (by first | (with_reducible assumption) | assumption)
                    obtain ⟨ad105, e105, hx105_0, hx105_1⟩ := at_T37 HR0.out x3_1 p105 q105
                    cases e105
                    replace p105 := eq_true p105
                    replace q105 := eq_true q105
                    have p106 : 0 ≤ (x3_1 : Int) := of_decide_eq_true (by first | (with_reducible assumption) | assumption)
                    have q106 : x3_1 < (l0.length : Int) := of_decide_eq_true (by first | (with_reducible assumption) | assumption)
                    obtain ⟨ad106, e106, hx106_0, hx106_1⟩ := at_T37 HR0.out x3_1 p106 q106
                    obtain rfl : ad105 = ad106 := (by injection e106)
                    replace p106 := eq_true p106
                    replace q106 := eq_true q106
                    have p107 : 0 ≤ (x3_1 : Int) := of_decide_eq_true (by first | (with_reducible assumption) | assumption)
                    have q107 : x3_1 < (l0.length : Int) := of_decide_eq_true (by first | (with_reducible assumption) | assumption)
                    obtain ⟨ad107, e107, hx107_0, hx107_1⟩ := at_T37 HR0.out x3_1 p107 q107
                    obtain rfl : ad105 = ad107 := (by injection e107)
                    replace p107 := eq_true p107
                    replace q107 := eq_true q107
                    have p108 : 0 ≤ (x3_1 : Int) := of_decide_eq_true (by first | (with_reducible assumption) | assumption)
                    have q108 : x3_1 < (l0.length : Int) := of_decide_eq_true (by first | (with_reducible assumption) | assumption)
                    obtain ⟨ad108, e108, hx108_0, hx108_1⟩ := at_T37 HR0.out x3_1 p108 q108
                    obtain rfl : ad105 = ad108 := (by injection e108)
                    replace p108 := eq_true p108
                    replace q108 := eq_true q108
                    go_wp2
                    repeat (go_quiet (fail); try go_wp2)
                    go_roundg k1
                    case measure => have := HK1.out; omega
                    case rel => exact ⟨(wrap64 (x3_1 + 1)), (by first | rfl | (simp; done) | (simp [*]; done)), H', ⟨by have := HK1.out; omega⟩, by repeat (first | exact Drawn0.refl _ | apply Drawn0.step)⟩
          · rw [if_neg c4] at H
            exact absurd H (by simp)
        · rw [if_neg c3] at H
          have c3b0 : decide (x3_1 < (l0.length : Int)) = false := decide_eq_false c3
          clear c3
          have H' := Aside0.mk H
          clear H
          go_wp2
          repeat (go_quiet (fail); try go_wp2)
          go_loopg [4] k1 (fun kq v4 w' => ∃ (x4_2 : Int), v4 = .int .i64 x4_2 ∧ Aside0 (customsref21_ValidRequests.l1 kq l0 x4_2 = some r) ∧ Aside0 (kq ≤ k1) ∧ Drawn0 w w')
          case atStart => exact ⟨(1), (by first | rfl | (simp; done) | (simp [*]; done)), H', ⟨Nat.le_refl _⟩, by repeat (first | exact Drawn0.refl _ | apply Drawn0.step)⟩
          case round =>
            clear H'
            try clear p1
            try clear q1
            try clear hx1
            try clear c2
            try clear c2b0
            try clear c2b1
            try clear p2
            try clear c3
            try clear c3b0
            try clear c4
            try clear c4b0
            try clear c5
            try clear c5b0
            try clear c6
            try clear c6b0
            try clear p6
            try clear c7
            try clear c7b0
            try clear c8
            try clear c8b0
            try clear hx105_0
            try clear hx105_1
            try clear hx106_0
            try clear hx106_1
            try clear hx107_0
            try clear hx107_1
            try clear hx108_0
            try clear hx108_1
            try clear p105
            try clear p106
            try clear p107
            try clear p108
            try clear p2
            try clear q105
            try clear q106
            try clear q107
            try clear q108
            obtain ⟨x4_2, rfl, HA, HK2, ⟨m2, rfl⟩⟩ := hrel
            cases gk with
            | zero => exact absurd HA.out (by simp [customsref21_ValidRequests.l1])
            | succ k2 =>
              have H := HA.out
              clear HA
              simp only [customsref21_ValidRequests.l1] at H
              by_cases c9 : x4_2 < (l0.length : Int)
              · rw [if_pos c9] at H
                have c9b0 : decide (x4_2 < (l0.length : Int)) = true := decide_eq_true c9
                clear c9
                by_cases c10 : 0 ≤ x4_2
                · rw [if_pos c10] at H
                  have c10b0 : decide (0 ≤ x4_2) = true := decide_eq_true c10
                  clear c10
                  obtain ⟨ji11, hji11⟩ : ∃ j_ : Int, (wrap64 (x4_2 - 1)) = j_ := ⟨_, rfl⟩
                  replace H : (if 0 ≤ (ji11) then (if (ji11) < (l0.length : Int) then (if ((rd_T37 l0 x4_2).f0) ≤ ((rd_T37 l0 (ji11)).f0) then (some 9) else (customsref21_ValidRequests.l1 k2 l0 (wrap64 (x4_2 + 1)))) else (none)) else (none)) = some r := by first | (rw [hji11] at H; exact H) | (simp only [hji11] at H ⊢; exact H)
                  have hji11w : (IntKind.i64.wrap (x4_2 - 1)) = ji11 := (i64_w _).trans hji11
                  by_cases c12 : 0 ≤ (ji11)
                  · rw [if_pos c12] at H
                    have c12b0 : decide (0 ≤ (ji11)) = true := decide_eq_true c12
                    clear c12
                    by_cases c13 : (ji11) < (l0.length : Int)
                    · rw [if_pos c13] at H
                      have c13b0 : decide ((ji11) < (l0.length : Int)) = true := decide_eq_true c13
                      clear c13
                      by_cases c14 : ((rd_T37 l0 x4_2).f0) ≤ ((rd_T37 l0 (ji11)).f0)
                      · rw [if_pos c14] at H
                        have c14b0 : decide (((rd_T37 l0 x4_2).f0) ≤ ((rd_T37 l0 (ji11)).f0)) = true := decide_eq_true c14
                        clear c14
                        obtain rfl := Option.some.inj H
                        have p109 : 0 ≤ (x4_2 : Int) := of_decide_eq_true (by first | (with_reducible assumption) | assumption)
                        have q109 : x4_2 < (l0.length : Int) := of_decide_eq_true (by first | (with_reducible assumption) | assumption)
                        obtain ⟨ad109, e109, hx109_0, hx109_1⟩ := at_T37 HR0.out x4_2 p109 q109
                        cases e109
                        replace p109 := eq_true p109
                        replace q109 := eq_true q109
                        have p110 : 0 ≤ ((ji11) : Int) := of_decide_eq_true (by first | (with_reducible assumption) | assumption)
                        have q110 : (ji11) < (l0.length : Int) := of_decide_eq_true (by first | (with_reducible assumption) | assumption)
                        obtain ⟨ad110, e110, hx110_0, hx110_1⟩ := at_T37 HR0.out (ji11) p110 q110
                        obtain rfl : ad109 = ad110 := (by injection e110)
                        replace p110 := eq_true p110
                        replace q110 := eq_true q110
                        go_wp2
                        repeat (go_quiet (fail); try go_wp2)
                        go_ret
                        exact ⟨by first | rfl | (simp; done) | (simp only [← hji11] <;> (first | rfl | simp)) | (simp [*]; done), by repeat (first | exact Drawn0.refl _ | apply Drawn0.step)⟩
                      · rw [if_neg c14] at H
                        have c14b0 : decide (((rd_T37 l0 x4_2).f0) ≤ ((rd_T37 l0 (ji11)).f0)) = false := decide_eq_false c14
                        clear c14
                        have H' := Aside0.mk H
                        clear H
                        have p109 : 0 ≤ (x4_2 : Int) := of_decide_eq_true (by first | (with_reducible assumption) | assumption)
                        have q109 : x4_2 < (l0.length : Int) := of_decide_eq_true (by first | (with_reducible assumption) | assumption)
                        obtain ⟨ad109, e109, hx109_0, hx109_1⟩ := at_T37 HR0.out x4_2 p109 q109
                        cases e109
                        replace p109 := eq_true p109
                        replace q109 := eq_true q109
                        have p110 : 0 ≤ ((ji11) : Int) := of_decide_eq_true (by first | (with_reducible assumption) | assumption)
                        have q110 : (ji11) < (l0.length : Int) := of_decide_eq_true (by first | (with_reducible assumption) | assumption)
                        obtain ⟨ad110, e110, hx110_0, hx110_1⟩ := at_T37 HR0.out (ji11) p110 q110
                        obtain rfl : ad109 = ad110 := (by injection e110)
                        replace p110 := eq_true p110
                        replace q110 := eq_true q110
                        go_wp2
                        repeat (go_quiet (fail); try go_wp2)
                        go_roundg k2
                        case measure => have := HK1.out; have := HK2.out; omega
                        case rel => exact ⟨(wrap64 (x4_2 + 1)), (by first | rfl | (simp; done) | (simp [*]; done)), H', ⟨by have := HK1.out; have := HK2.out; omega⟩, by repeat (first | exact Drawn0.refl _ | apply Drawn0.step)⟩
                    · rw [if_neg c13] at H
                      exact absurd H (by simp)
                  · rw [if_neg c12] at H
                    exact absurd H (by simp)
                · rw [if_neg c10] at H
                  exact absurd H (by simp)
              · rw [if_neg c9] at H
                have c9b0 : decide (x4_2 < (l0.length : Int)) = false := decide_eq_false c9
                clear c9
                obtain rfl := Option.some.inj H
                go_wp2
                repeat (go_quiet (fail); try go_wp2)
                go_ret
                exact ⟨by first | rfl | (simp; done) | (simp [*]; done), by repeat (first | exact Drawn0.refl _ | apply Drawn0.step)⟩

end Go.Proofs.Ytpijnpoebkffkaa.PX
end
section
namespace Go.Proofs.Ytpijnpoebkffkaa.PX
open Go.RowKit Go.Proofs.YtpijnpoebkffkaaW.PrintWords Go.Proofs.YtpijnpoebkffkaaW.PrintLast Go.Proofs.YtpijnpoebkffkaaW.PrintMore
attribute [local go_sem] max2_int min2_int max_two min_two max_three min_three max_four min_four   -- for this text's walks alone
set_option linter.unusedVariables false
set_option linter.unusedSimpArgs false

/-! ### customsref21_Allocate: function 14 -/
mutual
def customsref21_Allocate.j0 : Nat → Int → List (S37) → Bool → Option ((List (S38)) × Int × Int)
  | 0, _, _, _ => none
  | k + 1, x0, x1, x19 => if x19 = true then (some (([] : List (S38)), 0, 2)) else ((customsref21_ValidRequests.f k x1).bind fun t209 => (if t209 = 0 then (customsref21_Allocate.l0 k x0 x1 0 ([] : List Int) 0) else (some (([] : List (S38)), 0, t209))))
def customsref21_Allocate.l0 : Nat → Int → List (S37) → Int → List Int → Int → Option ((List (S38)) × Int × Int)
  | 0, _, _, _, _, _ => none
  | k + 1, x0, x1, x8, x9, x10 => if x10 < (x1.length : Int) then (if 0 ≤ x10 then (if x9.length < 17592186044416 then (customsref21_Allocate.l0 k x0 x1 (wrap64 (x8 + ((rd_T37 x1 x10).f1))) (x9 ++ [(rd_T37 x1 x10).f1]) (wrap64 (x10 + 1))) else (none)) else (none)) else (if (wrap64 (x0 - x8)) < 0 then ((customsref21_Share.f k x0 x9).bind fun t215 => (customsref21_Allocate.j2 k x1 t215 0)) else (customsref21_Allocate.j2 k x1 x9 (wrap64 (x0 - x8))))
def customsref21_Allocate.j2 : Nat → List (S37) → List Int → Int → Option ((List (S38)) × Int × Int)
  | 0, _, _, _ => none
  | k + 1, x1, x9, x11 => customsref21_Allocate.l1 k x1 x9 x11 ([] : List (S38)) 0
def customsref21_Allocate.l1 : Nat → List (S37) → List Int → Int → List (S38) → Int → Option ((List (S38)) × Int × Int)
  | 0, _, _, _, _, _ => none
  | k + 1, x1, x9, x11, x12, x13 => if x13 < (x1.length : Int) then (if 0 ≤ x13 then (if x13 < (x9.length : Int) then (if x12.length < 8796093022208 then (customsref21_Allocate.l1 k x1 x9 x11 (x12 ++ [(⟨(rd_T37 x1 x13).f0, rd x9 x13⟩ : S38)]) (wrap64 (x13 + 1))) else (none)) else (none)) else (none)) else (some (x12, x11, 0))
end
def customsref21_Allocate.f (k : Nat) (a0 : Int) (l1 : List (S37)) : Option ((List (S38)) × Int × Int) := if a0 < 0 then (customsref21_Allocate.j0 k a0 l1 true) else (customsref21_Allocate.j0 k a0 l1 (decide (a0 > 1000000000000)))
def customsref21_Allocate.T21 : Bool × List (List Nat × List Nat) := (true, [([], []), ([], []), ([], []), ([1, 2], [1, 2]), ([3], [3]), ([4], [4]), ([], []), ([], []), ([6, 7], [6, 7]), ([8], [8]), ([5, 9], [5, 9]), ([10], [10]), ([0, 11], [0, 11]), ([12, 12, 0, 1, 2, 3, 4, 5, 6, 7, 8, 9, 10, 11, 12], [0, 12])])
def customsref21_Allocate.B21 : List Nat := [0, 0, 0, 6, 14, 30, 0, 0, 192, 448, 1022, 2046, 4095, 8191]
theorem customsref21_Allocate.tab21 : rtab .any (opsOf Try.f14 21) = customsref21_Allocate.T21 := by kernel_rfl
theorem customsref21_Allocate.bits21 : waitsOk customsref21_Allocate.T21.2 customsref21_Allocate.B21 = true := by kernel_rfl
set_option maxHeartbeats 8000000 in
set_option maxRecDepth 100000 in
theorem customsref21_Allocate.calls (k : Nat) (a0 : Int) (A1 : Option Addr) (c1 : Nat) (l1 : List (S37)) (r1 : List (S38)) (r2 : Int) (r3 : Int) (w : World) (hr1 : Kd.C k37 w A1 l1.length l1) (hc1 : l1.length ≤ c1) (h : customsref21_Allocate.f k a0 l1 = some (r1, r2, r3)) :
    Calls Try.prog 14 #[.int .i64 a0, .slice A1 l1.length c1] w fun e w' => ∃ v0_ : Value, e = .returned (.tuple #[v0_, .int .i64 r2, .int .i64 r3]) ∧ Kd.R k38 38 w' w.heap.size (fun _ => True) v0_ r1 ∧ Below w.heap.size w w' := by
  have hu38 := Try.underlying38
  have HR1 := Aside0.mk hr1
  have HC1 := Aside0.mk hc1
  clear hr1 hc1
  have HB := Aside0.mk (Below.refl w.heap.size w)
  have H : (if a0 < 0 then (customsref21_Allocate.j0 k a0 l1 true) else (customsref21_Allocate.j0 k a0 l1 (decide (a0 > 1000000000000)))) = some (r1, r2, r3) := h
  clear h
  have HC3 := Aside0.mk H
  clear H
  go_enter Try.func14, Try.ntmps14
  go_upto_region 1 with (fail)
  go_cut [19] (fun v19 wc => ∃ (kq : Nat) (x19_2 : Bool), v19 = .bool x19_2 ∧ Aside0 (customsref21_Allocate.j0 kq a0 l1 x19_2 = some (r1, r2, r3)) ∧ Aside0 (kq ≤ k) ∧ Aside0 (Below w.heap.size w wc))
  case first =>
    have H := HC3.out
    clear HC3
    by_cases c4 : a0 < 0
    · rw [if_pos c4] at H
      have c4b0 : decide (a0 < 0) = true := decide_eq_true c4
      clear c4
      (first | rw [c4b0] | (simp only [i64_w, i32_w]; rw [c4b0]) | skip)
      have H' := Aside0.mk H
      clear H
      go_wp2
      go_meet
      case rel => exact ⟨_, (true), (by first | rfl | (simp; done) | (simp [*]; done)), H', ⟨by first | omega | exact Nat.le_refl _⟩, ⟨by repeat (first | (with_reducible first | exact HB.out | apply below_alloc | apply pw_below_drewN | apply below_drew1) | exact HB.out)⟩⟩
    · rw [if_neg c4] at H
      have c4b0 : decide (a0 < 0) = false := decide_eq_false c4
      clear c4
      (first | rw [c4b0] | (simp only [i64_w, i32_w]; rw [c4b0]) | skip)
      have H' := Aside0.mk H
      clear H
      go_wp2
      go_meet
      case rel => exact ⟨_, (decide (a0 > 1000000000000)), (by first | rfl | (simp; done) | (simp [*]; done)), H', ⟨by first | omega | exact Nat.le_refl _⟩, ⟨by repeat (first | (with_reducible first | exact HB.out | apply below_alloc | apply pw_below_drewN | apply below_drew1) | exact HB.out)⟩⟩
  case rest =>
    clear HC3
    try clear c1
    try clear p2
    try clear c4
    try clear c4b0
    obtain ⟨kq, x19_2, rfl, HA, HJ2, HB⟩ := hcut
    cases kq with
    | zero => exact absurd HA.out (by simp [customsref21_Allocate.j0])
    | succ kj2 =>
      have H := HA.out
      clear HA
      simp only [customsref21_Allocate.j0] at H
      by_cases c5 : x19_2 = true
      · subst c5
        have H1 : (some (([] : List (S38)), 0, 2)) = some (r1, r2, r3) := by rw [if_pos rfl] at H; exact H
        clear H
        have H := H1
        clear H1
        simp only [Option.some.injEq, Prod.mk.injEq] at H
        obtain ⟨rfl, rfl, rfl⟩ := H
        go_wp2
        go_ret3
        exact ⟨_, by first | rfl | (simp [errW_none, errW_some] <;> rfl) | (simp [*, errW_none, errW_some] <;> rfl) | (simp (disch := first | assumption | omega) only [Int.tdiv_eq_ediv_of_nonneg, Int.tmod_eq_emod_of_nonneg]; rfl), by first | exact Kd.R_nil _ _ _ _ _ | exact Kd.N_nil _ _ _ _ _ | exact Kd.V_nil _ _ _ _ _ | exact Kd.Q_nil _ _ _ _ _ | exact Kd.S_nil _ _ _ _ _, by repeat (first | (with_reducible first | exact HB.out | apply below_alloc | apply pw_below_drewN | apply below_drew1) | exact HB.out)⟩
      · replace c5 := Bool.eq_false_iff.mpr c5
        subst c5
        have H1 : ((customsref21_ValidRequests.f kj2 l1).bind fun t209 => (if t209 = 0 then (customsref21_Allocate.l0 kj2 a0 l1 0 ([] : List Int) 0) else (some (([] : List (S38)), 0, t209)))) = some (r1, r2, r3) := by rw [if_neg (show ¬ (false = true) by decide)] at H; exact H
        clear H
        have H := H1
        clear H1
        replace H := Option.bind_eq_some_iff.mp H
        obtain ⟨t209, A60, H⟩ := H
        replace H : (if t209 = 0 then (customsref21_Allocate.l0 kj2 a0 l1 0 ([] : List Int) 0) else (some (([] : List (S38)), 0, t209))) = some (r1, r2, r3) := H
        have A6 := Aside0.mk A60
        clear A60
        by_cases c7 : t209 = 0
        · rw [if_pos c7] at H
          have c7b0 : (t209 == 0) = true := beq_iff_eq.mpr c7
          have c7b1 : (t209 != 0) = false := bne_eq_false_iff_eq.mpr c7
          clear c7
          have H' := Aside0.mk H
          clear H
          go_wp2_with (first | ((with_reducible refine gate_callee (f := 9) rfl ?_); refine goesL_ (some 21) rfl rfl Try.func9 (by kernel_rfl) rfl #[.slice A1 l1.length c1] rfl (by (try simp only [List.map_toArray, List.map_cons, List.map_nil]); first | done | rfl | (simp only [List.length_drop, List.length_take]; rfl)) ?_; (with_reducible refine (customsref21_ValidRequests.calls kj2 _ _ l1 t209 _ ?side1 ?side2 A6.out).mono ?_); (case side1 => repeat (first | exact (Kd.C_below HR1.out HB.out) | (with_reducible refine Kd.C_alloc ?_ _) | (with_reducible refine Kd.C_drewN ?_ _) | (with_reducible refine Kd.C_drew ?_))); (case side2 => exact HC1.out); rintro e w' ⟨rfl, ⟨nd, rfl⟩⟩; refine ⟨_, rfl, ?_⟩))
          go_loopg [8, 9, 10] kj2 (fun kq v8 v9 v10 w' => ∃ (x8_2 : Int) (x9_2 : List Int) (x10_2 : Int), v8 = .int .i64 x8_2 ∧ v10 = .int .i64 x10_2 ∧ Aside0 (customsref21_Allocate.l0 kq a0 l1 x8_2 x9_2 x10_2 = some (r1, r2, r3)) ∧ Aside0 (kq ≤ kj2) ∧ Aside0 (Kd.R (Kd.int .i64) 3 w' w.heap.size (fun _ => True) v9 x9_2) ∧ Aside0 (Below w.heap.size w w'))
          case atStart => exact ⟨(0), (([] : List Int)), (0), (by first | rfl | (simp; done) | (simp [*]; done)), (by first | rfl | (simp; done) | (simp [*]; done)), H', ⟨Nat.le_refl _⟩, ⟨by first | exact Kd.R_nil _ _ _ _ _ | exact Kd.N_nil _ _ _ _ _ | exact Kd.V_nil _ _ _ _ _ | exact Kd.Q_nil _ _ _ _ _ | exact Kd.S_nil _ _ _ _ _⟩, ⟨by repeat (first | (with_reducible first | exact HB.out | apply below_alloc | apply pw_below_drewN | apply below_drew1) | exact HB.out)⟩⟩
          case round =>
            clear H'
            try clear c1
            try clear p2
            try clear c4
            try clear c4b0
            try clear c5
            try clear c7
            try clear c7b0
            try clear c7b1
            try clear p2
            obtain ⟨x8_2, x9_2, x10_2, rfl, rfl, HA, HK2, HO_9, HB⟩ := hrel
            cases gk with
            | zero => exact absurd HA.out (by simp [customsref21_Allocate.l0])
            | succ k2 =>
              have H := HA.out
              clear HA
              simp only [customsref21_Allocate.l0] at H
              by_cases c8 : x10_2 < (l1.length : Int)
              · rw [if_pos c8] at H
                have c8b0 : decide (x10_2 < (l1.length : Int)) = true := decide_eq_true c8
                clear c8
                by_cases c9 : 0 ≤ x10_2
                · rw [if_pos c9] at H
                  have c9b0 : decide (0 ≤ x10_2) = true := decide_eq_true c9
                  clear c9
                  by_cases c10 : x9_2.length < 17592186044416
                  · rw [if_pos c10] at H
                    have LMc10 := Aside0.mk c10
                    clear c10
                    obtain ⟨y212, hy212⟩ : ∃ y_ : List Int, y_ = (x9_2 ++ [(rd_T37 l1 x10_2).f1]) := ⟨_, rfl⟩
                    replace H : (customsref21_Allocate.l0 k2 a0 l1 (wrap64 (x8_2 + ((rd_T37 l1 x10_2).f1))) y212 (wrap64 (x10_2 + 1))) = some (r1, r2, r3) := by first | (rw [hy212]; with_reducible exact H) | (have H2_ := (Option.bind_some _ _).symm.trans H; rw [hy212]; with_reducible exact H2_) | (have H2_ := (Option.bind_some _ _).symm.trans H; with_reducible exact H2_) | with_reducible exact H | (rw [hy212]; exact H) | exact H
                    have Ny212 := Aside0.mk hy212
                    clear hy212
                    have H' := Aside0.mk H
                    clear H
                    have p210 : 0 ≤ (x10_2 : Int) := of_decide_eq_true (by first | (with_reducible assumption) | assumption)
                    have q210 : x10_2 < (l1.length : Int) := of_decide_eq_true (by first | (with_reducible assumption) | assumption)
                    obtain ⟨ad210, e210, hx210_0, hx210_1⟩ := at_T37 HR1.out x10_2 p210 q210
                    cases e210
                    replace hx210_0 := (HB.out.cell (World.block_lt_of_cell? w _ hx210_0)).trans hx210_0
                    replace hx210_1 := (HB.out.cell (World.block_lt_of_cell? w _ hx210_1)).trans hx210_1
                    replace p210 := eq_true p210
                    replace q210 := eq_true q210
                    have p211 : 0 ≤ (x10_2 : Int) := of_decide_eq_true (by first | (with_reducible assumption) | assumption)
                    have q211 : x10_2 < (l1.length : Int) := of_decide_eq_true (by first | (with_reducible assumption) | assumption)
                    obtain ⟨ad211, e211, hx211_0, hx211_1⟩ := at_T37 HR1.out x10_2 p211 q211
                    obtain rfl : ad210 = ad211 := (by injection e211)
                    replace hx211_0 := (HB.out.cell (World.block_lt_of_cell? w _ hx211_0)).trans hx211_0
                    replace hx211_1 := (HB.out.cell (World.block_lt_of_cell? w _ hx211_1)).trans hx211_1
                    replace p211 := eq_true p211
                    replace q211 := eq_true q211
                    go_wp2_with (first | ((with_reducible refine gate_builtin (b := .append) (xs := #[.tmp 38, .tmp 44]) rfl ?_); at_builtin; refine Kd.R_append (Kd.int .i64) (w0 := w) w.heap.size rfl (.tmp 38) (.tmp 44) 27 3 (.int .i64 0) 8 rfl Try.underlying27 info3 rfl (by decide) (by omega) u9 x9_2 ((rd_T37 l1 x10_2).f1) [.int .i64 ((rd_T37 l1 x10_2).f1)] (fun _ => True) (fun _ => False) rfl rfl ?aP (fun _ hk => hk.elim) ?aF ?aO ?aB ?aS ?aL ?_; (case aP => exact rfl); (case aB => exact (by repeat (first | (with_reducible first | exact HB.out | apply below_alloc | apply pw_below_drewN | apply below_drew1) | exact HB.out))); (case aF => exact (fun _ _ => trivial)); (case aO => exact (by (with_reducible repeat (first | apply Kd.R_alloc | apply Kd.R_drewN | apply Kd.R_drew)); exact HO_9.out)); (case aS => exact (below_size (by repeat (first | (with_reducible first | exact HB.out | apply below_alloc | apply pw_below_drewN | apply below_drew1) | exact HB.out)))); (case aL => have := LMc10.out; omega); intro v213 w11 ho hb hg hat; rw [← Ny212.out] at ho; have n0_ := Aside0.mk (hb); have n1_ := Aside0.mk (ho); clear HB; clear HO_9; have HB := n0_; have HO214 := n1_; clear n0_ n1_; clear ho hb hg hat))
                    go_roundg k2
                    case measure => have := HJ2.out; have := HK2.out; omega
                    case rel => exact ⟨(wrap64 (x8_2 + ((rd_T37 l1 x10_2).f1))), (y212), (wrap64 (x10_2 + 1)), (by first | rfl | (simp; done) | (simp [*]; done)), (by first | rfl | (simp; done) | (simp [*]; done)), H', ⟨by have := HJ2.out; have := HK2.out; omega⟩, ⟨by (with_reducible repeat (first | apply Kd.R_alloc | apply Kd.R_drewN | apply Kd.R_drew)); exact HO214.out⟩, ⟨by repeat (first | (with_reducible first | exact HB.out | apply below_alloc | apply pw_below_drewN | apply below_drew1) | exact HB.out)⟩⟩
                  · rw [if_neg c10] at H
                    exact absurd H (by simp)
                · rw [if_neg c9] at H
                  exact absurd H (by simp)
              · rw [if_neg c8] at H
                have c8b0 : decide (x10_2 < (l1.length : Int)) = false := decide_eq_false c8
                clear c8
                have HC12 := Aside0.mk H
                clear H
                go_upto_if 50 with (fail)
                go_cut [9, 11] (fun v9 v11 wc => ∃ (kq : Nat) (x9_11 : List Int) (x11_11 : Int), v11 = .int .i64 x11_11 ∧ Aside0 (customsref21_Allocate.j2 kq l1 x9_11 x11_11 = some (r1, r2, r3)) ∧ Aside0 (kq ≤ k2) ∧ Aside0 (Kd.R (Kd.int .i64) 3 wc w.heap.size (fun _ => True) v9 x9_11) ∧ Aside0 (Below w.heap.size w wc))
                case first =>
                  have H := HC12.out
                  clear HC12
                  by_cases c13 : (wrap64 (a0 - x8_2)) < 0
                  · rw [if_pos c13] at H
                    have c13b0 : decide ((wrap64 (a0 - x8_2)) < 0) = true := decide_eq_true c13
                    clear c13
                    (first | rw [c13b0] | (simp only [i64_w, i32_w]; rw [c13b0]) | skip)
                    replace H := Option.bind_eq_some_iff.mp H
                    obtain ⟨t215, A140, H⟩ := H
                    replace H : (customsref21_Allocate.j2 k2 l1 t215 0) = some (r1, r2, r3) := H
                    have A14 := Aside0.mk A140
                    clear A140
                    have H' := Aside0.mk H
                    clear H
                    obtain ⟨Ao15, co15, eo15⟩ := Kd.R_slice HO_9.out
                    subst eo15
                    go_wp2_with (first | ((with_reducible refine gate_callee (f := 24) rfl ?_); refine goesL_ (some 53) rfl rfl Try.func24 (by kernel_rfl) rfl #[.int .i64 a0, .slice Ao15 x9_2.length co15] rfl (by (try simp only [List.map_toArray, List.map_cons, List.map_nil]); first | done | rfl | (simp only [List.length_drop, List.length_take]; rfl)) ?_; (with_reducible refine (customsref21_Share.calls k2 a0 _ _ x9_2 t215 _ ?side1 ?side2 A14.out).mono ?_); (case side1 => repeat (first | exact (Kd.R_reads' HO_9.out).2.2 | (with_reducible refine Kd.C_alloc ?_ _) | (with_reducible refine Kd.C_drewN ?_ _) | (with_reducible refine Kd.C_drew ?_))); (case side2 => exact (Kd.R_reads' HO_9.out).2.1); rintro e w16 ⟨v216, rfl, ho0, hb⟩; refine ⟨_, rfl, ?_⟩; have n0_ := Aside0.mk (Kd.R_elder' (by (with_reducible repeat (first | apply Kd.R_alloc | apply Kd.R_drewN | apply Kd.R_drew)); exact HO_9.out) (Kd.R_base ho0) hb); have n1_ := Aside0.mk (Kd.R_lower (Kd.R_new' ho0 (Kd.R_lt (by (with_reducible repeat (first | apply Kd.R_alloc | apply Kd.R_drewN | apply Kd.R_drew)); exact HO_9.out))) (below_size (by repeat (first | (with_reducible first | exact HB.out | apply below_alloc | apply pw_below_drewN | apply below_drew1) | exact HB.out)))); have n2_ := Aside0.mk (below_step (by repeat (first | (with_reducible first | exact HB.out | apply below_alloc | apply pw_below_drewN | apply below_drew1) | exact HB.out)) hb); clear HO_9; clear HB; have HO_9 := n0_; have HO217 := n1_; have HB := n2_; clear n0_ n1_ n2_; (try clear hb); (try clear hb2); (try clear hk); (try clear hi); (try clear ho0)))
                    go_meet
                    case rel => exact ⟨_, (t215), (0), (by first | rfl | (simp; done) | (simp [*]; done)), H', ⟨by have := HJ2.out; have := HK2.out; first | omega | exact Nat.le_refl _⟩, ⟨by (with_reducible repeat (first | apply Kd.R_alloc | apply Kd.R_drewN | apply Kd.R_drew)); exact Kd.R_mono HO217.out (fun _ hk => trivial)⟩, ⟨by repeat (first | (with_reducible first | exact HB.out | apply below_alloc | apply pw_below_drewN | apply below_drew1) | exact HB.out)⟩⟩
                  · rw [if_neg c13] at H
                    have c13b0 : decide ((wrap64 (a0 - x8_2)) < 0) = false := decide_eq_false c13
                    clear c13
                    (first | rw [c13b0] | (simp only [i64_w, i32_w]; rw [c13b0]) | skip)
                    have H' := Aside0.mk H
                    clear H
                    go_wp2
                    go_meet
                    case rel => exact ⟨_, (x9_2), (wrap64 (a0 - x8_2)), (by first | rfl | (simp; done) | (simp [*]; done)), H', ⟨by have := HJ2.out; have := HK2.out; first | omega | exact Nat.le_refl _⟩, ⟨by (with_reducible repeat (first | apply Kd.R_alloc | apply Kd.R_drewN | apply Kd.R_drew)); exact HO_9.out⟩, ⟨by repeat (first | (with_reducible first | exact HB.out | apply below_alloc | apply pw_below_drewN | apply below_drew1) | exact HB.out)⟩⟩
                case rest =>
                  clear HC12
                  try clear c1
                  try clear c2
                  try clear p2
                  try clear q2
                  try clear hx2
                  try clear c4
                  try clear c4b0
                  try clear c5
                  try clear p6
                  try clear c7
                  try clear c7b0
                  try clear c7b1
                  try clear c8
                  try clear c8b0
                  try clear c9
                  try clear c9b0
                  try clear c10
                  try clear c13
                  try clear c13b0
                  try clear c14
                  try clear hx210_0
                  try clear hx210_1
                  try clear hx211_0
                  try clear hx211_1
                  try clear p2
                  try clear p210
                  try clear p211
                  try clear q210
                  try clear q211
                  obtain ⟨kq, x9_11, x11_11, rfl, HA, HJ11, HO_9, HB⟩ := hcut
                  cases kq with
                  | zero => exact absurd HA.out (by simp [customsref21_Allocate.j2])
                  | succ kj11 =>
                    have H := HA.out
                    clear HA
                    simp only [customsref21_Allocate.j2] at H
                    have H' := Aside0.mk H
                    clear H
                    go_wp2
                    go_loopg [12, 13] kj11 (fun kq v12 v13 w' => ∃ (x12_4 : List (S38)) (x13_4 : Int), v13 = .int .i64 x13_4 ∧ Aside0 (customsref21_Allocate.l1 kq l1 x9_11 x11_11 x12_4 x13_4 = some (r1, r2, r3)) ∧ Aside0 (kq ≤ kj11) ∧ Aside0 (Kd.R (Kd.int .i64) 3 w' w.heap.size (fun _ => True) u9 x9_11) ∧ Aside0 (Kd.R k38 38 w' w.heap.size (fun _ => True) v12 x12_4) ∧ Aside0 (Below w.heap.size w w'))
                    case atStart => exact ⟨(([] : List (S38))), (0), (by first | rfl | (simp; done) | (simp [*]; done)), H', ⟨Nat.le_refl _⟩, ⟨by (with_reducible repeat (first | apply Kd.R_alloc | apply Kd.R_drewN | apply Kd.R_drew)); exact HO_9.out⟩, ⟨by first | exact Kd.R_nil _ _ _ _ _ | exact Kd.N_nil _ _ _ _ _ | exact Kd.V_nil _ _ _ _ _ | exact Kd.Q_nil _ _ _ _ _ | exact Kd.S_nil _ _ _ _ _⟩, ⟨by repeat (first | (with_reducible first | exact HB.out | apply below_alloc | apply pw_below_drewN | apply below_drew1) | exact HB.out)⟩⟩
                    case round =>
                      clear H'
                      try clear c1
                      try clear c2
                      try clear p2
                      try clear q2
                      try clear hx2
                      try clear c4
                      try clear c4b0
                      try clear c5
                      try clear p6
                      try clear c7
                      try clear c7b0
                      try clear c7b1
                      try clear c8
                      try clear c8b0
                      try clear c9
                      try clear c9b0
                      try clear c10
                      try clear c13
                      try clear c13b0
                      try clear c14
                      try clear hx210_0
                      try clear hx210_1
                      try clear hx211_0
                      try clear hx211_1
                      try clear p2
                      try clear p210
                      try clear p211
                      try clear p6
                      try clear q2
                      try clear q210
                      try clear q211
                      obtain ⟨x12_4, x13_4, rfl, HA, HK4, HO_9, HO_12, HB⟩ := hrel
                      cases gk with
                      | zero => exact absurd HA.out (by simp [customsref21_Allocate.l1])
                      | succ k4 =>
                        have H := HA.out
                        clear HA
                        simp only [customsref21_Allocate.l1] at H
                        by_cases c17 : x13_4 < (l1.length : Int)
                        · rw [if_pos c17] at H
                          have c17b0 : decide (x13_4 < (l1.length : Int)) = true := decide_eq_true c17
                          clear c17
                          by_cases c18 : 0 ≤ x13_4
                          · rw [if_pos c18] at H
                            have c18b0 : decide (0 ≤ x13_4) = true := decide_eq_true c18
                            clear c18
                            by_cases c19 : x13_4 < (x9_11.length : Int)
                            · rw [if_pos c19] at H
                              have c19b0 : decide (x13_4 < (x9_11.length : Int)) = true := decide_eq_true c19
                              clear c19
                              by_cases c20 : x12_4.length < 8796093022208
                              · rw [if_pos c20] at H
                                have LMc20 := Aside0.mk c20
                                clear c20
                                obtain ⟨y220, hy220⟩ : ∃ y_ : List (S38), y_ = (x12_4 ++ [(⟨(rd_T37 l1 x13_4).f0, rd x9_11 x13_4⟩ : S38)]) := ⟨_, rfl⟩
                                replace H : (customsref21_Allocate.l1 k4 l1 x9_11 x11_11 y220 (wrap64 (x13_4 + 1))) = some (r1, r2, r3) := by first | (rw [hy220]; with_reducible exact H) | (have H2_ := (Option.bind_some _ _).symm.trans H; rw [hy220]; with_reducible exact H2_) | (have H2_ := (Option.bind_some _ _).symm.trans H; with_reducible exact H2_) | with_reducible exact H | (rw [hy220]; exact H) | exact H
                                have Ny220 := Aside0.mk hy220
                                clear hy220
                                have H' := Aside0.mk H
                                clear H
                                try go_wp2
                                have n0_ := Aside0.mk (Kd.R_drew HO_9.out)
                                have n1_ := Aside0.mk (Kd.R_drew HO_12.out)
                                have n2_ := Aside0.mk (below_drew1 HB.out)
                                clear HO_9
                                clear HO_12
                                clear HB
                                have HO_9 := n0_
                                have HO_12 := n1_
                                have HB := n2_
                                clear n0_ n1_ n2_
                                have p218 : 0 ≤ (x13_4 : Int) := of_decide_eq_true (by first | (with_reducible assumption) | assumption)
                                have q218 : x13_4 < (l1.length : Int) := of_decide_eq_true (by first | (with_reducible assumption) | assumption)
                                obtain ⟨ad218, e218, hx218_0, hx218_1⟩ := at_T37 HR1.out x13_4 p218 q218
                                have hw218_1 := hx218_1
                                have hw218_0 := hx218_0
                                cases e218
                                replace hx218_0 := (HB.out.cell (World.block_lt_of_cell? w _ hx218_0)).trans hx218_0
                                replace hx218_1 := (HB.out.cell (World.block_lt_of_cell? w _ hx218_1)).trans hx218_1
                                replace p218 := eq_true p218
                                replace q218 := eq_true q218
                                obtain ⟨Ao22, co22, eo22⟩ := Kd.R_slice HO_9.out
                                (first | subst eo22 | (injection eo22 with f1_ f2_ f3_; have f4_ := f1_.symm; have f5_ := f3_.symm; clear f1_ f2_ f3_; subst f4_; subst f5_))
                                have p219 : 0 ≤ (x13_4 : Int) := of_decide_eq_true (by first | (with_reducible assumption) | assumption)
                                have q219 : x13_4 < (x9_11.length : Int) := of_decide_eq_true (by first | (with_reducible assumption) | assumption)
                                obtain ⟨ad219, e219, hx219_0⟩ := Kd.at_int (Kd.R_reads' HO_9.out).2.2 x13_4 p219 q219
                                cases e219
                                replace p219 := eq_true p219
                                replace q219 := eq_true q219
                                refine start_ (n := 14) (S := fun w' => w'.cell? (ad218.add ((x13_4).toNat * 2)) = some (.int .i64 ((rd_T37 l1 x13_4).f0)) ∧ w'.cell? ⟨(ad218.add ((x13_4).toNat * 2)).block, (ad218.add ((x13_4).toNat * 2)).off + 1, none⟩ = some (.int .i64 ((rd_T37 l1 x13_4).f1)) ∧ w'.cell? (ad219.add (x13_4).toNat) = some (.int .i64 (rd x9_11 x13_4))) (ds := [11, 12]) #[false, false, false, false, false, false, false, false, false, false, false, false, false, false] (by kernel_rfl) rfl rfl ⟨((HB.out.cell (World.block_lt_of_cell? w _ hw218_0)).trans hw218_0), ((HB.out.cell (World.block_lt_of_cell? w _ hw218_1)).trans hw218_1), hx219_0⟩ (fun hHeld => ?_); refine with_tabW customsref21_Allocate.tab21 customsref21_Allocate.bits21 (fun HT_ HW_ => ?_)
                                generalize wr.drew = w21 at HO_9 HO_12 HB hx218_0 hx218_1 hx219_0 hHeld ⊢
                                refine pure_ (i := 0) (N := some 60) (v := ?_) (a' := ?_) #[true, false, false, false, false, false, false, false, false, false, false, false, false, false] rfl rfl (any_of HT_.out (by kernel_rfl)) (fun _ _ _ h => h) (Or.inl ⟨by rfl, ?_⟩) ?_ ?_
                                rotate_left
                                · intro w'
                                  go_simp
                                  with_reducible rfl
                                rotate_left
                                · simp only [Act.put, List.setIfInBounds_toArray, List.set_cons_zero, List.set_cons_succ, i64_w, i32_w]
                                  rfl
                                refine pure_ (i := 1) (N := some 61) (v := ?_) (a' := ?_) #[true, true, false, false, false, false, false, false, false, false, false, false, false, false] rfl rfl (any_of HT_.out (by kernel_rfl)) (fun _ _ _ h => h) (Or.inl ⟨by rfl, ?_⟩) ?_ ?_
                                rotate_left
                                · intro w'
                                  go_simp
                                  with_reducible rfl
                                rotate_left
                                · simp only [Act.put, List.setIfInBounds_toArray, List.set_cons_zero, List.set_cons_succ, i64_w, i32_w]
                                  rfl
                                refine pure_ (i := 2) (N := some 62) (v := ?_) (a' := ?_) #[true, true, true, false, false, false, false, false, false, false, false, false, false, false] rfl rfl (any_of HT_.out (by kernel_rfl)) (fun _ _ _ h => h) (Or.inl ⟨by rfl, ?_⟩) ?_ ?_
                                rotate_left
                                · intro w'
                                  go_simp
                                  with_reducible rfl
                                rotate_left
                                · simp only [Act.put, List.setIfInBounds_toArray, List.set_cons_zero, List.set_cons_succ, i64_w, i32_w]
                                  rfl
                                refine pure_ (i := 3) (N := some 63) (v := ?_) (a' := ?_) #[true, true, true, true, false, false, false, false, false, false, false, false, false, false] rfl rfl (any_of HT_.out (by kernel_rfl)) (fun _ _ _ h => h) (Or.inl ⟨by rfl, ?_⟩) ?_ ?_
                                rotate_left
                                · intro w'
                                  go_simp
                                  with_reducible rfl
                                rotate_left
                                · simp only [Act.put, List.setIfInBounds_toArray, List.set_cons_zero, List.set_cons_succ, i64_w, i32_w]
                                  rfl
                                refine pure_ (i := 4) (N := some 64) (v := ?_) (a' := ?_) #[true, true, true, true, true, false, false, false, false, false, false, false, false, false] rfl rfl (any_of HT_.out (by kernel_rfl)) (fun _ _ _ h => h) (Or.inl ⟨by rfl, ?_⟩) ?_ ?_
                                rotate_left
                                · intro w'
                                  go_simp
                                  with_reducible rfl
                                rotate_left
                                · simp only [Act.put, List.setIfInBounds_toArray, List.set_cons_zero, List.set_cons_succ, i64_w, i32_w]
                                  rfl
                                refine pure_ (i := 6) (N := some 66) (v := ?_) (a' := ?_) #[true, true, true, true, true, false, true, false, false, false, false, false, false, false] rfl rfl (any_of HT_.out (by kernel_rfl)) (fun _ _ _ h => h) (Or.inl ⟨by rfl, ?_⟩) ?_ ?_
                                rotate_left
                                · intro w'
                                  go_simp
                                  with_reducible rfl
                                rotate_left
                                · simp only [Act.put, List.setIfInBounds_toArray, List.set_cons_zero, List.set_cons_succ, i64_w, i32_w]
                                  rfl
                                refine pure_ (i := 7) (N := some 67) (v := ?_) (a' := ?_) #[true, true, true, true, true, false, true, true, false, false, false, false, false, false] rfl rfl (any_of HT_.out (by kernel_rfl)) (fun _ _ _ h => h) (Or.inl ⟨by rfl, ?_⟩) ?_ ?_
                                rotate_left
                                · intro w'
                                  go_simp
                                  with_reducible rfl
                                rotate_left
                                · simp only [Act.put, List.setIfInBounds_toArray, List.set_cons_zero, List.set_cons_succ, i64_w, i32_w]
                                  rfl
                                refine pure_ (i := 8) (N := some 68) (v := ?_) (a' := ?_) #[true, true, true, true, true, false, true, true, true, false, false, false, false, false] rfl rfl (any_of HT_.out (by kernel_rfl)) (fun _ _ _ h => h) (Or.inl ⟨by rfl, ?_⟩) ?_ ?_
                                rotate_left
                                · intro w'
                                  go_simp
                                  with_reducible rfl
                                rotate_left
                                · simp only [Act.put, List.setIfInBounds_toArray, List.set_cons_zero, List.set_cons_succ, i64_w, i32_w]
                                  rfl
                                refine take_ (i := 5) (N := some 65) (v := ?_) (a' := ?_) #[true, true, true, true, true, true, true, true, true, false, false, false, false, false] rfl rfl (take_ofW HT_.out HW_.out (by kernel_rfl)) (fun _ _ _ h => h) (Or.inl ⟨by rfl, ?_⟩) hHeld ?_ ?_
                                rotate_left
                                · rintro w' ⟨s0, s1, s2⟩
                                  go_simp
                                  with_reducible rfl
                                rotate_left
                                · simp only [Act.put, List.setIfInBounds_toArray, List.set_cons_zero, List.set_cons_succ, i64_w, i32_w]
                                  rfl
                                refine take_ (i := 9) (N := some 69) (v := ?_) (a' := ?_) #[true, true, true, true, true, true, true, true, true, true, false, false, false, false] rfl rfl (take_ofW HT_.out HW_.out (by kernel_rfl)) (fun _ _ _ h => h) (Or.inl ⟨by rfl, ?_⟩) hHeld ?_ ?_
                                rotate_left
                                · rintro w' ⟨s0, s1, s2⟩
                                  go_simp
                                  with_reducible rfl
                                rotate_left
                                · simp only [Act.put, List.setIfInBounds_toArray, List.set_cons_zero, List.set_cons_succ, i64_w, i32_w]
                                  rfl
                                refine pure_ (i := 10) (N := some 70) (v := ?_) (a' := ?_) #[true, true, true, true, true, true, true, true, true, true, true, false, false, false] rfl rfl (any_of HT_.out (by kernel_rfl)) (fun _ _ _ h => h) (Or.inl ⟨by rfl, ?_⟩) ?_ ?_
                                rotate_left
                                · intro w'
                                  go_simp
                                  with_reducible rfl
                                rotate_left
                                · simp only [Act.put, List.setIfInBounds_toArray, List.set_cons_zero, List.set_cons_succ, i64_w, i32_w]
                                  rfl
                                refine last_ (i := 11) (N := some 71) #[true, true, true, true, true, true, true, true, true, true, true, true, false, false] rfl rfl (one_of HT_.out (by kernel_rfl)) (by decide) (fun K hK => ?_)
                                refine value_ (w1 := ?_) (v := ?_) (by rfl) rfl ?_ ?_
                                rotate_left 2
                                · go_simp
                                  constructor
                                  · rfl
                                  · rfl
                                refine hK.out _ _ ?_
                                clear hK K
                                refine norm_ (a' := ?_) ?_ ?_
                                rotate_left
                                · show Act.put _ (some 71) _ = _
                                  simp only [Act.put, List.setIfInBounds_toArray, List.set_cons_zero, List.set_cons_succ, i64_w, i32_w]
                                  rfl
                                refine last_ (i := 12) (N := some 72) #[true, true, true, true, true, true, true, true, true, true, true, true, true, false] rfl rfl (one_of HT_.out (by kernel_rfl)) (by decide) (fun K hK => ?_)
                                refine Kd.R_append_step k38 (w0 := w) w.heap.size (by rfl) (.tmp 60) (.tmp 71) 30 38 (.agg #[(.int .i64 0), (.int .i64 0)]) 16 rfl Try.underlying30 info38 rfl (by decide) (by omega) u12 x12_4 (⟨(rd_T37 l1 x13_4).f0, rd x9_11 x13_4⟩ : S38) [.int .i64 ((rd_T37 l1 x13_4).f0), .int .i64 (rd x9_11 x13_4)] (fun _ => True) (fun _ => False) rfl rfl ?aP (fun _ hk => hk.elim) ?aF ?aO ?aB ?aS ?aL ?_
                                (case aP => exact k38_mkM _ _ _ (⟨(rd_T37 l1 x13_4).f0, rd x9_11 x13_4⟩ : S38))
                                (case aB => exact (by repeat (first | (with_reducible first | exact HB.out | apply below_alloc | apply pw_below_drewN | apply below_drew1) | exact HB.out)))
                                (case aF => exact (fun _ _ => trivial))
                                (case aO => exact (by (with_reducible repeat (first | apply Kd.R_alloc | apply Kd.R_drewN | apply Kd.R_drew)); exact HO_12.out))
                                (case aS => exact (below_size (by repeat (first | (with_reducible first | exact HB.out | apply below_alloc | apply pw_below_drewN | apply below_drew1) | exact HB.out))))
                                (case aL => have := LMc20.out; omega)
                                intro v221 w23 ho hb hg hat
                                rw [← Ny220.out] at ho
                                have n0_ := Aside0.mk (Kd.R_over' (by (with_reducible repeat (first | apply Kd.R_alloc | apply Kd.R_drewN | apply Kd.R_drew)); exact HO_9.out) (Kd.R_typed (by (with_reducible repeat (first | apply Kd.R_alloc | apply Kd.R_drewN | apply Kd.R_drew)); exact HO_12.out)) (by decide) hg)
                                have n1_ := Aside0.mk (hb)
                                have n2_ := Aside0.mk (ho)
                                clear HO_9
                                clear HB
                                clear HO_12
                                have HO_9 := n0_
                                have HB := n1_
                                have HO222 := n2_
                                clear n0_ n1_ n2_
                                clear ho hb hg hat
                                refine hK.out _ _ ?_
                                clear hK K
                                refine norm_ (a' := ?_) ?_ ?_
                                rotate_left
                                · show Act.put _ (some 72) _ = _
                                  simp only [Act.put, List.setIfInBounds_toArray, List.set_cons_zero, List.set_cons_succ, i64_w, i32_w]
                                  rfl
                                refine pure_ (i := 13) (N := some 12) (v := ?_) (a' := ?_) #[true, true, true, true, true, true, true, true, true, true, true, true, true, true] rfl rfl (any_of HT_.out (by kernel_rfl)) (fun _ _ _ h => h) (Or.inl ⟨by rfl, ?_⟩) ?_ ?_
                                rotate_left
                                · intro w'
                                  go_simp
                                  with_reducible rfl
                                rotate_left
                                · simp only [Act.put, List.setIfInBounds_toArray, List.set_cons_zero, List.set_cons_succ, i64_w, i32_w]
                                  rfl
                                refine done_ (done_of HT_.out (by kernel_rfl)) ?_
                                try go_wp2
                                go_roundg k4
                                case measure => have := HJ2.out; have := HK2.out; have := HJ11.out; have := HK4.out; omega
                                case rel => exact ⟨(y220), (wrap64 (x13_4 + 1)), (by first | rfl | (simp; done) | (simp [*]; done)), H', ⟨by have := HJ2.out; have := HK2.out; have := HJ11.out; have := HK4.out; omega⟩, ⟨by (with_reducible repeat (first | apply Kd.R_alloc | apply Kd.R_drewN | apply Kd.R_drew)); exact HO_9.out⟩, ⟨by (with_reducible repeat (first | apply Kd.R_alloc | apply Kd.R_drewN | apply Kd.R_drew)); exact HO222.out⟩, ⟨by repeat (first | (with_reducible first | exact HB.out | apply below_alloc | apply pw_below_drewN | apply below_drew1) | exact HB.out)⟩⟩
                              · rw [if_neg c20] at H
                                exact absurd H (by simp)
                            · rw [if_neg c19] at H
                              exact absurd H (by simp)
                          · rw [if_neg c18] at H
                            exact absurd H (by simp)
                        · rw [if_neg c17] at H
                          have c17b0 : decide (x13_4 < (l1.length : Int)) = false := decide_eq_false c17
                          clear c17
                          simp only [Option.some.injEq, Prod.mk.injEq] at H
                          obtain ⟨rfl, rfl, rfl⟩ := H
                          go_wp2
                          go_ret3
                          exact ⟨_, by first | rfl | (simp [errW_none, errW_some] <;> rfl) | (simp [*, errW_none, errW_some] <;> rfl) | (simp (disch := first | assumption | omega) only [Int.tdiv_eq_ediv_of_nonneg, Int.tmod_eq_emod_of_nonneg]; rfl), by (with_reducible repeat (first | apply Kd.R_alloc | apply Kd.R_drewN | apply Kd.R_drew)); exact HO_12.out, by repeat (first | (with_reducible first | exact HB.out | apply below_alloc | apply pw_below_drewN | apply below_drew1) | exact HB.out)⟩
        · rw [if_neg c7] at H
          have c7b0 : (t209 == 0) = false := beq_eq_false_iff_ne.mpr c7
          have c7b1 : (t209 != 0) = true := bne_iff_ne.mpr c7
          simp only [Option.some.injEq, Prod.mk.injEq] at H
          obtain ⟨rfl, rfl, rfl⟩ := H
          go_wp2_with (first | ((with_reducible refine gate_callee (f := 9) rfl ?_); refine goesL_ (some 21) rfl rfl Try.func9 (by kernel_rfl) rfl #[.slice A1 l1.length c1] rfl (by (try simp only [List.map_toArray, List.map_cons, List.map_nil]); first | done | rfl | (simp only [List.length_drop, List.length_take]; rfl)) ?_; (with_reducible refine (customsref21_ValidRequests.calls kj2 _ _ l1 t209 _ ?side1 ?side2 A6.out).mono ?_); (case side1 => repeat (first | exact (Kd.C_below HR1.out HB.out) | (with_reducible refine Kd.C_alloc ?_ _) | (with_reducible refine Kd.C_drewN ?_ _) | (with_reducible refine Kd.C_drew ?_))); (case side2 => exact HC1.out); rintro e w' ⟨rfl, ⟨nd, rfl⟩⟩; refine ⟨_, rfl, ?_⟩))
          go_ret3
          exact ⟨_, by first | rfl | (simp [errW_none, errW_some] <;> rfl) | (simp [*, errW_none, errW_some] <;> rfl) | (simp (disch := first | assumption | omega) only [Int.tdiv_eq_ediv_of_nonneg, Int.tmod_eq_emod_of_nonneg]; rfl), by first | exact Kd.R_nil _ _ _ _ _ | exact Kd.N_nil _ _ _ _ _ | exact Kd.V_nil _ _ _ _ _ | exact Kd.Q_nil _ _ _ _ _ | exact Kd.S_nil _ _ _ _ _, by repeat (first | (with_reducible first | exact HB.out | apply below_alloc | apply pw_below_drewN | apply below_drew1) | exact HB.out)⟩

end Go.Proofs.Ytpijnpoebkffkaa.PX
end
