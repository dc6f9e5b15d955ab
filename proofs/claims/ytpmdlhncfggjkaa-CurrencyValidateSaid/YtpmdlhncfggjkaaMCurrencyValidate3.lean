/- Texts of this session joined by a small program: plain Lean functions with the answers of Go functions of this seat, proofs that the machine's calls come to them, and plain laws over them that the claim CurrencyValidate uses. -/
import Derived.Test.YtpmdlhncfggjkaaProg
import Derived.RegionTactic
import Derived.Maps.Own
import Derived.Maps.OwnOps
import Derived.Maps.OwnSet
import Derived.Laws.Externs
import Derived.WalkLawsBesides
import Derived.Deep.RegionLaw
import Derived.IntWalk
import Derived.Below
import Derived.Deep.Draws
import Derived.Deep.AppendLies
import Derived.Maps.AppendAt
import Derived.OwnWalk
import Derived.Laws.BytesArg
import Derived.Laws.MakeOwn
import Derived.Laws.OwnMore
import Derived.Deep.OwnRows
import Derived.Tactics
import Derived.Lib.ConvBytes
import Derived.Laws.Slices
import Derived.WalkKit
import Derived.KernelRfl
import Derived.RowKit3
import Derived.Deep.LoopGhost
import Derived.Deep.QuietTactic
import Derived.BigQuiet
import Derived.WideLaws
import Derived.Deep.DeepCutAuto
import Derived.Deep.CutBlock
import Derived.Deep.RegionHeld3
import Derived.Laws.Rows
import Derived.Lib.AppendStr
import Derived.ArgAppend
import Derived.Laws.IdiomCopy
import Derived.OrdersHeld
import Derived.Laws.BitsLemmas
import Derived.RowKit
import Derived.Test.YtpmdlhncfggjkaaWWords
import Derived.Test.YtpmdlhncfggjkaaWLast
import Derived.Test.YtpmdlhncfggjkaaWTab
import Derived.Test.YtpmdlhncfggjkaaWFour
import Derived.Test.YtpmdlhncfggjkaaWQPut
import Derived.Test.YtpmdlhncfggjkaaWApart
import Derived.Test.YtpmdlhncfggjkaaWArr
import Derived.Test.YtpmdlhncfggjkaaWZeros
import Derived.Test.YtpmdlhncfggjkaaWFoot
import Derived.Test.YtpmdlhncfggjkaaWKept
import Derived.Test.YtpmdlhncfggjkaaWShare
import Derived.Test.YtpmdlhncfggjkaaWN
import Derived.Test.YtpmdlhncfggjkaaWFootNe
import Derived.Test.YtpmdlhncfggjkaaWAt
import Derived.Test.YtpmdlhncfggjkaaWEqStruct
import Derived.Test.YtpmdlhncfggjkaaWRepsOne
import Derived.Test.YtpmdlhncfggjkaaWInv
import Derived.Test.YtpmdlhncfggjkaaWInvWords
import Derived.Test.YtpmdlhncfggjkaaWGuard
import Derived.Test.YtpmdlhncfggjkaaWNEv
import Derived.Test.YtpmdlhncfggjkaaWMore
import Derived.Laws.Bits64
import Derived.Sort.Walk0
import Derived.Deep.Slices
import Derived.SizedLaws
import Derived.ChangeArms
import Derived.Test.YtpmdlhncfggjkaaMCurrencyValidate2
section
namespace Go.Proofs.Ytpmdlhncfggjkaa.PX
open Go.RowKit Go.Proofs.YtpmdlhncfggjkaaW.PrintWords Go.Proofs.YtpmdlhncfggjkaaW.PrintLast Go.Proofs.YtpmdlhncfggjkaaW.PrintMore
attribute [local go_sem] max2_int min2_int max_two min_two max_three min_three max_four min_four   -- for this text's walks alone
set_option linter.unusedVariables false
set_option linter.unusedSimpArgs false

/-! ### customslaw05_CurrencyValidate: function 3 -/
def customslaw05_CurrencyValidate.f (k : Nat) (l0 : List (S25)) (l1 : List Int) (a2 : Int) (a3_0 : ByteArray) (a3_1 : Int) (a3_2 : Int) : Option (Bool) := if (l0.length : Int) > 1100 then (if 1100 ≤ (l0.length : Int) then ((some (l0.take 1100 : List (S25))).bind fun y166 => ((customsmade_Table.f l1).bind fun t170 => ((currency_Validate.f k y166).bind fun t173 => ((customsref04_Table.f k y166).bind fun t174 => (if t173 = t174 then ((currency_Validate.f k t170).bind fun t175 => (if t175 = 0 then (if (t170.length : Int) > 0 then ((customsmade_Within.f a2 (t170.length : Int)).bind fun t176 => (if 0 ≤ t176 then (if t176 < (t170.length : Int) then ((some (t170.set (t176 : Int).toNat (⟨a3_0, a3_1, a3_2⟩ : S25) : List (S25))).bind fun y177 => ((currency_Validate.f k y177).bind fun t178 => ((customsref04_Table.f k y177).bind fun t179 => (if t178 = t179 then ((customslaw05_awake.f k).bind fun t180 => (some t180)) else (some false))))) else (none)) else (none))) else ((currency_Validate.f k t170).bind fun t181 => ((customsref04_Table.f k t170).bind fun t182 => (if t181 = t182 then ((customslaw05_awake.f k).bind fun t183 => (some t183)) else (some false))))) else (some false))) else (some false)))))) else (none)) else ((customsmade_Table.f l1).bind fun t184 => ((currency_Validate.f k l0).bind fun t187 => ((customsref04_Table.f k l0).bind fun t188 => (if t187 = t188 then ((currency_Validate.f k t184).bind fun t189 => (if t189 = 0 then (if (t184.length : Int) > 0 then ((customsmade_Within.f a2 (t184.length : Int)).bind fun t190 => (if 0 ≤ t190 then (if t190 < (t184.length : Int) then ((some (t184.set (t190 : Int).toNat (⟨a3_0, a3_1, a3_2⟩ : S25) : List (S25))).bind fun y191 => ((currency_Validate.f k y191).bind fun t192 => ((customsref04_Table.f k y191).bind fun t193 => (if t192 = t193 then ((customslaw05_awake.f k).bind fun t194 => (some t194)) else (some false))))) else (none)) else (none))) else ((currency_Validate.f k t184).bind fun t195 => ((customsref04_Table.f k t184).bind fun t196 => (if t195 = t196 then ((customslaw05_awake.f k).bind fun t197 => (some t197)) else (some false))))) else (some false))) else (some false)))))
def customslaw05_CurrencyValidate.T7 : Bool × List (List Nat × List Nat) := (true, [([], []), ([], []), ([], []), ([2], [2]), ([1, 3], [1, 3]), ([], []), ([0, 4, 0, 1, 2, 3, 4, 5], [0, 4]), ([6, 5, 4, 0, 1, 2, 3, 4, 5], [5, 6])])
def customslaw05_CurrencyValidate.B7 : List Nat := [0, 0, 0, 4, 14, 0, 63, 127]
theorem customslaw05_CurrencyValidate.tab7 : rtab .any (opsOf Try.f3 7) = customslaw05_CurrencyValidate.T7 := by kernel_rfl
theorem customslaw05_CurrencyValidate.bits7 : waitsOk customslaw05_CurrencyValidate.T7.2 customslaw05_CurrencyValidate.B7 = true := by kernel_rfl
set_option maxHeartbeats 8000000 in
set_option maxRecDepth 100000 in
theorem customslaw05_CurrencyValidate.calls (k : Nat) (A0 : Option Addr) (c0 : Nat) (l0 : List (S25)) (A1 : Option Addr) (c1 : Nat) (l1 : List Int) (a2 : Int) (a3_0 : ByteArray) (a3_1 : Int) (a3_2 : Int) (r : Bool) (w : World) (hr0 : Kd.C k25 w A0 l0.length l0) (hc0 : l0.length ≤ c0) (hr1 : Kd.C (Kd.int .i64) w A1 l1.length l1) (hc1 : l1.length ≤ c1) (h : customslaw05_CurrencyValidate.f k l0 l1 a2 a3_0 a3_1 a3_2 = some r) :
    Calls Try.prog 3 #[.slice A0 l0.length c0, .slice A1 l1.length c1, .int .i64 a2, .agg #[.string a3_0, .int .i64 a3_1, .int .i64 a3_2]] w fun e w' => e = .returned (.bool r) ∧ Below w.heap.size w w' := by
  have hu25 := Try.underlying25
  have HR0 := Aside0.mk hr0
  have HC0 := Aside0.mk hc0
  clear hr0 hc0
  have HR1 := Aside0.mk hr1
  have HC1 := Aside0.mk hc1
  clear hr1 hc1
  have HB := Aside0.mk (Below.refl w.heap.size w)
  have H : (if (l0.length : Int) > 1100 then (if 1100 ≤ (l0.length : Int) then ((some (l0.take 1100 : List (S25))).bind fun y166 => ((customsmade_Table.f l1).bind fun t170 => ((currency_Validate.f k y166).bind fun t173 => ((customsref04_Table.f k y166).bind fun t174 => (if t173 = t174 then ((currency_Validate.f k t170).bind fun t175 => (if t175 = 0 then (if (t170.length : Int) > 0 then ((customsmade_Within.f a2 (t170.length : Int)).bind fun t176 => (if 0 ≤ t176 then (if t176 < (t170.length : Int) then ((some (t170.set (t176 : Int).toNat (⟨a3_0, a3_1, a3_2⟩ : S25) : List (S25))).bind fun y177 => ((currency_Validate.f k y177).bind fun t178 => ((customsref04_Table.f k y177).bind fun t179 => (if t178 = t179 then ((customslaw05_awake.f k).bind fun t180 => (some t180)) else (some false))))) else (none)) else (none))) else ((currency_Validate.f k t170).bind fun t181 => ((customsref04_Table.f k t170).bind fun t182 => (if t181 = t182 then ((customslaw05_awake.f k).bind fun t183 => (some t183)) else (some false))))) else (some false))) else (some false)))))) else (none)) else ((customsmade_Table.f l1).bind fun t184 => ((currency_Validate.f k l0).bind fun t187 => ((customsref04_Table.f k l0).bind fun t188 => (if t187 = t188 then ((currency_Validate.f k t184).bind fun t189 => (if t189 = 0 then (if (t184.length : Int) > 0 then ((customsmade_Within.f a2 (t184.length : Int)).bind fun t190 => (if 0 ≤ t190 then (if t190 < (t184.length : Int) then ((some (t184.set (t190 : Int).toNat (⟨a3_0, a3_1, a3_2⟩ : S25) : List (S25))).bind fun y191 => ((currency_Validate.f k y191).bind fun t192 => ((customsref04_Table.f k y191).bind fun t193 => (if t192 = t193 then ((customslaw05_awake.f k).bind fun t194 => (some t194)) else (some false))))) else (none)) else (none))) else ((currency_Validate.f k t184).bind fun t195 => ((customsref04_Table.f k t184).bind fun t196 => (if t195 = t196 then ((customslaw05_awake.f k).bind fun t197 => (some t197)) else (some false))))) else (some false))) else (some false)))))) = some r := h
  clear h
  by_cases c5 : (l0.length : Int) > 1100
  · rw [if_pos c5] at H
    have c5b0 : decide (1100 < (l0.length : Int)) = true := decide_eq_true c5
    have c5b1 : decide (1100 < l0.length) = true := decide_eq_true (by omega)
    clear c5
    by_cases c6 : 1100 ≤ (l0.length : Int)
    · rw [if_pos c6] at H
      have c6b0 := eq_true c6
      have c6b1 : decide (1100 ≤ (l0.length : Int)) = true := decide_eq_true c6
      clear c6
      obtain ⟨y166, hy166⟩ : ∃ y_ : List (S25), y_ = (l0.take 1100) := ⟨_, rfl⟩
      replace H : ((customsmade_Table.f l1).bind fun t170 => ((currency_Validate.f k y166).bind fun t173 => ((customsref04_Table.f k y166).bind fun t174 => (if t173 = t174 then ((currency_Validate.f k t170).bind fun t175 => (if t175 = 0 then (if (t170.length : Int) > 0 then ((customsmade_Within.f a2 (t170.length : Int)).bind fun t176 => (if 0 ≤ t176 then (if t176 < (t170.length : Int) then ((some (t170.set (t176 : Int).toNat (⟨a3_0, a3_1, a3_2⟩ : S25) : List (S25))).bind fun y177 => ((currency_Validate.f k y177).bind fun t178 => ((customsref04_Table.f k y177).bind fun t179 => (if t178 = t179 then ((customslaw05_awake.f k).bind fun t180 => (some t180)) else (some false))))) else (none)) else (none))) else ((currency_Validate.f k t170).bind fun t181 => ((customsref04_Table.f k t170).bind fun t182 => (if t181 = t182 then ((customslaw05_awake.f k).bind fun t183 => (some t183)) else (some false))))) else (some false))) else (some false))))) = some r := by first | (rw [hy166]; with_reducible exact H) | (have H2_ := (Option.bind_some _ _).symm.trans H; rw [hy166]; with_reducible exact H2_) | (have H2_ := (Option.bind_some _ _).symm.trans H; with_reducible exact H2_) | with_reducible exact H | (rw [hy166]; exact H) | exact H
      have Ny166 := Aside0.mk hy166
      clear hy166
      replace H := Option.bind_eq_some_iff.mp H
      obtain ⟨t170, A70, H⟩ := H
      replace H : ((currency_Validate.f k y166).bind fun t173 => ((customsref04_Table.f k y166).bind fun t174 => (if t173 = t174 then ((currency_Validate.f k t170).bind fun t175 => (if t175 = 0 then (if (t170.length : Int) > 0 then ((customsmade_Within.f a2 (t170.length : Int)).bind fun t176 => (if 0 ≤ t176 then (if t176 < (t170.length : Int) then ((some (t170.set (t176 : Int).toNat (⟨a3_0, a3_1, a3_2⟩ : S25) : List (S25))).bind fun y177 => ((currency_Validate.f k y177).bind fun t178 => ((customsref04_Table.f k y177).bind fun t179 => (if t178 = t179 then ((customslaw05_awake.f k).bind fun t180 => (some t180)) else (some false))))) else (none)) else (none))) else ((currency_Validate.f k t170).bind fun t181 => ((customsref04_Table.f k t170).bind fun t182 => (if t181 = t182 then ((customslaw05_awake.f k).bind fun t183 => (some t183)) else (some false))))) else (some false))) else (some false)))) = some r := H
      have A7 := Aside0.mk A70
      clear A70
      replace H := Option.bind_eq_some_iff.mp H
      obtain ⟨t173, A80, H⟩ := H
      replace H : ((customsref04_Table.f k y166).bind fun t174 => (if t173 = t174 then ((currency_Validate.f k t170).bind fun t175 => (if t175 = 0 then (if (t170.length : Int) > 0 then ((customsmade_Within.f a2 (t170.length : Int)).bind fun t176 => (if 0 ≤ t176 then (if t176 < (t170.length : Int) then ((some (t170.set (t176 : Int).toNat (⟨a3_0, a3_1, a3_2⟩ : S25) : List (S25))).bind fun y177 => ((currency_Validate.f k y177).bind fun t178 => ((customsref04_Table.f k y177).bind fun t179 => (if t178 = t179 then ((customslaw05_awake.f k).bind fun t180 => (some t180)) else (some false))))) else (none)) else (none))) else ((currency_Validate.f k t170).bind fun t181 => ((customsref04_Table.f k t170).bind fun t182 => (if t181 = t182 then ((customslaw05_awake.f k).bind fun t183 => (some t183)) else (some false))))) else (some false))) else (some false))) = some r := H
      have A8 := Aside0.mk A80
      clear A80
      replace H := Option.bind_eq_some_iff.mp H
      obtain ⟨t174, A90, H⟩ := H
      replace H : (if t173 = t174 then ((currency_Validate.f k t170).bind fun t175 => (if t175 = 0 then (if (t170.length : Int) > 0 then ((customsmade_Within.f a2 (t170.length : Int)).bind fun t176 => (if 0 ≤ t176 then (if t176 < (t170.length : Int) then ((some (t170.set (t176 : Int).toNat (⟨a3_0, a3_1, a3_2⟩ : S25) : List (S25))).bind fun y177 => ((currency_Validate.f k y177).bind fun t178 => ((customsref04_Table.f k y177).bind fun t179 => (if t178 = t179 then ((customslaw05_awake.f k).bind fun t180 => (some t180)) else (some false))))) else (none)) else (none))) else ((currency_Validate.f k t170).bind fun t181 => ((customsref04_Table.f k t170).bind fun t182 => (if t181 = t182 then ((customslaw05_awake.f k).bind fun t183 => (some t183)) else (some false))))) else (some false))) else (some false)) = some r := H
      have A9 := Aside0.mk A90
      clear A90
      by_cases c10 : t173 = t174
      · rw [if_pos c10] at H
        have c10b0 : (t173 == t174) = true := beq_iff_eq.mpr c10
        have c10b1 : (t173 != t174) = false := bne_eq_false_iff_eq.mpr c10
        clear c10
        replace H := Option.bind_eq_some_iff.mp H
        obtain ⟨t175, A110, H⟩ := H
        replace H : (if t175 = 0 then (if (t170.length : Int) > 0 then ((customsmade_Within.f a2 (t170.length : Int)).bind fun t176 => (if 0 ≤ t176 then (if t176 < (t170.length : Int) then ((some (t170.set (t176 : Int).toNat (⟨a3_0, a3_1, a3_2⟩ : S25) : List (S25))).bind fun y177 => ((currency_Validate.f k y177).bind fun t178 => ((customsref04_Table.f k y177).bind fun t179 => (if t178 = t179 then ((customslaw05_awake.f k).bind fun t180 => (some t180)) else (some false))))) else (none)) else (none))) else ((currency_Validate.f k t170).bind fun t181 => ((customsref04_Table.f k t170).bind fun t182 => (if t181 = t182 then ((customslaw05_awake.f k).bind fun t183 => (some t183)) else (some false))))) else (some false)) = some r := H
        have A11 := Aside0.mk A110
        clear A110
        by_cases c12 : t175 = 0
        · rw [if_pos c12] at H
          have c12b0 : (t175 == 0) = true := beq_iff_eq.mpr c12
          have c12b1 : (t175 != 0) = false := bne_eq_false_iff_eq.mpr c12
          clear c12
          by_cases c13 : (t170.length : Int) > 0
          · rw [if_pos c13] at H
            have c13b0 : decide (0 < (t170.length : Int)) = true := decide_eq_true c13
            have c13b1 : decide (0 < t170.length) = true := decide_eq_true (by omega)
            clear c13
            replace H := Option.bind_eq_some_iff.mp H
            obtain ⟨t176, A140, H⟩ := H
            replace H : (if 0 ≤ t176 then (if t176 < (t170.length : Int) then ((some (t170.set (t176 : Int).toNat (⟨a3_0, a3_1, a3_2⟩ : S25) : List (S25))).bind fun y177 => ((currency_Validate.f k y177).bind fun t178 => ((customsref04_Table.f k y177).bind fun t179 => (if t178 = t179 then ((customslaw05_awake.f k).bind fun t180 => (some t180)) else (some false))))) else (none)) else (none)) = some r := H
            have A14 := Aside0.mk A140
            clear A140
            by_cases c15 : 0 ≤ t176
            · rw [if_pos c15] at H
              have c15b0 : decide (0 ≤ t176) = true := decide_eq_true c15
              clear c15
              by_cases c16 : t176 < (t170.length : Int)
              · rw [if_pos c16] at H
                have c16b0 : decide (t176 < (t170.length : Int)) = true := decide_eq_true c16
                clear c16
                obtain ⟨y177, hy177⟩ : ∃ y_ : List (S25), y_ = (t170.set (t176 : Int).toNat (⟨a3_0, a3_1, a3_2⟩ : S25)) := ⟨_, rfl⟩
                replace H : ((currency_Validate.f k y177).bind fun t178 => ((customsref04_Table.f k y177).bind fun t179 => (if t178 = t179 then ((customslaw05_awake.f k).bind fun t180 => (some t180)) else (some false)))) = some r := by first | (rw [hy177]; with_reducible exact H) | (have H2_ := (Option.bind_some _ _).symm.trans H; rw [hy177]; with_reducible exact H2_) | (have H2_ := (Option.bind_some _ _).symm.trans H; with_reducible exact H2_) | with_reducible exact H | (rw [hy177]; exact H) | exact H
                have Ny177 := Aside0.mk hy177
                clear hy177
                replace H := Option.bind_eq_some_iff.mp H
                obtain ⟨t178, A180, H⟩ := H
                replace H : ((customsref04_Table.f k y177).bind fun t179 => (if t178 = t179 then ((customslaw05_awake.f k).bind fun t180 => (some t180)) else (some false))) = some r := H
                have A18 := Aside0.mk A180
                clear A180
                replace H := Option.bind_eq_some_iff.mp H
                obtain ⟨t179, A190, H⟩ := H
                replace H : (if t178 = t179 then ((customslaw05_awake.f k).bind fun t180 => (some t180)) else (some false)) = some r := H
                have A19 := Aside0.mk A190
                clear A190
                by_cases c20 : t178 = t179
                · rw [if_pos c20] at H
                  have c20b0 : (t178 == t179) = true := beq_iff_eq.mpr c20
                  have c20b1 : (t178 != t179) = false := bne_eq_false_iff_eq.mpr c20
                  clear c20
                  replace H := Option.bind_eq_some_iff.mp H
                  obtain ⟨t180, A210, H⟩ := H
                  replace H : (some t180) = some r := H
                  have A21 := Aside0.mk A210
                  clear A210
                  obtain rfl := Option.some.inj H
                  go_enter Try.func3, Try.ntmps3
                  try go_wp2_with (first | ((with_reducible refine gate_dst (N := 7) rfl ?_); refine box_event ?hg (N := 7) ?hd (cs := #[.string a3_0, .int .i64 a3_1, .int .i64 a3_2]) (t := 25) ?hr ?_; (case hd => rfl); (case hg => rfl); (case hr => first | (go_simp; done) | (go_simp; rfl)); intro gb165 hg w22 hbox hb; have n0_ := Aside0.mk (below_step (by repeat (first | (with_reducible first | exact HB.out | apply below_alloc | apply pw_below_drewN | apply below_drew1) | exact HB.out)) hb); have n1_ := Aside0.mk (hbox); have n2_ := Aside0.mk ((by rw [hg]; exact (below_size (by repeat (first | (with_reducible first | exact HB.out | apply below_alloc | apply pw_below_drewN | apply below_drew1) | exact HB.out))) : w.heap.size ≤ gb165)); have n3_ := Aside0.mk ((by rw [hg]; exact (below_size (by repeat (first | (with_reducible first | exact HB.out | apply below_alloc | apply pw_below_drewN | apply below_drew1) | exact HB.out))) : w.heap.size ≤ gb165)); clear HB; have HB := n0_; have BK165 := n1_; have GW165 := n2_; have GE165 := n3_; clear n0_ n1_ n2_ n3_; clear hb hbox hg; have q23 : (1100 : Int) ≤ ((l0.length : Int) : Int) := of_decide_eq_true (by first | (with_reducible assumption) | assumption); obtain ⟨i023, hi023, _, hsz23, _⟩ := info_parts info25; have hroom23 : l0.length ≤ c0 := HC0.out; have hC23 : Kd.C k25 _ A0 l0.length l0 := HR0.out; have hcut23 := cut_to (P := Try.prog) 22 25 .i64 Try.underlying22 hi023 A0 l0.length c0 1100 (by omega) q23 hroom23; have hr23 := Kd.C_take (m := 1100) hC23 (by omega); have hy23 : y166.length = (1100 : Int).toNat := (by rw [Ny166.out, List.length_take]; omega); rw [← Ny166.out] at hr23; rw [← hy23] at hcut23; have HR169 := Aside0.mk hr23; have HC169 := Aside0.mk (show y166.length ≤ c0 from by omega); clear hr23 hC23 hroom23 hi023 hsz23; have KY23 := Aside0.mk hy23; clear hy23; replace q23 := eq_true q23) | ((with_reducible refine gate_callee (f := 10) rfl ?_); refine goesL_ (some 16) rfl rfl Try.func10 (by kernel_rfl) rfl #[.slice A1 l1.length c1] rfl (by (try simp only [List.map_toArray, List.map_cons, List.map_nil]); first | done | rfl | (simp only [List.length_drop, List.length_take]; rfl)) ?_; (with_reducible refine (customsmade_Table.calls _ _ l1 t170 _ ?side1 ?side2 A7.out).mono ?_); (case side1 => repeat (first | exact (Kd.C_below HR1.out HB.out) | (with_reducible refine Kd.C_alloc ?_ _) | (with_reducible refine Kd.C_drewN ?_ _) | (with_reducible refine Kd.C_drew ?_))); (case side2 => exact HC1.out); rintro e w24 ⟨v171, rfl, ho0, hb⟩; refine ⟨_, rfl, ?_⟩; have n0_ := Aside0.mk (Kd.R_lower (Kd.R_newB ho0 (g := gb165) (o := .cells #[.string a3_0, .int .i64 a3_1, .int .i64 a3_2] 25 (0, 0)) (by (with_reducible repeat (first | refine blk_drewN ?_ _ | refine blk_drew ?_ | refine blk_alloc ?_ _)); exact BK165.out)) (below_size (by repeat (first | (with_reducible first | exact HB.out | apply below_alloc | apply pw_below_drewN | apply below_drew1 | refine below_set ?_ GE165.out) | exact HB.out)))); have n1_ := Aside0.mk (blk_below (g := gb165) (o := .cells #[.string a3_0, .int .i64 a3_1, .int .i64 a3_2] 25 (0, 0)) (by (with_reducible repeat (first | refine blk_drewN ?_ _ | refine blk_drew ?_ | refine blk_alloc ?_ _)); exact BK165.out) hb); have n2_ := Aside0.mk (below_step (by repeat (first | (with_reducible first | exact HB.out | apply below_alloc | apply pw_below_drewN | apply below_drew1 | refine below_set ?_ GE165.out) | exact HB.out)) hb); clear BK165; clear HB; have HO172 := n0_; have BK165 := n1_; have HB := n2_; clear n0_ n1_ n2_; (try clear hb); (try clear hb2); (try clear hk); (try clear hi); (try clear ho0)) | ((with_reducible refine gate_callee (f := 11) rfl ?_); refine goesL_ (some 18) rfl rfl Try.func11 (by kernel_rfl) rfl #[.slice A0 y166.length c0] rfl (by (try simp only [List.map_toArray, List.map_cons, List.map_nil]); first | done | rfl | (simp only [List.length_drop, List.length_take]; rfl)) ?_; (with_reducible refine (currency_Validate.calls k _ _ y166 t173 _ ?side1 ?side2 A8.out).mono ?_); (case side1 => repeat (first | exact (Kd.C_below HR169.out HB.out) | (with_reducible refine Kd.C_alloc ?_ _) | (with_reducible refine Kd.C_drewN ?_ _) | (with_reducible refine Kd.C_drew ?_))); (case side2 => exact HC169.out); rintro e w25 ⟨rfl, hb⟩; refine ⟨_, rfl, ?_⟩; have n0_ := Aside0.mk (Kd.R_below (by (with_reducible repeat (first | apply Kd.R_alloc | apply Kd.R_drewN | apply Kd.R_drew)); exact HO172.out) hb); have n1_ := Aside0.mk (blk_below (g := gb165) (o := .cells #[.string a3_0, .int .i64 a3_1, .int .i64 a3_2] 25 (0, 0)) (by (with_reducible repeat (first | refine blk_drewN ?_ _ | refine blk_drew ?_ | refine blk_alloc ?_ _)); exact BK165.out) hb); have n2_ := Aside0.mk (below_step (by repeat (first | (with_reducible first | exact HB.out | apply below_alloc | apply pw_below_drewN | apply below_drew1 | refine below_set ?_ GE165.out) | exact HB.out)) hb); clear HO172; clear BK165; clear HB; have HO172 := n0_; have BK165 := n1_; have HB := n2_; clear n0_ n1_ n2_; (try clear hb); (try clear hb2); (try clear hk); (try clear hi)) | ((with_reducible refine gate_callee (f := 12) rfl ?_); refine goesL_ (some 20) rfl rfl Try.func12 (by kernel_rfl) rfl #[.slice A0 y166.length c0] rfl (by (try simp only [List.map_toArray, List.map_cons, List.map_nil]); first | done | rfl | (simp only [List.length_drop, List.length_take]; rfl)) ?_; (with_reducible refine (customsref04_Table.calls k _ _ y166 t174 _ ?side1 ?side2 A9.out).mono ?_); (case side1 => repeat (first | exact (Kd.C_below HR169.out HB.out) | (with_reducible refine Kd.C_alloc ?_ _) | (with_reducible refine Kd.C_drewN ?_ _) | (with_reducible refine Kd.C_drew ?_))); (case side2 => exact HC169.out); rintro e w26 ⟨rfl, hb⟩; refine ⟨_, rfl, ?_⟩; have n0_ := Aside0.mk (Kd.R_below (by (with_reducible repeat (first | apply Kd.R_alloc | apply Kd.R_drewN | apply Kd.R_drew)); exact HO172.out) hb); have n1_ := Aside0.mk (blk_below (g := gb165) (o := .cells #[.string a3_0, .int .i64 a3_1, .int .i64 a3_2] 25 (0, 0)) (by (with_reducible repeat (first | refine blk_drewN ?_ _ | refine blk_drew ?_ | refine blk_alloc ?_ _)); exact BK165.out) hb); have n2_ := Aside0.mk (below_step (by repeat (first | (with_reducible first | exact HB.out | apply below_alloc | apply pw_below_drewN | apply below_drew1 | refine below_set ?_ GE165.out) | exact HB.out)) hb); clear HO172; clear BK165; clear HB; have HO172 := n0_; have BK165 := n1_; have HB := n2_; clear n0_ n1_ n2_; (try clear hb); (try clear hb2); (try clear hk); (try clear hi); obtain ⟨Ao27, co27, eo27⟩ := Kd.R_slice HO172.out; subst eo27) | (go_at_call 11; (with_reducible refine (currency_Validate.calls k _ _ t170 t175 _ ?side1 ?side2 A11.out).mono ?_); (case side1 => repeat (first | exact (Kd.R_reads' HO172.out).2.2 | (with_reducible refine Kd.C_alloc ?_ _) | (with_reducible refine Kd.C_drewN ?_ _) | (with_reducible refine Kd.C_drew ?_))); (case side2 => exact (Kd.R_reads' HO172.out).2.1); rintro e w28 ⟨rfl, hb⟩; have n0_ := Aside0.mk (Kd.R_below (by (with_reducible repeat (first | apply Kd.R_alloc | apply Kd.R_drewN | apply Kd.R_drew)); exact HO172.out) hb); have n1_ := Aside0.mk (blk_below (g := gb165) (o := .cells #[.string a3_0, .int .i64 a3_1, .int .i64 a3_2] 25 (0, 0)) (by (with_reducible repeat (first | refine blk_drewN ?_ _ | refine blk_drew ?_ | refine blk_alloc ?_ _)); exact BK165.out) hb); have n2_ := Aside0.mk (below_step (by repeat (first | (with_reducible first | exact HB.out | apply below_alloc | apply pw_below_drewN | apply below_drew1 | refine below_set ?_ GE165.out) | exact HB.out)) hb); clear HO172; clear BK165; clear HB; have HO172 := n0_; have BK165 := n1_; have HB := n2_; clear n0_ n1_ n2_; (try clear hb); (try clear hb2); (try clear hk); (try clear hi)))
                  have n0_ := Aside0.mk (Kd.R_drew HO172.out)
                  have n1_ := Aside0.mk (blk_drew BK165.out)
                  have n2_ := Aside0.mk (below_drew1 HB.out)
                  clear HO172
                  clear BK165
                  clear HB
                  have HO172 := n0_
                  have BK165 := n1_
                  have HB := n2_
                  clear n0_ n1_ n2_
                  refine start_ (n := 8) (S := fun w' => w'.cell? ⟨gb165, 0, none⟩ = some (.string a3_0) ∧ w'.cell? ⟨gb165, 1, none⟩ = some (.int .i64 a3_1) ∧ w'.cell? ⟨gb165, 2, none⟩ = some (.int .i64 a3_2)) (ds := [7]) #[false, false, false, false, false, false, false, false] (by kernel_rfl) rfl rfl ⟨(blk_cell BK165.out 0).trans rfl, (blk_cell BK165.out 1).trans rfl, (blk_cell BK165.out 2).trans rfl⟩ (fun hHeld => ?_); refine with_tabW customslaw05_CurrencyValidate.tab7 customslaw05_CurrencyValidate.bits7 (fun HT_ HW_ => ?_)
                  generalize w28.drew = w29 at HO172 BK165 HB hHeld ⊢
                  refine pure_ (i := 0) (N := some 30) (v := ?_) (a' := ?_) #[true, false, false, false, false, false, false, false] rfl rfl (any_of HT_.out (by kernel_rfl)) (fun _ _ _ h => h) (Or.inl ⟨by rfl, ?_⟩) ?_ ?_
                  rotate_left
                  · intro w'
                    go_simp
                    with_reducible rfl
                  rotate_left
                  · simp only [Act.put, List.setIfInBounds_toArray, List.set_cons_zero, List.set_cons_succ, i64_w, i32_w]
                    rfl
                  refine pure_ (i := 1) (N := some 31) (v := ?_) (a' := ?_) #[true, true, false, false, false, false, false, false] rfl rfl (any_of HT_.out (by kernel_rfl)) (fun _ _ _ h => h) (Or.inl ⟨by rfl, ?_⟩) ?_ ?_
                  rotate_left
                  · intro w'
                    go_simp
                    with_reducible rfl
                  rotate_left
                  · simp only [Act.put, List.setIfInBounds_toArray, List.set_cons_zero, List.set_cons_succ, i64_w, i32_w]
                    rfl
                  refine pure_ (i := 2) (N := some 32) (v := ?_) (a' := ?_) #[true, true, true, false, false, false, false, false] rfl rfl (any_of HT_.out (by kernel_rfl)) (fun _ _ _ h => h) (Or.inl ⟨by rfl, ?_⟩) ?_ ?_
                  rotate_left
                  · intro w'
                    go_simp
                    with_reducible rfl
                  rotate_left
                  · simp only [Act.put, List.setIfInBounds_toArray, List.set_cons_zero, List.set_cons_succ, i64_w, i32_w]
                    rfl
                  refine pure_ (i := 3) (N := some 33) (v := ?_) (a' := ?_) #[true, true, true, true, false, false, false, false] rfl rfl (any_of HT_.out (by kernel_rfl)) (fun _ _ _ h => h) (Or.inl ⟨by rfl, ?_⟩) ?_ ?_
                  rotate_left
                  · intro w'
                    go_simp
                    with_reducible rfl
                  rotate_left
                  · simp only [Act.put, List.setIfInBounds_toArray, List.set_cons_zero, List.set_cons_succ, i64_w, i32_w]
                    rfl
                  refine take_ (i := 5) (N := some 35) (v := ?_) (a' := ?_) #[true, true, true, true, false, true, false, false] rfl rfl (take_ofW HT_.out HW_.out (by kernel_rfl)) (fun _ _ _ h => h) (Or.inl ⟨by rfl, ?_⟩) hHeld ?_ ?_
                  rotate_left
                  · rintro w' ⟨s0, s1, s2⟩
                    go_simp
                    with_reducible rfl
                  rotate_left
                  · simp only [Act.put, List.setIfInBounds_toArray, List.set_cons_zero, List.set_cons_succ, i64_w, i32_w]
                    rfl
                  refine one_ (i := 4) (N := some 34) #[true, true, true, true, true, true, false, false] rfl rfl (one_of HT_.out (by kernel_rfl)) (by decide) (fun K hK => ?_)
                  refine goes_ Try.func13 (by kernel_rfl) rfl #[.int .i64 a2, .int .i64 (t170.length : Int)] (by rfl) rfl rfl (by (try simp only [List.map_toArray, List.map_cons, List.map_nil]); first | done | rfl | (simp only [List.length_drop, List.length_take]; rfl)) ?_
                  with_reducible refine (customsmade_Within.calls a2 (t170.length : Int) t176 _ A14.out).mono ?_
                  rintro e w' ⟨rfl, ⟨nd, rfl⟩⟩
                  refine ⟨_, rfl, ?_⟩
                  have p17 : 0 ≤ (t176 : Int) := of_decide_eq_true (by first | (with_reducible assumption) | assumption)
                  have q17 : (t176 : Int) < ((t170.length : Int) : Int) := of_decide_eq_true (by first | (with_reducible assumption) | assumption)
                  obtain ⟨go17, co17, eo17, gb17, gl17, cl17, HG17⟩ := Kd.R_form HO172.out (by omega)
                  (first | cases eo17 | (injection eo17 with ea_ en_ ec_; (first | subst ea_ | (injection ea_ with ea_; subst ea_)); subst ec_; clear en_))
                  have GB17 := Aside0.mk gb17
                  have GG17 := Aside0.mk HG17
                  clear gb17 gl17 HG17
                  obtain ⟨ce17, hcl17, hM17, hcc17, hfr17⟩ := Kd.R_elem HO172.out z25 (t176 : Int) p17 q17
                  obtain rfl := k25_openM hM17
                  have hx17_0 : World.cell? _ ⟨go17, (t176 : Int).toNat * 3, none⟩ = some (.string ((rd_T25 t170 t176).f0)) := hcc17 0 _ rfl
                  have hx17_1 : World.cell? _ ⟨go17, (t176 : Int).toNat * 3 + 1, none⟩ = some (.int .i64 ((rd_T25 t170 t176).f1)) := hcc17 1 _ rfl
                  have hx17_2 : World.cell? _ ⟨go17, (t176 : Int).toNat * 3 + 2, none⟩ = some (.int .i64 ((rd_T25 t170 t176).f2)) := hcc17 2 _ rfl
                  have hf17_0 : World.frozen? _ ⟨go17, (t176 : Int).toNat * 3, none⟩ = false := hfr17 0
                  have hf17_1 : World.frozen? _ ⟨go17, (t176 : Int).toNat * 3 + 1, none⟩ = false := hfr17 1
                  have hf17_2 : World.frozen? _ ⟨go17, (t176 : Int).toNat * 3 + 2, none⟩ = false := hfr17 2
                  clear hcl17 hcc17 hfr17 hM17
                  replace p17 := eq_true p17
                  replace q17 := eq_true q17
                  obtain ⟨ce30, hcl30, hM30, hcc30, hfr30⟩ := Kd.R_elem HO172.out z25 (t176 : Int) (of_decide_eq_true (by first | (with_reducible assumption) | assumption)) (by have h_ : (t176 : Int) < ((t170.length : Int) : Int) := of_decide_eq_true (by first | (with_reducible assumption) | assumption); first | exact h_ | (have e_ := (Kd.R_reads' HO172.out).1; omega) | simpa using h_)
                  obtain rfl := k25_openM hM30
                  have HP30 := (Kd.R_seg HO172.out (t176 : Int) (of_decide_eq_true (by first | (with_reducible assumption) | assumption)) (by have h_ : (t176 : Int) < ((t170.length : Int) : Int) := of_decide_eq_true (by first | (with_reducible assumption) | assumption); first | exact h_ | (have e_ := (Kd.R_reads' HO172.out).1; omega) | simpa using h_) (seg := [.string a3_0, .int .i64 a3_1, .int .i64 a3_2]) (j := 0) hcl30 hcc30 (show 3 ≤ 3 from by decide) (x' := (⟨a3_0, a3_1, a3_2⟩ : S25)) (k25_mkM _ _ _ (⟨a3_0, a3_1, a3_2⟩ : S25) ) (fun _ hk => hk)).1
                  rw [← Ny177.out] at HP30
                  have HQ30 := Aside0.mk HP30
                  clear hcl30 hcc30 hfr30 hM30 HP30
                  refine hK.out _ _ ⟨(blk_cell BK165.out 0).trans rfl, (blk_cell BK165.out 1).trans rfl, (blk_cell BK165.out 2).trans rfl⟩ (fun hHeld => ?_)
                  clear hK K
                  refine norm_ (a' := ?_) ?_ ?_
                  rotate_left
                  · show Act.put _ (some 34) _ = _
                    simp only [Act.put, List.setIfInBounds_toArray, List.set_cons_zero, List.set_cons_succ, i64_w, i32_w]
                    rfl
                  refine pure_ (i := 6) (N := some 36) (v := ?_) (a' := ?_) #[true, true, true, true, true, true, true, false] rfl rfl (any_of HT_.out (by kernel_rfl)) (fun _ _ _ h => h) (Or.inl ⟨by rfl, ?_⟩) ?_ ?_
                  rotate_left
                  · intro w'
                    go_simp
                    with_reducible rfl
                  rotate_left
                  · simp only [Act.put, List.setIfInBounds_toArray, List.set_cons_zero, List.set_cons_succ, i64_w, i32_w]
                    rfl
                  refine last_ (i := 7) (N := none) #[true, true, true, true, true, true, true, true] rfl rfl (one_of HT_.out (by kernel_rfl)) (by decide) (fun K hK => ?_)
                  refine skip_ (w1 := ?_) (by rfl) rfl ?_ ?_
                  rotate_left
                  · go_simp
                    rfl
                  refine hK.out _ _ ?_
                  clear hK K
                  refine done_ (done_of HT_.out (by kernel_rfl)) ?_
                  try go_wp2_with (first | ((with_reducible refine gate_callee (f := 11) rfl ?_); refine goesL_ (some 38) rfl rfl Try.func11 (by kernel_rfl) rfl #[.slice (some ⟨go17, 0, none⟩) y177.length co27] rfl (by (try simp only [List.map_toArray, List.map_cons, List.map_nil]); first | done | (rw [show y177.length = t170.length from (Kd.R_reads' HQ30.out).1.symm] <;> rfl) | rfl | (simp only [List.length_drop, List.length_take]; rfl)) ?_; (with_reducible refine (currency_Validate.calls k _ _ y177 t178 _ ?side1 ?side2 A18.out).mono ?_); (case side1 => refine (Kd.R_reads' (e := 25) (base := w.heap.size) (ok := fun k_ => (True ∧ k_ ≠ gb165)) (n := t170.length) (c := co27) ?_).2.2; exact (by (with_reducible repeat (first | apply Kd.R_alloc | apply Kd.R_drewN | apply Kd.R_drew)); exact HQ30.out)); (case side2 => rw [show y177.length = t170.length from (Kd.R_reads' HQ30.out).1.symm]; exact (Kd.R_reads' HO172.out).2.1); rintro e w31 ⟨rfl, hb⟩; refine ⟨_, rfl, ?_⟩; have n0_ := Aside0.mk (Kd.R_below (by (with_reducible repeat (first | apply Kd.R_alloc | apply Kd.R_drewN | apply Kd.R_drew)); exact HQ30.out) hb); have n1_ := Aside0.mk (blk_below (g := gb165) (o := .cells #[.string a3_0, .int .i64 a3_1, .int .i64 a3_2] 25 (0, 0)) (by (with_reducible repeat (first | refine blk_drewN ?_ _ | refine blk_drew ?_ | refine blk_alloc ?_ _)); refine blk_far ?_ (by have h_ := Kd.R_away HO172.out (fun _ hk => hk.2); intro e_; exact h_ (by rw [e_]; rfl)) _; (with_reducible repeat (first | refine blk_drewN ?_ _ | refine blk_drew ?_ | refine blk_alloc ?_ _)); refine blk_far ?_ (by have h_ := Kd.R_away HO172.out (fun _ hk => hk.2); intro e_; exact h_ (by rw [e_]; rfl)) _; (with_reducible repeat (first | refine blk_drewN ?_ _ | refine blk_drew ?_ | refine blk_alloc ?_ _)); refine blk_far ?_ (by have h_ := Kd.R_away HO172.out (fun _ hk => hk.2); intro e_; exact h_ (by rw [e_]; rfl)) _; (with_reducible repeat (first | refine blk_drewN ?_ _ | refine blk_drew ?_ | refine blk_alloc ?_ _)); exact BK165.out) hb); have n2_ := Aside0.mk (below_step (by repeat (first | (with_reducible first | exact HB.out | apply below_alloc | apply pw_below_drewN | apply below_drew1 | refine below_set ?_ GB17.out | refine below_set ?_ GB17.out | refine below_set ?_ GB17.out | refine below_set ?_ GE165.out) | exact HB.out)) hb); clear HO172; clear BK165; clear HB; have HO172 := n0_; have BK165 := n1_; have HB := n2_; clear n0_ n1_ n2_; (try clear hb); (try clear hb2); (try clear hk); (try clear hi)) | ((with_reducible refine gate_callee (f := 12) rfl ?_); refine goesL_ (some 40) rfl rfl Try.func12 (by kernel_rfl) rfl #[.slice (some ⟨go17, 0, none⟩) y177.length co27] rfl (by (try simp only [List.map_toArray, List.map_cons, List.map_nil]); first | done | (rw [show y177.length = t170.length from (Kd.R_reads' HO172.out).1.symm] <;> rfl) | rfl | (simp only [List.length_drop, List.length_take]; rfl)) ?_; (with_reducible refine (customsref04_Table.calls k _ _ y177 t179 _ ?side1 ?side2 A19.out).mono ?_); (case side1 => repeat (first | exact (Kd.R_reads' HO172.out).2.2 | (with_reducible refine Kd.C_alloc ?_ _) | (with_reducible refine Kd.C_drewN ?_ _) | (with_reducible refine Kd.C_drew ?_))); (case side2 => rw [show y177.length = t170.length from (Kd.R_reads' HO172.out).1.symm]; exact (Kd.R_reads' HO172.out).2.1); rintro e w32 ⟨rfl, hb⟩; refine ⟨_, rfl, ?_⟩; have n0_ := Aside0.mk (Kd.R_below (by (with_reducible repeat (first | apply Kd.R_alloc | apply Kd.R_drewN | apply Kd.R_drew)); exact HO172.out) hb); have n1_ := Aside0.mk (blk_below (g := gb165) (o := .cells #[.string a3_0, .int .i64 a3_1, .int .i64 a3_2] 25 (0, 0)) (by (with_reducible repeat (first | refine blk_drewN ?_ _ | refine blk_drew ?_ | refine blk_alloc ?_ _)); exact BK165.out) hb); have n2_ := Aside0.mk (below_step (by repeat (first | (with_reducible first | exact HB.out | apply below_alloc | apply pw_below_drewN | apply below_drew1 | refine below_set ?_ GE165.out) | exact HB.out)) hb); clear HO172; clear BK165; clear HB; have HO172 := n0_; have BK165 := n1_; have HB := n2_; clear n0_ n1_ n2_; (try clear hb); (try clear hb2); (try clear hk); (try clear hi)) | (go_at_call 14; (with_reducible refine (customslaw05_awake.calls k  t180 _ A21.out).mono ?_); rintro e w33 ⟨rfl, hb⟩; have n0_ := Aside0.mk (Kd.R_below (by (with_reducible repeat (first | apply Kd.R_alloc | apply Kd.R_drewN | apply Kd.R_drew)); exact HO172.out) hb); have n1_ := Aside0.mk (blk_below (g := gb165) (o := .cells #[.string a3_0, .int .i64 a3_1, .int .i64 a3_2] 25 (0, 0)) (by (with_reducible repeat (first | refine blk_drewN ?_ _ | refine blk_drew ?_ | refine blk_alloc ?_ _)); exact BK165.out) hb); have n2_ := Aside0.mk (below_step (by repeat (first | (with_reducible first | exact HB.out | apply below_alloc | apply pw_below_drewN | apply below_drew1 | refine below_set ?_ GE165.out) | exact HB.out)) hb); clear HO172; clear BK165; clear HB; have HO172 := n0_; have BK165 := n1_; have HB := n2_; clear n0_ n1_ n2_; (try clear hb); (try clear hb2); (try clear hk); (try clear hi)))
                  go_ret
                  exact ⟨by first | rfl | (simp [errW_none, errW_some] <;> rfl) | (simp [*, errW_none, errW_some] <;> rfl) | (simp (disch := first | assumption | omega) only [Int.tdiv_eq_ediv_of_nonneg, Int.tmod_eq_emod_of_nonneg]; rfl), by repeat (first | (with_reducible first | exact HB.out | apply below_alloc | apply pw_below_drewN | apply below_drew1 | refine below_set ?_ GE165.out) | exact HB.out)⟩
                · rw [if_neg c20] at H
                  have c20b0 : (t178 == t179) = false := beq_eq_false_iff_ne.mpr c20
                  have c20b1 : (t178 != t179) = true := bne_iff_ne.mpr c20
                  obtain rfl := Option.some.inj H
                  go_enter Try.func3, Try.ntmps3
                  try go_wp2_with (first | ((with_reducible refine gate_dst (N := 7) rfl ?_); refine box_event ?hg (N := 7) ?hd (cs := #[.string a3_0, .int .i64 a3_1, .int .i64 a3_2]) (t := 25) ?hr ?_; (case hd => rfl); (case hg => rfl); (case hr => first | (go_simp; done) | (go_simp; rfl)); intro gb165 hg w34 hbox hb; have n0_ := Aside0.mk (below_step (by repeat (first | (with_reducible first | exact HB.out | apply below_alloc | apply pw_below_drewN | apply below_drew1) | exact HB.out)) hb); have n1_ := Aside0.mk (hbox); have n2_ := Aside0.mk ((by rw [hg]; exact (below_size (by repeat (first | (with_reducible first | exact HB.out | apply below_alloc | apply pw_below_drewN | apply below_drew1) | exact HB.out))) : w.heap.size ≤ gb165)); have n3_ := Aside0.mk ((by rw [hg]; exact (below_size (by repeat (first | (with_reducible first | exact HB.out | apply below_alloc | apply pw_below_drewN | apply below_drew1) | exact HB.out))) : w.heap.size ≤ gb165)); clear HB; have HB := n0_; have BK165 := n1_; have GW165 := n2_; have GE165 := n3_; clear n0_ n1_ n2_ n3_; clear hb hbox hg; have q35 : (1100 : Int) ≤ ((l0.length : Int) : Int) := of_decide_eq_true (by first | (with_reducible assumption) | assumption); obtain ⟨i035, hi035, _, hsz35, _⟩ := info_parts info25; have hroom35 : l0.length ≤ c0 := HC0.out; have hC35 : Kd.C k25 _ A0 l0.length l0 := HR0.out; have hcut35 := cut_to (P := Try.prog) 22 25 .i64 Try.underlying22 hi035 A0 l0.length c0 1100 (by omega) q35 hroom35; have hr35 := Kd.C_take (m := 1100) hC35 (by omega); have hy35 : y166.length = (1100 : Int).toNat := (by rw [Ny166.out, List.length_take]; omega); rw [← Ny166.out] at hr35; rw [← hy35] at hcut35; have HR169 := Aside0.mk hr35; have HC169 := Aside0.mk (show y166.length ≤ c0 from by omega); clear hr35 hC35 hroom35 hi035 hsz35; have KY35 := Aside0.mk hy35; clear hy35; replace q35 := eq_true q35) | ((with_reducible refine gate_callee (f := 10) rfl ?_); refine goesL_ (some 16) rfl rfl Try.func10 (by kernel_rfl) rfl #[.slice A1 l1.length c1] rfl (by (try simp only [List.map_toArray, List.map_cons, List.map_nil]); first | done | rfl | (simp only [List.length_drop, List.length_take]; rfl)) ?_; (with_reducible refine (customsmade_Table.calls _ _ l1 t170 _ ?side1 ?side2 A7.out).mono ?_); (case side1 => repeat (first | exact (Kd.C_below HR1.out HB.out) | (with_reducible refine Kd.C_alloc ?_ _) | (with_reducible refine Kd.C_drewN ?_ _) | (with_reducible refine Kd.C_drew ?_))); (case side2 => exact HC1.out); rintro e w36 ⟨v171, rfl, ho0, hb⟩; refine ⟨_, rfl, ?_⟩; have n0_ := Aside0.mk (Kd.R_lower (Kd.R_newB ho0 (g := gb165) (o := .cells #[.string a3_0, .int .i64 a3_1, .int .i64 a3_2] 25 (0, 0)) (by (with_reducible repeat (first | refine blk_drewN ?_ _ | refine blk_drew ?_ | refine blk_alloc ?_ _)); exact BK165.out)) (below_size (by repeat (first | (with_reducible first | exact HB.out | apply below_alloc | apply pw_below_drewN | apply below_drew1 | refine below_set ?_ GE165.out) | exact HB.out)))); have n1_ := Aside0.mk (blk_below (g := gb165) (o := .cells #[.string a3_0, .int .i64 a3_1, .int .i64 a3_2] 25 (0, 0)) (by (with_reducible repeat (first | refine blk_drewN ?_ _ | refine blk_drew ?_ | refine blk_alloc ?_ _)); exact BK165.out) hb); have n2_ := Aside0.mk (below_step (by repeat (first | (with_reducible first | exact HB.out | apply below_alloc | apply pw_below_drewN | apply below_drew1 | refine below_set ?_ GE165.out) | exact HB.out)) hb); clear BK165; clear HB; have HO172 := n0_; have BK165 := n1_; have HB := n2_; clear n0_ n1_ n2_; (try clear hb); (try clear hb2); (try clear hk); (try clear hi); (try clear ho0)) | ((with_reducible refine gate_callee (f := 11) rfl ?_); refine goesL_ (some 18) rfl rfl Try.func11 (by kernel_rfl) rfl #[.slice A0 y166.length c0] rfl (by (try simp only [List.map_toArray, List.map_cons, List.map_nil]); first | done | rfl | (simp only [List.length_drop, List.length_take]; rfl)) ?_; (with_reducible refine (currency_Validate.calls k _ _ y166 t173 _ ?side1 ?side2 A8.out).mono ?_); (case side1 => repeat (first | exact (Kd.C_below HR169.out HB.out) | (with_reducible refine Kd.C_alloc ?_ _) | (with_reducible refine Kd.C_drewN ?_ _) | (with_reducible refine Kd.C_drew ?_))); (case side2 => exact HC169.out); rintro e w37 ⟨rfl, hb⟩; refine ⟨_, rfl, ?_⟩; have n0_ := Aside0.mk (Kd.R_below (by (with_reducible repeat (first | apply Kd.R_alloc | apply Kd.R_drewN | apply Kd.R_drew)); exact HO172.out) hb); have n1_ := Aside0.mk (blk_below (g := gb165) (o := .cells #[.string a3_0, .int .i64 a3_1, .int .i64 a3_2] 25 (0, 0)) (by (with_reducible repeat (first | refine blk_drewN ?_ _ | refine blk_drew ?_ | refine blk_alloc ?_ _)); exact BK165.out) hb); have n2_ := Aside0.mk (below_step (by repeat (first | (with_reducible first | exact HB.out | apply below_alloc | apply pw_below_drewN | apply below_drew1 | refine below_set ?_ GE165.out) | exact HB.out)) hb); clear HO172; clear BK165; clear HB; have HO172 := n0_; have BK165 := n1_; have HB := n2_; clear n0_ n1_ n2_; (try clear hb); (try clear hb2); (try clear hk); (try clear hi)) | ((with_reducible refine gate_callee (f := 12) rfl ?_); refine goesL_ (some 20) rfl rfl Try.func12 (by kernel_rfl) rfl #[.slice A0 y166.length c0] rfl (by (try simp only [List.map_toArray, List.map_cons, List.map_nil]); first | done | rfl | (simp only [List.length_drop, List.length_take]; rfl)) ?_; (with_reducible refine (customsref04_Table.calls k _ _ y166 t174 _ ?side1 ?side2 A9.out).mono ?_); (case side1 => repeat (first | exact (Kd.C_below HR169.out HB.out) | (with_reducible refine Kd.C_alloc ?_ _) | (with_reducible refine Kd.C_drewN ?_ _) | (with_reducible refine Kd.C_drew ?_))); (case side2 => exact HC169.out); rintro e w38 ⟨rfl, hb⟩; refine ⟨_, rfl, ?_⟩; have n0_ := Aside0.mk (Kd.R_below (by (with_reducible repeat (first | apply Kd.R_alloc | apply Kd.R_drewN | apply Kd.R_drew)); exact HO172.out) hb); have n1_ := Aside0.mk (blk_below (g := gb165) (o := .cells #[.string a3_0, .int .i64 a3_1, .int .i64 a3_2] 25 (0, 0)) (by (with_reducible repeat (first | refine blk_drewN ?_ _ | refine blk_drew ?_ | refine blk_alloc ?_ _)); exact BK165.out) hb); have n2_ := Aside0.mk (below_step (by repeat (first | (with_reducible first | exact HB.out | apply below_alloc | apply pw_below_drewN | apply below_drew1 | refine below_set ?_ GE165.out) | exact HB.out)) hb); clear HO172; clear BK165; clear HB; have HO172 := n0_; have BK165 := n1_; have HB := n2_; clear n0_ n1_ n2_; (try clear hb); (try clear hb2); (try clear hk); (try clear hi); obtain ⟨Ao39, co39, eo39⟩ := Kd.R_slice HO172.out; subst eo39) | (go_at_call 11; (with_reducible refine (currency_Validate.calls k _ _ t170 t175 _ ?side1 ?side2 A11.out).mono ?_); (case side1 => repeat (first | exact (Kd.R_reads' HO172.out).2.2 | (with_reducible refine Kd.C_alloc ?_ _) | (with_reducible refine Kd.C_drewN ?_ _) | (with_reducible refine Kd.C_drew ?_))); (case side2 => exact (Kd.R_reads' HO172.out).2.1); rintro e w40 ⟨rfl, hb⟩; have n0_ := Aside0.mk (Kd.R_below (by (with_reducible repeat (first | apply Kd.R_alloc | apply Kd.R_drewN | apply Kd.R_drew)); exact HO172.out) hb); have n1_ := Aside0.mk (blk_below (g := gb165) (o := .cells #[.string a3_0, .int .i64 a3_1, .int .i64 a3_2] 25 (0, 0)) (by (with_reducible repeat (first | refine blk_drewN ?_ _ | refine blk_drew ?_ | refine blk_alloc ?_ _)); exact BK165.out) hb); have n2_ := Aside0.mk (below_step (by repeat (first | (with_reducible first | exact HB.out | apply below_alloc | apply pw_below_drewN | apply below_drew1 | refine below_set ?_ GE165.out) | exact HB.out)) hb); clear HO172; clear BK165; clear HB; have HO172 := n0_; have BK165 := n1_; have HB := n2_; clear n0_ n1_ n2_; (try clear hb); (try clear hb2); (try clear hk); (try clear hi)))
                  have n0_ := Aside0.mk (Kd.R_drew HO172.out)
                  have n1_ := Aside0.mk (blk_drew BK165.out)
                  have n2_ := Aside0.mk (below_drew1 HB.out)
                  clear HO172
                  clear BK165
                  clear HB
                  have HO172 := n0_
                  have BK165 := n1_
                  have HB := n2_
                  clear n0_ n1_ n2_
                  refine start_ (n := 8) (S := fun w' => w'.cell? ⟨gb165, 0, none⟩ = some (.string a3_0) ∧ w'.cell? ⟨gb165, 1, none⟩ = some (.int .i64 a3_1) ∧ w'.cell? ⟨gb165, 2, none⟩ = some (.int .i64 a3_2)) (ds := [7]) #[false, false, false, false, false, false, false, false] (by kernel_rfl) rfl rfl ⟨(blk_cell BK165.out 0).trans rfl, (blk_cell BK165.out 1).trans rfl, (blk_cell BK165.out 2).trans rfl⟩ (fun hHeld => ?_); refine with_tabW customslaw05_CurrencyValidate.tab7 customslaw05_CurrencyValidate.bits7 (fun HT_ HW_ => ?_)
                  generalize w40.drew = w41 at HO172 BK165 HB hHeld ⊢
                  refine pure_ (i := 0) (N := some 30) (v := ?_) (a' := ?_) #[true, false, false, false, false, false, false, false] rfl rfl (any_of HT_.out (by kernel_rfl)) (fun _ _ _ h => h) (Or.inl ⟨by rfl, ?_⟩) ?_ ?_
                  rotate_left
                  · intro w'
                    go_simp
                    with_reducible rfl
                  rotate_left
                  · simp only [Act.put, List.setIfInBounds_toArray, List.set_cons_zero, List.set_cons_succ, i64_w, i32_w]
                    rfl
                  refine pure_ (i := 1) (N := some 31) (v := ?_) (a' := ?_) #[true, true, false, false, false, false, false, false] rfl rfl (any_of HT_.out (by kernel_rfl)) (fun _ _ _ h => h) (Or.inl ⟨by rfl, ?_⟩) ?_ ?_
                  rotate_left
                  · intro w'
                    go_simp
                    with_reducible rfl
                  rotate_left
                  · simp only [Act.put, List.setIfInBounds_toArray, List.set_cons_zero, List.set_cons_succ, i64_w, i32_w]
                    rfl
                  refine pure_ (i := 2) (N := some 32) (v := ?_) (a' := ?_) #[true, true, true, false, false, false, false, false] rfl rfl (any_of HT_.out (by kernel_rfl)) (fun _ _ _ h => h) (Or.inl ⟨by rfl, ?_⟩) ?_ ?_
                  rotate_left
                  · intro w'
                    go_simp
                    with_reducible rfl
                  rotate_left
                  · simp only [Act.put, List.setIfInBounds_toArray, List.set_cons_zero, List.set_cons_succ, i64_w, i32_w]
                    rfl
                  refine pure_ (i := 3) (N := some 33) (v := ?_) (a' := ?_) #[true, true, true, true, false, false, false, false] rfl rfl (any_of HT_.out (by kernel_rfl)) (fun _ _ _ h => h) (Or.inl ⟨by rfl, ?_⟩) ?_ ?_
                  rotate_left
                  · intro w'
                    go_simp
                    with_reducible rfl
                  rotate_left
                  · simp only [Act.put, List.setIfInBounds_toArray, List.set_cons_zero, List.set_cons_succ, i64_w, i32_w]
                    rfl
                  refine take_ (i := 5) (N := some 35) (v := ?_) (a' := ?_) #[true, true, true, true, false, true, false, false] rfl rfl (take_ofW HT_.out HW_.out (by kernel_rfl)) (fun _ _ _ h => h) (Or.inl ⟨by rfl, ?_⟩) hHeld ?_ ?_
                  rotate_left
                  · rintro w' ⟨s0, s1, s2⟩
                    go_simp
                    with_reducible rfl
                  rotate_left
                  · simp only [Act.put, List.setIfInBounds_toArray, List.set_cons_zero, List.set_cons_succ, i64_w, i32_w]
                    rfl
                  refine one_ (i := 4) (N := some 34) #[true, true, true, true, true, true, false, false] rfl rfl (one_of HT_.out (by kernel_rfl)) (by decide) (fun K hK => ?_)
                  refine goes_ Try.func13 (by kernel_rfl) rfl #[.int .i64 a2, .int .i64 (t170.length : Int)] (by rfl) rfl rfl (by (try simp only [List.map_toArray, List.map_cons, List.map_nil]); first | done | rfl | (simp only [List.length_drop, List.length_take]; rfl)) ?_
                  with_reducible refine (customsmade_Within.calls a2 (t170.length : Int) t176 _ A14.out).mono ?_
                  rintro e w' ⟨rfl, ⟨nd, rfl⟩⟩
                  refine ⟨_, rfl, ?_⟩
                  have p17 : 0 ≤ (t176 : Int) := of_decide_eq_true (by first | (with_reducible assumption) | assumption)
                  have q17 : (t176 : Int) < ((t170.length : Int) : Int) := of_decide_eq_true (by first | (with_reducible assumption) | assumption)
                  obtain ⟨go17, co17, eo17, gb17, gl17, cl17, HG17⟩ := Kd.R_form HO172.out (by omega)
                  (first | cases eo17 | (injection eo17 with ea_ en_ ec_; (first | subst ea_ | (injection ea_ with ea_; subst ea_)); subst ec_; clear en_))
                  have GB17 := Aside0.mk gb17
                  have GG17 := Aside0.mk HG17
                  clear gb17 gl17 HG17
                  obtain ⟨ce17, hcl17, hM17, hcc17, hfr17⟩ := Kd.R_elem HO172.out z25 (t176 : Int) p17 q17
                  obtain rfl := k25_openM hM17
                  have hx17_0 : World.cell? _ ⟨go17, (t176 : Int).toNat * 3, none⟩ = some (.string ((rd_T25 t170 t176).f0)) := hcc17 0 _ rfl
                  have hx17_1 : World.cell? _ ⟨go17, (t176 : Int).toNat * 3 + 1, none⟩ = some (.int .i64 ((rd_T25 t170 t176).f1)) := hcc17 1 _ rfl
                  have hx17_2 : World.cell? _ ⟨go17, (t176 : Int).toNat * 3 + 2, none⟩ = some (.int .i64 ((rd_T25 t170 t176).f2)) := hcc17 2 _ rfl
                  have hf17_0 : World.frozen? _ ⟨go17, (t176 : Int).toNat * 3, none⟩ = false := hfr17 0
                  have hf17_1 : World.frozen? _ ⟨go17, (t176 : Int).toNat * 3 + 1, none⟩ = false := hfr17 1
                  have hf17_2 : World.frozen? _ ⟨go17, (t176 : Int).toNat * 3 + 2, none⟩ = false := hfr17 2
                  clear hcl17 hcc17 hfr17 hM17
                  replace p17 := eq_true p17
                  replace q17 := eq_true q17
                  obtain ⟨ce42, hcl42, hM42, hcc42, hfr42⟩ := Kd.R_elem HO172.out z25 (t176 : Int) (of_decide_eq_true (by first | (with_reducible assumption) | assumption)) (by have h_ : (t176 : Int) < ((t170.length : Int) : Int) := of_decide_eq_true (by first | (with_reducible assumption) | assumption); first | exact h_ | (have e_ := (Kd.R_reads' HO172.out).1; omega) | simpa using h_)
                  obtain rfl := k25_openM hM42
                  have HP42 := (Kd.R_seg HO172.out (t176 : Int) (of_decide_eq_true (by first | (with_reducible assumption) | assumption)) (by have h_ : (t176 : Int) < ((t170.length : Int) : Int) := of_decide_eq_true (by first | (with_reducible assumption) | assumption); first | exact h_ | (have e_ := (Kd.R_reads' HO172.out).1; omega) | simpa using h_) (seg := [.string a3_0, .int .i64 a3_1, .int .i64 a3_2]) (j := 0) hcl42 hcc42 (show 3 ≤ 3 from by decide) (x' := (⟨a3_0, a3_1, a3_2⟩ : S25)) (k25_mkM _ _ _ (⟨a3_0, a3_1, a3_2⟩ : S25) ) (fun _ hk => hk)).1
                  rw [← Ny177.out] at HP42
                  have HQ42 := Aside0.mk HP42
                  clear hcl42 hcc42 hfr42 hM42 HP42
                  refine hK.out _ _ ⟨(blk_cell BK165.out 0).trans rfl, (blk_cell BK165.out 1).trans rfl, (blk_cell BK165.out 2).trans rfl⟩ (fun hHeld => ?_)
                  clear hK K
                  refine norm_ (a' := ?_) ?_ ?_
                  rotate_left
                  · show Act.put _ (some 34) _ = _
                    simp only [Act.put, List.setIfInBounds_toArray, List.set_cons_zero, List.set_cons_succ, i64_w, i32_w]
                    rfl
                  refine pure_ (i := 6) (N := some 36) (v := ?_) (a' := ?_) #[true, true, true, true, true, true, true, false] rfl rfl (any_of HT_.out (by kernel_rfl)) (fun _ _ _ h => h) (Or.inl ⟨by rfl, ?_⟩) ?_ ?_
                  rotate_left
                  · intro w'
                    go_simp
                    with_reducible rfl
                  rotate_left
                  · simp only [Act.put, List.setIfInBounds_toArray, List.set_cons_zero, List.set_cons_succ, i64_w, i32_w]
                    rfl
                  refine last_ (i := 7) (N := none) #[true, true, true, true, true, true, true, true] rfl rfl (one_of HT_.out (by kernel_rfl)) (by decide) (fun K hK => ?_)
                  refine skip_ (w1 := ?_) (by rfl) rfl ?_ ?_
                  rotate_left
                  · go_simp
                    rfl
                  refine hK.out _ _ ?_
                  clear hK K
                  refine done_ (done_of HT_.out (by kernel_rfl)) ?_
                  try go_wp2_with (first | ((with_reducible refine gate_callee (f := 11) rfl ?_); refine goesL_ (some 38) rfl rfl Try.func11 (by kernel_rfl) rfl #[.slice (some ⟨go17, 0, none⟩) y177.length co39] rfl (by (try simp only [List.map_toArray, List.map_cons, List.map_nil]); first | done | (rw [show y177.length = t170.length from (Kd.R_reads' HQ42.out).1.symm] <;> rfl) | rfl | (simp only [List.length_drop, List.length_take]; rfl)) ?_; (with_reducible refine (currency_Validate.calls k _ _ y177 t178 _ ?side1 ?side2 A18.out).mono ?_); (case side1 => refine (Kd.R_reads' (e := 25) (base := w.heap.size) (ok := fun k_ => (True ∧ k_ ≠ gb165)) (n := t170.length) (c := co39) ?_).2.2; exact (by (with_reducible repeat (first | apply Kd.R_alloc | apply Kd.R_drewN | apply Kd.R_drew)); exact HQ42.out)); (case side2 => rw [show y177.length = t170.length from (Kd.R_reads' HQ42.out).1.symm]; exact (Kd.R_reads' HO172.out).2.1); rintro e w43 ⟨rfl, hb⟩; refine ⟨_, rfl, ?_⟩; have n0_ := Aside0.mk (Kd.R_below (by (with_reducible repeat (first | apply Kd.R_alloc | apply Kd.R_drewN | apply Kd.R_drew)); exact HQ42.out) hb); have n1_ := Aside0.mk (blk_below (g := gb165) (o := .cells #[.string a3_0, .int .i64 a3_1, .int .i64 a3_2] 25 (0, 0)) (by (with_reducible repeat (first | refine blk_drewN ?_ _ | refine blk_drew ?_ | refine blk_alloc ?_ _)); refine blk_far ?_ (by have h_ := Kd.R_away HO172.out (fun _ hk => hk.2); intro e_; exact h_ (by rw [e_]; rfl)) _; (with_reducible repeat (first | refine blk_drewN ?_ _ | refine blk_drew ?_ | refine blk_alloc ?_ _)); refine blk_far ?_ (by have h_ := Kd.R_away HO172.out (fun _ hk => hk.2); intro e_; exact h_ (by rw [e_]; rfl)) _; (with_reducible repeat (first | refine blk_drewN ?_ _ | refine blk_drew ?_ | refine blk_alloc ?_ _)); refine blk_far ?_ (by have h_ := Kd.R_away HO172.out (fun _ hk => hk.2); intro e_; exact h_ (by rw [e_]; rfl)) _; (with_reducible repeat (first | refine blk_drewN ?_ _ | refine blk_drew ?_ | refine blk_alloc ?_ _)); exact BK165.out) hb); have n2_ := Aside0.mk (below_step (by repeat (first | (with_reducible first | exact HB.out | apply below_alloc | apply pw_below_drewN | apply below_drew1 | refine below_set ?_ GB17.out | refine below_set ?_ GB17.out | refine below_set ?_ GB17.out | refine below_set ?_ GE165.out) | exact HB.out)) hb); clear HO172; clear BK165; clear HB; have HO172 := n0_; have BK165 := n1_; have HB := n2_; clear n0_ n1_ n2_; (try clear hb); (try clear hb2); (try clear hk); (try clear hi)) | ((with_reducible refine gate_callee (f := 12) rfl ?_); refine goesL_ (some 40) rfl rfl Try.func12 (by kernel_rfl) rfl #[.slice (some ⟨go17, 0, none⟩) y177.length co39] rfl (by (try simp only [List.map_toArray, List.map_cons, List.map_nil]); first | done | (rw [show y177.length = t170.length from (Kd.R_reads' HO172.out).1.symm] <;> rfl) | rfl | (simp only [List.length_drop, List.length_take]; rfl)) ?_; (with_reducible refine (customsref04_Table.calls k _ _ y177 t179 _ ?side1 ?side2 A19.out).mono ?_); (case side1 => repeat (first | exact (Kd.R_reads' HO172.out).2.2 | (with_reducible refine Kd.C_alloc ?_ _) | (with_reducible refine Kd.C_drewN ?_ _) | (with_reducible refine Kd.C_drew ?_))); (case side2 => rw [show y177.length = t170.length from (Kd.R_reads' HO172.out).1.symm]; exact (Kd.R_reads' HO172.out).2.1); rintro e w44 ⟨rfl, hb⟩; refine ⟨_, rfl, ?_⟩; have n0_ := Aside0.mk (Kd.R_below (by (with_reducible repeat (first | apply Kd.R_alloc | apply Kd.R_drewN | apply Kd.R_drew)); exact HO172.out) hb); have n1_ := Aside0.mk (blk_below (g := gb165) (o := .cells #[.string a3_0, .int .i64 a3_1, .int .i64 a3_2] 25 (0, 0)) (by (with_reducible repeat (first | refine blk_drewN ?_ _ | refine blk_drew ?_ | refine blk_alloc ?_ _)); exact BK165.out) hb); have n2_ := Aside0.mk (below_step (by repeat (first | (with_reducible first | exact HB.out | apply below_alloc | apply pw_below_drewN | apply below_drew1 | refine below_set ?_ GE165.out) | exact HB.out)) hb); clear HO172; clear BK165; clear HB; have HO172 := n0_; have BK165 := n1_; have HB := n2_; clear n0_ n1_ n2_; (try clear hb); (try clear hb2); (try clear hk); (try clear hi)))
                  go_ret
                  exact ⟨by first | rfl | (simp [errW_none, errW_some] <;> rfl) | (simp [*, errW_none, errW_some] <;> rfl) | (simp (disch := first | assumption | omega) only [Int.tdiv_eq_ediv_of_nonneg, Int.tmod_eq_emod_of_nonneg]; rfl), by repeat (first | (with_reducible first | exact HB.out | apply below_alloc | apply pw_below_drewN | apply below_drew1 | refine below_set ?_ GE165.out) | exact HB.out)⟩
              · rw [if_neg c16] at H
                exact absurd H (by simp)
            · rw [if_neg c15] at H
              exact absurd H (by simp)
          · rw [if_neg c13] at H
            have c13b0 : decide (0 < (t170.length : Int)) = false := decide_eq_false c13
            have c13b1 : decide (0 < t170.length) = false := decide_eq_false (by omega)
            clear c13
            replace H := Option.bind_eq_some_iff.mp H
            obtain ⟨t181, A450, H⟩ := H
            replace H : ((customsref04_Table.f k t170).bind fun t182 => (if t181 = t182 then ((customslaw05_awake.f k).bind fun t183 => (some t183)) else (some false))) = some r := H
            have A45 := Aside0.mk A450
            clear A450
            replace H := Option.bind_eq_some_iff.mp H
            obtain ⟨t182, A460, H⟩ := H
            replace H : (if t181 = t182 then ((customslaw05_awake.f k).bind fun t183 => (some t183)) else (some false)) = some r := H
            have A46 := Aside0.mk A460
            clear A460
            by_cases c47 : t181 = t182
            · rw [if_pos c47] at H
              have c47b0 : (t181 == t182) = true := beq_iff_eq.mpr c47
              have c47b1 : (t181 != t182) = false := bne_eq_false_iff_eq.mpr c47
              clear c47
              replace H := Option.bind_eq_some_iff.mp H
              obtain ⟨t183, A480, H⟩ := H
              replace H : (some t183) = some r := H
              have A48 := Aside0.mk A480
              clear A480
              obtain rfl := Option.some.inj H
              go_enter Try.func3, Try.ntmps3
              go_wp2_with (first | ((with_reducible refine gate_dst (N := 7) rfl ?_); refine box_event ?hg (N := 7) ?hd (cs := #[.string a3_0, .int .i64 a3_1, .int .i64 a3_2]) (t := 25) ?hr ?_; (case hd => rfl); (case hg => rfl); (case hr => first | (go_simp; done) | (go_simp; rfl)); intro gb165 hg w49 hbox hb; have n0_ := Aside0.mk (below_step (by repeat (first | (with_reducible first | exact HB.out | apply below_alloc | apply pw_below_drewN | apply below_drew1) | exact HB.out)) hb); have n1_ := Aside0.mk (hbox); have n2_ := Aside0.mk ((by rw [hg]; exact (below_size (by repeat (first | (with_reducible first | exact HB.out | apply below_alloc | apply pw_below_drewN | apply below_drew1) | exact HB.out))) : w.heap.size ≤ gb165)); have n3_ := Aside0.mk ((by rw [hg]; exact (below_size (by repeat (first | (with_reducible first | exact HB.out | apply below_alloc | apply pw_below_drewN | apply below_drew1) | exact HB.out))) : w.heap.size ≤ gb165)); clear HB; have HB := n0_; have BK165 := n1_; have GW165 := n2_; have GE165 := n3_; clear n0_ n1_ n2_ n3_; clear hb hbox hg; have q50 : (1100 : Int) ≤ ((l0.length : Int) : Int) := of_decide_eq_true (by first | (with_reducible assumption) | assumption); obtain ⟨i050, hi050, _, hsz50, _⟩ := info_parts info25; have hroom50 : l0.length ≤ c0 := HC0.out; have hC50 : Kd.C k25 _ A0 l0.length l0 := HR0.out; have hcut50 := cut_to (P := Try.prog) 22 25 .i64 Try.underlying22 hi050 A0 l0.length c0 1100 (by omega) q50 hroom50; have hr50 := Kd.C_take (m := 1100) hC50 (by omega); have hy50 : y166.length = (1100 : Int).toNat := (by rw [Ny166.out, List.length_take]; omega); rw [← Ny166.out] at hr50; rw [← hy50] at hcut50; have HR169 := Aside0.mk hr50; have HC169 := Aside0.mk (show y166.length ≤ c0 from by omega); clear hr50 hC50 hroom50 hi050 hsz50; have KY50 := Aside0.mk hy50; clear hy50; replace q50 := eq_true q50) | ((with_reducible refine gate_callee (f := 10) rfl ?_); refine goesL_ (some 16) rfl rfl Try.func10 (by kernel_rfl) rfl #[.slice A1 l1.length c1] rfl (by (try simp only [List.map_toArray, List.map_cons, List.map_nil]); first | done | rfl | (simp only [List.length_drop, List.length_take]; rfl)) ?_; (with_reducible refine (customsmade_Table.calls _ _ l1 t170 _ ?side1 ?side2 A7.out).mono ?_); (case side1 => repeat (first | exact (Kd.C_below HR1.out HB.out) | (with_reducible refine Kd.C_alloc ?_ _) | (with_reducible refine Kd.C_drewN ?_ _) | (with_reducible refine Kd.C_drew ?_))); (case side2 => exact HC1.out); rintro e w51 ⟨v171, rfl, ho0, hb⟩; refine ⟨_, rfl, ?_⟩; have n0_ := Aside0.mk (Kd.R_lower (Kd.R_newB ho0 (g := gb165) (o := .cells #[.string a3_0, .int .i64 a3_1, .int .i64 a3_2] 25 (0, 0)) (by (with_reducible repeat (first | refine blk_drewN ?_ _ | refine blk_drew ?_ | refine blk_alloc ?_ _)); exact BK165.out)) (below_size (by repeat (first | (with_reducible first | exact HB.out | apply below_alloc | apply pw_below_drewN | apply below_drew1 | refine below_set ?_ GE165.out) | exact HB.out)))); have n1_ := Aside0.mk (blk_below (g := gb165) (o := .cells #[.string a3_0, .int .i64 a3_1, .int .i64 a3_2] 25 (0, 0)) (by (with_reducible repeat (first | refine blk_drewN ?_ _ | refine blk_drew ?_ | refine blk_alloc ?_ _)); exact BK165.out) hb); have n2_ := Aside0.mk (below_step (by repeat (first | (with_reducible first | exact HB.out | apply below_alloc | apply pw_below_drewN | apply below_drew1 | refine below_set ?_ GE165.out) | exact HB.out)) hb); clear BK165; clear HB; have HO172 := n0_; have BK165 := n1_; have HB := n2_; clear n0_ n1_ n2_; (try clear hb); (try clear hb2); (try clear hk); (try clear hi); (try clear ho0)) | ((with_reducible refine gate_callee (f := 11) rfl ?_); refine goesL_ (some 18) rfl rfl Try.func11 (by kernel_rfl) rfl #[.slice A0 y166.length c0] rfl (by (try simp only [List.map_toArray, List.map_cons, List.map_nil]); first | done | rfl | (simp only [List.length_drop, List.length_take]; rfl)) ?_; (with_reducible refine (currency_Validate.calls k _ _ y166 t173 _ ?side1 ?side2 A8.out).mono ?_); (case side1 => repeat (first | exact (Kd.C_below HR169.out HB.out) | (with_reducible refine Kd.C_alloc ?_ _) | (with_reducible refine Kd.C_drewN ?_ _) | (with_reducible refine Kd.C_drew ?_))); (case side2 => exact HC169.out); rintro e w52 ⟨rfl, hb⟩; refine ⟨_, rfl, ?_⟩; have n0_ := Aside0.mk (Kd.R_below (by (with_reducible repeat (first | apply Kd.R_alloc | apply Kd.R_drewN | apply Kd.R_drew)); exact HO172.out) hb); have n1_ := Aside0.mk (blk_below (g := gb165) (o := .cells #[.string a3_0, .int .i64 a3_1, .int .i64 a3_2] 25 (0, 0)) (by (with_reducible repeat (first | refine blk_drewN ?_ _ | refine blk_drew ?_ | refine blk_alloc ?_ _)); exact BK165.out) hb); have n2_ := Aside0.mk (below_step (by repeat (first | (with_reducible first | exact HB.out | apply below_alloc | apply pw_below_drewN | apply below_drew1 | refine below_set ?_ GE165.out) | exact HB.out)) hb); clear HO172; clear BK165; clear HB; have HO172 := n0_; have BK165 := n1_; have HB := n2_; clear n0_ n1_ n2_; (try clear hb); (try clear hb2); (try clear hk); (try clear hi)) | ((with_reducible refine gate_callee (f := 12) rfl ?_); refine goesL_ (some 20) rfl rfl Try.func12 (by kernel_rfl) rfl #[.slice A0 y166.length c0] rfl (by (try simp only [List.map_toArray, List.map_cons, List.map_nil]); first | done | rfl | (simp only [List.length_drop, List.length_take]; rfl)) ?_; (with_reducible refine (customsref04_Table.calls k _ _ y166 t174 _ ?side1 ?side2 A9.out).mono ?_); (case side1 => repeat (first | exact (Kd.C_below HR169.out HB.out) | (with_reducible refine Kd.C_alloc ?_ _) | (with_reducible refine Kd.C_drewN ?_ _) | (with_reducible refine Kd.C_drew ?_))); (case side2 => exact HC169.out); rintro e w53 ⟨rfl, hb⟩; refine ⟨_, rfl, ?_⟩; have n0_ := Aside0.mk (Kd.R_below (by (with_reducible repeat (first | apply Kd.R_alloc | apply Kd.R_drewN | apply Kd.R_drew)); exact HO172.out) hb); have n1_ := Aside0.mk (blk_below (g := gb165) (o := .cells #[.string a3_0, .int .i64 a3_1, .int .i64 a3_2] 25 (0, 0)) (by (with_reducible repeat (first | refine blk_drewN ?_ _ | refine blk_drew ?_ | refine blk_alloc ?_ _)); exact BK165.out) hb); have n2_ := Aside0.mk (below_step (by repeat (first | (with_reducible first | exact HB.out | apply below_alloc | apply pw_below_drewN | apply below_drew1 | refine below_set ?_ GE165.out) | exact HB.out)) hb); clear HO172; clear BK165; clear HB; have HO172 := n0_; have BK165 := n1_; have HB := n2_; clear n0_ n1_ n2_; (try clear hb); (try clear hb2); (try clear hk); (try clear hi); obtain ⟨Ao54, co54, eo54⟩ := Kd.R_slice HO172.out; subst eo54) | (go_at_call 11; (with_reducible refine (currency_Validate.calls k _ _ t170 t175 _ ?side1 ?side2 A11.out).mono ?_); (case side1 => repeat (first | exact (Kd.R_reads' HO172.out).2.2 | (with_reducible refine Kd.C_alloc ?_ _) | (with_reducible refine Kd.C_drewN ?_ _) | (with_reducible refine Kd.C_drew ?_))); (case side2 => exact (Kd.R_reads' HO172.out).2.1); rintro e w55 ⟨rfl, hb⟩; have n0_ := Aside0.mk (Kd.R_below (by (with_reducible repeat (first | apply Kd.R_alloc | apply Kd.R_drewN | apply Kd.R_drew)); exact HO172.out) hb); have n1_ := Aside0.mk (blk_below (g := gb165) (o := .cells #[.string a3_0, .int .i64 a3_1, .int .i64 a3_2] 25 (0, 0)) (by (with_reducible repeat (first | refine blk_drewN ?_ _ | refine blk_drew ?_ | refine blk_alloc ?_ _)); exact BK165.out) hb); have n2_ := Aside0.mk (below_step (by repeat (first | (with_reducible first | exact HB.out | apply below_alloc | apply pw_below_drewN | apply below_drew1 | refine below_set ?_ GE165.out) | exact HB.out)) hb); clear HO172; clear BK165; clear HB; have HO172 := n0_; have BK165 := n1_; have HB := n2_; clear n0_ n1_ n2_; (try clear hb); (try clear hb2); (try clear hk); (try clear hi)) | ((with_reducible refine gate_callee (f := 11) rfl ?_); refine goesL_ (some 38) rfl rfl Try.func11 (by kernel_rfl) rfl #[.slice Ao54 t170.length co54] rfl (by (try simp only [List.map_toArray, List.map_cons, List.map_nil]); first | done | rfl | (simp only [List.length_drop, List.length_take]; rfl)) ?_; (with_reducible refine (currency_Validate.calls k _ _ t170 t181 _ ?side1 ?side2 A45.out).mono ?_); (case side1 => repeat (first | exact (Kd.R_reads' HO172.out).2.2 | (with_reducible refine Kd.C_alloc ?_ _) | (with_reducible refine Kd.C_drewN ?_ _) | (with_reducible refine Kd.C_drew ?_))); (case side2 => exact (Kd.R_reads' HO172.out).2.1); rintro e w56 ⟨rfl, hb⟩; refine ⟨_, rfl, ?_⟩; have n0_ := Aside0.mk (Kd.R_below (by (with_reducible repeat (first | apply Kd.R_alloc | apply Kd.R_drewN | apply Kd.R_drew)); exact HO172.out) hb); have n1_ := Aside0.mk (blk_below (g := gb165) (o := .cells #[.string a3_0, .int .i64 a3_1, .int .i64 a3_2] 25 (0, 0)) (by (with_reducible repeat (first | refine blk_drewN ?_ _ | refine blk_drew ?_ | refine blk_alloc ?_ _)); exact BK165.out) hb); have n2_ := Aside0.mk (below_step (by repeat (first | (with_reducible first | exact HB.out | apply below_alloc | apply pw_below_drewN | apply below_drew1 | refine below_set ?_ GE165.out) | exact HB.out)) hb); clear HO172; clear BK165; clear HB; have HO172 := n0_; have BK165 := n1_; have HB := n2_; clear n0_ n1_ n2_; (try clear hb); (try clear hb2); (try clear hk); (try clear hi)) | ((with_reducible refine gate_callee (f := 12) rfl ?_); refine goesL_ (some 40) rfl rfl Try.func12 (by kernel_rfl) rfl #[.slice Ao54 t170.length co54] rfl (by (try simp only [List.map_toArray, List.map_cons, List.map_nil]); first | done | rfl | (simp only [List.length_drop, List.length_take]; rfl)) ?_; (with_reducible refine (customsref04_Table.calls k _ _ t170 t182 _ ?side1 ?side2 A46.out).mono ?_); (case side1 => repeat (first | exact (Kd.R_reads' HO172.out).2.2 | (with_reducible refine Kd.C_alloc ?_ _) | (with_reducible refine Kd.C_drewN ?_ _) | (with_reducible refine Kd.C_drew ?_))); (case side2 => exact (Kd.R_reads' HO172.out).2.1); rintro e w57 ⟨rfl, hb⟩; refine ⟨_, rfl, ?_⟩; have n0_ := Aside0.mk (Kd.R_below (by (with_reducible repeat (first | apply Kd.R_alloc | apply Kd.R_drewN | apply Kd.R_drew)); exact HO172.out) hb); have n1_ := Aside0.mk (blk_below (g := gb165) (o := .cells #[.string a3_0, .int .i64 a3_1, .int .i64 a3_2] 25 (0, 0)) (by (with_reducible repeat (first | refine blk_drewN ?_ _ | refine blk_drew ?_ | refine blk_alloc ?_ _)); exact BK165.out) hb); have n2_ := Aside0.mk (below_step (by repeat (first | (with_reducible first | exact HB.out | apply below_alloc | apply pw_below_drewN | apply below_drew1 | refine below_set ?_ GE165.out) | exact HB.out)) hb); clear HO172; clear BK165; clear HB; have HO172 := n0_; have BK165 := n1_; have HB := n2_; clear n0_ n1_ n2_; (try clear hb); (try clear hb2); (try clear hk); (try clear hi)) | (go_at_call 14; (with_reducible refine (customslaw05_awake.calls k  t183 _ A48.out).mono ?_); rintro e w58 ⟨rfl, hb⟩; have n0_ := Aside0.mk (Kd.R_below (by (with_reducible repeat (first | apply Kd.R_alloc | apply Kd.R_drewN | apply Kd.R_drew)); exact HO172.out) hb); have n1_ := Aside0.mk (blk_below (g := gb165) (o := .cells #[.string a3_0, .int .i64 a3_1, .int .i64 a3_2] 25 (0, 0)) (by (with_reducible repeat (first | refine blk_drewN ?_ _ | refine blk_drew ?_ | refine blk_alloc ?_ _)); exact BK165.out) hb); have n2_ := Aside0.mk (below_step (by repeat (first | (with_reducible first | exact HB.out | apply below_alloc | apply pw_below_drewN | apply below_drew1 | refine below_set ?_ GE165.out) | exact HB.out)) hb); clear HO172; clear BK165; clear HB; have HO172 := n0_; have BK165 := n1_; have HB := n2_; clear n0_ n1_ n2_; (try clear hb); (try clear hb2); (try clear hk); (try clear hi)))
              go_ret
              exact ⟨by first | rfl | (simp [errW_none, errW_some] <;> rfl) | (simp [*, errW_none, errW_some] <;> rfl) | (simp (disch := first | assumption | omega) only [Int.tdiv_eq_ediv_of_nonneg, Int.tmod_eq_emod_of_nonneg]; rfl), by repeat (first | (with_reducible first | exact HB.out | apply below_alloc | apply pw_below_drewN | apply below_drew1 | refine below_set ?_ GE165.out) | exact HB.out)⟩
            · rw [if_neg c47] at H
              have c47b0 : (t181 == t182) = false := beq_eq_false_iff_ne.mpr c47
              have c47b1 : (t181 != t182) = true := bne_iff_ne.mpr c47
              obtain rfl := Option.some.inj H
              go_enter Try.func3, Try.ntmps3
              go_wp2_with (first | ((with_reducible refine gate_dst (N := 7) rfl ?_); refine box_event ?hg (N := 7) ?hd (cs := #[.string a3_0, .int .i64 a3_1, .int .i64 a3_2]) (t := 25) ?hr ?_; (case hd => rfl); (case hg => rfl); (case hr => first | (go_simp; done) | (go_simp; rfl)); intro gb165 hg w59 hbox hb; have n0_ := Aside0.mk (below_step (by repeat (first | (with_reducible first | exact HB.out | apply below_alloc | apply pw_below_drewN | apply below_drew1) | exact HB.out)) hb); have n1_ := Aside0.mk (hbox); have n2_ := Aside0.mk ((by rw [hg]; exact (below_size (by repeat (first | (with_reducible first | exact HB.out | apply below_alloc | apply pw_below_drewN | apply below_drew1) | exact HB.out))) : w.heap.size ≤ gb165)); have n3_ := Aside0.mk ((by rw [hg]; exact (below_size (by repeat (first | (with_reducible first | exact HB.out | apply below_alloc | apply pw_below_drewN | apply below_drew1) | exact HB.out))) : w.heap.size ≤ gb165)); clear HB; have HB := n0_; have BK165 := n1_; have GW165 := n2_; have GE165 := n3_; clear n0_ n1_ n2_ n3_; clear hb hbox hg; have q60 : (1100 : Int) ≤ ((l0.length : Int) : Int) := of_decide_eq_true (by first | (with_reducible assumption) | assumption); obtain ⟨i060, hi060, _, hsz60, _⟩ := info_parts info25; have hroom60 : l0.length ≤ c0 := HC0.out; have hC60 : Kd.C k25 _ A0 l0.length l0 := HR0.out; have hcut60 := cut_to (P := Try.prog) 22 25 .i64 Try.underlying22 hi060 A0 l0.length c0 1100 (by omega) q60 hroom60; have hr60 := Kd.C_take (m := 1100) hC60 (by omega); have hy60 : y166.length = (1100 : Int).toNat := (by rw [Ny166.out, List.length_take]; omega); rw [← Ny166.out] at hr60; rw [← hy60] at hcut60; have HR169 := Aside0.mk hr60; have HC169 := Aside0.mk (show y166.length ≤ c0 from by omega); clear hr60 hC60 hroom60 hi060 hsz60; have KY60 := Aside0.mk hy60; clear hy60; replace q60 := eq_true q60) | ((with_reducible refine gate_callee (f := 10) rfl ?_); refine goesL_ (some 16) rfl rfl Try.func10 (by kernel_rfl) rfl #[.slice A1 l1.length c1] rfl (by (try simp only [List.map_toArray, List.map_cons, List.map_nil]); first | done | rfl | (simp only [List.length_drop, List.length_take]; rfl)) ?_; (with_reducible refine (customsmade_Table.calls _ _ l1 t170 _ ?side1 ?side2 A7.out).mono ?_); (case side1 => repeat (first | exact (Kd.C_below HR1.out HB.out) | (with_reducible refine Kd.C_alloc ?_ _) | (with_reducible refine Kd.C_drewN ?_ _) | (with_reducible refine Kd.C_drew ?_))); (case side2 => exact HC1.out); rintro e w61 ⟨v171, rfl, ho0, hb⟩; refine ⟨_, rfl, ?_⟩; have n0_ := Aside0.mk (Kd.R_lower (Kd.R_newB ho0 (g := gb165) (o := .cells #[.string a3_0, .int .i64 a3_1, .int .i64 a3_2] 25 (0, 0)) (by (with_reducible repeat (first | refine blk_drewN ?_ _ | refine blk_drew ?_ | refine blk_alloc ?_ _)); exact BK165.out)) (below_size (by repeat (first | (with_reducible first | exact HB.out | apply below_alloc | apply pw_below_drewN | apply below_drew1 | refine below_set ?_ GE165.out) | exact HB.out)))); have n1_ := Aside0.mk (blk_below (g := gb165) (o := .cells #[.string a3_0, .int .i64 a3_1, .int .i64 a3_2] 25 (0, 0)) (by (with_reducible repeat (first | refine blk_drewN ?_ _ | refine blk_drew ?_ | refine blk_alloc ?_ _)); exact BK165.out) hb); have n2_ := Aside0.mk (below_step (by repeat (first | (with_reducible first | exact HB.out | apply below_alloc | apply pw_below_drewN | apply below_drew1 | refine below_set ?_ GE165.out) | exact HB.out)) hb); clear BK165; clear HB; have HO172 := n0_; have BK165 := n1_; have HB := n2_; clear n0_ n1_ n2_; (try clear hb); (try clear hb2); (try clear hk); (try clear hi); (try clear ho0)) | ((with_reducible refine gate_callee (f := 11) rfl ?_); refine goesL_ (some 18) rfl rfl Try.func11 (by kernel_rfl) rfl #[.slice A0 y166.length c0] rfl (by (try simp only [List.map_toArray, List.map_cons, List.map_nil]); first | done | rfl | (simp only [List.length_drop, List.length_take]; rfl)) ?_; (with_reducible refine (currency_Validate.calls k _ _ y166 t173 _ ?side1 ?side2 A8.out).mono ?_); (case side1 => repeat (first | exact (Kd.C_below HR169.out HB.out) | (with_reducible refine Kd.C_alloc ?_ _) | (with_reducible refine Kd.C_drewN ?_ _) | (with_reducible refine Kd.C_drew ?_))); (case side2 => exact HC169.out); rintro e w62 ⟨rfl, hb⟩; refine ⟨_, rfl, ?_⟩; have n0_ := Aside0.mk (Kd.R_below (by (with_reducible repeat (first | apply Kd.R_alloc | apply Kd.R_drewN | apply Kd.R_drew)); exact HO172.out) hb); have n1_ := Aside0.mk (blk_below (g := gb165) (o := .cells #[.string a3_0, .int .i64 a3_1, .int .i64 a3_2] 25 (0, 0)) (by (with_reducible repeat (first | refine blk_drewN ?_ _ | refine blk_drew ?_ | refine blk_alloc ?_ _)); exact BK165.out) hb); have n2_ := Aside0.mk (below_step (by repeat (first | (with_reducible first | exact HB.out | apply below_alloc | apply pw_below_drewN | apply below_drew1 | refine below_set ?_ GE165.out) | exact HB.out)) hb); clear HO172; clear BK165; clear HB; have HO172 := n0_; have BK165 := n1_; have HB := n2_; clear n0_ n1_ n2_; (try clear hb); (try clear hb2); (try clear hk); (try clear hi)) | ((with_reducible refine gate_callee (f := 12) rfl ?_); refine goesL_ (some 20) rfl rfl Try.func12 (by kernel_rfl) rfl #[.slice A0 y166.length c0] rfl (by (try simp only [List.map_toArray, List.map_cons, List.map_nil]); first | done | rfl | (simp only [List.length_drop, List.length_take]; rfl)) ?_; (with_reducible refine (customsref04_Table.calls k _ _ y166 t174 _ ?side1 ?side2 A9.out).mono ?_); (case side1 => repeat (first | exact (Kd.C_below HR169.out HB.out) | (with_reducible refine Kd.C_alloc ?_ _) | (with_reducible refine Kd.C_drewN ?_ _) | (with_reducible refine Kd.C_drew ?_))); (case side2 => exact HC169.out); rintro e w63 ⟨rfl, hb⟩; refine ⟨_, rfl, ?_⟩; have n0_ := Aside0.mk (Kd.R_below (by (with_reducible repeat (first | apply Kd.R_alloc | apply Kd.R_drewN | apply Kd.R_drew)); exact HO172.out) hb); have n1_ := Aside0.mk (blk_below (g := gb165) (o := .cells #[.string a3_0, .int .i64 a3_1, .int .i64 a3_2] 25 (0, 0)) (by (with_reducible repeat (first | refine blk_drewN ?_ _ | refine blk_drew ?_ | refine blk_alloc ?_ _)); exact BK165.out) hb); have n2_ := Aside0.mk (below_step (by repeat (first | (with_reducible first | exact HB.out | apply below_alloc | apply pw_below_drewN | apply below_drew1 | refine below_set ?_ GE165.out) | exact HB.out)) hb); clear HO172; clear BK165; clear HB; have HO172 := n0_; have BK165 := n1_; have HB := n2_; clear n0_ n1_ n2_; (try clear hb); (try clear hb2); (try clear hk); (try clear hi); obtain ⟨Ao64, co64, eo64⟩ := Kd.R_slice HO172.out; subst eo64) | (go_at_call 11; (with_reducible refine (currency_Validate.calls k _ _ t170 t175 _ ?side1 ?side2 A11.out).mono ?_); (case side1 => repeat (first | exact (Kd.R_reads' HO172.out).2.2 | (with_reducible refine Kd.C_alloc ?_ _) | (with_reducible refine Kd.C_drewN ?_ _) | (with_reducible refine Kd.C_drew ?_))); (case side2 => exact (Kd.R_reads' HO172.out).2.1); rintro e w65 ⟨rfl, hb⟩; have n0_ := Aside0.mk (Kd.R_below (by (with_reducible repeat (first | apply Kd.R_alloc | apply Kd.R_drewN | apply Kd.R_drew)); exact HO172.out) hb); have n1_ := Aside0.mk (blk_below (g := gb165) (o := .cells #[.string a3_0, .int .i64 a3_1, .int .i64 a3_2] 25 (0, 0)) (by (with_reducible repeat (first | refine blk_drewN ?_ _ | refine blk_drew ?_ | refine blk_alloc ?_ _)); exact BK165.out) hb); have n2_ := Aside0.mk (below_step (by repeat (first | (with_reducible first | exact HB.out | apply below_alloc | apply pw_below_drewN | apply below_drew1 | refine below_set ?_ GE165.out) | exact HB.out)) hb); clear HO172; clear BK165; clear HB; have HO172 := n0_; have BK165 := n1_; have HB := n2_; clear n0_ n1_ n2_; (try clear hb); (try clear hb2); (try clear hk); (try clear hi)) | ((with_reducible refine gate_callee (f := 11) rfl ?_); refine goesL_ (some 38) rfl rfl Try.func11 (by kernel_rfl) rfl #[.slice Ao64 t170.length co64] rfl (by (try simp only [List.map_toArray, List.map_cons, List.map_nil]); first | done | rfl | (simp only [List.length_drop, List.length_take]; rfl)) ?_; (with_reducible refine (currency_Validate.calls k _ _ t170 t181 _ ?side1 ?side2 A45.out).mono ?_); (case side1 => repeat (first | exact (Kd.R_reads' HO172.out).2.2 | (with_reducible refine Kd.C_alloc ?_ _) | (with_reducible refine Kd.C_drewN ?_ _) | (with_reducible refine Kd.C_drew ?_))); (case side2 => exact (Kd.R_reads' HO172.out).2.1); rintro e w66 ⟨rfl, hb⟩; refine ⟨_, rfl, ?_⟩; have n0_ := Aside0.mk (Kd.R_below (by (with_reducible repeat (first | apply Kd.R_alloc | apply Kd.R_drewN | apply Kd.R_drew)); exact HO172.out) hb); have n1_ := Aside0.mk (blk_below (g := gb165) (o := .cells #[.string a3_0, .int .i64 a3_1, .int .i64 a3_2] 25 (0, 0)) (by (with_reducible repeat (first | refine blk_drewN ?_ _ | refine blk_drew ?_ | refine blk_alloc ?_ _)); exact BK165.out) hb); have n2_ := Aside0.mk (below_step (by repeat (first | (with_reducible first | exact HB.out | apply below_alloc | apply pw_below_drewN | apply below_drew1 | refine below_set ?_ GE165.out) | exact HB.out)) hb); clear HO172; clear BK165; clear HB; have HO172 := n0_; have BK165 := n1_; have HB := n2_; clear n0_ n1_ n2_; (try clear hb); (try clear hb2); (try clear hk); (try clear hi)) | ((with_reducible refine gate_callee (f := 12) rfl ?_); refine goesL_ (some 40) rfl rfl Try.func12 (by kernel_rfl) rfl #[.slice Ao64 t170.length co64] rfl (by (try simp only [List.map_toArray, List.map_cons, List.map_nil]); first | done | rfl | (simp only [List.length_drop, List.length_take]; rfl)) ?_; (with_reducible refine (customsref04_Table.calls k _ _ t170 t182 _ ?side1 ?side2 A46.out).mono ?_); (case side1 => repeat (first | exact (Kd.R_reads' HO172.out).2.2 | (with_reducible refine Kd.C_alloc ?_ _) | (with_reducible refine Kd.C_drewN ?_ _) | (with_reducible refine Kd.C_drew ?_))); (case side2 => exact (Kd.R_reads' HO172.out).2.1); rintro e w67 ⟨rfl, hb⟩; refine ⟨_, rfl, ?_⟩; have n0_ := Aside0.mk (Kd.R_below (by (with_reducible repeat (first | apply Kd.R_alloc | apply Kd.R_drewN | apply Kd.R_drew)); exact HO172.out) hb); have n1_ := Aside0.mk (blk_below (g := gb165) (o := .cells #[.string a3_0, .int .i64 a3_1, .int .i64 a3_2] 25 (0, 0)) (by (with_reducible repeat (first | refine blk_drewN ?_ _ | refine blk_drew ?_ | refine blk_alloc ?_ _)); exact BK165.out) hb); have n2_ := Aside0.mk (below_step (by repeat (first | (with_reducible first | exact HB.out | apply below_alloc | apply pw_below_drewN | apply below_drew1 | refine below_set ?_ GE165.out) | exact HB.out)) hb); clear HO172; clear BK165; clear HB; have HO172 := n0_; have BK165 := n1_; have HB := n2_; clear n0_ n1_ n2_; (try clear hb); (try clear hb2); (try clear hk); (try clear hi)))
              go_ret
              exact ⟨by first | rfl | (simp [errW_none, errW_some] <;> rfl) | (simp [*, errW_none, errW_some] <;> rfl) | (simp (disch := first | assumption | omega) only [Int.tdiv_eq_ediv_of_nonneg, Int.tmod_eq_emod_of_nonneg]; rfl), by repeat (first | (with_reducible first | exact HB.out | apply below_alloc | apply pw_below_drewN | apply below_drew1 | refine below_set ?_ GE165.out) | exact HB.out)⟩
        · rw [if_neg c12] at H
          have c12b0 : (t175 == 0) = false := beq_eq_false_iff_ne.mpr c12
          have c12b1 : (t175 != 0) = true := bne_iff_ne.mpr c12
          obtain rfl := Option.some.inj H
          go_enter Try.func3, Try.ntmps3
          go_wp2_with (first | ((with_reducible refine gate_dst (N := 7) rfl ?_); refine box_event ?hg (N := 7) ?hd (cs := #[.string a3_0, .int .i64 a3_1, .int .i64 a3_2]) (t := 25) ?hr ?_; (case hd => rfl); (case hg => rfl); (case hr => first | (go_simp; done) | (go_simp; rfl)); intro gb165 hg w68 hbox hb; have n0_ := Aside0.mk (below_step (by repeat (first | (with_reducible first | exact HB.out | apply below_alloc | apply pw_below_drewN | apply below_drew1) | exact HB.out)) hb); have n1_ := Aside0.mk (hbox); have n2_ := Aside0.mk ((by rw [hg]; exact (below_size (by repeat (first | (with_reducible first | exact HB.out | apply below_alloc | apply pw_below_drewN | apply below_drew1) | exact HB.out))) : w.heap.size ≤ gb165)); have n3_ := Aside0.mk ((by rw [hg]; exact (below_size (by repeat (first | (with_reducible first | exact HB.out | apply below_alloc | apply pw_below_drewN | apply below_drew1) | exact HB.out))) : w.heap.size ≤ gb165)); clear HB; have HB := n0_; have BK165 := n1_; have GW165 := n2_; have GE165 := n3_; clear n0_ n1_ n2_ n3_; clear hb hbox hg; have q69 : (1100 : Int) ≤ ((l0.length : Int) : Int) := of_decide_eq_true (by first | (with_reducible assumption) | assumption); obtain ⟨i069, hi069, _, hsz69, _⟩ := info_parts info25; have hroom69 : l0.length ≤ c0 := HC0.out; have hC69 : Kd.C k25 _ A0 l0.length l0 := HR0.out; have hcut69 := cut_to (P := Try.prog) 22 25 .i64 Try.underlying22 hi069 A0 l0.length c0 1100 (by omega) q69 hroom69; have hr69 := Kd.C_take (m := 1100) hC69 (by omega); have hy69 : y166.length = (1100 : Int).toNat := (by rw [Ny166.out, List.length_take]; omega); rw [← Ny166.out] at hr69; rw [← hy69] at hcut69; have HR169 := Aside0.mk hr69; have HC169 := Aside0.mk (show y166.length ≤ c0 from by omega); clear hr69 hC69 hroom69 hi069 hsz69; have KY69 := Aside0.mk hy69; clear hy69; replace q69 := eq_true q69) | ((with_reducible refine gate_callee (f := 10) rfl ?_); refine goesL_ (some 16) rfl rfl Try.func10 (by kernel_rfl) rfl #[.slice A1 l1.length c1] rfl (by (try simp only [List.map_toArray, List.map_cons, List.map_nil]); first | done | rfl | (simp only [List.length_drop, List.length_take]; rfl)) ?_; (with_reducible refine (customsmade_Table.calls _ _ l1 t170 _ ?side1 ?side2 A7.out).mono ?_); (case side1 => repeat (first | exact (Kd.C_below HR1.out HB.out) | (with_reducible refine Kd.C_alloc ?_ _) | (with_reducible refine Kd.C_drewN ?_ _) | (with_reducible refine Kd.C_drew ?_))); (case side2 => exact HC1.out); rintro e w70 ⟨v171, rfl, ho0, hb⟩; refine ⟨_, rfl, ?_⟩; have n0_ := Aside0.mk (Kd.R_lower (Kd.R_newB ho0 (g := gb165) (o := .cells #[.string a3_0, .int .i64 a3_1, .int .i64 a3_2] 25 (0, 0)) (by (with_reducible repeat (first | refine blk_drewN ?_ _ | refine blk_drew ?_ | refine blk_alloc ?_ _)); exact BK165.out)) (below_size (by repeat (first | (with_reducible first | exact HB.out | apply below_alloc | apply pw_below_drewN | apply below_drew1 | refine below_set ?_ GE165.out) | exact HB.out)))); have n1_ := Aside0.mk (blk_below (g := gb165) (o := .cells #[.string a3_0, .int .i64 a3_1, .int .i64 a3_2] 25 (0, 0)) (by (with_reducible repeat (first | refine blk_drewN ?_ _ | refine blk_drew ?_ | refine blk_alloc ?_ _)); exact BK165.out) hb); have n2_ := Aside0.mk (below_step (by repeat (first | (with_reducible first | exact HB.out | apply below_alloc | apply pw_below_drewN | apply below_drew1 | refine below_set ?_ GE165.out) | exact HB.out)) hb); clear BK165; clear HB; have HO172 := n0_; have BK165 := n1_; have HB := n2_; clear n0_ n1_ n2_; (try clear hb); (try clear hb2); (try clear hk); (try clear hi); (try clear ho0)) | ((with_reducible refine gate_callee (f := 11) rfl ?_); refine goesL_ (some 18) rfl rfl Try.func11 (by kernel_rfl) rfl #[.slice A0 y166.length c0] rfl (by (try simp only [List.map_toArray, List.map_cons, List.map_nil]); first | done | rfl | (simp only [List.length_drop, List.length_take]; rfl)) ?_; (with_reducible refine (currency_Validate.calls k _ _ y166 t173 _ ?side1 ?side2 A8.out).mono ?_); (case side1 => repeat (first | exact (Kd.C_below HR169.out HB.out) | (with_reducible refine Kd.C_alloc ?_ _) | (with_reducible refine Kd.C_drewN ?_ _) | (with_reducible refine Kd.C_drew ?_))); (case side2 => exact HC169.out); rintro e w71 ⟨rfl, hb⟩; refine ⟨_, rfl, ?_⟩; have n0_ := Aside0.mk (Kd.R_below (by (with_reducible repeat (first | apply Kd.R_alloc | apply Kd.R_drewN | apply Kd.R_drew)); exact HO172.out) hb); have n1_ := Aside0.mk (blk_below (g := gb165) (o := .cells #[.string a3_0, .int .i64 a3_1, .int .i64 a3_2] 25 (0, 0)) (by (with_reducible repeat (first | refine blk_drewN ?_ _ | refine blk_drew ?_ | refine blk_alloc ?_ _)); exact BK165.out) hb); have n2_ := Aside0.mk (below_step (by repeat (first | (with_reducible first | exact HB.out | apply below_alloc | apply pw_below_drewN | apply below_drew1 | refine below_set ?_ GE165.out) | exact HB.out)) hb); clear HO172; clear BK165; clear HB; have HO172 := n0_; have BK165 := n1_; have HB := n2_; clear n0_ n1_ n2_; (try clear hb); (try clear hb2); (try clear hk); (try clear hi)) | ((with_reducible refine gate_callee (f := 12) rfl ?_); refine goesL_ (some 20) rfl rfl Try.func12 (by kernel_rfl) rfl #[.slice A0 y166.length c0] rfl (by (try simp only [List.map_toArray, List.map_cons, List.map_nil]); first | done | rfl | (simp only [List.length_drop, List.length_take]; rfl)) ?_; (with_reducible refine (customsref04_Table.calls k _ _ y166 t174 _ ?side1 ?side2 A9.out).mono ?_); (case side1 => repeat (first | exact (Kd.C_below HR169.out HB.out) | (with_reducible refine Kd.C_alloc ?_ _) | (with_reducible refine Kd.C_drewN ?_ _) | (with_reducible refine Kd.C_drew ?_))); (case side2 => exact HC169.out); rintro e w72 ⟨rfl, hb⟩; refine ⟨_, rfl, ?_⟩; have n0_ := Aside0.mk (Kd.R_below (by (with_reducible repeat (first | apply Kd.R_alloc | apply Kd.R_drewN | apply Kd.R_drew)); exact HO172.out) hb); have n1_ := Aside0.mk (blk_below (g := gb165) (o := .cells #[.string a3_0, .int .i64 a3_1, .int .i64 a3_2] 25 (0, 0)) (by (with_reducible repeat (first | refine blk_drewN ?_ _ | refine blk_drew ?_ | refine blk_alloc ?_ _)); exact BK165.out) hb); have n2_ := Aside0.mk (below_step (by repeat (first | (with_reducible first | exact HB.out | apply below_alloc | apply pw_below_drewN | apply below_drew1 | refine below_set ?_ GE165.out) | exact HB.out)) hb); clear HO172; clear BK165; clear HB; have HO172 := n0_; have BK165 := n1_; have HB := n2_; clear n0_ n1_ n2_; (try clear hb); (try clear hb2); (try clear hk); (try clear hi); obtain ⟨Ao73, co73, eo73⟩ := Kd.R_slice HO172.out; subst eo73) | (go_at_call 11; (with_reducible refine (currency_Validate.calls k _ _ t170 t175 _ ?side1 ?side2 A11.out).mono ?_); (case side1 => repeat (first | exact (Kd.R_reads' HO172.out).2.2 | (with_reducible refine Kd.C_alloc ?_ _) | (with_reducible refine Kd.C_drewN ?_ _) | (with_reducible refine Kd.C_drew ?_))); (case side2 => exact (Kd.R_reads' HO172.out).2.1); rintro e w74 ⟨rfl, hb⟩; have n0_ := Aside0.mk (Kd.R_below (by (with_reducible repeat (first | apply Kd.R_alloc | apply Kd.R_drewN | apply Kd.R_drew)); exact HO172.out) hb); have n1_ := Aside0.mk (blk_below (g := gb165) (o := .cells #[.string a3_0, .int .i64 a3_1, .int .i64 a3_2] 25 (0, 0)) (by (with_reducible repeat (first | refine blk_drewN ?_ _ | refine blk_drew ?_ | refine blk_alloc ?_ _)); exact BK165.out) hb); have n2_ := Aside0.mk (below_step (by repeat (first | (with_reducible first | exact HB.out | apply below_alloc | apply pw_below_drewN | apply below_drew1 | refine below_set ?_ GE165.out) | exact HB.out)) hb); clear HO172; clear BK165; clear HB; have HO172 := n0_; have BK165 := n1_; have HB := n2_; clear n0_ n1_ n2_; (try clear hb); (try clear hb2); (try clear hk); (try clear hi)))
          go_ret
          exact ⟨by first | rfl | (simp [errW_none, errW_some] <;> rfl) | (simp [*, errW_none, errW_some] <;> rfl) | (simp (disch := first | assumption | omega) only [Int.tdiv_eq_ediv_of_nonneg, Int.tmod_eq_emod_of_nonneg]; rfl), by repeat (first | (with_reducible first | exact HB.out | apply below_alloc | apply pw_below_drewN | apply below_drew1 | refine below_set ?_ GE165.out) | exact HB.out)⟩
      · rw [if_neg c10] at H
        have c10b0 : (t173 == t174) = false := beq_eq_false_iff_ne.mpr c10
        have c10b1 : (t173 != t174) = true := bne_iff_ne.mpr c10
        obtain rfl := Option.some.inj H
        go_enter Try.func3, Try.ntmps3
        go_wp2_with (first | ((with_reducible refine gate_dst (N := 7) rfl ?_); refine box_event ?hg (N := 7) ?hd (cs := #[.string a3_0, .int .i64 a3_1, .int .i64 a3_2]) (t := 25) ?hr ?_; (case hd => rfl); (case hg => rfl); (case hr => first | (go_simp; done) | (go_simp; rfl)); intro gb165 hg w75 hbox hb; have n0_ := Aside0.mk (below_step (by repeat (first | (with_reducible first | exact HB.out | apply below_alloc | apply pw_below_drewN | apply below_drew1) | exact HB.out)) hb); have n1_ := Aside0.mk (hbox); have n2_ := Aside0.mk ((by rw [hg]; exact (below_size (by repeat (first | (with_reducible first | exact HB.out | apply below_alloc | apply pw_below_drewN | apply below_drew1) | exact HB.out))) : w.heap.size ≤ gb165)); have n3_ := Aside0.mk ((by rw [hg]; exact (below_size (by repeat (first | (with_reducible first | exact HB.out | apply below_alloc | apply pw_below_drewN | apply below_drew1) | exact HB.out))) : w.heap.size ≤ gb165)); clear HB; have HB := n0_; have BK165 := n1_; have GW165 := n2_; have GE165 := n3_; clear n0_ n1_ n2_ n3_; clear hb hbox hg; have q76 : (1100 : Int) ≤ ((l0.length : Int) : Int) := of_decide_eq_true (by first | (with_reducible assumption) | assumption); obtain ⟨i076, hi076, _, hsz76, _⟩ := info_parts info25; have hroom76 : l0.length ≤ c0 := HC0.out; have hC76 : Kd.C k25 _ A0 l0.length l0 := HR0.out; have hcut76 := cut_to (P := Try.prog) 22 25 .i64 Try.underlying22 hi076 A0 l0.length c0 1100 (by omega) q76 hroom76; have hr76 := Kd.C_take (m := 1100) hC76 (by omega); have hy76 : y166.length = (1100 : Int).toNat := (by rw [Ny166.out, List.length_take]; omega); rw [← Ny166.out] at hr76; rw [← hy76] at hcut76; have HR169 := Aside0.mk hr76; have HC169 := Aside0.mk (show y166.length ≤ c0 from by omega); clear hr76 hC76 hroom76 hi076 hsz76; have KY76 := Aside0.mk hy76; clear hy76; replace q76 := eq_true q76) | ((with_reducible refine gate_callee (f := 10) rfl ?_); refine goesL_ (some 16) rfl rfl Try.func10 (by kernel_rfl) rfl #[.slice A1 l1.length c1] rfl (by (try simp only [List.map_toArray, List.map_cons, List.map_nil]); first | done | rfl | (simp only [List.length_drop, List.length_take]; rfl)) ?_; (with_reducible refine (customsmade_Table.calls _ _ l1 t170 _ ?side1 ?side2 A7.out).mono ?_); (case side1 => repeat (first | exact (Kd.C_below HR1.out HB.out) | (with_reducible refine Kd.C_alloc ?_ _) | (with_reducible refine Kd.C_drewN ?_ _) | (with_reducible refine Kd.C_drew ?_))); (case side2 => exact HC1.out); rintro e w77 ⟨v171, rfl, ho0, hb⟩; refine ⟨_, rfl, ?_⟩; have n0_ := Aside0.mk (Kd.R_lower (Kd.R_newB ho0 (g := gb165) (o := .cells #[.string a3_0, .int .i64 a3_1, .int .i64 a3_2] 25 (0, 0)) (by (with_reducible repeat (first | refine blk_drewN ?_ _ | refine blk_drew ?_ | refine blk_alloc ?_ _)); exact BK165.out)) (below_size (by repeat (first | (with_reducible first | exact HB.out | apply below_alloc | apply pw_below_drewN | apply below_drew1 | refine below_set ?_ GE165.out) | exact HB.out)))); have n1_ := Aside0.mk (blk_below (g := gb165) (o := .cells #[.string a3_0, .int .i64 a3_1, .int .i64 a3_2] 25 (0, 0)) (by (with_reducible repeat (first | refine blk_drewN ?_ _ | refine blk_drew ?_ | refine blk_alloc ?_ _)); exact BK165.out) hb); have n2_ := Aside0.mk (below_step (by repeat (first | (with_reducible first | exact HB.out | apply below_alloc | apply pw_below_drewN | apply below_drew1 | refine below_set ?_ GE165.out) | exact HB.out)) hb); clear BK165; clear HB; have HO172 := n0_; have BK165 := n1_; have HB := n2_; clear n0_ n1_ n2_; (try clear hb); (try clear hb2); (try clear hk); (try clear hi); (try clear ho0)) | ((with_reducible refine gate_callee (f := 11) rfl ?_); refine goesL_ (some 18) rfl rfl Try.func11 (by kernel_rfl) rfl #[.slice A0 y166.length c0] rfl (by (try simp only [List.map_toArray, List.map_cons, List.map_nil]); first | done | rfl | (simp only [List.length_drop, List.length_take]; rfl)) ?_; (with_reducible refine (currency_Validate.calls k _ _ y166 t173 _ ?side1 ?side2 A8.out).mono ?_); (case side1 => repeat (first | exact (Kd.C_below HR169.out HB.out) | (with_reducible refine Kd.C_alloc ?_ _) | (with_reducible refine Kd.C_drewN ?_ _) | (with_reducible refine Kd.C_drew ?_))); (case side2 => exact HC169.out); rintro e w78 ⟨rfl, hb⟩; refine ⟨_, rfl, ?_⟩; have n0_ := Aside0.mk (Kd.R_below (by (with_reducible repeat (first | apply Kd.R_alloc | apply Kd.R_drewN | apply Kd.R_drew)); exact HO172.out) hb); have n1_ := Aside0.mk (blk_below (g := gb165) (o := .cells #[.string a3_0, .int .i64 a3_1, .int .i64 a3_2] 25 (0, 0)) (by (with_reducible repeat (first | refine blk_drewN ?_ _ | refine blk_drew ?_ | refine blk_alloc ?_ _)); exact BK165.out) hb); have n2_ := Aside0.mk (below_step (by repeat (first | (with_reducible first | exact HB.out | apply below_alloc | apply pw_below_drewN | apply below_drew1 | refine below_set ?_ GE165.out) | exact HB.out)) hb); clear HO172; clear BK165; clear HB; have HO172 := n0_; have BK165 := n1_; have HB := n2_; clear n0_ n1_ n2_; (try clear hb); (try clear hb2); (try clear hk); (try clear hi)) | ((with_reducible refine gate_callee (f := 12) rfl ?_); refine goesL_ (some 20) rfl rfl Try.func12 (by kernel_rfl) rfl #[.slice A0 y166.length c0] rfl (by (try simp only [List.map_toArray, List.map_cons, List.map_nil]); first | done | rfl | (simp only [List.length_drop, List.length_take]; rfl)) ?_; (with_reducible refine (customsref04_Table.calls k _ _ y166 t174 _ ?side1 ?side2 A9.out).mono ?_); (case side1 => repeat (first | exact (Kd.C_below HR169.out HB.out) | (with_reducible refine Kd.C_alloc ?_ _) | (with_reducible refine Kd.C_drewN ?_ _) | (with_reducible refine Kd.C_drew ?_))); (case side2 => exact HC169.out); rintro e w79 ⟨rfl, hb⟩; refine ⟨_, rfl, ?_⟩; have n0_ := Aside0.mk (Kd.R_below (by (with_reducible repeat (first | apply Kd.R_alloc | apply Kd.R_drewN | apply Kd.R_drew)); exact HO172.out) hb); have n1_ := Aside0.mk (blk_below (g := gb165) (o := .cells #[.string a3_0, .int .i64 a3_1, .int .i64 a3_2] 25 (0, 0)) (by (with_reducible repeat (first | refine blk_drewN ?_ _ | refine blk_drew ?_ | refine blk_alloc ?_ _)); exact BK165.out) hb); have n2_ := Aside0.mk (below_step (by repeat (first | (with_reducible first | exact HB.out | apply below_alloc | apply pw_below_drewN | apply below_drew1 | refine below_set ?_ GE165.out) | exact HB.out)) hb); clear HO172; clear BK165; clear HB; have HO172 := n0_; have BK165 := n1_; have HB := n2_; clear n0_ n1_ n2_; (try clear hb); (try clear hb2); (try clear hk); (try clear hi)))
        go_ret
        exact ⟨by first | rfl | (simp [errW_none, errW_some] <;> rfl) | (simp [*, errW_none, errW_some] <;> rfl) | (simp (disch := first | assumption | omega) only [Int.tdiv_eq_ediv_of_nonneg, Int.tmod_eq_emod_of_nonneg]; rfl), by repeat (first | (with_reducible first | exact HB.out | apply below_alloc | apply pw_below_drewN | apply below_drew1 | refine below_set ?_ GE165.out) | exact HB.out)⟩
    · rw [if_neg c6] at H
      exact absurd H (by simp)
  · rw [if_neg c5] at H
    have c5b0 : decide (1100 < (l0.length : Int)) = false := decide_eq_false c5
    have c5b1 : decide (1100 < l0.length) = false := decide_eq_false (by omega)
    clear c5
    replace H := Option.bind_eq_some_iff.mp H
    obtain ⟨t184, A800, H⟩ := H
    replace H : ((currency_Validate.f k l0).bind fun t187 => ((customsref04_Table.f k l0).bind fun t188 => (if t187 = t188 then ((currency_Validate.f k t184).bind fun t189 => (if t189 = 0 then (if (t184.length : Int) > 0 then ((customsmade_Within.f a2 (t184.length : Int)).bind fun t190 => (if 0 ≤ t190 then (if t190 < (t184.length : Int) then ((some (t184.set (t190 : Int).toNat (⟨a3_0, a3_1, a3_2⟩ : S25) : List (S25))).bind fun y191 => ((currency_Validate.f k y191).bind fun t192 => ((customsref04_Table.f k y191).bind fun t193 => (if t192 = t193 then ((customslaw05_awake.f k).bind fun t194 => (some t194)) else (some false))))) else (none)) else (none))) else ((currency_Validate.f k t184).bind fun t195 => ((customsref04_Table.f k t184).bind fun t196 => (if t195 = t196 then ((customslaw05_awake.f k).bind fun t197 => (some t197)) else (some false))))) else (some false))) else (some false)))) = some r := H
    have A80 := Aside0.mk A800
    clear A800
    replace H := Option.bind_eq_some_iff.mp H
    obtain ⟨t187, A810, H⟩ := H
    replace H : ((customsref04_Table.f k l0).bind fun t188 => (if t187 = t188 then ((currency_Validate.f k t184).bind fun t189 => (if t189 = 0 then (if (t184.length : Int) > 0 then ((customsmade_Within.f a2 (t184.length : Int)).bind fun t190 => (if 0 ≤ t190 then (if t190 < (t184.length : Int) then ((some (t184.set (t190 : Int).toNat (⟨a3_0, a3_1, a3_2⟩ : S25) : List (S25))).bind fun y191 => ((currency_Validate.f k y191).bind fun t192 => ((customsref04_Table.f k y191).bind fun t193 => (if t192 = t193 then ((customslaw05_awake.f k).bind fun t194 => (some t194)) else (some false))))) else (none)) else (none))) else ((currency_Validate.f k t184).bind fun t195 => ((customsref04_Table.f k t184).bind fun t196 => (if t195 = t196 then ((customslaw05_awake.f k).bind fun t197 => (some t197)) else (some false))))) else (some false))) else (some false))) = some r := H
    have A81 := Aside0.mk A810
    clear A810
    replace H := Option.bind_eq_some_iff.mp H
    obtain ⟨t188, A820, H⟩ := H
    replace H : (if t187 = t188 then ((currency_Validate.f k t184).bind fun t189 => (if t189 = 0 then (if (t184.length : Int) > 0 then ((customsmade_Within.f a2 (t184.length : Int)).bind fun t190 => (if 0 ≤ t190 then (if t190 < (t184.length : Int) then ((some (t184.set (t190 : Int).toNat (⟨a3_0, a3_1, a3_2⟩ : S25) : List (S25))).bind fun y191 => ((currency_Validate.f k y191).bind fun t192 => ((customsref04_Table.f k y191).bind fun t193 => (if t192 = t193 then ((customslaw05_awake.f k).bind fun t194 => (some t194)) else (some false))))) else (none)) else (none))) else ((currency_Validate.f k t184).bind fun t195 => ((customsref04_Table.f k t184).bind fun t196 => (if t195 = t196 then ((customslaw05_awake.f k).bind fun t197 => (some t197)) else (some false))))) else (some false))) else (some false)) = some r := H
    have A82 := Aside0.mk A820
    clear A820
    by_cases c83 : t187 = t188
    · rw [if_pos c83] at H
      have c83b0 : (t187 == t188) = true := beq_iff_eq.mpr c83
      have c83b1 : (t187 != t188) = false := bne_eq_false_iff_eq.mpr c83
      clear c83
      replace H := Option.bind_eq_some_iff.mp H
      obtain ⟨t189, A840, H⟩ := H
      replace H : (if t189 = 0 then (if (t184.length : Int) > 0 then ((customsmade_Within.f a2 (t184.length : Int)).bind fun t190 => (if 0 ≤ t190 then (if t190 < (t184.length : Int) then ((some (t184.set (t190 : Int).toNat (⟨a3_0, a3_1, a3_2⟩ : S25) : List (S25))).bind fun y191 => ((currency_Validate.f k y191).bind fun t192 => ((customsref04_Table.f k y191).bind fun t193 => (if t192 = t193 then ((customslaw05_awake.f k).bind fun t194 => (some t194)) else (some false))))) else (none)) else (none))) else ((currency_Validate.f k t184).bind fun t195 => ((customsref04_Table.f k t184).bind fun t196 => (if t195 = t196 then ((customslaw05_awake.f k).bind fun t197 => (some t197)) else (some false))))) else (some false)) = some r := H
      have A84 := Aside0.mk A840
      clear A840
      by_cases c85 : t189 = 0
      · rw [if_pos c85] at H
        have c85b0 : (t189 == 0) = true := beq_iff_eq.mpr c85
        have c85b1 : (t189 != 0) = false := bne_eq_false_iff_eq.mpr c85
        clear c85
        by_cases c86 : (t184.length : Int) > 0
        · rw [if_pos c86] at H
          have c86b0 : decide (0 < (t184.length : Int)) = true := decide_eq_true c86
          have c86b1 : decide (0 < t184.length) = true := decide_eq_true (by omega)
          clear c86
          replace H := Option.bind_eq_some_iff.mp H
          obtain ⟨t190, A870, H⟩ := H
          replace H : (if 0 ≤ t190 then (if t190 < (t184.length : Int) then ((some (t184.set (t190 : Int).toNat (⟨a3_0, a3_1, a3_2⟩ : S25) : List (S25))).bind fun y191 => ((currency_Validate.f k y191).bind fun t192 => ((customsref04_Table.f k y191).bind fun t193 => (if t192 = t193 then ((customslaw05_awake.f k).bind fun t194 => (some t194)) else (some false))))) else (none)) else (none)) = some r := H
          have A87 := Aside0.mk A870
          clear A870
          by_cases c88 : 0 ≤ t190
          · rw [if_pos c88] at H
            have c88b0 : decide (0 ≤ t190) = true := decide_eq_true c88
            clear c88
            by_cases c89 : t190 < (t184.length : Int)
            · rw [if_pos c89] at H
              have c89b0 : decide (t190 < (t184.length : Int)) = true := decide_eq_true c89
              clear c89
              obtain ⟨y191, hy191⟩ : ∃ y_ : List (S25), y_ = (t184.set (t190 : Int).toNat (⟨a3_0, a3_1, a3_2⟩ : S25)) := ⟨_, rfl⟩
              replace H : ((currency_Validate.f k y191).bind fun t192 => ((customsref04_Table.f k y191).bind fun t193 => (if t192 = t193 then ((customslaw05_awake.f k).bind fun t194 => (some t194)) else (some false)))) = some r := by first | (rw [hy191]; with_reducible exact H) | (have H2_ := (Option.bind_some _ _).symm.trans H; rw [hy191]; with_reducible exact H2_) | (have H2_ := (Option.bind_some _ _).symm.trans H; with_reducible exact H2_) | with_reducible exact H | (rw [hy191]; exact H) | exact H
              have Ny191 := Aside0.mk hy191
              clear hy191
              replace H := Option.bind_eq_some_iff.mp H
              obtain ⟨t192, A910, H⟩ := H
              replace H : ((customsref04_Table.f k y191).bind fun t193 => (if t192 = t193 then ((customslaw05_awake.f k).bind fun t194 => (some t194)) else (some false))) = some r := H
              have A91 := Aside0.mk A910
              clear A910
              replace H := Option.bind_eq_some_iff.mp H
              obtain ⟨t193, A920, H⟩ := H
              replace H : (if t192 = t193 then ((customslaw05_awake.f k).bind fun t194 => (some t194)) else (some false)) = some r := H
              have A92 := Aside0.mk A920
              clear A920
              by_cases c93 : t192 = t193
              · rw [if_pos c93] at H
                have c93b0 : (t192 == t193) = true := beq_iff_eq.mpr c93
                have c93b1 : (t192 != t193) = false := bne_eq_false_iff_eq.mpr c93
                clear c93
                replace H := Option.bind_eq_some_iff.mp H
                obtain ⟨t194, A940, H⟩ := H
                replace H : (some t194) = some r := H
                have A94 := Aside0.mk A940
                clear A940
                obtain rfl := Option.some.inj H
                go_enter Try.func3, Try.ntmps3
                try go_wp2_with (first | ((with_reducible refine gate_dst (N := 7) rfl ?_); refine box_event ?hg (N := 7) ?hd (cs := #[.string a3_0, .int .i64 a3_1, .int .i64 a3_2]) (t := 25) ?hr ?_; (case hd => rfl); (case hg => rfl); (case hr => first | (go_simp; done) | (go_simp; rfl)); intro gb165 hg w95 hbox hb; have n0_ := Aside0.mk (below_step (by repeat (first | (with_reducible first | exact HB.out | apply below_alloc | apply pw_below_drewN | apply below_drew1) | exact HB.out)) hb); have n1_ := Aside0.mk (hbox); have n2_ := Aside0.mk ((by rw [hg]; exact (below_size (by repeat (first | (with_reducible first | exact HB.out | apply below_alloc | apply pw_below_drewN | apply below_drew1) | exact HB.out))) : w.heap.size ≤ gb165)); have n3_ := Aside0.mk ((by rw [hg]; exact (below_size (by repeat (first | (with_reducible first | exact HB.out | apply below_alloc | apply pw_below_drewN | apply below_drew1) | exact HB.out))) : w.heap.size ≤ gb165)); clear HB; have HB := n0_; have BK165 := n1_; have GW165 := n2_; have GE165 := n3_; clear n0_ n1_ n2_ n3_; clear hb hbox hg) | ((with_reducible refine gate_callee (f := 10) rfl ?_); refine goesL_ (some 16) rfl rfl Try.func10 (by kernel_rfl) rfl #[.slice A1 l1.length c1] rfl (by (try simp only [List.map_toArray, List.map_cons, List.map_nil]); first | done | rfl | (simp only [List.length_drop, List.length_take]; rfl)) ?_; (with_reducible refine (customsmade_Table.calls _ _ l1 t184 _ ?side1 ?side2 A80.out).mono ?_); (case side1 => repeat (first | exact (Kd.C_below HR1.out HB.out) | (with_reducible refine Kd.C_alloc ?_ _) | (with_reducible refine Kd.C_drewN ?_ _) | (with_reducible refine Kd.C_drew ?_))); (case side2 => exact HC1.out); rintro e w96 ⟨v185, rfl, ho0, hb⟩; refine ⟨_, rfl, ?_⟩; have n0_ := Aside0.mk (Kd.R_lower (Kd.R_newB ho0 (g := gb165) (o := .cells #[.string a3_0, .int .i64 a3_1, .int .i64 a3_2] 25 (0, 0)) (by (with_reducible repeat (first | refine blk_drewN ?_ _ | refine blk_drew ?_ | refine blk_alloc ?_ _)); exact BK165.out)) (below_size (by repeat (first | (with_reducible first | exact HB.out | apply below_alloc | apply pw_below_drewN | apply below_drew1 | refine below_set ?_ GE165.out) | exact HB.out)))); have n1_ := Aside0.mk (blk_below (g := gb165) (o := .cells #[.string a3_0, .int .i64 a3_1, .int .i64 a3_2] 25 (0, 0)) (by (with_reducible repeat (first | refine blk_drewN ?_ _ | refine blk_drew ?_ | refine blk_alloc ?_ _)); exact BK165.out) hb); have n2_ := Aside0.mk (below_step (by repeat (first | (with_reducible first | exact HB.out | apply below_alloc | apply pw_below_drewN | apply below_drew1 | refine below_set ?_ GE165.out) | exact HB.out)) hb); clear BK165; clear HB; have HO186 := n0_; have BK165 := n1_; have HB := n2_; clear n0_ n1_ n2_; (try clear hb); (try clear hb2); (try clear hk); (try clear hi); (try clear ho0)) | ((with_reducible refine gate_callee (f := 11) rfl ?_); refine goesL_ (some 18) rfl rfl Try.func11 (by kernel_rfl) rfl #[.slice A0 l0.length c0] rfl (by (try simp only [List.map_toArray, List.map_cons, List.map_nil]); first | done | rfl | (simp only [List.length_drop, List.length_take]; rfl)) ?_; (with_reducible refine (currency_Validate.calls k _ _ l0 t187 _ ?side1 ?side2 A81.out).mono ?_); (case side1 => repeat (first | exact (Kd.C_below HR0.out HB.out) | (with_reducible refine Kd.C_alloc ?_ _) | (with_reducible refine Kd.C_drewN ?_ _) | (with_reducible refine Kd.C_drew ?_))); (case side2 => exact HC0.out); rintro e w97 ⟨rfl, hb⟩; refine ⟨_, rfl, ?_⟩; have n0_ := Aside0.mk (Kd.R_below (by (with_reducible repeat (first | apply Kd.R_alloc | apply Kd.R_drewN | apply Kd.R_drew)); exact HO186.out) hb); have n1_ := Aside0.mk (blk_below (g := gb165) (o := .cells #[.string a3_0, .int .i64 a3_1, .int .i64 a3_2] 25 (0, 0)) (by (with_reducible repeat (first | refine blk_drewN ?_ _ | refine blk_drew ?_ | refine blk_alloc ?_ _)); exact BK165.out) hb); have n2_ := Aside0.mk (below_step (by repeat (first | (with_reducible first | exact HB.out | apply below_alloc | apply pw_below_drewN | apply below_drew1 | refine below_set ?_ GE165.out) | exact HB.out)) hb); clear HO186; clear BK165; clear HB; have HO186 := n0_; have BK165 := n1_; have HB := n2_; clear n0_ n1_ n2_; (try clear hb); (try clear hb2); (try clear hk); (try clear hi)) | ((with_reducible refine gate_callee (f := 12) rfl ?_); refine goesL_ (some 20) rfl rfl Try.func12 (by kernel_rfl) rfl #[.slice A0 l0.length c0] rfl (by (try simp only [List.map_toArray, List.map_cons, List.map_nil]); first | done | rfl | (simp only [List.length_drop, List.length_take]; rfl)) ?_; (with_reducible refine (customsref04_Table.calls k _ _ l0 t188 _ ?side1 ?side2 A82.out).mono ?_); (case side1 => repeat (first | exact (Kd.C_below HR0.out HB.out) | (with_reducible refine Kd.C_alloc ?_ _) | (with_reducible refine Kd.C_drewN ?_ _) | (with_reducible refine Kd.C_drew ?_))); (case side2 => exact HC0.out); rintro e w98 ⟨rfl, hb⟩; refine ⟨_, rfl, ?_⟩; have n0_ := Aside0.mk (Kd.R_below (by (with_reducible repeat (first | apply Kd.R_alloc | apply Kd.R_drewN | apply Kd.R_drew)); exact HO186.out) hb); have n1_ := Aside0.mk (blk_below (g := gb165) (o := .cells #[.string a3_0, .int .i64 a3_1, .int .i64 a3_2] 25 (0, 0)) (by (with_reducible repeat (first | refine blk_drewN ?_ _ | refine blk_drew ?_ | refine blk_alloc ?_ _)); exact BK165.out) hb); have n2_ := Aside0.mk (below_step (by repeat (first | (with_reducible first | exact HB.out | apply below_alloc | apply pw_below_drewN | apply below_drew1 | refine below_set ?_ GE165.out) | exact HB.out)) hb); clear HO186; clear BK165; clear HB; have HO186 := n0_; have BK165 := n1_; have HB := n2_; clear n0_ n1_ n2_; (try clear hb); (try clear hb2); (try clear hk); (try clear hi); obtain ⟨Ao99, co99, eo99⟩ := Kd.R_slice HO186.out; subst eo99) | (go_at_call 11; (with_reducible refine (currency_Validate.calls k _ _ t184 t189 _ ?side1 ?side2 A84.out).mono ?_); (case side1 => repeat (first | exact (Kd.R_reads' HO186.out).2.2 | (with_reducible refine Kd.C_alloc ?_ _) | (with_reducible refine Kd.C_drewN ?_ _) | (with_reducible refine Kd.C_drew ?_))); (case side2 => exact (Kd.R_reads' HO186.out).2.1); rintro e w100 ⟨rfl, hb⟩; have n0_ := Aside0.mk (Kd.R_below (by (with_reducible repeat (first | apply Kd.R_alloc | apply Kd.R_drewN | apply Kd.R_drew)); exact HO186.out) hb); have n1_ := Aside0.mk (blk_below (g := gb165) (o := .cells #[.string a3_0, .int .i64 a3_1, .int .i64 a3_2] 25 (0, 0)) (by (with_reducible repeat (first | refine blk_drewN ?_ _ | refine blk_drew ?_ | refine blk_alloc ?_ _)); exact BK165.out) hb); have n2_ := Aside0.mk (below_step (by repeat (first | (with_reducible first | exact HB.out | apply below_alloc | apply pw_below_drewN | apply below_drew1 | refine below_set ?_ GE165.out) | exact HB.out)) hb); clear HO186; clear BK165; clear HB; have HO186 := n0_; have BK165 := n1_; have HB := n2_; clear n0_ n1_ n2_; (try clear hb); (try clear hb2); (try clear hk); (try clear hi)))
                have n0_ := Aside0.mk (Kd.R_drew HO186.out)
                have n1_ := Aside0.mk (blk_drew BK165.out)
                have n2_ := Aside0.mk (below_drew1 HB.out)
                clear HO186
                clear BK165
                clear HB
                have HO186 := n0_
                have BK165 := n1_
                have HB := n2_
                clear n0_ n1_ n2_
                refine start_ (n := 8) (S := fun w' => w'.cell? ⟨gb165, 0, none⟩ = some (.string a3_0) ∧ w'.cell? ⟨gb165, 1, none⟩ = some (.int .i64 a3_1) ∧ w'.cell? ⟨gb165, 2, none⟩ = some (.int .i64 a3_2)) (ds := [7]) #[false, false, false, false, false, false, false, false] (by kernel_rfl) rfl rfl ⟨(blk_cell BK165.out 0).trans rfl, (blk_cell BK165.out 1).trans rfl, (blk_cell BK165.out 2).trans rfl⟩ (fun hHeld => ?_); refine with_tabW customslaw05_CurrencyValidate.tab7 customslaw05_CurrencyValidate.bits7 (fun HT_ HW_ => ?_)
                generalize w100.drew = w101 at HO186 BK165 HB hHeld ⊢
                refine pure_ (i := 0) (N := some 30) (v := ?_) (a' := ?_) #[true, false, false, false, false, false, false, false] rfl rfl (any_of HT_.out (by kernel_rfl)) (fun _ _ _ h => h) (Or.inl ⟨by rfl, ?_⟩) ?_ ?_
                rotate_left
                · intro w'
                  go_simp
                  with_reducible rfl
                rotate_left
                · simp only [Act.put, List.setIfInBounds_toArray, List.set_cons_zero, List.set_cons_succ, i64_w, i32_w]
                  rfl
                refine pure_ (i := 1) (N := some 31) (v := ?_) (a' := ?_) #[true, true, false, false, false, false, false, false] rfl rfl (any_of HT_.out (by kernel_rfl)) (fun _ _ _ h => h) (Or.inl ⟨by rfl, ?_⟩) ?_ ?_
                rotate_left
                · intro w'
                  go_simp
                  with_reducible rfl
                rotate_left
                · simp only [Act.put, List.setIfInBounds_toArray, List.set_cons_zero, List.set_cons_succ, i64_w, i32_w]
                  rfl
                refine pure_ (i := 2) (N := some 32) (v := ?_) (a' := ?_) #[true, true, true, false, false, false, false, false] rfl rfl (any_of HT_.out (by kernel_rfl)) (fun _ _ _ h => h) (Or.inl ⟨by rfl, ?_⟩) ?_ ?_
                rotate_left
                · intro w'
                  go_simp
                  with_reducible rfl
                rotate_left
                · simp only [Act.put, List.setIfInBounds_toArray, List.set_cons_zero, List.set_cons_succ, i64_w, i32_w]
                  rfl
                refine pure_ (i := 3) (N := some 33) (v := ?_) (a' := ?_) #[true, true, true, true, false, false, false, false] rfl rfl (any_of HT_.out (by kernel_rfl)) (fun _ _ _ h => h) (Or.inl ⟨by rfl, ?_⟩) ?_ ?_
                rotate_left
                · intro w'
                  go_simp
                  with_reducible rfl
                rotate_left
                · simp only [Act.put, List.setIfInBounds_toArray, List.set_cons_zero, List.set_cons_succ, i64_w, i32_w]
                  rfl
                refine take_ (i := 5) (N := some 35) (v := ?_) (a' := ?_) #[true, true, true, true, false, true, false, false] rfl rfl (take_ofW HT_.out HW_.out (by kernel_rfl)) (fun _ _ _ h => h) (Or.inl ⟨by rfl, ?_⟩) hHeld ?_ ?_
                rotate_left
                · rintro w' ⟨s0, s1, s2⟩
                  go_simp
                  with_reducible rfl
                rotate_left
                · simp only [Act.put, List.setIfInBounds_toArray, List.set_cons_zero, List.set_cons_succ, i64_w, i32_w]
                  rfl
                refine one_ (i := 4) (N := some 34) #[true, true, true, true, true, true, false, false] rfl rfl (one_of HT_.out (by kernel_rfl)) (by decide) (fun K hK => ?_)
                refine goes_ Try.func13 (by kernel_rfl) rfl #[.int .i64 a2, .int .i64 (t184.length : Int)] (by rfl) rfl rfl (by (try simp only [List.map_toArray, List.map_cons, List.map_nil]); first | done | rfl | (simp only [List.length_drop, List.length_take]; rfl)) ?_
                with_reducible refine (customsmade_Within.calls a2 (t184.length : Int) t190 _ A87.out).mono ?_
                rintro e w' ⟨rfl, ⟨nd, rfl⟩⟩
                refine ⟨_, rfl, ?_⟩
                have p90 : 0 ≤ (t190 : Int) := of_decide_eq_true (by first | (with_reducible assumption) | assumption)
                have q90 : (t190 : Int) < ((t184.length : Int) : Int) := of_decide_eq_true (by first | (with_reducible assumption) | assumption)
                obtain ⟨go90, co90, eo90, gb90, gl90, cl90, HG90⟩ := Kd.R_form HO186.out (by omega)
                (first | cases eo90 | (injection eo90 with ea_ en_ ec_; (first | subst ea_ | (injection ea_ with ea_; subst ea_)); subst ec_; clear en_))
                have GB90 := Aside0.mk gb90
                have GG90 := Aside0.mk HG90
                clear gb90 gl90 HG90
                obtain ⟨ce90, hcl90, hM90, hcc90, hfr90⟩ := Kd.R_elem HO186.out z25 (t190 : Int) p90 q90
                obtain rfl := k25_openM hM90
                have hx90_0 : World.cell? _ ⟨go90, (t190 : Int).toNat * 3, none⟩ = some (.string ((rd_T25 t184 t190).f0)) := hcc90 0 _ rfl
                have hx90_1 : World.cell? _ ⟨go90, (t190 : Int).toNat * 3 + 1, none⟩ = some (.int .i64 ((rd_T25 t184 t190).f1)) := hcc90 1 _ rfl
                have hx90_2 : World.cell? _ ⟨go90, (t190 : Int).toNat * 3 + 2, none⟩ = some (.int .i64 ((rd_T25 t184 t190).f2)) := hcc90 2 _ rfl
                have hf90_0 : World.frozen? _ ⟨go90, (t190 : Int).toNat * 3, none⟩ = false := hfr90 0
                have hf90_1 : World.frozen? _ ⟨go90, (t190 : Int).toNat * 3 + 1, none⟩ = false := hfr90 1
                have hf90_2 : World.frozen? _ ⟨go90, (t190 : Int).toNat * 3 + 2, none⟩ = false := hfr90 2
                clear hcl90 hcc90 hfr90 hM90
                replace p90 := eq_true p90
                replace q90 := eq_true q90
                obtain ⟨ce102, hcl102, hM102, hcc102, hfr102⟩ := Kd.R_elem HO186.out z25 (t190 : Int) (of_decide_eq_true (by first | (with_reducible assumption) | assumption)) (by have h_ : (t190 : Int) < ((t184.length : Int) : Int) := of_decide_eq_true (by first | (with_reducible assumption) | assumption); first | exact h_ | (have e_ := (Kd.R_reads' HO186.out).1; omega) | simpa using h_)
                obtain rfl := k25_openM hM102
                have HP102 := (Kd.R_seg HO186.out (t190 : Int) (of_decide_eq_true (by first | (with_reducible assumption) | assumption)) (by have h_ : (t190 : Int) < ((t184.length : Int) : Int) := of_decide_eq_true (by first | (with_reducible assumption) | assumption); first | exact h_ | (have e_ := (Kd.R_reads' HO186.out).1; omega) | simpa using h_) (seg := [.string a3_0, .int .i64 a3_1, .int .i64 a3_2]) (j := 0) hcl102 hcc102 (show 3 ≤ 3 from by decide) (x' := (⟨a3_0, a3_1, a3_2⟩ : S25)) (k25_mkM _ _ _ (⟨a3_0, a3_1, a3_2⟩ : S25) ) (fun _ hk => hk)).1
                rw [← Ny191.out] at HP102
                have HQ102 := Aside0.mk HP102
                clear hcl102 hcc102 hfr102 hM102 HP102
                refine hK.out _ _ ⟨(blk_cell BK165.out 0).trans rfl, (blk_cell BK165.out 1).trans rfl, (blk_cell BK165.out 2).trans rfl⟩ (fun hHeld => ?_)
                clear hK K
                refine norm_ (a' := ?_) ?_ ?_
                rotate_left
                · show Act.put _ (some 34) _ = _
                  simp only [Act.put, List.setIfInBounds_toArray, List.set_cons_zero, List.set_cons_succ, i64_w, i32_w]
                  rfl
                refine pure_ (i := 6) (N := some 36) (v := ?_) (a' := ?_) #[true, true, true, true, true, true, true, false] rfl rfl (any_of HT_.out (by kernel_rfl)) (fun _ _ _ h => h) (Or.inl ⟨by rfl, ?_⟩) ?_ ?_
                rotate_left
                · intro w'
                  go_simp
                  with_reducible rfl
                rotate_left
                · simp only [Act.put, List.setIfInBounds_toArray, List.set_cons_zero, List.set_cons_succ, i64_w, i32_w]
                  rfl
                refine last_ (i := 7) (N := none) #[true, true, true, true, true, true, true, true] rfl rfl (one_of HT_.out (by kernel_rfl)) (by decide) (fun K hK => ?_)
                refine skip_ (w1 := ?_) (by rfl) rfl ?_ ?_
                rotate_left
                · go_simp
                  rfl
                refine hK.out _ _ ?_
                clear hK K
                refine done_ (done_of HT_.out (by kernel_rfl)) ?_
                try go_wp2_with (first | ((with_reducible refine gate_callee (f := 11) rfl ?_); refine goesL_ (some 38) rfl rfl Try.func11 (by kernel_rfl) rfl #[.slice (some ⟨go90, 0, none⟩) y191.length co99] rfl (by (try simp only [List.map_toArray, List.map_cons, List.map_nil]); first | done | (rw [show y191.length = t184.length from (Kd.R_reads' HQ102.out).1.symm] <;> rfl) | rfl | (simp only [List.length_drop, List.length_take]; rfl)) ?_; (with_reducible refine (currency_Validate.calls k _ _ y191 t192 _ ?side1 ?side2 A91.out).mono ?_); (case side1 => refine (Kd.R_reads' (e := 25) (base := w.heap.size) (ok := fun k_ => (True ∧ k_ ≠ gb165)) (n := t184.length) (c := co99) ?_).2.2; exact (by (with_reducible repeat (first | apply Kd.R_alloc | apply Kd.R_drewN | apply Kd.R_drew)); exact HQ102.out)); (case side2 => rw [show y191.length = t184.length from (Kd.R_reads' HQ102.out).1.symm]; exact (Kd.R_reads' HO186.out).2.1); rintro e w103 ⟨rfl, hb⟩; refine ⟨_, rfl, ?_⟩; have n0_ := Aside0.mk (Kd.R_below (by (with_reducible repeat (first | apply Kd.R_alloc | apply Kd.R_drewN | apply Kd.R_drew)); exact HQ102.out) hb); have n1_ := Aside0.mk (blk_below (g := gb165) (o := .cells #[.string a3_0, .int .i64 a3_1, .int .i64 a3_2] 25 (0, 0)) (by (with_reducible repeat (first | refine blk_drewN ?_ _ | refine blk_drew ?_ | refine blk_alloc ?_ _)); refine blk_far ?_ (by have h_ := Kd.R_away HO186.out (fun _ hk => hk.2); intro e_; exact h_ (by rw [e_]; rfl)) _; (with_reducible repeat (first | refine blk_drewN ?_ _ | refine blk_drew ?_ | refine blk_alloc ?_ _)); refine blk_far ?_ (by have h_ := Kd.R_away HO186.out (fun _ hk => hk.2); intro e_; exact h_ (by rw [e_]; rfl)) _; (with_reducible repeat (first | refine blk_drewN ?_ _ | refine blk_drew ?_ | refine blk_alloc ?_ _)); refine blk_far ?_ (by have h_ := Kd.R_away HO186.out (fun _ hk => hk.2); intro e_; exact h_ (by rw [e_]; rfl)) _; (with_reducible repeat (first | refine blk_drewN ?_ _ | refine blk_drew ?_ | refine blk_alloc ?_ _)); exact BK165.out) hb); have n2_ := Aside0.mk (below_step (by repeat (first | (with_reducible first | exact HB.out | apply below_alloc | apply pw_below_drewN | apply below_drew1 | refine below_set ?_ GB90.out | refine below_set ?_ GB90.out | refine below_set ?_ GB90.out | refine below_set ?_ GE165.out) | exact HB.out)) hb); clear HO186; clear BK165; clear HB; have HO186 := n0_; have BK165 := n1_; have HB := n2_; clear n0_ n1_ n2_; (try clear hb); (try clear hb2); (try clear hk); (try clear hi)) | ((with_reducible refine gate_callee (f := 12) rfl ?_); refine goesL_ (some 40) rfl rfl Try.func12 (by kernel_rfl) rfl #[.slice (some ⟨go90, 0, none⟩) y191.length co99] rfl (by (try simp only [List.map_toArray, List.map_cons, List.map_nil]); first | done | (rw [show y191.length = t184.length from (Kd.R_reads' HO186.out).1.symm] <;> rfl) | rfl | (simp only [List.length_drop, List.length_take]; rfl)) ?_; (with_reducible refine (customsref04_Table.calls k _ _ y191 t193 _ ?side1 ?side2 A92.out).mono ?_); (case side1 => repeat (first | exact (Kd.R_reads' HO186.out).2.2 | (with_reducible refine Kd.C_alloc ?_ _) | (with_reducible refine Kd.C_drewN ?_ _) | (with_reducible refine Kd.C_drew ?_))); (case side2 => rw [show y191.length = t184.length from (Kd.R_reads' HO186.out).1.symm]; exact (Kd.R_reads' HO186.out).2.1); rintro e w104 ⟨rfl, hb⟩; refine ⟨_, rfl, ?_⟩; have n0_ := Aside0.mk (Kd.R_below (by (with_reducible repeat (first | apply Kd.R_alloc | apply Kd.R_drewN | apply Kd.R_drew)); exact HO186.out) hb); have n1_ := Aside0.mk (blk_below (g := gb165) (o := .cells #[.string a3_0, .int .i64 a3_1, .int .i64 a3_2] 25 (0, 0)) (by (with_reducible repeat (first | refine blk_drewN ?_ _ | refine blk_drew ?_ | refine blk_alloc ?_ _)); exact BK165.out) hb); have n2_ := Aside0.mk (below_step (by repeat (first | (with_reducible first | exact HB.out | apply below_alloc | apply pw_below_drewN | apply below_drew1 | refine below_set ?_ GE165.out) | exact HB.out)) hb); clear HO186; clear BK165; clear HB; have HO186 := n0_; have BK165 := n1_; have HB := n2_; clear n0_ n1_ n2_; (try clear hb); (try clear hb2); (try clear hk); (try clear hi)) | (go_at_call 14; (with_reducible refine (customslaw05_awake.calls k  t194 _ A94.out).mono ?_); rintro e w105 ⟨rfl, hb⟩; have n0_ := Aside0.mk (Kd.R_below (by (with_reducible repeat (first | apply Kd.R_alloc | apply Kd.R_drewN | apply Kd.R_drew)); exact HO186.out) hb); have n1_ := Aside0.mk (blk_below (g := gb165) (o := .cells #[.string a3_0, .int .i64 a3_1, .int .i64 a3_2] 25 (0, 0)) (by (with_reducible repeat (first | refine blk_drewN ?_ _ | refine blk_drew ?_ | refine blk_alloc ?_ _)); exact BK165.out) hb); have n2_ := Aside0.mk (below_step (by repeat (first | (with_reducible first | exact HB.out | apply below_alloc | apply pw_below_drewN | apply below_drew1 | refine below_set ?_ GE165.out) | exact HB.out)) hb); clear HO186; clear BK165; clear HB; have HO186 := n0_; have BK165 := n1_; have HB := n2_; clear n0_ n1_ n2_; (try clear hb); (try clear hb2); (try clear hk); (try clear hi)))
                go_ret
                exact ⟨by first | rfl | (simp [errW_none, errW_some] <;> rfl) | (simp [*, errW_none, errW_some] <;> rfl) | (simp (disch := first | assumption | omega) only [Int.tdiv_eq_ediv_of_nonneg, Int.tmod_eq_emod_of_nonneg]; rfl), by repeat (first | (with_reducible first | exact HB.out | apply below_alloc | apply pw_below_drewN | apply below_drew1 | refine below_set ?_ GE165.out) | exact HB.out)⟩
              · rw [if_neg c93] at H
                have c93b0 : (t192 == t193) = false := beq_eq_false_iff_ne.mpr c93
                have c93b1 : (t192 != t193) = true := bne_iff_ne.mpr c93
                obtain rfl := Option.some.inj H
                go_enter Try.func3, Try.ntmps3
                try go_wp2_with (first | ((with_reducible refine gate_dst (N := 7) rfl ?_); refine box_event ?hg (N := 7) ?hd (cs := #[.string a3_0, .int .i64 a3_1, .int .i64 a3_2]) (t := 25) ?hr ?_; (case hd => rfl); (case hg => rfl); (case hr => first | (go_simp; done) | (go_simp; rfl)); intro gb165 hg w106 hbox hb; have n0_ := Aside0.mk (below_step (by repeat (first | (with_reducible first | exact HB.out | apply below_alloc | apply pw_below_drewN | apply below_drew1) | exact HB.out)) hb); have n1_ := Aside0.mk (hbox); have n2_ := Aside0.mk ((by rw [hg]; exact (below_size (by repeat (first | (with_reducible first | exact HB.out | apply below_alloc | apply pw_below_drewN | apply below_drew1) | exact HB.out))) : w.heap.size ≤ gb165)); have n3_ := Aside0.mk ((by rw [hg]; exact (below_size (by repeat (first | (with_reducible first | exact HB.out | apply below_alloc | apply pw_below_drewN | apply below_drew1) | exact HB.out))) : w.heap.size ≤ gb165)); clear HB; have HB := n0_; have BK165 := n1_; have GW165 := n2_; have GE165 := n3_; clear n0_ n1_ n2_ n3_; clear hb hbox hg) | ((with_reducible refine gate_callee (f := 10) rfl ?_); refine goesL_ (some 16) rfl rfl Try.func10 (by kernel_rfl) rfl #[.slice A1 l1.length c1] rfl (by (try simp only [List.map_toArray, List.map_cons, List.map_nil]); first | done | rfl | (simp only [List.length_drop, List.length_take]; rfl)) ?_; (with_reducible refine (customsmade_Table.calls _ _ l1 t184 _ ?side1 ?side2 A80.out).mono ?_); (case side1 => repeat (first | exact (Kd.C_below HR1.out HB.out) | (with_reducible refine Kd.C_alloc ?_ _) | (with_reducible refine Kd.C_drewN ?_ _) | (with_reducible refine Kd.C_drew ?_))); (case side2 => exact HC1.out); rintro e w107 ⟨v185, rfl, ho0, hb⟩; refine ⟨_, rfl, ?_⟩; have n0_ := Aside0.mk (Kd.R_lower (Kd.R_newB ho0 (g := gb165) (o := .cells #[.string a3_0, .int .i64 a3_1, .int .i64 a3_2] 25 (0, 0)) (by (with_reducible repeat (first | refine blk_drewN ?_ _ | refine blk_drew ?_ | refine blk_alloc ?_ _)); exact BK165.out)) (below_size (by repeat (first | (with_reducible first | exact HB.out | apply below_alloc | apply pw_below_drewN | apply below_drew1 | refine below_set ?_ GE165.out) | exact HB.out)))); have n1_ := Aside0.mk (blk_below (g := gb165) (o := .cells #[.string a3_0, .int .i64 a3_1, .int .i64 a3_2] 25 (0, 0)) (by (with_reducible repeat (first | refine blk_drewN ?_ _ | refine blk_drew ?_ | refine blk_alloc ?_ _)); exact BK165.out) hb); have n2_ := Aside0.mk (below_step (by repeat (first | (with_reducible first | exact HB.out | apply below_alloc | apply pw_below_drewN | apply below_drew1 | refine below_set ?_ GE165.out) | exact HB.out)) hb); clear BK165; clear HB; have HO186 := n0_; have BK165 := n1_; have HB := n2_; clear n0_ n1_ n2_; (try clear hb); (try clear hb2); (try clear hk); (try clear hi); (try clear ho0)) | ((with_reducible refine gate_callee (f := 11) rfl ?_); refine goesL_ (some 18) rfl rfl Try.func11 (by kernel_rfl) rfl #[.slice A0 l0.length c0] rfl (by (try simp only [List.map_toArray, List.map_cons, List.map_nil]); first | done | rfl | (simp only [List.length_drop, List.length_take]; rfl)) ?_; (with_reducible refine (currency_Validate.calls k _ _ l0 t187 _ ?side1 ?side2 A81.out).mono ?_); (case side1 => repeat (first | exact (Kd.C_below HR0.out HB.out) | (with_reducible refine Kd.C_alloc ?_ _) | (with_reducible refine Kd.C_drewN ?_ _) | (with_reducible refine Kd.C_drew ?_))); (case side2 => exact HC0.out); rintro e w108 ⟨rfl, hb⟩; refine ⟨_, rfl, ?_⟩; have n0_ := Aside0.mk (Kd.R_below (by (with_reducible repeat (first | apply Kd.R_alloc | apply Kd.R_drewN | apply Kd.R_drew)); exact HO186.out) hb); have n1_ := Aside0.mk (blk_below (g := gb165) (o := .cells #[.string a3_0, .int .i64 a3_1, .int .i64 a3_2] 25 (0, 0)) (by (with_reducible repeat (first | refine blk_drewN ?_ _ | refine blk_drew ?_ | refine blk_alloc ?_ _)); exact BK165.out) hb); have n2_ := Aside0.mk (below_step (by repeat (first | (with_reducible first | exact HB.out | apply below_alloc | apply pw_below_drewN | apply below_drew1 | refine below_set ?_ GE165.out) | exact HB.out)) hb); clear HO186; clear BK165; clear HB; have HO186 := n0_; have BK165 := n1_; have HB := n2_; clear n0_ n1_ n2_; (try clear hb); (try clear hb2); (try clear hk); (try clear hi)) | ((with_reducible refine gate_callee (f := 12) rfl ?_); refine goesL_ (some 20) rfl rfl Try.func12 (by kernel_rfl) rfl #[.slice A0 l0.length c0] rfl (by (try simp only [List.map_toArray, List.map_cons, List.map_nil]); first | done | rfl | (simp only [List.length_drop, List.length_take]; rfl)) ?_; (with_reducible refine (customsref04_Table.calls k _ _ l0 t188 _ ?side1 ?side2 A82.out).mono ?_); (case side1 => repeat (first | exact (Kd.C_below HR0.out HB.out) | (with_reducible refine Kd.C_alloc ?_ _) | (with_reducible refine Kd.C_drewN ?_ _) | (with_reducible refine Kd.C_drew ?_))); (case side2 => exact HC0.out); rintro e w109 ⟨rfl, hb⟩; refine ⟨_, rfl, ?_⟩; have n0_ := Aside0.mk (Kd.R_below (by (with_reducible repeat (first | apply Kd.R_alloc | apply Kd.R_drewN | apply Kd.R_drew)); exact HO186.out) hb); have n1_ := Aside0.mk (blk_below (g := gb165) (o := .cells #[.string a3_0, .int .i64 a3_1, .int .i64 a3_2] 25 (0, 0)) (by (with_reducible repeat (first | refine blk_drewN ?_ _ | refine blk_drew ?_ | refine blk_alloc ?_ _)); exact BK165.out) hb); have n2_ := Aside0.mk (below_step (by repeat (first | (with_reducible first | exact HB.out | apply below_alloc | apply pw_below_drewN | apply below_drew1 | refine below_set ?_ GE165.out) | exact HB.out)) hb); clear HO186; clear BK165; clear HB; have HO186 := n0_; have BK165 := n1_; have HB := n2_; clear n0_ n1_ n2_; (try clear hb); (try clear hb2); (try clear hk); (try clear hi); obtain ⟨Ao110, co110, eo110⟩ := Kd.R_slice HO186.out; subst eo110) | (go_at_call 11; (with_reducible refine (currency_Validate.calls k _ _ t184 t189 _ ?side1 ?side2 A84.out).mono ?_); (case side1 => repeat (first | exact (Kd.R_reads' HO186.out).2.2 | (with_reducible refine Kd.C_alloc ?_ _) | (with_reducible refine Kd.C_drewN ?_ _) | (with_reducible refine Kd.C_drew ?_))); (case side2 => exact (Kd.R_reads' HO186.out).2.1); rintro e w111 ⟨rfl, hb⟩; have n0_ := Aside0.mk (Kd.R_below (by (with_reducible repeat (first | apply Kd.R_alloc | apply Kd.R_drewN | apply Kd.R_drew)); exact HO186.out) hb); have n1_ := Aside0.mk (blk_below (g := gb165) (o := .cells #[.string a3_0, .int .i64 a3_1, .int .i64 a3_2] 25 (0, 0)) (by (with_reducible repeat (first | refine blk_drewN ?_ _ | refine blk_drew ?_ | refine blk_alloc ?_ _)); exact BK165.out) hb); have n2_ := Aside0.mk (below_step (by repeat (first | (with_reducible first | exact HB.out | apply below_alloc | apply pw_below_drewN | apply below_drew1 | refine below_set ?_ GE165.out) | exact HB.out)) hb); clear HO186; clear BK165; clear HB; have HO186 := n0_; have BK165 := n1_; have HB := n2_; clear n0_ n1_ n2_; (try clear hb); (try clear hb2); (try clear hk); (try clear hi)))
                have n0_ := Aside0.mk (Kd.R_drew HO186.out)
                have n1_ := Aside0.mk (blk_drew BK165.out)
                have n2_ := Aside0.mk (below_drew1 HB.out)
                clear HO186
                clear BK165
                clear HB
                have HO186 := n0_
                have BK165 := n1_
                have HB := n2_
                clear n0_ n1_ n2_
                refine start_ (n := 8) (S := fun w' => w'.cell? ⟨gb165, 0, none⟩ = some (.string a3_0) ∧ w'.cell? ⟨gb165, 1, none⟩ = some (.int .i64 a3_1) ∧ w'.cell? ⟨gb165, 2, none⟩ = some (.int .i64 a3_2)) (ds := [7]) #[false, false, false, false, false, false, false, false] (by kernel_rfl) rfl rfl ⟨(blk_cell BK165.out 0).trans rfl, (blk_cell BK165.out 1).trans rfl, (blk_cell BK165.out 2).trans rfl⟩ (fun hHeld => ?_); refine with_tabW customslaw05_CurrencyValidate.tab7 customslaw05_CurrencyValidate.bits7 (fun HT_ HW_ => ?_)
                generalize w111.drew = w112 at HO186 BK165 HB hHeld ⊢
                refine pure_ (i := 0) (N := some 30) (v := ?_) (a' := ?_) #[true, false, false, false, false, false, false, false] rfl rfl (any_of HT_.out (by kernel_rfl)) (fun _ _ _ h => h) (Or.inl ⟨by rfl, ?_⟩) ?_ ?_
                rotate_left
                · intro w'
                  go_simp
                  with_reducible rfl
                rotate_left
                · simp only [Act.put, List.setIfInBounds_toArray, List.set_cons_zero, List.set_cons_succ, i64_w, i32_w]
                  rfl
                refine pure_ (i := 1) (N := some 31) (v := ?_) (a' := ?_) #[true, true, false, false, false, false, false, false] rfl rfl (any_of HT_.out (by kernel_rfl)) (fun _ _ _ h => h) (Or.inl ⟨by rfl, ?_⟩) ?_ ?_
                rotate_left
                · intro w'
                  go_simp
                  with_reducible rfl
                rotate_left
                · simp only [Act.put, List.setIfInBounds_toArray, List.set_cons_zero, List.set_cons_succ, i64_w, i32_w]
                  rfl
                refine pure_ (i := 2) (N := some 32) (v := ?_) (a' := ?_) #[true, true, true, false, false, false, false, false] rfl rfl (any_of HT_.out (by kernel_rfl)) (fun _ _ _ h => h) (Or.inl ⟨by rfl, ?_⟩) ?_ ?_
                rotate_left
                · intro w'
                  go_simp
                  with_reducible rfl
                rotate_left
                · simp only [Act.put, List.setIfInBounds_toArray, List.set_cons_zero, List.set_cons_succ, i64_w, i32_w]
                  rfl
                refine pure_ (i := 3) (N := some 33) (v := ?_) (a' := ?_) #[true, true, true, true, false, false, false, false] rfl rfl (any_of HT_.out (by kernel_rfl)) (fun _ _ _ h => h) (Or.inl ⟨by rfl, ?_⟩) ?_ ?_
                rotate_left
                · intro w'
                  go_simp
                  with_reducible rfl
                rotate_left
                · simp only [Act.put, List.setIfInBounds_toArray, List.set_cons_zero, List.set_cons_succ, i64_w, i32_w]
                  rfl
                refine take_ (i := 5) (N := some 35) (v := ?_) (a' := ?_) #[true, true, true, true, false, true, false, false] rfl rfl (take_ofW HT_.out HW_.out (by kernel_rfl)) (fun _ _ _ h => h) (Or.inl ⟨by rfl, ?_⟩) hHeld ?_ ?_
                rotate_left
                · rintro w' ⟨s0, s1, s2⟩
                  go_simp
                  with_reducible rfl
                rotate_left
                · simp only [Act.put, List.setIfInBounds_toArray, List.set_cons_zero, List.set_cons_succ, i64_w, i32_w]
                  rfl
                refine one_ (i := 4) (N := some 34) #[true, true, true, true, true, true, false, false] rfl rfl (one_of HT_.out (by kernel_rfl)) (by decide) (fun K hK => ?_)
                refine goes_ Try.func13 (by kernel_rfl) rfl #[.int .i64 a2, .int .i64 (t184.length : Int)] (by rfl) rfl rfl (by (try simp only [List.map_toArray, List.map_cons, List.map_nil]); first | done | rfl | (simp only [List.length_drop, List.length_take]; rfl)) ?_
                with_reducible refine (customsmade_Within.calls a2 (t184.length : Int) t190 _ A87.out).mono ?_
                rintro e w' ⟨rfl, ⟨nd, rfl⟩⟩
                refine ⟨_, rfl, ?_⟩
                have p90 : 0 ≤ (t190 : Int) := of_decide_eq_true (by first | (with_reducible assumption) | assumption)
                have q90 : (t190 : Int) < ((t184.length : Int) : Int) := of_decide_eq_true (by first | (with_reducible assumption) | assumption)
                obtain ⟨go90, co90, eo90, gb90, gl90, cl90, HG90⟩ := Kd.R_form HO186.out (by omega)
                (first | cases eo90 | (injection eo90 with ea_ en_ ec_; (first | subst ea_ | (injection ea_ with ea_; subst ea_)); subst ec_; clear en_))
                have GB90 := Aside0.mk gb90
                have GG90 := Aside0.mk HG90
                clear gb90 gl90 HG90
                obtain ⟨ce90, hcl90, hM90, hcc90, hfr90⟩ := Kd.R_elem HO186.out z25 (t190 : Int) p90 q90
                obtain rfl := k25_openM hM90
                have hx90_0 : World.cell? _ ⟨go90, (t190 : Int).toNat * 3, none⟩ = some (.string ((rd_T25 t184 t190).f0)) := hcc90 0 _ rfl
                have hx90_1 : World.cell? _ ⟨go90, (t190 : Int).toNat * 3 + 1, none⟩ = some (.int .i64 ((rd_T25 t184 t190).f1)) := hcc90 1 _ rfl
                have hx90_2 : World.cell? _ ⟨go90, (t190 : Int).toNat * 3 + 2, none⟩ = some (.int .i64 ((rd_T25 t184 t190).f2)) := hcc90 2 _ rfl
                have hf90_0 : World.frozen? _ ⟨go90, (t190 : Int).toNat * 3, none⟩ = false := hfr90 0
                have hf90_1 : World.frozen? _ ⟨go90, (t190 : Int).toNat * 3 + 1, none⟩ = false := hfr90 1
                have hf90_2 : World.frozen? _ ⟨go90, (t190 : Int).toNat * 3 + 2, none⟩ = false := hfr90 2
                clear hcl90 hcc90 hfr90 hM90
                replace p90 := eq_true p90
                replace q90 := eq_true q90
                obtain ⟨ce113, hcl113, hM113, hcc113, hfr113⟩ := Kd.R_elem HO186.out z25 (t190 : Int) (of_decide_eq_true (by first | (with_reducible assumption) | assumption)) (by have h_ : (t190 : Int) < ((t184.length : Int) : Int) := of_decide_eq_true (by first | (with_reducible assumption) | assumption); first | exact h_ | (have e_ := (Kd.R_reads' HO186.out).1; omega) | simpa using h_)
                obtain rfl := k25_openM hM113
                have HP113 := (Kd.R_seg HO186.out (t190 : Int) (of_decide_eq_true (by first | (with_reducible assumption) | assumption)) (by have h_ : (t190 : Int) < ((t184.length : Int) : Int) := of_decide_eq_true (by first | (with_reducible assumption) | assumption); first | exact h_ | (have e_ := (Kd.R_reads' HO186.out).1; omega) | simpa using h_) (seg := [.string a3_0, .int .i64 a3_1, .int .i64 a3_2]) (j := 0) hcl113 hcc113 (show 3 ≤ 3 from by decide) (x' := (⟨a3_0, a3_1, a3_2⟩ : S25)) (k25_mkM _ _ _ (⟨a3_0, a3_1, a3_2⟩ : S25) ) (fun _ hk => hk)).1
                rw [← Ny191.out] at HP113
                have HQ113 := Aside0.mk HP113
                clear hcl113 hcc113 hfr113 hM113 HP113
                refine hK.out _ _ ⟨(blk_cell BK165.out 0).trans rfl, (blk_cell BK165.out 1).trans rfl, (blk_cell BK165.out 2).trans rfl⟩ (fun hHeld => ?_)
                clear hK K
                refine norm_ (a' := ?_) ?_ ?_
                rotate_left
                · show Act.put _ (some 34) _ = _
                  simp only [Act.put, List.setIfInBounds_toArray, List.set_cons_zero, List.set_cons_succ, i64_w, i32_w]
                  rfl
                refine pure_ (i := 6) (N := some 36) (v := ?_) (a' := ?_) #[true, true, true, true, true, true, true, false] rfl rfl (any_of HT_.out (by kernel_rfl)) (fun _ _ _ h => h) (Or.inl ⟨by rfl, ?_⟩) ?_ ?_
                rotate_left
                · intro w'
                  go_simp
                  with_reducible rfl
                rotate_left
                · simp only [Act.put, List.setIfInBounds_toArray, List.set_cons_zero, List.set_cons_succ, i64_w, i32_w]
                  rfl
                refine last_ (i := 7) (N := none) #[true, true, true, true, true, true, true, true] rfl rfl (one_of HT_.out (by kernel_rfl)) (by decide) (fun K hK => ?_)
                refine skip_ (w1 := ?_) (by rfl) rfl ?_ ?_
                rotate_left
                · go_simp
                  rfl
                refine hK.out _ _ ?_
                clear hK K
                refine done_ (done_of HT_.out (by kernel_rfl)) ?_
                try go_wp2_with (first | ((with_reducible refine gate_callee (f := 11) rfl ?_); refine goesL_ (some 38) rfl rfl Try.func11 (by kernel_rfl) rfl #[.slice (some ⟨go90, 0, none⟩) y191.length co110] rfl (by (try simp only [List.map_toArray, List.map_cons, List.map_nil]); first | done | (rw [show y191.length = t184.length from (Kd.R_reads' HQ113.out).1.symm] <;> rfl) | rfl | (simp only [List.length_drop, List.length_take]; rfl)) ?_; (with_reducible refine (currency_Validate.calls k _ _ y191 t192 _ ?side1 ?side2 A91.out).mono ?_); (case side1 => refine (Kd.R_reads' (e := 25) (base := w.heap.size) (ok := fun k_ => (True ∧ k_ ≠ gb165)) (n := t184.length) (c := co110) ?_).2.2; exact (by (with_reducible repeat (first | apply Kd.R_alloc | apply Kd.R_drewN | apply Kd.R_drew)); exact HQ113.out)); (case side2 => rw [show y191.length = t184.length from (Kd.R_reads' HQ113.out).1.symm]; exact (Kd.R_reads' HO186.out).2.1); rintro e w114 ⟨rfl, hb⟩; refine ⟨_, rfl, ?_⟩; have n0_ := Aside0.mk (Kd.R_below (by (with_reducible repeat (first | apply Kd.R_alloc | apply Kd.R_drewN | apply Kd.R_drew)); exact HQ113.out) hb); have n1_ := Aside0.mk (blk_below (g := gb165) (o := .cells #[.string a3_0, .int .i64 a3_1, .int .i64 a3_2] 25 (0, 0)) (by (with_reducible repeat (first | refine blk_drewN ?_ _ | refine blk_drew ?_ | refine blk_alloc ?_ _)); refine blk_far ?_ (by have h_ := Kd.R_away HO186.out (fun _ hk => hk.2); intro e_; exact h_ (by rw [e_]; rfl)) _; (with_reducible repeat (first | refine blk_drewN ?_ _ | refine blk_drew ?_ | refine blk_alloc ?_ _)); refine blk_far ?_ (by have h_ := Kd.R_away HO186.out (fun _ hk => hk.2); intro e_; exact h_ (by rw [e_]; rfl)) _; (with_reducible repeat (first | refine blk_drewN ?_ _ | refine blk_drew ?_ | refine blk_alloc ?_ _)); refine blk_far ?_ (by have h_ := Kd.R_away HO186.out (fun _ hk => hk.2); intro e_; exact h_ (by rw [e_]; rfl)) _; (with_reducible repeat (first | refine blk_drewN ?_ _ | refine blk_drew ?_ | refine blk_alloc ?_ _)); exact BK165.out) hb); have n2_ := Aside0.mk (below_step (by repeat (first | (with_reducible first | exact HB.out | apply below_alloc | apply pw_below_drewN | apply below_drew1 | refine below_set ?_ GB90.out | refine below_set ?_ GB90.out | refine below_set ?_ GB90.out | refine below_set ?_ GE165.out) | exact HB.out)) hb); clear HO186; clear BK165; clear HB; have HO186 := n0_; have BK165 := n1_; have HB := n2_; clear n0_ n1_ n2_; (try clear hb); (try clear hb2); (try clear hk); (try clear hi)) | ((with_reducible refine gate_callee (f := 12) rfl ?_); refine goesL_ (some 40) rfl rfl Try.func12 (by kernel_rfl) rfl #[.slice (some ⟨go90, 0, none⟩) y191.length co110] rfl (by (try simp only [List.map_toArray, List.map_cons, List.map_nil]); first | done | (rw [show y191.length = t184.length from (Kd.R_reads' HO186.out).1.symm] <;> rfl) | rfl | (simp only [List.length_drop, List.length_take]; rfl)) ?_; (with_reducible refine (customsref04_Table.calls k _ _ y191 t193 _ ?side1 ?side2 A92.out).mono ?_); (case side1 => repeat (first | exact (Kd.R_reads' HO186.out).2.2 | (with_reducible refine Kd.C_alloc ?_ _) | (with_reducible refine Kd.C_drewN ?_ _) | (with_reducible refine Kd.C_drew ?_))); (case side2 => rw [show y191.length = t184.length from (Kd.R_reads' HO186.out).1.symm]; exact (Kd.R_reads' HO186.out).2.1); rintro e w115 ⟨rfl, hb⟩; refine ⟨_, rfl, ?_⟩; have n0_ := Aside0.mk (Kd.R_below (by (with_reducible repeat (first | apply Kd.R_alloc | apply Kd.R_drewN | apply Kd.R_drew)); exact HO186.out) hb); have n1_ := Aside0.mk (blk_below (g := gb165) (o := .cells #[.string a3_0, .int .i64 a3_1, .int .i64 a3_2] 25 (0, 0)) (by (with_reducible repeat (first | refine blk_drewN ?_ _ | refine blk_drew ?_ | refine blk_alloc ?_ _)); exact BK165.out) hb); have n2_ := Aside0.mk (below_step (by repeat (first | (with_reducible first | exact HB.out | apply below_alloc | apply pw_below_drewN | apply below_drew1 | refine below_set ?_ GE165.out) | exact HB.out)) hb); clear HO186; clear BK165; clear HB; have HO186 := n0_; have BK165 := n1_; have HB := n2_; clear n0_ n1_ n2_; (try clear hb); (try clear hb2); (try clear hk); (try clear hi)))
                go_ret
                exact ⟨by first | rfl | (simp [errW_none, errW_some] <;> rfl) | (simp [*, errW_none, errW_some] <;> rfl) | (simp (disch := first | assumption | omega) only [Int.tdiv_eq_ediv_of_nonneg, Int.tmod_eq_emod_of_nonneg]; rfl), by repeat (first | (with_reducible first | exact HB.out | apply below_alloc | apply pw_below_drewN | apply below_drew1 | refine below_set ?_ GE165.out) | exact HB.out)⟩
            · rw [if_neg c89] at H
              exact absurd H (by simp)
          · rw [if_neg c88] at H
            exact absurd H (by simp)
        · rw [if_neg c86] at H
          have c86b0 : decide (0 < (t184.length : Int)) = false := decide_eq_false c86
          have c86b1 : decide (0 < t184.length) = false := decide_eq_false (by omega)
          clear c86
          replace H := Option.bind_eq_some_iff.mp H
          obtain ⟨t195, A1160, H⟩ := H
          replace H : ((customsref04_Table.f k t184).bind fun t196 => (if t195 = t196 then ((customslaw05_awake.f k).bind fun t197 => (some t197)) else (some false))) = some r := H
          have A116 := Aside0.mk A1160
          clear A1160
          replace H := Option.bind_eq_some_iff.mp H
          obtain ⟨t196, A1170, H⟩ := H
          replace H : (if t195 = t196 then ((customslaw05_awake.f k).bind fun t197 => (some t197)) else (some false)) = some r := H
          have A117 := Aside0.mk A1170
          clear A1170
          by_cases c118 : t195 = t196
          · rw [if_pos c118] at H
            have c118b0 : (t195 == t196) = true := beq_iff_eq.mpr c118
            have c118b1 : (t195 != t196) = false := bne_eq_false_iff_eq.mpr c118
            clear c118
            replace H := Option.bind_eq_some_iff.mp H
            obtain ⟨t197, A1190, H⟩ := H
            replace H : (some t197) = some r := H
            have A119 := Aside0.mk A1190
            clear A1190
            obtain rfl := Option.some.inj H
            go_enter Try.func3, Try.ntmps3
            go_wp2_with (first | ((with_reducible refine gate_dst (N := 7) rfl ?_); refine box_event ?hg (N := 7) ?hd (cs := #[.string a3_0, .int .i64 a3_1, .int .i64 a3_2]) (t := 25) ?hr ?_; (case hd => rfl); (case hg => rfl); (case hr => first | (go_simp; done) | (go_simp; rfl)); intro gb165 hg w120 hbox hb; have n0_ := Aside0.mk (below_step (by repeat (first | (with_reducible first | exact HB.out | apply below_alloc | apply pw_below_drewN | apply below_drew1) | exact HB.out)) hb); have n1_ := Aside0.mk (hbox); have n2_ := Aside0.mk ((by rw [hg]; exact (below_size (by repeat (first | (with_reducible first | exact HB.out | apply below_alloc | apply pw_below_drewN | apply below_drew1) | exact HB.out))) : w.heap.size ≤ gb165)); have n3_ := Aside0.mk ((by rw [hg]; exact (below_size (by repeat (first | (with_reducible first | exact HB.out | apply below_alloc | apply pw_below_drewN | apply below_drew1) | exact HB.out))) : w.heap.size ≤ gb165)); clear HB; have HB := n0_; have BK165 := n1_; have GW165 := n2_; have GE165 := n3_; clear n0_ n1_ n2_ n3_; clear hb hbox hg) | ((with_reducible refine gate_callee (f := 10) rfl ?_); refine goesL_ (some 16) rfl rfl Try.func10 (by kernel_rfl) rfl #[.slice A1 l1.length c1] rfl (by (try simp only [List.map_toArray, List.map_cons, List.map_nil]); first | done | rfl | (simp only [List.length_drop, List.length_take]; rfl)) ?_; (with_reducible refine (customsmade_Table.calls _ _ l1 t184 _ ?side1 ?side2 A80.out).mono ?_); (case side1 => repeat (first | exact (Kd.C_below HR1.out HB.out) | (with_reducible refine Kd.C_alloc ?_ _) | (with_reducible refine Kd.C_drewN ?_ _) | (with_reducible refine Kd.C_drew ?_))); (case side2 => exact HC1.out); rintro e w121 ⟨v185, rfl, ho0, hb⟩; refine ⟨_, rfl, ?_⟩; have n0_ := Aside0.mk (Kd.R_lower (Kd.R_newB ho0 (g := gb165) (o := .cells #[.string a3_0, .int .i64 a3_1, .int .i64 a3_2] 25 (0, 0)) (by (with_reducible repeat (first | refine blk_drewN ?_ _ | refine blk_drew ?_ | refine blk_alloc ?_ _)); exact BK165.out)) (below_size (by repeat (first | (with_reducible first | exact HB.out | apply below_alloc | apply pw_below_drewN | apply below_drew1 | refine below_set ?_ GE165.out) | exact HB.out)))); have n1_ := Aside0.mk (blk_below (g := gb165) (o := .cells #[.string a3_0, .int .i64 a3_1, .int .i64 a3_2] 25 (0, 0)) (by (with_reducible repeat (first | refine blk_drewN ?_ _ | refine blk_drew ?_ | refine blk_alloc ?_ _)); exact BK165.out) hb); have n2_ := Aside0.mk (below_step (by repeat (first | (with_reducible first | exact HB.out | apply below_alloc | apply pw_below_drewN | apply below_drew1 | refine below_set ?_ GE165.out) | exact HB.out)) hb); clear BK165; clear HB; have HO186 := n0_; have BK165 := n1_; have HB := n2_; clear n0_ n1_ n2_; (try clear hb); (try clear hb2); (try clear hk); (try clear hi); (try clear ho0)) | ((with_reducible refine gate_callee (f := 11) rfl ?_); refine goesL_ (some 18) rfl rfl Try.func11 (by kernel_rfl) rfl #[.slice A0 l0.length c0] rfl (by (try simp only [List.map_toArray, List.map_cons, List.map_nil]); first | done | rfl | (simp only [List.length_drop, List.length_take]; rfl)) ?_; (with_reducible refine (currency_Validate.calls k _ _ l0 t187 _ ?side1 ?side2 A81.out).mono ?_); (case side1 => repeat (first | exact (Kd.C_below HR0.out HB.out) | (with_reducible refine Kd.C_alloc ?_ _) | (with_reducible refine Kd.C_drewN ?_ _) | (with_reducible refine Kd.C_drew ?_))); (case side2 => exact HC0.out); rintro e w122 ⟨rfl, hb⟩; refine ⟨_, rfl, ?_⟩; have n0_ := Aside0.mk (Kd.R_below (by (with_reducible repeat (first | apply Kd.R_alloc | apply Kd.R_drewN | apply Kd.R_drew)); exact HO186.out) hb); have n1_ := Aside0.mk (blk_below (g := gb165) (o := .cells #[.string a3_0, .int .i64 a3_1, .int .i64 a3_2] 25 (0, 0)) (by (with_reducible repeat (first | refine blk_drewN ?_ _ | refine blk_drew ?_ | refine blk_alloc ?_ _)); exact BK165.out) hb); have n2_ := Aside0.mk (below_step (by repeat (first | (with_reducible first | exact HB.out | apply below_alloc | apply pw_below_drewN | apply below_drew1 | refine below_set ?_ GE165.out) | exact HB.out)) hb); clear HO186; clear BK165; clear HB; have HO186 := n0_; have BK165 := n1_; have HB := n2_; clear n0_ n1_ n2_; (try clear hb); (try clear hb2); (try clear hk); (try clear hi)) | ((with_reducible refine gate_callee (f := 12) rfl ?_); refine goesL_ (some 20) rfl rfl Try.func12 (by kernel_rfl) rfl #[.slice A0 l0.length c0] rfl (by (try simp only [List.map_toArray, List.map_cons, List.map_nil]); first | done | rfl | (simp only [List.length_drop, List.length_take]; rfl)) ?_; (with_reducible refine (customsref04_Table.calls k _ _ l0 t188 _ ?side1 ?side2 A82.out).mono ?_); (case side1 => repeat (first | exact (Kd.C_below HR0.out HB.out) | (with_reducible refine Kd.C_alloc ?_ _) | (with_reducible refine Kd.C_drewN ?_ _) | (with_reducible refine Kd.C_drew ?_))); (case side2 => exact HC0.out); rintro e w123 ⟨rfl, hb⟩; refine ⟨_, rfl, ?_⟩; have n0_ := Aside0.mk (Kd.R_below (by (with_reducible repeat (first | apply Kd.R_alloc | apply Kd.R_drewN | apply Kd.R_drew)); exact HO186.out) hb); have n1_ := Aside0.mk (blk_below (g := gb165) (o := .cells #[.string a3_0, .int .i64 a3_1, .int .i64 a3_2] 25 (0, 0)) (by (with_reducible repeat (first | refine blk_drewN ?_ _ | refine blk_drew ?_ | refine blk_alloc ?_ _)); exact BK165.out) hb); have n2_ := Aside0.mk (below_step (by repeat (first | (with_reducible first | exact HB.out | apply below_alloc | apply pw_below_drewN | apply below_drew1 | refine below_set ?_ GE165.out) | exact HB.out)) hb); clear HO186; clear BK165; clear HB; have HO186 := n0_; have BK165 := n1_; have HB := n2_; clear n0_ n1_ n2_; (try clear hb); (try clear hb2); (try clear hk); (try clear hi); obtain ⟨Ao124, co124, eo124⟩ := Kd.R_slice HO186.out; subst eo124) | (go_at_call 11; (with_reducible refine (currency_Validate.calls k _ _ t184 t189 _ ?side1 ?side2 A84.out).mono ?_); (case side1 => repeat (first | exact (Kd.R_reads' HO186.out).2.2 | (with_reducible refine Kd.C_alloc ?_ _) | (with_reducible refine Kd.C_drewN ?_ _) | (with_reducible refine Kd.C_drew ?_))); (case side2 => exact (Kd.R_reads' HO186.out).2.1); rintro e w125 ⟨rfl, hb⟩; have n0_ := Aside0.mk (Kd.R_below (by (with_reducible repeat (first | apply Kd.R_alloc | apply Kd.R_drewN | apply Kd.R_drew)); exact HO186.out) hb); have n1_ := Aside0.mk (blk_below (g := gb165) (o := .cells #[.string a3_0, .int .i64 a3_1, .int .i64 a3_2] 25 (0, 0)) (by (with_reducible repeat (first | refine blk_drewN ?_ _ | refine blk_drew ?_ | refine blk_alloc ?_ _)); exact BK165.out) hb); have n2_ := Aside0.mk (below_step (by repeat (first | (with_reducible first | exact HB.out | apply below_alloc | apply pw_below_drewN | apply below_drew1 | refine below_set ?_ GE165.out) | exact HB.out)) hb); clear HO186; clear BK165; clear HB; have HO186 := n0_; have BK165 := n1_; have HB := n2_; clear n0_ n1_ n2_; (try clear hb); (try clear hb2); (try clear hk); (try clear hi)) | ((with_reducible refine gate_callee (f := 11) rfl ?_); refine goesL_ (some 38) rfl rfl Try.func11 (by kernel_rfl) rfl #[.slice Ao124 t184.length co124] rfl (by (try simp only [List.map_toArray, List.map_cons, List.map_nil]); first | done | rfl | (simp only [List.length_drop, List.length_take]; rfl)) ?_; (with_reducible refine (currency_Validate.calls k _ _ t184 t195 _ ?side1 ?side2 A116.out).mono ?_); (case side1 => repeat (first | exact (Kd.R_reads' HO186.out).2.2 | (with_reducible refine Kd.C_alloc ?_ _) | (with_reducible refine Kd.C_drewN ?_ _) | (with_reducible refine Kd.C_drew ?_))); (case side2 => exact (Kd.R_reads' HO186.out).2.1); rintro e w126 ⟨rfl, hb⟩; refine ⟨_, rfl, ?_⟩; have n0_ := Aside0.mk (Kd.R_below (by (with_reducible repeat (first | apply Kd.R_alloc | apply Kd.R_drewN | apply Kd.R_drew)); exact HO186.out) hb); have n1_ := Aside0.mk (blk_below (g := gb165) (o := .cells #[.string a3_0, .int .i64 a3_1, .int .i64 a3_2] 25 (0, 0)) (by (with_reducible repeat (first | refine blk_drewN ?_ _ | refine blk_drew ?_ | refine blk_alloc ?_ _)); exact BK165.out) hb); have n2_ := Aside0.mk (below_step (by repeat (first | (with_reducible first | exact HB.out | apply below_alloc | apply pw_below_drewN | apply below_drew1 | refine below_set ?_ GE165.out) | exact HB.out)) hb); clear HO186; clear BK165; clear HB; have HO186 := n0_; have BK165 := n1_; have HB := n2_; clear n0_ n1_ n2_; (try clear hb); (try clear hb2); (try clear hk); (try clear hi)) | ((with_reducible refine gate_callee (f := 12) rfl ?_); refine goesL_ (some 40) rfl rfl Try.func12 (by kernel_rfl) rfl #[.slice Ao124 t184.length co124] rfl (by (try simp only [List.map_toArray, List.map_cons, List.map_nil]); first | done | rfl | (simp only [List.length_drop, List.length_take]; rfl)) ?_; (with_reducible refine (customsref04_Table.calls k _ _ t184 t196 _ ?side1 ?side2 A117.out).mono ?_); (case side1 => repeat (first | exact (Kd.R_reads' HO186.out).2.2 | (with_reducible refine Kd.C_alloc ?_ _) | (with_reducible refine Kd.C_drewN ?_ _) | (with_reducible refine Kd.C_drew ?_))); (case side2 => exact (Kd.R_reads' HO186.out).2.1); rintro e w127 ⟨rfl, hb⟩; refine ⟨_, rfl, ?_⟩; have n0_ := Aside0.mk (Kd.R_below (by (with_reducible repeat (first | apply Kd.R_alloc | apply Kd.R_drewN | apply Kd.R_drew)); exact HO186.out) hb); have n1_ := Aside0.mk (blk_below (g := gb165) (o := .cells #[.string a3_0, .int .i64 a3_1, .int .i64 a3_2] 25 (0, 0)) (by (with_reducible repeat (first | refine blk_drewN ?_ _ | refine blk_drew ?_ | refine blk_alloc ?_ _)); exact BK165.out) hb); have n2_ := Aside0.mk (below_step (by repeat (first | (with_reducible first | exact HB.out | apply below_alloc | apply pw_below_drewN | apply below_drew1 | refine below_set ?_ GE165.out) | exact HB.out)) hb); clear HO186; clear BK165; clear HB; have HO186 := n0_; have BK165 := n1_; have HB := n2_; clear n0_ n1_ n2_; (try clear hb); (try clear hb2); (try clear hk); (try clear hi)) | (go_at_call 14; (with_reducible refine (customslaw05_awake.calls k  t197 _ A119.out).mono ?_); rintro e w128 ⟨rfl, hb⟩; have n0_ := Aside0.mk (Kd.R_below (by (with_reducible repeat (first | apply Kd.R_alloc | apply Kd.R_drewN | apply Kd.R_drew)); exact HO186.out) hb); have n1_ := Aside0.mk (blk_below (g := gb165) (o := .cells #[.string a3_0, .int .i64 a3_1, .int .i64 a3_2] 25 (0, 0)) (by (with_reducible repeat (first | refine blk_drewN ?_ _ | refine blk_drew ?_ | refine blk_alloc ?_ _)); exact BK165.out) hb); have n2_ := Aside0.mk (below_step (by repeat (first | (with_reducible first | exact HB.out | apply below_alloc | apply pw_below_drewN | apply below_drew1 | refine below_set ?_ GE165.out) | exact HB.out)) hb); clear HO186; clear BK165; clear HB; have HO186 := n0_; have BK165 := n1_; have HB := n2_; clear n0_ n1_ n2_; (try clear hb); (try clear hb2); (try clear hk); (try clear hi)))
            go_ret
            exact ⟨by first | rfl | (simp [errW_none, errW_some] <;> rfl) | (simp [*, errW_none, errW_some] <;> rfl) | (simp (disch := first | assumption | omega) only [Int.tdiv_eq_ediv_of_nonneg, Int.tmod_eq_emod_of_nonneg]; rfl), by repeat (first | (with_reducible first | exact HB.out | apply below_alloc | apply pw_below_drewN | apply below_drew1 | refine below_set ?_ GE165.out) | exact HB.out)⟩
          · rw [if_neg c118] at H
            have c118b0 : (t195 == t196) = false := beq_eq_false_iff_ne.mpr c118
            have c118b1 : (t195 != t196) = true := bne_iff_ne.mpr c118
            obtain rfl := Option.some.inj H
            go_enter Try.func3, Try.ntmps3
            go_wp2_with (first | ((with_reducible refine gate_dst (N := 7) rfl ?_); refine box_event ?hg (N := 7) ?hd (cs := #[.string a3_0, .int .i64 a3_1, .int .i64 a3_2]) (t := 25) ?hr ?_; (case hd => rfl); (case hg => rfl); (case hr => first | (go_simp; done) | (go_simp; rfl)); intro gb165 hg w129 hbox hb; have n0_ := Aside0.mk (below_step (by repeat (first | (with_reducible first | exact HB.out | apply below_alloc | apply pw_below_drewN | apply below_drew1) | exact HB.out)) hb); have n1_ := Aside0.mk (hbox); have n2_ := Aside0.mk ((by rw [hg]; exact (below_size (by repeat (first | (with_reducible first | exact HB.out | apply below_alloc | apply pw_below_drewN | apply below_drew1) | exact HB.out))) : w.heap.size ≤ gb165)); have n3_ := Aside0.mk ((by rw [hg]; exact (below_size (by repeat (first | (with_reducible first | exact HB.out | apply below_alloc | apply pw_below_drewN | apply below_drew1) | exact HB.out))) : w.heap.size ≤ gb165)); clear HB; have HB := n0_; have BK165 := n1_; have GW165 := n2_; have GE165 := n3_; clear n0_ n1_ n2_ n3_; clear hb hbox hg) | ((with_reducible refine gate_callee (f := 10) rfl ?_); refine goesL_ (some 16) rfl rfl Try.func10 (by kernel_rfl) rfl #[.slice A1 l1.length c1] rfl (by (try simp only [List.map_toArray, List.map_cons, List.map_nil]); first | done | rfl | (simp only [List.length_drop, List.length_take]; rfl)) ?_; (with_reducible refine (customsmade_Table.calls _ _ l1 t184 _ ?side1 ?side2 A80.out).mono ?_); (case side1 => repeat (first | exact (Kd.C_below HR1.out HB.out) | (with_reducible refine Kd.C_alloc ?_ _) | (with_reducible refine Kd.C_drewN ?_ _) | (with_reducible refine Kd.C_drew ?_))); (case side2 => exact HC1.out); rintro e w130 ⟨v185, rfl, ho0, hb⟩; refine ⟨_, rfl, ?_⟩; have n0_ := Aside0.mk (Kd.R_lower (Kd.R_newB ho0 (g := gb165) (o := .cells #[.string a3_0, .int .i64 a3_1, .int .i64 a3_2] 25 (0, 0)) (by (with_reducible repeat (first | refine blk_drewN ?_ _ | refine blk_drew ?_ | refine blk_alloc ?_ _)); exact BK165.out)) (below_size (by repeat (first | (with_reducible first | exact HB.out | apply below_alloc | apply pw_below_drewN | apply below_drew1 | refine below_set ?_ GE165.out) | exact HB.out)))); have n1_ := Aside0.mk (blk_below (g := gb165) (o := .cells #[.string a3_0, .int .i64 a3_1, .int .i64 a3_2] 25 (0, 0)) (by (with_reducible repeat (first | refine blk_drewN ?_ _ | refine blk_drew ?_ | refine blk_alloc ?_ _)); exact BK165.out) hb); have n2_ := Aside0.mk (below_step (by repeat (first | (with_reducible first | exact HB.out | apply below_alloc | apply pw_below_drewN | apply below_drew1 | refine below_set ?_ GE165.out) | exact HB.out)) hb); clear BK165; clear HB; have HO186 := n0_; have BK165 := n1_; have HB := n2_; clear n0_ n1_ n2_; (try clear hb); (try clear hb2); (try clear hk); (try clear hi); (try clear ho0)) | ((with_reducible refine gate_callee (f := 11) rfl ?_); refine goesL_ (some 18) rfl rfl Try.func11 (by kernel_rfl) rfl #[.slice A0 l0.length c0] rfl (by (try simp only [List.map_toArray, List.map_cons, List.map_nil]); first | done | rfl | (simp only [List.length_drop, List.length_take]; rfl)) ?_; (with_reducible refine (currency_Validate.calls k _ _ l0 t187 _ ?side1 ?side2 A81.out).mono ?_); (case side1 => repeat (first | exact (Kd.C_below HR0.out HB.out) | (with_reducible refine Kd.C_alloc ?_ _) | (with_reducible refine Kd.C_drewN ?_ _) | (with_reducible refine Kd.C_drew ?_))); (case side2 => exact HC0.out); rintro e w131 ⟨rfl, hb⟩; refine ⟨_, rfl, ?_⟩; have n0_ := Aside0.mk (Kd.R_below (by (with_reducible repeat (first | apply Kd.R_alloc | apply Kd.R_drewN | apply Kd.R_drew)); exact HO186.out) hb); have n1_ := Aside0.mk (blk_below (g := gb165) (o := .cells #[.string a3_0, .int .i64 a3_1, .int .i64 a3_2] 25 (0, 0)) (by (with_reducible repeat (first | refine blk_drewN ?_ _ | refine blk_drew ?_ | refine blk_alloc ?_ _)); exact BK165.out) hb); have n2_ := Aside0.mk (below_step (by repeat (first | (with_reducible first | exact HB.out | apply below_alloc | apply pw_below_drewN | apply below_drew1 | refine below_set ?_ GE165.out) | exact HB.out)) hb); clear HO186; clear BK165; clear HB; have HO186 := n0_; have BK165 := n1_; have HB := n2_; clear n0_ n1_ n2_; (try clear hb); (try clear hb2); (try clear hk); (try clear hi)) | ((with_reducible refine gate_callee (f := 12) rfl ?_); refine goesL_ (some 20) rfl rfl Try.func12 (by kernel_rfl) rfl #[.slice A0 l0.length c0] rfl (by (try simp only [List.map_toArray, List.map_cons, List.map_nil]); first | done | rfl | (simp only [List.length_drop, List.length_take]; rfl)) ?_; (with_reducible refine (customsref04_Table.calls k _ _ l0 t188 _ ?side1 ?side2 A82.out).mono ?_); (case side1 => repeat (first | exact (Kd.C_below HR0.out HB.out) | (with_reducible refine Kd.C_alloc ?_ _) | (with_reducible refine Kd.C_drewN ?_ _) | (with_reducible refine Kd.C_drew ?_))); (case side2 => exact HC0.out); rintro e w132 ⟨rfl, hb⟩; refine ⟨_, rfl, ?_⟩; have n0_ := Aside0.mk (Kd.R_below (by (with_reducible repeat (first | apply Kd.R_alloc | apply Kd.R_drewN | apply Kd.R_drew)); exact HO186.out) hb); have n1_ := Aside0.mk (blk_below (g := gb165) (o := .cells #[.string a3_0, .int .i64 a3_1, .int .i64 a3_2] 25 (0, 0)) (by (with_reducible repeat (first | refine blk_drewN ?_ _ | refine blk_drew ?_ | refine blk_alloc ?_ _)); exact BK165.out) hb); have n2_ := Aside0.mk (below_step (by repeat (first | (with_reducible first | exact HB.out | apply below_alloc | apply pw_below_drewN | apply below_drew1 | refine below_set ?_ GE165.out) | exact HB.out)) hb); clear HO186; clear BK165; clear HB; have HO186 := n0_; have BK165 := n1_; have HB := n2_; clear n0_ n1_ n2_; (try clear hb); (try clear hb2); (try clear hk); (try clear hi); obtain ⟨Ao133, co133, eo133⟩ := Kd.R_slice HO186.out; subst eo133) | (go_at_call 11; (with_reducible refine (currency_Validate.calls k _ _ t184 t189 _ ?side1 ?side2 A84.out).mono ?_); (case side1 => repeat (first | exact (Kd.R_reads' HO186.out).2.2 | (with_reducible refine Kd.C_alloc ?_ _) | (with_reducible refine Kd.C_drewN ?_ _) | (with_reducible refine Kd.C_drew ?_))); (case side2 => exact (Kd.R_reads' HO186.out).2.1); rintro e w134 ⟨rfl, hb⟩; have n0_ := Aside0.mk (Kd.R_below (by (with_reducible repeat (first | apply Kd.R_alloc | apply Kd.R_drewN | apply Kd.R_drew)); exact HO186.out) hb); have n1_ := Aside0.mk (blk_below (g := gb165) (o := .cells #[.string a3_0, .int .i64 a3_1, .int .i64 a3_2] 25 (0, 0)) (by (with_reducible repeat (first | refine blk_drewN ?_ _ | refine blk_drew ?_ | refine blk_alloc ?_ _)); exact BK165.out) hb); have n2_ := Aside0.mk (below_step (by repeat (first | (with_reducible first | exact HB.out | apply below_alloc | apply pw_below_drewN | apply below_drew1 | refine below_set ?_ GE165.out) | exact HB.out)) hb); clear HO186; clear BK165; clear HB; have HO186 := n0_; have BK165 := n1_; have HB := n2_; clear n0_ n1_ n2_; (try clear hb); (try clear hb2); (try clear hk); (try clear hi)) | ((with_reducible refine gate_callee (f := 11) rfl ?_); refine goesL_ (some 38) rfl rfl Try.func11 (by kernel_rfl) rfl #[.slice Ao133 t184.length co133] rfl (by (try simp only [List.map_toArray, List.map_cons, List.map_nil]); first | done | rfl | (simp only [List.length_drop, List.length_take]; rfl)) ?_; (with_reducible refine (currency_Validate.calls k _ _ t184 t195 _ ?side1 ?side2 A116.out).mono ?_); (case side1 => repeat (first | exact (Kd.R_reads' HO186.out).2.2 | (with_reducible refine Kd.C_alloc ?_ _) | (with_reducible refine Kd.C_drewN ?_ _) | (with_reducible refine Kd.C_drew ?_))); (case side2 => exact (Kd.R_reads' HO186.out).2.1); rintro e w135 ⟨rfl, hb⟩; refine ⟨_, rfl, ?_⟩; have n0_ := Aside0.mk (Kd.R_below (by (with_reducible repeat (first | apply Kd.R_alloc | apply Kd.R_drewN | apply Kd.R_drew)); exact HO186.out) hb); have n1_ := Aside0.mk (blk_below (g := gb165) (o := .cells #[.string a3_0, .int .i64 a3_1, .int .i64 a3_2] 25 (0, 0)) (by (with_reducible repeat (first | refine blk_drewN ?_ _ | refine blk_drew ?_ | refine blk_alloc ?_ _)); exact BK165.out) hb); have n2_ := Aside0.mk (below_step (by repeat (first | (with_reducible first | exact HB.out | apply below_alloc | apply pw_below_drewN | apply below_drew1 | refine below_set ?_ GE165.out) | exact HB.out)) hb); clear HO186; clear BK165; clear HB; have HO186 := n0_; have BK165 := n1_; have HB := n2_; clear n0_ n1_ n2_; (try clear hb); (try clear hb2); (try clear hk); (try clear hi)) | ((with_reducible refine gate_callee (f := 12) rfl ?_); refine goesL_ (some 40) rfl rfl Try.func12 (by kernel_rfl) rfl #[.slice Ao133 t184.length co133] rfl (by (try simp only [List.map_toArray, List.map_cons, List.map_nil]); first | done | rfl | (simp only [List.length_drop, List.length_take]; rfl)) ?_; (with_reducible refine (customsref04_Table.calls k _ _ t184 t196 _ ?side1 ?side2 A117.out).mono ?_); (case side1 => repeat (first | exact (Kd.R_reads' HO186.out).2.2 | (with_reducible refine Kd.C_alloc ?_ _) | (with_reducible refine Kd.C_drewN ?_ _) | (with_reducible refine Kd.C_drew ?_))); (case side2 => exact (Kd.R_reads' HO186.out).2.1); rintro e w136 ⟨rfl, hb⟩; refine ⟨_, rfl, ?_⟩; have n0_ := Aside0.mk (Kd.R_below (by (with_reducible repeat (first | apply Kd.R_alloc | apply Kd.R_drewN | apply Kd.R_drew)); exact HO186.out) hb); have n1_ := Aside0.mk (blk_below (g := gb165) (o := .cells #[.string a3_0, .int .i64 a3_1, .int .i64 a3_2] 25 (0, 0)) (by (with_reducible repeat (first | refine blk_drewN ?_ _ | refine blk_drew ?_ | refine blk_alloc ?_ _)); exact BK165.out) hb); have n2_ := Aside0.mk (below_step (by repeat (first | (with_reducible first | exact HB.out | apply below_alloc | apply pw_below_drewN | apply below_drew1 | refine below_set ?_ GE165.out) | exact HB.out)) hb); clear HO186; clear BK165; clear HB; have HO186 := n0_; have BK165 := n1_; have HB := n2_; clear n0_ n1_ n2_; (try clear hb); (try clear hb2); (try clear hk); (try clear hi)))
            go_ret
            exact ⟨by first | rfl | (simp [errW_none, errW_some] <;> rfl) | (simp [*, errW_none, errW_some] <;> rfl) | (simp (disch := first | assumption | omega) only [Int.tdiv_eq_ediv_of_nonneg, Int.tmod_eq_emod_of_nonneg]; rfl), by repeat (first | (with_reducible first | exact HB.out | apply below_alloc | apply pw_below_drewN | apply below_drew1 | refine below_set ?_ GE165.out) | exact HB.out)⟩
      · rw [if_neg c85] at H
        have c85b0 : (t189 == 0) = false := beq_eq_false_iff_ne.mpr c85
        have c85b1 : (t189 != 0) = true := bne_iff_ne.mpr c85
        obtain rfl := Option.some.inj H
        go_enter Try.func3, Try.ntmps3
        go_wp2_with (first | ((with_reducible refine gate_dst (N := 7) rfl ?_); refine box_event ?hg (N := 7) ?hd (cs := #[.string a3_0, .int .i64 a3_1, .int .i64 a3_2]) (t := 25) ?hr ?_; (case hd => rfl); (case hg => rfl); (case hr => first | (go_simp; done) | (go_simp; rfl)); intro gb165 hg w137 hbox hb; have n0_ := Aside0.mk (below_step (by repeat (first | (with_reducible first | exact HB.out | apply below_alloc | apply pw_below_drewN | apply below_drew1) | exact HB.out)) hb); have n1_ := Aside0.mk (hbox); have n2_ := Aside0.mk ((by rw [hg]; exact (below_size (by repeat (first | (with_reducible first | exact HB.out | apply below_alloc | apply pw_below_drewN | apply below_drew1) | exact HB.out))) : w.heap.size ≤ gb165)); have n3_ := Aside0.mk ((by rw [hg]; exact (below_size (by repeat (first | (with_reducible first | exact HB.out | apply below_alloc | apply pw_below_drewN | apply below_drew1) | exact HB.out))) : w.heap.size ≤ gb165)); clear HB; have HB := n0_; have BK165 := n1_; have GW165 := n2_; have GE165 := n3_; clear n0_ n1_ n2_ n3_; clear hb hbox hg) | ((with_reducible refine gate_callee (f := 10) rfl ?_); refine goesL_ (some 16) rfl rfl Try.func10 (by kernel_rfl) rfl #[.slice A1 l1.length c1] rfl (by (try simp only [List.map_toArray, List.map_cons, List.map_nil]); first | done | rfl | (simp only [List.length_drop, List.length_take]; rfl)) ?_; (with_reducible refine (customsmade_Table.calls _ _ l1 t184 _ ?side1 ?side2 A80.out).mono ?_); (case side1 => repeat (first | exact (Kd.C_below HR1.out HB.out) | (with_reducible refine Kd.C_alloc ?_ _) | (with_reducible refine Kd.C_drewN ?_ _) | (with_reducible refine Kd.C_drew ?_))); (case side2 => exact HC1.out); rintro e w138 ⟨v185, rfl, ho0, hb⟩; refine ⟨_, rfl, ?_⟩; have n0_ := Aside0.mk (Kd.R_lower (Kd.R_newB ho0 (g := gb165) (o := .cells #[.string a3_0, .int .i64 a3_1, .int .i64 a3_2] 25 (0, 0)) (by (with_reducible repeat (first | refine blk_drewN ?_ _ | refine blk_drew ?_ | refine blk_alloc ?_ _)); exact BK165.out)) (below_size (by repeat (first | (with_reducible first | exact HB.out | apply below_alloc | apply pw_below_drewN | apply below_drew1 | refine below_set ?_ GE165.out) | exact HB.out)))); have n1_ := Aside0.mk (blk_below (g := gb165) (o := .cells #[.string a3_0, .int .i64 a3_1, .int .i64 a3_2] 25 (0, 0)) (by (with_reducible repeat (first | refine blk_drewN ?_ _ | refine blk_drew ?_ | refine blk_alloc ?_ _)); exact BK165.out) hb); have n2_ := Aside0.mk (below_step (by repeat (first | (with_reducible first | exact HB.out | apply below_alloc | apply pw_below_drewN | apply below_drew1 | refine below_set ?_ GE165.out) | exact HB.out)) hb); clear BK165; clear HB; have HO186 := n0_; have BK165 := n1_; have HB := n2_; clear n0_ n1_ n2_; (try clear hb); (try clear hb2); (try clear hk); (try clear hi); (try clear ho0)) | ((with_reducible refine gate_callee (f := 11) rfl ?_); refine goesL_ (some 18) rfl rfl Try.func11 (by kernel_rfl) rfl #[.slice A0 l0.length c0] rfl (by (try simp only [List.map_toArray, List.map_cons, List.map_nil]); first | done | rfl | (simp only [List.length_drop, List.length_take]; rfl)) ?_; (with_reducible refine (currency_Validate.calls k _ _ l0 t187 _ ?side1 ?side2 A81.out).mono ?_); (case side1 => repeat (first | exact (Kd.C_below HR0.out HB.out) | (with_reducible refine Kd.C_alloc ?_ _) | (with_reducible refine Kd.C_drewN ?_ _) | (with_reducible refine Kd.C_drew ?_))); (case side2 => exact HC0.out); rintro e w139 ⟨rfl, hb⟩; refine ⟨_, rfl, ?_⟩; have n0_ := Aside0.mk (Kd.R_below (by (with_reducible repeat (first | apply Kd.R_alloc | apply Kd.R_drewN | apply Kd.R_drew)); exact HO186.out) hb); have n1_ := Aside0.mk (blk_below (g := gb165) (o := .cells #[.string a3_0, .int .i64 a3_1, .int .i64 a3_2] 25 (0, 0)) (by (with_reducible repeat (first | refine blk_drewN ?_ _ | refine blk_drew ?_ | refine blk_alloc ?_ _)); exact BK165.out) hb); have n2_ := Aside0.mk (below_step (by repeat (first | (with_reducible first | exact HB.out | apply below_alloc | apply pw_below_drewN | apply below_drew1 | refine below_set ?_ GE165.out) | exact HB.out)) hb); clear HO186; clear BK165; clear HB; have HO186 := n0_; have BK165 := n1_; have HB := n2_; clear n0_ n1_ n2_; (try clear hb); (try clear hb2); (try clear hk); (try clear hi)) | ((with_reducible refine gate_callee (f := 12) rfl ?_); refine goesL_ (some 20) rfl rfl Try.func12 (by kernel_rfl) rfl #[.slice A0 l0.length c0] rfl (by (try simp only [List.map_toArray, List.map_cons, List.map_nil]); first | done | rfl | (simp only [List.length_drop, List.length_take]; rfl)) ?_; (with_reducible refine (customsref04_Table.calls k _ _ l0 t188 _ ?side1 ?side2 A82.out).mono ?_); (case side1 => repeat (first | exact (Kd.C_below HR0.out HB.out) | (with_reducible refine Kd.C_alloc ?_ _) | (with_reducible refine Kd.C_drewN ?_ _) | (with_reducible refine Kd.C_drew ?_))); (case side2 => exact HC0.out); rintro e w140 ⟨rfl, hb⟩; refine ⟨_, rfl, ?_⟩; have n0_ := Aside0.mk (Kd.R_below (by (with_reducible repeat (first | apply Kd.R_alloc | apply Kd.R_drewN | apply Kd.R_drew)); exact HO186.out) hb); have n1_ := Aside0.mk (blk_below (g := gb165) (o := .cells #[.string a3_0, .int .i64 a3_1, .int .i64 a3_2] 25 (0, 0)) (by (with_reducible repeat (first | refine blk_drewN ?_ _ | refine blk_drew ?_ | refine blk_alloc ?_ _)); exact BK165.out) hb); have n2_ := Aside0.mk (below_step (by repeat (first | (with_reducible first | exact HB.out | apply below_alloc | apply pw_below_drewN | apply below_drew1 | refine below_set ?_ GE165.out) | exact HB.out)) hb); clear HO186; clear BK165; clear HB; have HO186 := n0_; have BK165 := n1_; have HB := n2_; clear n0_ n1_ n2_; (try clear hb); (try clear hb2); (try clear hk); (try clear hi); obtain ⟨Ao141, co141, eo141⟩ := Kd.R_slice HO186.out; subst eo141) | (go_at_call 11; (with_reducible refine (currency_Validate.calls k _ _ t184 t189 _ ?side1 ?side2 A84.out).mono ?_); (case side1 => repeat (first | exact (Kd.R_reads' HO186.out).2.2 | (with_reducible refine Kd.C_alloc ?_ _) | (with_reducible refine Kd.C_drewN ?_ _) | (with_reducible refine Kd.C_drew ?_))); (case side2 => exact (Kd.R_reads' HO186.out).2.1); rintro e w142 ⟨rfl, hb⟩; have n0_ := Aside0.mk (Kd.R_below (by (with_reducible repeat (first | apply Kd.R_alloc | apply Kd.R_drewN | apply Kd.R_drew)); exact HO186.out) hb); have n1_ := Aside0.mk (blk_below (g := gb165) (o := .cells #[.string a3_0, .int .i64 a3_1, .int .i64 a3_2] 25 (0, 0)) (by (with_reducible repeat (first | refine blk_drewN ?_ _ | refine blk_drew ?_ | refine blk_alloc ?_ _)); exact BK165.out) hb); have n2_ := Aside0.mk (below_step (by repeat (first | (with_reducible first | exact HB.out | apply below_alloc | apply pw_below_drewN | apply below_drew1 | refine below_set ?_ GE165.out) | exact HB.out)) hb); clear HO186; clear BK165; clear HB; have HO186 := n0_; have BK165 := n1_; have HB := n2_; clear n0_ n1_ n2_; (try clear hb); (try clear hb2); (try clear hk); (try clear hi)))
        go_ret
        exact ⟨by first | rfl | (simp [errW_none, errW_some] <;> rfl) | (simp [*, errW_none, errW_some] <;> rfl) | (simp (disch := first | assumption | omega) only [Int.tdiv_eq_ediv_of_nonneg, Int.tmod_eq_emod_of_nonneg]; rfl), by repeat (first | (with_reducible first | exact HB.out | apply below_alloc | apply pw_below_drewN | apply below_drew1 | refine below_set ?_ GE165.out) | exact HB.out)⟩
    · rw [if_neg c83] at H
      have c83b0 : (t187 == t188) = false := beq_eq_false_iff_ne.mpr c83
      have c83b1 : (t187 != t188) = true := bne_iff_ne.mpr c83
      obtain rfl := Option.some.inj H
      go_enter Try.func3, Try.ntmps3
      go_wp2_with (first | ((with_reducible refine gate_dst (N := 7) rfl ?_); refine box_event ?hg (N := 7) ?hd (cs := #[.string a3_0, .int .i64 a3_1, .int .i64 a3_2]) (t := 25) ?hr ?_; (case hd => rfl); (case hg => rfl); (case hr => first | (go_simp; done) | (go_simp; rfl)); intro gb165 hg w143 hbox hb; have n0_ := Aside0.mk (below_step (by repeat (first | (with_reducible first | exact HB.out | apply below_alloc | apply pw_below_drewN | apply below_drew1) | exact HB.out)) hb); have n1_ := Aside0.mk (hbox); have n2_ := Aside0.mk ((by rw [hg]; exact (below_size (by repeat (first | (with_reducible first | exact HB.out | apply below_alloc | apply pw_below_drewN | apply below_drew1) | exact HB.out))) : w.heap.size ≤ gb165)); have n3_ := Aside0.mk ((by rw [hg]; exact (below_size (by repeat (first | (with_reducible first | exact HB.out | apply below_alloc | apply pw_below_drewN | apply below_drew1) | exact HB.out))) : w.heap.size ≤ gb165)); clear HB; have HB := n0_; have BK165 := n1_; have GW165 := n2_; have GE165 := n3_; clear n0_ n1_ n2_ n3_; clear hb hbox hg) | ((with_reducible refine gate_callee (f := 10) rfl ?_); refine goesL_ (some 16) rfl rfl Try.func10 (by kernel_rfl) rfl #[.slice A1 l1.length c1] rfl (by (try simp only [List.map_toArray, List.map_cons, List.map_nil]); first | done | rfl | (simp only [List.length_drop, List.length_take]; rfl)) ?_; (with_reducible refine (customsmade_Table.calls _ _ l1 t184 _ ?side1 ?side2 A80.out).mono ?_); (case side1 => repeat (first | exact (Kd.C_below HR1.out HB.out) | (with_reducible refine Kd.C_alloc ?_ _) | (with_reducible refine Kd.C_drewN ?_ _) | (with_reducible refine Kd.C_drew ?_))); (case side2 => exact HC1.out); rintro e w144 ⟨v185, rfl, ho0, hb⟩; refine ⟨_, rfl, ?_⟩; have n0_ := Aside0.mk (Kd.R_lower (Kd.R_newB ho0 (g := gb165) (o := .cells #[.string a3_0, .int .i64 a3_1, .int .i64 a3_2] 25 (0, 0)) (by (with_reducible repeat (first | refine blk_drewN ?_ _ | refine blk_drew ?_ | refine blk_alloc ?_ _)); exact BK165.out)) (below_size (by repeat (first | (with_reducible first | exact HB.out | apply below_alloc | apply pw_below_drewN | apply below_drew1 | refine below_set ?_ GE165.out) | exact HB.out)))); have n1_ := Aside0.mk (blk_below (g := gb165) (o := .cells #[.string a3_0, .int .i64 a3_1, .int .i64 a3_2] 25 (0, 0)) (by (with_reducible repeat (first | refine blk_drewN ?_ _ | refine blk_drew ?_ | refine blk_alloc ?_ _)); exact BK165.out) hb); have n2_ := Aside0.mk (below_step (by repeat (first | (with_reducible first | exact HB.out | apply below_alloc | apply pw_below_drewN | apply below_drew1 | refine below_set ?_ GE165.out) | exact HB.out)) hb); clear BK165; clear HB; have HO186 := n0_; have BK165 := n1_; have HB := n2_; clear n0_ n1_ n2_; (try clear hb); (try clear hb2); (try clear hk); (try clear hi); (try clear ho0)) | ((with_reducible refine gate_callee (f := 11) rfl ?_); refine goesL_ (some 18) rfl rfl Try.func11 (by kernel_rfl) rfl #[.slice A0 l0.length c0] rfl (by (try simp only [List.map_toArray, List.map_cons, List.map_nil]); first | done | rfl | (simp only [List.length_drop, List.length_take]; rfl)) ?_; (with_reducible refine (currency_Validate.calls k _ _ l0 t187 _ ?side1 ?side2 A81.out).mono ?_); (case side1 => repeat (first | exact (Kd.C_below HR0.out HB.out) | (with_reducible refine Kd.C_alloc ?_ _) | (with_reducible refine Kd.C_drewN ?_ _) | (with_reducible refine Kd.C_drew ?_))); (case side2 => exact HC0.out); rintro e w145 ⟨rfl, hb⟩; refine ⟨_, rfl, ?_⟩; have n0_ := Aside0.mk (Kd.R_below (by (with_reducible repeat (first | apply Kd.R_alloc | apply Kd.R_drewN | apply Kd.R_drew)); exact HO186.out) hb); have n1_ := Aside0.mk (blk_below (g := gb165) (o := .cells #[.string a3_0, .int .i64 a3_1, .int .i64 a3_2] 25 (0, 0)) (by (with_reducible repeat (first | refine blk_drewN ?_ _ | refine blk_drew ?_ | refine blk_alloc ?_ _)); exact BK165.out) hb); have n2_ := Aside0.mk (below_step (by repeat (first | (with_reducible first | exact HB.out | apply below_alloc | apply pw_below_drewN | apply below_drew1 | refine below_set ?_ GE165.out) | exact HB.out)) hb); clear HO186; clear BK165; clear HB; have HO186 := n0_; have BK165 := n1_; have HB := n2_; clear n0_ n1_ n2_; (try clear hb); (try clear hb2); (try clear hk); (try clear hi)) | ((with_reducible refine gate_callee (f := 12) rfl ?_); refine goesL_ (some 20) rfl rfl Try.func12 (by kernel_rfl) rfl #[.slice A0 l0.length c0] rfl (by (try simp only [List.map_toArray, List.map_cons, List.map_nil]); first | done | rfl | (simp only [List.length_drop, List.length_take]; rfl)) ?_; (with_reducible refine (customsref04_Table.calls k _ _ l0 t188 _ ?side1 ?side2 A82.out).mono ?_); (case side1 => repeat (first | exact (Kd.C_below HR0.out HB.out) | (with_reducible refine Kd.C_alloc ?_ _) | (with_reducible refine Kd.C_drewN ?_ _) | (with_reducible refine Kd.C_drew ?_))); (case side2 => exact HC0.out); rintro e w146 ⟨rfl, hb⟩; refine ⟨_, rfl, ?_⟩; have n0_ := Aside0.mk (Kd.R_below (by (with_reducible repeat (first | apply Kd.R_alloc | apply Kd.R_drewN | apply Kd.R_drew)); exact HO186.out) hb); have n1_ := Aside0.mk (blk_below (g := gb165) (o := .cells #[.string a3_0, .int .i64 a3_1, .int .i64 a3_2] 25 (0, 0)) (by (with_reducible repeat (first | refine blk_drewN ?_ _ | refine blk_drew ?_ | refine blk_alloc ?_ _)); exact BK165.out) hb); have n2_ := Aside0.mk (below_step (by repeat (first | (with_reducible first | exact HB.out | apply below_alloc | apply pw_below_drewN | apply below_drew1 | refine below_set ?_ GE165.out) | exact HB.out)) hb); clear HO186; clear BK165; clear HB; have HO186 := n0_; have BK165 := n1_; have HB := n2_; clear n0_ n1_ n2_; (try clear hb); (try clear hb2); (try clear hk); (try clear hi)))
      go_ret
      exact ⟨by first | rfl | (simp [errW_none, errW_some] <;> rfl) | (simp [*, errW_none, errW_some] <;> rfl) | (simp (disch := first | assumption | omega) only [Int.tdiv_eq_ediv_of_nonneg, Int.tmod_eq_emod_of_nonneg]; rfl), by repeat (first | (with_reducible first | exact HB.out | apply below_alloc | apply pw_below_drewN | apply below_drew1 | refine below_set ?_ GE165.out) | exact HB.out)⟩

end Go.Proofs.Ytpmdlhncfggjkaa.PX
end
section
namespace Go.Proofs.Ytpmdlhncfggjkaa.PX
open Go.RowKit Go.Proofs.YtpmdlhncfggjkaaW.PrintWords Go.Proofs.YtpmdlhncfggjkaaW.PrintLast Go.Proofs.YtpmdlhncfggjkaaW.PrintMore
set_option linter.unusedVariables false
set_option linter.unusedSimpArgs false

theorem Ev.up {α : Type} {g : Nat → Option α} {r : α} (h : Ev (fun k => g (k + 1)) r) : Ev g r := Ev.step (fun _ => rfl) h
theorem Ev.cst {α : Type} {x : Option α} {r : α} (h : x = some r) : Ev (fun _ => x) r := ⟨0, fun _ _ => h⟩
theorem Ev.as {α : Type} {g : Nat → Option α} {r s : α} (h : Ev g r) (e : r = s) : Ev g s := e ▸ h
def U64 (x : Int) : Prop := 0 ≤ x ∧ x < 18446744073709551616
def I64 (x : Int) : Prop := -9223372036854775808 ≤ x ∧ x < 9223372036854775808
theorem i64_of_wf {a : Int} (h : (Lit.int .i64 a).wf = true) : I64 a := by
  simp [Lit.wf, IntKind.min, IntKind.max, IntKind.bits, IntKind.signed] at h; unfold I64; omega
theorem w64_in {x : Int} (h0 : 0 ≤ x) (h1 : x < 18446744073709551616) : IntKind.u64.wrap x = x := by
  rw [IntKind.wrap_u64]; omega
theorem wrap64_of {x : Int} (h0 : -9223372036854775808 ≤ x) (h1 : x < 9223372036854775808) : wrap64 x = x := by
  unfold wrap64; omega
theorem and32 {x : Int} (h0 : 0 ≤ x) (h1 : x < 18446744073709551616) : Go.bits .and .u64 x 4294967295 = x % 4294967296 := by
  have := bits_mask .u64 64 (by decide) (fun n a b => w64_in a (by simpa using b)) 32 (by decide) x h0 (by simpa using h1)
  simpa using this
theorem or_join {x y : Int} (s : Nat) (hx0 : 0 ≤ x) (hx : x % 2 ^ s = 0) (hx1 : x < 18446744073709551616) (hy0 : 0 ≤ y) (hy : y < 2 ^ s) (hy1 : y < 18446744073709551616) : Go.bits .or .u64 x y = x + y :=
  bits_join .u64 64 (by decide) (fun n a b => w64_in a (by simpa using b)) s x y hx0 hx (by simpa using hx1) hy0 hy (by simpa using hy1)

/- the number of bits -/
def lenTab : ByteArray := ⟨#[0, 1, 2, 2, 3, 3, 3, 3, 4, 4, 4, 4, 4, 4, 4, 4, 5, 5, 5, 5, 5, 5, 5, 5, 5, 5, 5, 5, 5, 5, 5, 5, 6, 6, 6, 6, 6, 6, 6, 6, 6, 6, 6, 6, 6, 6, 6, 6, 6, 6, 6, 6, 6, 6, 6, 6, 6, 6, 6, 6, 6, 6, 6, 6, 7, 7, 7, 7, 7, 7, 7, 7, 7, 7, 7, 7, 7, 7, 7, 7, 7, 7, 7, 7, 7, 7, 7, 7, 7, 7, 7, 7, 7, 7, 7, 7, 7, 7, 7, 7, 7, 7, 7, 7, 7, 7, 7, 7, 7, 7, 7, 7, 7, 7, 7, 7, 7, 7, 7, 7, 7, 7, 7, 7, 7, 7, 7, 7, 8, 8, 8, 8, 8, 8, 8, 8, 8, 8, 8, 8, 8, 8, 8, 8, 8, 8, 8, 8, 8, 8, 8, 8, 8, 8, 8, 8, 8, 8, 8, 8, 8, 8, 8, 8, 8, 8, 8, 8, 8, 8, 8, 8, 8, 8, 8, 8, 8, 8, 8, 8, 8, 8, 8, 8, 8, 8, 8, 8, 8, 8, 8, 8, 8, 8, 8, 8, 8, 8, 8, 8, 8, 8, 8, 8, 8, 8, 8, 8, 8, 8, 8, 8, 8, 8, 8, 8, 8, 8, 8, 8, 8, 8, 8, 8, 8, 8, 8, 8, 8, 8, 8, 8, 8, 8, 8, 8, 8, 8, 8, 8, 8, 8, 8, 8, 8, 8, 8, 8, 8, 8, 8, 8, 8, 8, 8, 8]⟩
def lenOk (x : Int) (n : Nat) : Bool := decide (n ≤ 8) && decide (x < 2 ^ n) && (decide (x = 0) || decide ((2 : Int) ^ n ≤ 2 * x))
theorem lenTab_all : (List.range 256).all (fun i => lenOk (i : Int) (bt lenTab i).toNat && decide (0 ≤ bt lenTab i)) = true := by decide +kernel
theorem lenTab_at (y : Int) (h0 : 0 ≤ y) (h1 : y < 256) : ∃ n : Nat, bt lenTab y = n ∧ lenOk y n = true := by
  obtain ⟨i, rfl⟩ := Int.eq_ofNat_of_zero_le h0
  have h := List.all_eq_true.mp lenTab_all i (List.mem_range.mpr (by omega))
  simp only [Bool.and_eq_true, decide_eq_true_eq] at h
  exact ⟨(bt lenTab i).toNat, by omega, h.1⟩
def bitsOf (x : Int) (n : Nat) : Prop := n ≤ 64 ∧ x < 2 ^ n ∧ (x = 0 ∨ (2 : Int) ^ n ≤ 2 * x)
theorem len_scaled {x y : Int} (s m : Nat) (c : Int) (hc : c = 2 ^ m) (hs : s + m ≤ 64) (hx : 0 ≤ x) (hy : x / c = y) (hy0 : 1 ≤ y) {n : Nat} (h : bitsOf y n) (hn : n + m ≤ 64) : bitsOf x (n + m) := by
  obtain ⟨h1, h2, h3⟩ := h
  have hcp : 0 < c := by rw [hc]; exact Int.pow_pos (by decide)
  refine ⟨hn, ?_, .inr ?_⟩
  · rw [Int.pow_add, ← hc]
    have : x < (y + 1) * c := by rw [← hy]; exact Int.lt_ediv_add_one_mul_self _ hcp
    have : (y + 1) * c ≤ 2 ^ n * c := Int.mul_le_mul_of_nonneg_right (by omega) (by omega)
    omega
  · rw [Int.pow_add, ← hc]
    have h4 : (2 : Int) ^ n ≤ 2 * y := by rcases h3 with h | h <;> omega
    have : (2 : Int) ^ n * c ≤ 2 * y * c := Int.mul_le_mul_of_nonneg_right h4 (by omega)
    have : y * c ≤ x := by rw [← hy]; exact Int.ediv_mul_le _ (by omega)
    rw [Int.mul_assoc] at *
    omega
theorem lenOk_bits {y : Int} {n : Nat} (h : lenOk y n = true) : n ≤ 8 ∧ bitsOf y n := by
  unfold lenOk at h
  simp only [Bool.and_eq_true, Bool.or_eq_true, decide_eq_true_eq] at h
  exact ⟨h.1.1, by omega, h.1.2, h.2⟩
set_option maxRecDepth 100000 in
theorem j0_eq (k : Nat) (x0 x2 : Int) : bits_Len64.j0 (k + 1) x0 x2 = if x0 ≥ 65536 then (if (x0 / 65536) ≥ 256 then (if 0 ≤ (((x0 / 65536) / 256) % 256) then (if (((x0 / 65536) / 256) % 256) < 256 then (some (wrap64 ((wrap64 ((wrap64 (x2 + 16)) + 8)) + (wrap64 (bt lenTab (((x0 / 65536) / 256) % 256)))))) else (none)) else (none)) else (if 0 ≤ ((x0 / 65536) % 256) then (if ((x0 / 65536) % 256) < 256 then (some (wrap64 ((wrap64 (x2 + 16)) + (wrap64 (bt lenTab ((x0 / 65536) % 256)))))) else (none)) else (none))) else (if x0 ≥ 256 then (if 0 ≤ ((x0 / 256) % 256) then (if ((x0 / 256) % 256) < 256 then (some (wrap64 ((wrap64 (x2 + 8)) + (wrap64 (bt lenTab ((x0 / 256) % 256)))))) else (none)) else (none)) else (if 0 ≤ ((x0) % 256) then (if ((x0) % 256) < 256 then (some (wrap64 (x2 + (wrap64 (bt lenTab ((x0) % 256)))))) else (none)) else (none))) := rfl
theorem len_j0 (y z : Int) (h0 : 0 ≤ y) (h1 : y < 4294967296) (hz0 : 0 ≤ z) (hz : z ≤ 1000) :
    ∃ n : Nat, n ≤ 32 ∧ bitsOf y n ∧ ∀ k, bits_Len64.j0 (k + 1) y z = some (z + n) := by
  by_cases c1 : y ≥ 65536
  · by_cases c2 : y / 65536 ≥ 256
    · obtain ⟨n, hn, ho⟩ := lenTab_at ((y / 65536) / 256 % 256) (by omega) (by omega)
      obtain ⟨h8, hb⟩ := lenOk_bits ho
      refine ⟨n + 24, by omega, len_scaled 24 24 16777216 (by decide) (by omega) h0 (y := y / 65536 / 256 % 256) (by omega) (by omega) hb (by omega), fun k => ?_⟩
      rw [j0_eq, if_pos c1, if_pos c2, if_pos (by omega), if_pos (by omega), hn]
      exact congrArg some (by unfold wrap64; omega)
    · obtain ⟨n, hn, ho⟩ := lenTab_at ((y / 65536) % 256) (by omega) (by omega)
      obtain ⟨h8, hb⟩ := lenOk_bits ho
      refine ⟨n + 16, by omega, len_scaled 16 16 65536 (by decide) (by omega) h0 (y := y / 65536 % 256) (by omega) (by omega) hb (by omega), fun k => ?_⟩
      rw [j0_eq, if_pos c1, if_neg c2, if_pos (by omega), if_pos (by omega), hn]
      exact congrArg some (by unfold wrap64; omega)
  · by_cases c2 : y ≥ 256
    · obtain ⟨n, hn, ho⟩ := lenTab_at ((y / 256) % 256) (by omega) (by omega)
      obtain ⟨h8, hb⟩ := lenOk_bits ho
      refine ⟨n + 8, by omega, len_scaled 8 8 256 (by decide) (by omega) h0 (y := y / 256 % 256) (by omega) (by omega) hb (by omega), fun k => ?_⟩
      rw [j0_eq, if_neg c1, if_pos c2, if_pos (by omega), if_pos (by omega), hn]
      exact congrArg some (by unfold wrap64; omega)
    · obtain ⟨n, hn, ho⟩ := lenTab_at (y % 256) (by omega) (by omega)
      obtain ⟨h8, hb⟩ := lenOk_bits ho
      have e : y % 256 = y := by omega
      rw [e] at hb
      refine ⟨n, by omega, hb, fun k => ?_⟩
      rw [j0_eq, if_neg c1, if_neg c2, if_pos (by omega), if_pos (by omega), hn]
      exact congrArg some (by unfold wrap64; omega)
theorem len64 (x : Int) (h : U64 x) : ∃ n : Nat, bitsOf x n ∧ ∀ k, bits_Len64.f (k + 1) x = some (n : Int) := by
  obtain ⟨h0, h1⟩ := h
  by_cases c : x ≥ 4294967296
  · obtain ⟨n, hn, hb, hf⟩ := len_j0 (x / 4294967296) 32 (by omega) (by omega) (by omega) (by omega)
    refine ⟨n + 32, len_scaled 32 32 4294967296 (by decide) (by omega) h0 rfl (by omega) hb (by omega), fun k => ?_⟩
    unfold bits_Len64.f
    rw [if_pos c, hf k]; congr 1; omega
  · obtain ⟨n, hn, hb, hf⟩ := len_j0 x 0 h0 (by omega) (by omega) (by omega)
    refine ⟨n, hb, fun k => ?_⟩
    unfold bits_Len64.f
    rw [if_neg c, hf k]; congr 1; omega
/- how far to shift y so that its highest bit is set -/
theorem lead64 (y : Int) (h0 : 0 < y) (h1 : y < 18446744073709551616) : ∃ s : Nat, s ≤ 63 ∧ 9223372036854775808 ≤ y * 2 ^ s ∧ y * 2 ^ s < 18446744073709551616 ∧ ∀ k, bits_LeadingZeros64.f (k + 1) y = some (s : Int) := by
  obtain ⟨n, ⟨hn, hlt, hge⟩, hf⟩ := len64 y ⟨by omega, h1⟩
  have hn0 : n ≠ 0 := by rintro rfl; simp at hlt; omega
  have hge' : (2 : Int) ^ n ≤ 2 * y := by rcases hge with h | h <;> omega
  have e : (2 : Int) ^ n * 2 ^ (64 - n) = 18446744073709551616 := by rw [← Int.pow_add, show n + (64 - n) = 64 from by omega]; decide
  have hp : 0 < (2 : Int) ^ (64 - n) := Int.pow_pos (by decide)
  refine ⟨64 - n, by omega, ?_, ?_, fun k => ?_⟩
  · have := Int.mul_le_mul_of_nonneg_right hge' (show 0 ≤ (2 : Int) ^ (64 - n) by omega)
    rw [Int.mul_assoc] at this; omega
  · have := Int.mul_lt_mul_of_pos_right hlt hp
    omega
  · unfold bits_LeadingZeros64.f
    rw [hf k]; simp only [Option.bind_some]; rw [wrap64_of (by omega) (by omega)]; congr 1; omega
end Go.Proofs.Ytpmdlhncfggjkaa.PX
end
section
namespace Go.Proofs.Ytpmdlhncfggjkaa.PX
open Go.RowKit Go.Proofs.YtpmdlhncfggjkaaW.PrintWords Go.Proofs.YtpmdlhncfggjkaaW.PrintLast Go.Proofs.YtpmdlhncfggjkaaW.PrintMore
set_option linter.unusedVariables false
set_option linter.unusedSimpArgs false

/- one digit of the quotient -/
def KIn (y1 y0 u e q r : Int) : Prop := q * y1 + r = u ∧ 0 ≤ r ∧ r < 4294967296 ∧ (u * 4294967296 + e) / (y1 * 4294967296 + y0) ≤ q ∧ q ≤ 4294967297
structure KFix (y1 y0 u e : Int) : Prop where
  y1l : 2147483648 ≤ y1
  y1h : y1 < 4294967296
  y0l : 0 ≤ y0
  y0h : y0 < 4294967296
  ul : 0 ≤ u
  uh : u < y1 * 4294967296 + y0
  el : 0 ≤ e
  eh : e < 4294967296
theorem k_split (q y1 y0 : Int) : q * (y1 * 4294967296 + y0) = q * y1 * 4294967296 + q * y0 := by
  rw [Int.mul_add, Int.mul_assoc]
theorem k_stop {y1 y0 u e q r : Int} (F : KFix y1 y0 u e) (h : KIn y1 y0 u e q r) (ht : q * y0 ≤ 4294967296 * r + e) : q = (u * 4294967296 + e) / (y1 * 4294967296 + y0) := by
  obtain ⟨h1, h2, h3, h4, h5⟩ := h
  have : q * (y1 * 4294967296 + y0) ≤ u * 4294967296 + e := by rw [k_split]; omega
  have := Int.le_ediv_of_mul_le (by have := F.y1l; have := F.y0l; omega) this
  omega
theorem k_go {y1 y0 u e q r : Int} (F : KFix y1 y0 u e) (h : KIn y1 y0 u e q r) (ht : 4294967296 ≤ q ∨ 4294967296 * r + e < q * y0) : (u * 4294967296 + e) / (y1 * 4294967296 + y0) ≤ q - 1 := by
  obtain ⟨h1, h2, h3, h4, h5⟩ := h
  have hY : 0 < y1 * 4294967296 + y0 := by have := F.y1l; have := F.y0l; omega
  rcases ht with ht | ht
  · have : u * 4294967296 + e < 4294967296 * (y1 * 4294967296 + y0) := by have := F.uh; have := F.eh; omega
    have := Int.ediv_lt_of_lt_mul hY this
    omega
  · have : u * 4294967296 + e < q * (y1 * 4294967296 + y0) := by rw [k_split]; omega
    have := Int.ediv_lt_of_lt_mul hY this
    omega
theorem k_break {y1 y0 u e q r : Int} (F : KFix y1 y0 u e) (h : KIn y1 y0 u e q r) (hq : (u * 4294967296 + e) / (y1 * 4294967296 + y0) ≤ q - 1) (hr : 4294967296 ≤ r + y1) : q - 1 = (u * 4294967296 + e) / (y1 * 4294967296 + y0) := by
  obtain ⟨h1, h2, h3, h4, h5⟩ := h
  have hY : 0 < y1 * 4294967296 + y0 := by have := F.y1l; have := F.y0l; omega
  have e1 : (q - 1) * y1 = q * y1 - y1 := by rw [Int.sub_mul, Int.one_mul]
  have e2 : (q - 1) * y0 ≤ 4294967296 * 4294967295 := by
    by_cases hn : 0 ≤ q - 1
    · exact Int.mul_le_mul (by omega) (by have := F.y0h; omega) F.y0l (by omega)
    · have : (q - 1) * y0 ≤ 0 := Int.mul_nonpos_of_nonpos_of_nonneg (by omega) F.y0l
      omega
  have : (q - 1) * (y1 * 4294967296 + y0) ≤ u * 4294967296 + e := by rw [k_split, e1]; have := F.el; omega
  have := Int.le_ediv_of_mul_le hY this
  omega
theorem k_next {y1 y0 u e q r : Int} (F : KFix y1 y0 u e) (h : KIn y1 y0 u e q r) (hq : (u * 4294967296 + e) / (y1 * 4294967296 + y0) ≤ q - 1) (hr : r + y1 < 4294967296) : KIn y1 y0 u e (q - 1) (r + y1) := by
  obtain ⟨h1, h2, h3, h4, h5⟩ := h
  have e1 : (q - 1) * y1 = q * y1 - y1 := by rw [Int.sub_mul, Int.one_mul]
  exact ⟨by rw [e1]; omega, by have := F.y1l; omega, hr, hq, by omega⟩
theorem k_pos {y1 y0 u e : Int} (F : KFix y1 y0 u e) : 0 ≤ (u * 4294967296 + e) / (y1 * 4294967296 + y0) :=
  Int.ediv_nonneg (by have := F.ul; have := F.el; omega) (by have := F.y1l; have := F.y0l; omega)
theorem k_lt {y1 y0 u e : Int} (F : KFix y1 y0 u e) : (u * 4294967296 + e) / (y1 * 4294967296 + y0) < 4294967296 :=
  Int.ediv_lt_of_lt_mul (by have := F.y1l; have := F.y0l; omega) (by have := F.uh; have := F.eh; omega)
/- the guess to begin with -/
theorem k_first {y1 y0 u e : Int} (F : KFix y1 y0 u e) : KIn y1 y0 u e (u / y1) (u % y1) := by
  have hy := F.y1l
  have h0 := Int.emod_nonneg u (show y1 ≠ 0 by omega)
  have h1 := Int.emod_lt_of_pos u (show 0 < y1 by omega)
  have h2 := Int.ediv_mul_add_emod u y1
  refine ⟨h2, h0, by have := F.y1h; omega, ?_, ?_⟩
  · have hY : 0 < y1 * 4294967296 + y0 := by have := F.y0l; omega
    refine Int.lt_add_one_iff.mp (Int.ediv_lt_of_lt_mul hY ?_)
    have e1 : (u / y1 + 1) * (y1 * 4294967296 + y0) = (u / y1 * y1 + y1) * 4294967296 + (u / y1 + 1) * y0 := by
      rw [k_split, Int.add_mul (u / y1) 1 y1, Int.one_mul]
    have : 0 ≤ (u / y1 + 1) * y0 := Int.mul_nonneg (by have := Int.ediv_nonneg F.ul (show 0 ≤ y1 by omega); omega) F.y0l
    rw [e1]; have := F.eh; omega
  · refine Int.lt_add_one_iff.mp (Int.ediv_lt_of_lt_mul (by omega) ?_)
    have := F.uh; have := F.y0h
    omega
/- what the two tests of the loop ask -/
def kTest (y0 e q r : Int) : Bool := if q ≥ 4294967296 then true else decide ((IntKind.u64.wrap (q * y0)) > (IntKind.u64.wrap ((IntKind.u64.wrap (4294967296 * r)) + e)))
theorem kTest_is {y1 y0 u e q r : Int} (F : KFix y1 y0 u e) (h : KIn y1 y0 u e q r) : kTest y0 e q r = decide (4294967296 ≤ q ∨ 4294967296 * r + e < q * y0) := by
  unfold kTest
  obtain ⟨h1, h2, h3, h4, h5⟩ := h
  have hp := k_pos F
  by_cases c : q ≥ 4294967296
  · rw [if_pos c]; simp; omega
  · rw [if_neg c]
    have m0 : 0 ≤ q * y0 := Int.mul_nonneg (by omega) F.y0l
    have m1 : q * y0 ≤ 4294967295 * 4294967295 := Int.mul_le_mul (by omega) (by have := F.y0h; omega) F.y0l (by omega)
    rw [w64_in m0 (by omega), w64_in (x := 4294967296 * r) (by omega) (by omega), w64_in (by have := F.el; omega) (by have := F.eh; omega)]
    simp only [decide_eq_decide]; omega
theorem div64_l0 {Y s y1 y0 u e un0 : Int} {res : Int × Int} (F : KFix y1 y0 u e)
    (H : Ev (fun k => bits_Div64.j2 k Y s y1 y0 u e un0 ((u * 4294967296 + e) / (y1 * 4294967296 + y0))) res) (n : Nat) :
    ∀ q r, KIn y1 y0 u e q r → q - (u * 4294967296 + e) / (y1 * 4294967296 + y0) = n → Ev (fun k => bits_Div64.l0 k Y s y1 y0 u e un0 q r) res := by
  induction n with
  | zero =>
    intro q r hi hn
    have hs : kTest y0 e q r = false := by
      rw [kTest_is F hi, decide_eq_false_iff_not]; intro hc; have := k_go F hi hc; omega
    refine Ev.step (f := fun k => bits_Div64.j1 k Y s y1 y0 u e un0 q r false) (fun k => ?_) (Ev.step (f := fun k => bits_Div64.j2 k Y s y1 y0 u e un0 q) (fun k => ?_) ?_)
    · rw [← hs]; simp only [bits_Div64.l0, kTest]; split <;> rfl
    · simp only [bits_Div64.j1]; rfl
    · rw [show q = (u * 4294967296 + e) / (y1 * 4294967296 + y0) by omega]; exact H
  | succ n ih =>
    intro q r hi hn
    obtain ⟨h1, h2, h3, h4, h5⟩ := id hi
    have hp := k_pos F
    have hg : 4294967296 ≤ q ∨ 4294967296 * r + e < q * y0 := by
      by_cases c : 4294967296 ≤ q ∨ 4294967296 * r + e < q * y0
      · exact c
      · have := k_stop F hi (by omega); omega
    have hs : kTest y0 e q r = true := by rw [kTest_is F hi, decide_eq_true hg]
    have hq := k_go F hi hg
    have w1 : IntKind.u64.wrap (q - 1) = q - 1 := w64_in (by omega) (by omega)
    have w2 : IntKind.u64.wrap (r + y1) = r + y1 := w64_in (by have := F.y1l; omega) (by have := F.y1h; omega)
    refine Ev.step (f := fun k => bits_Div64.j1 k Y s y1 y0 u e un0 q r true) (fun k => ?_) ?_
    · rw [← hs]; simp only [bits_Div64.l0, kTest]; split <;> rfl
    · by_cases c : r + y1 ≥ 4294967296
      · refine Ev.step (f := fun k => bits_Div64.j2 k Y s y1 y0 u e un0 (q - 1)) (fun k => ?_) ?_
        · simp only [bits_Div64.j1]; rw [w2, if_pos trivial, if_pos c, w1]
        · rw [k_break F hi hq c]; exact H
      · refine Ev.step (f := fun k => bits_Div64.l0 k Y s y1 y0 u e un0 (q - 1) (r + y1)) (fun k => ?_) ?_
        · simp only [bits_Div64.j1]; rw [w2, if_pos trivial, if_neg c, w1]
        · exact ih _ _ (k_next F hi hq (by omega)) (by omega)
theorem div64_l1 {Y s y1 y0 u e q1 : Int} (hs0 : 0 ≤ s) (F : KFix y1 y0 u e) (n : Nat) :
    ∀ q r, KIn y1 y0 u e q r → q - (u * 4294967296 + e) / (y1 * 4294967296 + y0) = n → Ev (fun k => bits_Div64.l1 k Y s y1 y0 e q1 r u q)
      (IntKind.u64.wrap ((IntKind.u64.wrap (q1 * 4294967296)) + ((u * 4294967296 + e) / (y1 * 4294967296 + y0))), shr .u64 (IntKind.u64.wrap ((IntKind.u64.wrap ((IntKind.u64.wrap (u * 4294967296)) + e)) - (IntKind.u64.wrap (((u * 4294967296 + e) / (y1 * 4294967296 + y0)) * Y)))) s) := by
  induction n with
  | zero =>
    intro q r hi hn
    have hs : kTest y0 e q r = false := by
      rw [kTest_is F hi, decide_eq_false_iff_not]; intro hc; have := k_go F hi hc; omega
    refine Ev.step (f := fun k => bits_Div64.j4 k Y s y1 y0 e q1 r u q false) (fun k => ?_) (Ev.step (fun k => ?_) (Ev.now _))
    · rw [← hs]; simp only [bits_Div64.l1, kTest]; split <;> rfl
    · rw [← show q = (u * 4294967296 + e) / (y1 * 4294967296 + y0) by omega]
      simp only [bits_Div64.j4]; rw [if_neg (by decide), if_pos hs0]
  | succ n ih =>
    intro q r hi hn
    obtain ⟨h1, h2, h3, h4, h5⟩ := id hi
    have hp := k_pos F
    have hg : 4294967296 ≤ q ∨ 4294967296 * r + e < q * y0 := by
      by_cases c : 4294967296 ≤ q ∨ 4294967296 * r + e < q * y0
      · exact c
      · have := k_stop F hi (by omega); omega
    have hs : kTest y0 e q r = true := by rw [kTest_is F hi, decide_eq_true hg]
    have hq := k_go F hi hg
    have w1 : IntKind.u64.wrap (q - 1) = q - 1 := w64_in (by omega) (by omega)
    have w2 : IntKind.u64.wrap (r + y1) = r + y1 := w64_in (by have := F.y1l; omega) (by have := F.y1h; omega)
    refine Ev.step (f := fun k => bits_Div64.j4 k Y s y1 y0 e q1 r u q true) (fun k => ?_) ?_
    · rw [← hs]; simp only [bits_Div64.l1, kTest]; split <;> rfl
    · by_cases c : r + y1 ≥ 4294967296
      · refine Ev.step (fun k => ?_) (Ev.now _)
        rw [← k_break F hi hq c]
        simp only [bits_Div64.j4]; rw [w2, if_pos trivial, if_pos c, if_pos hs0, w1]
      · refine Ev.step (f := fun k => bits_Div64.l1 k Y s y1 y0 e q1 (r + y1) u (q - 1)) (fun k => ?_) ?_
        · simp only [bits_Div64.j4]; rw [w2, if_pos trivial, if_neg c, w1]
        · exact ih _ _ (k_next F hi hq (by omega)) (by omega)
theorem div_scaled {T y p q r : Int} (hy : 0 < y) (hp : 0 < p) (h : T * p = q * (y * p) + r) (h0 : 0 ≤ r) (h1 : r < y * p) : T / y = q ∧ r / p = T % y := by
  have e : r = (T - q * y) * p := by rw [Int.sub_mul, Int.mul_assoc, h]; omega
  have g0 : 0 ≤ T - q * y := by
    by_cases c : 0 ≤ T - q * y
    · exact c
    · exfalso; have : (T - q * y) * p < 0 := Int.mul_neg_of_neg_of_pos (by omega) hp
      omega
  have g1 : T - q * y < y := by
    by_cases c : T - q * y < y
    · exact c
    · exfalso; have : y * p ≤ (T - q * y) * p := Int.mul_le_mul_of_nonneg_right (by omega) (by omega)
      omega
  have hr : r / p = T - q * y := by rw [e]; exact Int.mul_ediv_cancel _ (by omega)
  have hq : T / y = q := by
    have : T = (T - q * y) + y * q := by rw [Int.mul_comm y q]; omega
    rw [this, Int.add_mul_ediv_left _ _ (by omega), Int.ediv_eq_zero_of_lt g0 g1]; omega
  refine ⟨hq, ?_⟩
  rw [hr]
  have := Int.ediv_mul_add_emod T y
  rw [hq] at this; omega
theorem shr_is (x s : Int) (S : Nat) (hs : s = S) (hS : S ≤ 64) : shr .u64 x s = x / 2 ^ S := by
  subst hs; unfold shr; rw [Int.toNat_natCast, Nat.min_eq_left (by simpa [IntKind.bits] using hS)]
theorem shl_is (x s : Int) (S : Nat) (hs : s = S) (hS : S ≤ 64) : shl .u64 x s = IntKind.u64.wrap (x * 2 ^ S) := by
  subst hs; unfold shl; rw [Int.toNat_natCast, Nat.min_eq_left (by simpa [IntKind.bits] using hS)]
theorem div64_ev (hi lo y : Int) (hy0 : 0 < y) (hy1 : y < 18446744073709551616) (hi0 : 0 ≤ hi) (hi1 : hi < y) (hl : U64 lo) :
    Ev (fun k => bits_Div64.f k hi lo y) ((hi * 18446744073709551616 + lo) / y, (hi * 18446744073709551616 + lo) % y) := by
  obtain ⟨hl0, hl1⟩ := hl
  by_cases hz : hi = 0
  · subst hz
    refine Ev.congr (fun k => ?_) (Ev.now _)
    unfold bits_Div64.f
    rw [if_neg (by omega), if_neg (by omega), if_pos rfl, Int.tdiv_eq_ediv_of_nonneg hl0, Int.tmod_eq_emod_of_nonneg hl0, Int.zero_mul, Int.zero_add]
    rw [w64_in (Int.ediv_nonneg hl0 (by omega)) (by have := Int.ediv_le_self y hl0; omega)]
  · obtain ⟨s, hs, hA, hB, hlz⟩ := lead64 y hy0 hy1
    have hp : 0 < (2 : Int) ^ s := Int.pow_pos (by decide)
    have hP : 0 < (2 : Int) ^ (64 - s) := Int.pow_pos (by decide)
    have hpP : (2 : Int) ^ s * 2 ^ (64 - s) = 18446744073709551616 := by rw [← Int.pow_add, show s + (64 - s) = 64 from by omega]; decide
    have e1 : shl .u64 y (s : Int) = y * 2 ^ s := by rw [shl_is _ _ s rfl (by omega), w64_in (by omega) hB]
    have hiY : hi * 2 ^ s + 2 ^ s ≤ y * 2 ^ s := by
      have : (hi + 1) * 2 ^ s ≤ y * 2 ^ s := Int.mul_le_mul_of_nonneg_right (by omega) (by omega)
      rw [Int.add_mul, Int.one_mul] at this; exact this
    have hi0' : 0 ≤ hi * 2 ^ s := Int.mul_nonneg hi0 (by omega)
    have e2 : shl .u64 hi (s : Int) = hi * 2 ^ s := by rw [shl_is _ _ s rfl (by omega), w64_in hi0' (by omega)]
    have e3 : IntKind.u64.wrap (s : Int) = s := w64_in (by omega) (by omega)
    have e4 : IntKind.u64.wrap (64 - (s : Int)) = ((64 - s : Nat) : Int) := by rw [w64_in (by omega) (by omega)]; omega
    have e5 : shr .u64 lo ((64 - s : Nat) : Int) = lo / 2 ^ (64 - s) := shr_is _ _ _ rfl (by omega)
    have hlo : lo / 2 ^ (64 - s) < 2 ^ s := Int.ediv_lt_of_lt_mul hP (by omega)
    have hlo0 : 0 ≤ lo / 2 ^ (64 - s) := Int.ediv_nonneg hl0 (by omega)
    have e6 : Go.bits .or .u64 (hi * 2 ^ s) (lo / 2 ^ (64 - s)) = hi * 2 ^ s + lo / 2 ^ (64 - s) :=
      or_join s hi0' (Int.mul_emod_left _ _) (by omega) hlo0 hlo (by omega)
    have e7 : shl .u64 lo (s : Int) = (lo * 2 ^ s) % 18446744073709551616 := by rw [shl_is _ _ s rfl (by omega), IntKind.wrap_u64]
    have e8 : lo * 2 ^ s = lo / 2 ^ (64 - s) * 18446744073709551616 + (lo * 2 ^ s) % 18446744073709551616 := by
      have a1 := Int.ediv_mul_add_emod (lo * 2 ^ s) 18446744073709551616
      have a2 : lo * 2 ^ s / 18446744073709551616 = lo / 2 ^ (64 - s) := by
        rw [← hpP, Int.mul_comm lo, Int.mul_ediv_mul_of_pos _ _ hp]
      rw [a2] at a1; omega
    generalize hYe : y * 2 ^ s = Y at *
    generalize hue : hi * 2 ^ s + lo / 2 ^ (64 - s) = u at *
    generalize hve : (lo * 2 ^ s) % 18446744073709551616 = v at *
    have hv0 : 0 ≤ v := by omega
    have hv1 : v < 18446744073709551616 := by omega
    have hT : (hi * 18446744073709551616 + lo) * 2 ^ s = u * 18446744073709551616 + v := by
      rw [Int.add_mul, Int.mul_right_comm, e8, ← hue]; omega
    have hYs : Y / 4294967296 * 4294967296 + Y % 4294967296 = Y := by omega
    have F1 : KFix (Y / 4294967296) (Y % 4294967296) u (v / 4294967296) := ⟨by omega, by omega, by omega, by omega, by omega, by omega, by omega, by omega⟩
    have p1 := k_pos F1
    have l1 := k_lt F1
    have g1 := k_first F1
    rw [hYs] at p1 l1
    have m1 := Int.ediv_mul_add_emod (u * 4294967296 + v / 4294967296) Y
    have m2 := Int.emod_nonneg (u * 4294967296 + v / 4294967296) (show Y ≠ 0 by omega)
    have m3 := Int.emod_lt_of_pos (u * 4294967296 + v / 4294967296) (show 0 < Y by omega)
    generalize hQ1 : (u * 4294967296 + v / 4294967296) / Y = Q1 at *
    generalize hR1 : (u * 4294967296 + v / 4294967296) % Y = R1 at *
    have F0 : KFix (Y / 4294967296) (Y % 4294967296) R1 (v % 4294967296) := ⟨by omega, by omega, by omega, by omega, by omega, by omega, by omega, by omega⟩
    have p0 := k_pos F0
    have l0 := k_lt F0
    have g0 := k_first F0
    rw [hYs] at p0 l0
    have n1 := Int.ediv_mul_add_emod (R1 * 4294967296 + v % 4294967296) Y
    have n2 := Int.emod_nonneg (R1 * 4294967296 + v % 4294967296) (show Y ≠ 0 by omega)
    have n3 := Int.emod_lt_of_pos (R1 * 4294967296 + v % 4294967296) (show 0 < Y by omega)
    have hw0 := div64_l1 (Y := Y) (s := (s : Int)) (q1 := Q1) (by omega) F0 (R1 / (Y / 4294967296) - (R1 * 4294967296 + v % 4294967296) / (Y / 4294967296 * 4294967296 + Y % 4294967296)).toNat (R1 / (Y / 4294967296)) (R1 % (Y / 4294967296)) g0 (by have := g0.2.2.2.1; omega)
    rw [hYs] at hw0
    generalize hQ0 : (R1 * 4294967296 + v % 4294967296) / Y = Q0 at *
    generalize hR0 : (R1 * 4294967296 + v % 4294967296) % Y = R0 at *
    have hfin := div_scaled (T := hi * 18446744073709551616 + lo) (y := y) (p := 2 ^ s) (q := Q1 * 4294967296 + Q0) (r := R0) hy0 hp
      (by rw [hT, hYe, Int.add_mul, Int.mul_right_comm]; omega) n2 (by rw [hYe]; exact n3)
    have r1 : IntKind.u64.wrap ((IntKind.u64.wrap (Q1 * 4294967296)) + Q0) = (hi * 18446744073709551616 + lo) / y := by
      rw [w64_in (x := Q1 * 4294967296) (by omega) (by omega), w64_in (by omega) (by omega), hfin.1]
    have r2 : shr .u64 (IntKind.u64.wrap ((IntKind.u64.wrap ((IntKind.u64.wrap (R1 * 4294967296)) + v % 4294967296)) - (IntKind.u64.wrap (Q0 * Y)))) (s : Int) = (hi * 18446744073709551616 + lo) % y := by
      rw [shr_is _ _ s rfl (by omega), ← hfin.2]
      congr 1
      simp only [IntKind.wrap_u64]; omega
    rw [r1, r2] at hw0
    have hj2 : Ev (fun k => bits_Div64.j2 k Y (s : Int) (Y / 4294967296) (Y % 4294967296) u (v / 4294967296) (v % 4294967296) Q1) ((hi * 18446744073709551616 + lo) / y, (hi * 18446744073709551616 + lo) % y) := by
      refine Ev.step (fun k => ?_) hw0
      have a1 : IntKind.u64.wrap ((IntKind.u64.wrap ((IntKind.u64.wrap (u * 4294967296)) + v / 4294967296)) - (IntKind.u64.wrap (Q1 * Y))) = R1 := by
        simp only [IntKind.wrap_u64]; omega
      have a2 : IntKind.u64.wrap (Int.tdiv R1 (Y / 4294967296)) = R1 / (Y / 4294967296) := by
        rw [Int.tdiv_eq_ediv_of_nonneg m2]
        have := g0.2.2.2.2
        exact w64_in (Int.ediv_nonneg m2 (by omega)) (by omega)
      have a3 : IntKind.u64.wrap (R1 - (IntKind.u64.wrap (R1 / (Y / 4294967296) * (Y / 4294967296)))) = R1 % (Y / 4294967296) := by
        have b1 := g0.1; have b2 := g0.2.1; have b3 := g0.2.2.1
        simp only [IntKind.wrap_u64]; omega
      simp only [bits_Div64.j2]
      rw [if_neg (by omega), a1, a2, a3]
    have hj0 := div64_l0 (Y := Y) (s := (s : Int)) (un0 := v % 4294967296) F1 (by rw [hYs, hQ1]; exact hj2) (u / (Y / 4294967296) - (u * 4294967296 + v / 4294967296) / (Y / 4294967296 * 4294967296 + Y % 4294967296)).toNat (u / (Y / 4294967296)) (u % (Y / 4294967296)) g1 (by have := g1.2.2.2.1; omega)
    obtain ⟨K, hK⟩ := hj0
    refine ⟨K + 1, fun k hk => ?_⟩
    obtain ⟨m, rfl⟩ : ∃ m, k = m + 1 := ⟨k - 1, by omega⟩
    have hK' := hK (m + 1) (by omega)
    simp only at hK'
    show bits_Div64.f (m + 1) hi lo y = _
    unfold bits_Div64.f
    rw [if_neg (by omega), if_neg (by omega), if_neg hz, hlz m]
    simp only [Option.bind_some]
    have c1 : IntKind.u64.wrap (Int.tdiv u (Y / 4294967296)) = u / (Y / 4294967296) := by
      rw [Int.tdiv_eq_ediv_of_nonneg F1.ul]
      have := g1.2.2.2.2
      exact w64_in (Int.ediv_nonneg F1.ul (by omega)) (by omega)
    have c2 : IntKind.u64.wrap (u - (IntKind.u64.wrap (u / (Y / 4294967296) * (Y / 4294967296)))) = u % (Y / 4294967296) := by
      have b1 := g1.1; have b2 := g1.2.1; have b3 := g1.2.2.1
      simp only [IntKind.wrap_u64]; omega
    rw [e3, e4, e1, e2, e5, e6, e7, if_pos (by omega), if_pos (by omega), if_neg (by omega), and32 (by omega) (by omega), and32 (by omega) (by omega), c1, c2, hK']
end Go.Proofs.Ytpmdlhncfggjkaa.PX
end
